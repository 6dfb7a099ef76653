/- segment: Read -/
import Derived.Test.YtobpjldpkgioaaaSeg1
set_option linter.unusedVariables false
set_option linter.unusedSimpArgs false
namespace Go.Proofs.Ytobpjldpkgioaaa
open Go.RowKit

/-- i numbers one after the other: they, what is left, what is wrong -/
def rst (bs : List UInt8) : Nat → List Nat × List UInt8 × Nat
  | 0 => ([], bs, 0)
  | i + 1 => ((rst bs i).1 ++ [(rnum 1073741824 (rst bs i).2.1 (rst bs i).2.2).1], (rnum 1073741824 (rst bs i).2.1 (rst bs i).2.2).2.1, (rnum 1073741824 (rst bs i).2.1 (rst bs i).2.2).2.2)

theorem rst_len (bs : List UInt8) : ∀ i, (rst bs i).1.length = i
  | 0 => rfl
  | i + 1 => by simp [rst, rst_len bs i]
theorem rst_le (bs : List UInt8) : ∀ i, ∀ n ∈ (rst bs i).1, n ≤ 1073741824
  | 0 => by simp [rst]
  | i + 1 => by
    intro n hn
    simp only [rst, List.mem_append, List.mem_singleton] at hn
    rcases hn with hn | rfl
    · exact rst_le bs i n hn
    · exact rnum_lt _ _ _

/-- what a tape's block is: an error, numbers, or bytes -/
inductive P14 where
  | err (n : Nat)
  | nums (k : UInt8) (l : List Nat)
  | data (b : List UInt8)

def p14 (bs : List UInt8) : P14 :=
  match opened bs with
  | none => .err 4
  | some [] => .err 3
  | some (k :: r) => if k = 68 then (if 1 ≤ r.length ∧ r.length ≤ 160 then .data r else .err 3) else
      if (k = 72 ∨ k = 84) ∧ rend (rst r 5).2.1 (rst r 5).2.2 = 0 then .nums k (rst r 5).1 else .err 3

/-- five cells: numbers, and zeroes behind them -/
def five (l : List Nat) : List Value := (List.range 5).map fun i => .int .i64 ((l.getD i 0 : Nat) : Int)
theorem five_set {l : List Nat} {i n : Nat} (hl : l.length = i) (hi : i < 5) : (five l).set i (.int .i64 (n : Int)) = five (l ++ [n]) := by
  unfold five
  refine List.ext_getElem (by simp) fun j h1 h2 => ?_
  simp only [List.getElem_set, List.getElem_map, List.getElem_range]
  by_cases h : i = j
  · subst h
    rw [if_pos rfl, List.getD_eq_getElem?_getD, List.getElem?_append_right (by omega), hl]; simp
  · rw [if_neg h, List.getD_eq_getElem?_getD, List.getD_eq_getElem?_getD]
    by_cases hlt : j < l.length
    · rw [List.getElem?_append_left hlt]
    · rw [List.getElem?_append_right (by omega), List.getElem?_eq_none (by omega), List.getElem?_eq_none (by simp; omega)]
theorem five_nil : five [] = [.int .i64 0, .int .i64 0, .int .i64 0, .int .i64 0, .int .i64 0] := rfl
theorem five_get {l : List Nat} {i : Nat} (hi : i < 5) : (five l)[i]? = some (.int .i64 ((l.getD i 0 : Nat) : Int)) := by
  unfold five; simp [hi]

def isBlk (w : World) (v : Value) (o : P14) : Prop :=
  match o with
  | .err _ => v = .nilIface
  | .data b => ∃ s, v = .iface 132 s ∧ isB w s b
  | .nums k l => if k = 72 then v = .iface 127 (.agg (five l).toArray) else if l.getD 4 0 ≤ 1 then v = .iface 129 (.agg #[.int .i64 (l.getD 0 0 : Nat), .int .i64 (l.getD 1 0 : Nat), .int .i64 (l.getD 2 0 : Nat), .int .i64 (l.getD 3 0 : Nat), .bool (decide (l.getD 4 0 = 1))]) else v = .nilIface

def errOf : P14 → Nat
  | .err n => n
  | .data _ => 0
  | .nums k l => if k = 72 then 0 else if l.getD 4 0 ≤ 1 then 0 else 3

def SegPost (w : World) (o : P14) (e : Ending) (w' : World) : Prop :=
  ∃ v, e = .returned (.tuple #[v, .int .i64 (errOf o)]) ∧ isBlk w' v o ∧ Below w.heap.size w w'

theorem seg_err {w w' : World} {n : Nat} (hb : Below w.heap.size w w') : SegPost w (.err n) (.returned (.tuple #[.nilIface, .int .i64 n])) w' := ⟨_, rfl, rfl, hb⟩

set_option maxHeartbeats 4000000 in
set_option maxRecDepth 100000 in
theorem sread_none (w : World) (v : Value) (bs : List UInt8) (hv : isB w v bs) (hl : bs.length ≤ 100000) (h : opened bs = none) :
    Calls Try.prog 35 #[v] w (SegPost w (.err 4)) := by
  obtain ⟨ao, cap, rfl, -, -⟩ := hv.shape (n := bs.length) rfl
  have HV := Lib.hid hv
  have Ho := Lib.hid h
  clear hv h
  go_enter Try.func35, Try.ntmps35
  go_wp2_with (go_at_call 80; refine (open_none _ _ bs HV.out (by omega) Ho.out).mono ?_; rintro e w1 ⟨rfl, hb1⟩)
  go_ret2
  exact seg_err hb1

set_option maxHeartbeats 4000000 in
set_option maxRecDepth 100000 in
theorem sread_nil (w : World) (v : Value) (bs : List UInt8) (hv : isB w v bs) (hl : bs.length ≤ 100000) (h : opened bs = some []) :
    Calls Try.prog 35 #[v] w (SegPost w (.err 3)) := by
  obtain ⟨ao, cap, rfl, -, -⟩ := hv.shape (n := bs.length) rfl
  have HV := Lib.hid hv
  have Ho := Lib.hid h
  clear hv h
  go_enter Try.func35, Try.ntmps35
  go_wp2_with (go_at_call 80; refine (open_some _ _ bs [] HV.out (by omega) Ho.out).mono ?_; rintro e w1 ⟨⟨rv, rfl, ho1⟩, hb1⟩; obtain ⟨ao1, cap1, rfl, -, -⟩ := ho1.isB.shape (n := 0) rfl)
  go_ret2
  exact seg_err hb1

set_option maxHeartbeats 4000000 in
set_option maxRecDepth 100000 in
theorem sread_data (w : World) (v : Value) (bs r : List UInt8) (hv : isB w v bs) (hl : bs.length ≤ 100000) (h : opened bs = some (68 :: r)) (h1 : 1 ≤ r.length) (h2 : r.length ≤ 160) :
    Calls Try.prog 35 #[v] w (SegPost w (.data r)) := by
  obtain ⟨ao, cap, rfl, -, -⟩ := hv.shape (n := bs.length) rfl
  have HV := Lib.hid hv
  have Ho := Lib.hid h
  have h1i : (1 : Int) < r.length + 1 := by omega
  have h2i : (r.length : Int) + 1 ≤ 161 := by omega
  clear hv h
  go_enter Try.func35, Try.ntmps35
  go_wp2_with (go_at_call 80; refine (open_some _ _ bs (68 :: r) HV.out (by omega) Ho.out).mono ?_; rintro e w1 ⟨⟨rv, rfl, ho1⟩, hb1⟩; have hob := ho1.isB; obtain ⟨ao1, cap1, rfl, hca, -⟩ := hob.shape (n := r.length + 1) rfl; obtain ⟨b, off, rfl, hk, hc2⟩ := hob.rest; have Hc2 := Lib.hid hc2; clear hc2 ho1 hob)
  all_goals go_ret2
  all_goals
    have hx := Hc2.out
    rw [if_neg (by omega)] at hx
    exact ⟨_, rfl, ⟨_, rfl, hx⟩, hb1⟩

theorem five_row {l : List Nat} (hl : l.length = 5) : ∃ n0 n1 n2 n3 n4, l = [n0, n1, n2, n3, n4] := by
  match l, hl with
  | [n0, n1, n2, n3, n4], _ => exact ⟨n0, n1, n2, n3, n4, rfl⟩

theorem cells5 {w : World} {b : Nat} {c0 c1 c2 c3 c4 : Value} {T : TypeId} (h : w.heap[b]? = some (.cells #[c0, c1, c2, c3, c4] T (0, 0))) :
    w.cell? ⟨b, 0, none⟩ = some c0 ∧ w.cell? ⟨b, 1, none⟩ = some c1 ∧ w.cell? ⟨b, 2, none⟩ = some c2 ∧ w.cell? ⟨b, 3, none⟩ = some c3 ∧ w.cell? ⟨b, 4, none⟩ = some c4 := by
  refine ⟨?_, ?_, ?_, ?_, ?_⟩ <;> simp [cell_of_row w b _ _ T _ h]
end Go.Proofs.Ytobpjldpkgioaaa
