/- ref14: ReadBlock -/
import Derived.Test.YtobpjldpkgioaaaSeg5
set_option linter.unusedVariables false
set_option linter.unusedSimpArgs false
namespace Go.Proofs.Ytobpjldpkgioaaa
open Go.RowKit

def zeroB : B14 := ⟨0, 0, 0, 0, 0, 0, []⟩
def numsB (k : UInt8) (l : List Nat) : B14 := ⟨k, (l.getD 0 0 : Nat), (l.getD 1 0 : Nat), (l.getD 2 0 : Nat), (l.getD 3 0 : Nat), (l.getD 4 0 : Nat), []⟩
def rb14 : P14 → B14 × Nat
  | .err n => (zeroB, n)
  | .data b => (⟨68, 0, 0, 0, 0, 0, b⟩, 0)
  | .nums k l => (numsB k l, 0)

def RbPost (w : World) (x : B14 × Nat) (e : Ending) (w' : World) : Prop := e = .returned (.tuple #[.agg (blkC x.1), .int .i64 x.2]) ∧ Below w.heap.size w w'

abbrev zeroC : Array Value := #[.int .u8 0, .int .i64 0, .int .i64 0, .int .i64 0, .int .i64 0, .int .i64 0, .string ⟨#[]⟩]
theorem zero_rb {w w' : World} {n : Nat} (hb : Below w.heap.size w w') : RbPost w (zeroB, n) (.returned (.tuple #[.agg zeroC, .int .i64 n])) w' := ⟨rfl, hb⟩

theorem opened_take {y body : List UInt8} (h : opened y = some body) : body = y.take (y.length - 4) := by
  unfold opened at h
  split at h
  · simp at h
  · split at h
    · exact (Option.some.inj h).symm
    · simp at h

theorem open14' {o : Option (List UInt8)} (w : World) (ao : Option Addr) (cap : Nat) (y : List UInt8) (hv : isB w (.slice ao y.length cap) y) (hl : y.length ≤ 100000000) (ho : opened y = o) :
    Calls Try.prog 83 #[.slice ao y.length cap] w (Open14 w ao cap o) := ho ▸ open14_spec w ao cap y hv hl

set_option maxHeartbeats 4000000 in
set_option maxRecDepth 100000 in
theorem rb_none (w : World) (v : Value) (y : List UInt8) (hv : isB w v y) (hl : y.length ≤ 100000) (h : opened y = none) :
    Calls Try.prog 36 #[v] w (RbPost w (zeroB, 4)) := by
  obtain ⟨ao, cap, rfl, -, -⟩ := hv.shape (n := y.length) rfl
  have HV := Lib.hid hv
  have Ho := Lib.hid h
  clear hv h
  go_enter Try.func36, Try.ntmps36
  go_wp2_with (go_at_call 83; refine (open14' (o := none) _ ao cap y (HV.out.alloc _) (by omega) Ho.out).mono ?_; rintro e w1 ⟨hb1, rfl⟩; have HS := below_keeps hb1 (heap_alloc_new w (.cells zeroC 74)); obtain ⟨s0, s1, s2, s3, s4, s5, s6⟩ := cells7 HS; have f3 := unfrozen HS; have hs1 := hb1.size; simp only [size_alloc] at hs1)
  refine bodyPost_ret (v := .tuple #[.agg _, .int .i64 _]) (by rw [results_cell_tmp rfl]; go_simp; exact ⟨rfl, rfl⟩) rfl ?_
  refine zero_rb ?_
  iterate 7 (refine Below.setCell ?_ (by first | exact Nat.le_refl _ | (dsimp only; omega)) _)
  exact (below_alloc w _).trans (hb1.mono (by simp))

set_option maxHeartbeats 4000000 in
set_option maxRecDepth 100000 in
theorem rb_nil (w : World) (v : Value) (y : List UInt8) (hv : isB w v y) (hl : y.length ≤ 100000) (h : opened y = some []) :
    Calls Try.prog 36 #[v] w (RbPost w (zeroB, 3)) := by
  obtain ⟨ao, cap, rfl, -, -⟩ := hv.shape (n := y.length) rfl
  have HV := Lib.hid hv
  have Ho := Lib.hid h
  clear hv h
  go_enter Try.func36, Try.ntmps36
  go_wp2_with (go_at_call 83; refine (open14' (o := some []) _ ao cap y (HV.out.alloc _) (by omega) Ho.out).mono ?_; rintro e w1 ⟨hb1, rfl⟩; have HS := below_keeps hb1 (heap_alloc_new w (.cells zeroC 74)); obtain ⟨s0, s1, s2, s3, s4, s5, s6⟩ := cells7 HS; have f3 := unfrozen HS; have hs1 := hb1.size; simp only [size_alloc] at hs1)
  refine bodyPost_ret (v := .tuple #[.agg _, .int .i64 _]) (by rw [results_cell_tmp rfl]; go_simp; exact ⟨rfl, rfl⟩) rfl ?_
  refine zero_rb ?_
  iterate 7 (refine Below.setCell ?_ (by first | exact Nat.le_refl _ | (dsimp only; omega)) _)
  exact (below_alloc w _).trans (hb1.mono (by simp))

/-- the block that is read: its kind, numbers, and zeroes -/
def row7 (k : UInt8) (l : List Nat) (s : Value) : Array Value := ((.int .u8 k.toNat :: five l) ++ [s]).toArray
theorem row7_set {k : UInt8} {l : List Nat} {s : Value} {i n : Nat} (hl : l.length = i) (hi : i < 5) : (row7 k l s).setIfInBounds (1 + i) (.int .i64 (n : Int)) = row7 k (l ++ [n]) s := by
  unfold row7
  rw [List.setIfInBounds_toArray, List.cons_append, Nat.add_comm, List.set_cons_succ, List.set_append_left _ _ (by simp [five]; exact hi), five_set hl hi]; rfl
theorem row7_get {w : World} {g : Nat} {k : UInt8} {l : List Nat} {s : Value} {T : TypeId} (h : w.heap[g]? = some (.cells (row7 k l s) T (0, 0))) {i : Nat} (hi : i < 5) : w.cell? ⟨g, 1 + i, none⟩ = some (.int .i64 ((l.getD i 0 : Nat) : Int)) := by
  rw [cell_of_row _ _ _ _ _ _ h, row7, List.getElem?_toArray, List.cons_append, Nat.add_comm, List.getElem?_cons_succ, List.getElem?_append_left (by simp [five]; exact hi)]
  exact five_get hi
end Go.Proofs.Ytobpjldpkgioaaa
