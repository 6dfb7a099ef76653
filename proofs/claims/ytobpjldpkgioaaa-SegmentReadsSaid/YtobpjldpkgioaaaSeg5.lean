/- ref14: RightBlock -/
import Derived.Test.YtobpjldpkgioaaaSeg4
import Derived.Test.YtobpjldpkgioaaaRef12g
import Derived.ChangeKeysEq
set_option linter.unusedVariables false
set_option linter.unusedSimpArgs false
namespace Go.Proofs.Ytobpjldpkgioaaa
open Go.RowKit

/-- a segment's block, as the reference has it -/
structure B14 where
  k : UInt8
  n0 : Int
  n1 : Int
  n2 : Int
  n3 : Int
  n4 : Int
  b : List UInt8
deriving DecidableEq

def blkC (x : B14) : Array Value := #[.int .u8 x.k.toNat, .int .i64 x.n0, .int .i64 x.n1, .int .i64 x.n2, .int .i64 x.n3, .int .i64 x.n4, .string (str x.b)]
def B14.n (x : B14) : Nat → Int
  | 0 => x.n0 | 1 => x.n1 | 2 => x.n2 | 3 => x.n3 | 4 => x.n4 | _ => 0
def okN (n : Int) : Prop := 0 ≤ n ∧ n ≤ 1073741824
def right14 (x : B14) : Prop :=
  (okN x.n0 ∧ okN x.n1 ∧ okN x.n2 ∧ okN x.n3 ∧ okN x.n4) ∧ (((x.k = 72 ∨ x.k = 84) ∧ x.b = []) ∨ (x.k = 68 ∧ (x.n0 = 0 ∧ x.n1 = 0 ∧ x.n2 = 0 ∧ x.n3 = 0 ∧ x.n4 = 0) ∧ 1 ≤ x.b.length ∧ x.b.length ≤ 160))

theorem okN_all {x : B14} (h : ∀ j, j < 5 → okN (x.n j)) : okN x.n0 ∧ okN x.n1 ∧ okN x.n2 ∧ okN x.n3 ∧ okN x.n4 := ⟨h 0 (by decide), h 1 (by decide), h 2 (by decide), h 3 (by decide), h 4 (by decide)⟩
theorem okN_any {x : B14} (h : okN x.n0 ∧ okN x.n1 ∧ okN x.n2 ∧ okN x.n3 ∧ okN x.n4) {i : Nat} (hi : i < 5) : okN (x.n i) := by
  match i, hi with
  | 0, _ => exact h.1
  | 1, _ => exact h.2.1
  | 2, _ => exact h.2.2.1
  | 3, _ => exact h.2.2.2.1
  | 4, _ => exact h.2.2.2.2
theorem blk_cell {w : World} {g : Nat} {x : B14} {T : TypeId} (h : w.heap[g]? = some (.cells (blkC x) T (0, 0))) {i : Nat} (hi : i < 5) : w.cell? ⟨g, 1 + i, none⟩ = some (.int .i64 (x.n i)) := by
  rw [cell_of_row _ _ _ _ _ _ h]
  match i, hi with
  | 0, _ => rfl
  | 1, _ => rfl
  | 2, _ => rfl
  | 3, _ => rfl
  | 4, _ => rfl
theorem cells7 {w : World} {b : Nat} {c0 c1 c2 c3 c4 c5 c6 : Value} {T : TypeId} (h : w.heap[b]? = some (.cells #[c0, c1, c2, c3, c4, c5, c6] T (0, 0))) :
    w.cell? ⟨b, 0, none⟩ = some c0 ∧ w.cell? ⟨b, 1, none⟩ = some c1 ∧ w.cell? ⟨b, 2, none⟩ = some c2 ∧ w.cell? ⟨b, 3, none⟩ = some c3 ∧ w.cell? ⟨b, 4, none⟩ = some c4 ∧ w.cell? ⟨b, 5, none⟩ = some c5 ∧ w.cell? ⟨b, 6, none⟩ = some c6 := by
  refine ⟨?_, ?_, ?_, ?_, ?_, ?_, ?_⟩ <;> simp [cell_of_row w b _ _ T _ h]

theorem info_of {P : Program} {t : TypeId} {z : Option Value} {s b : Nat} (h : (P.info? t).map (fun i => (i.zero, i.size, i.bytes)) = some (z, s, b)) : ∃ i, P.info? t = some i := by
  cases hi : P.info? t with
  | none => rw [hi] at h; simp at h
  | some i => exact ⟨i, rfl⟩
theorem Try.infoI64 : (Try.prog.info? 3).map (fun i => (i.zero, i.size, i.bytes)) = some (some (.int .i64 0), 1, 8) := by kernel_rfl
theorem Try.cellsI64 : Try.prog.cellsOf 3 = 1 := by kernel_rfl

set_option maxRecDepth 100000 in
theorem eq5 (w : World) (d : Nat) (a0 a1 a2 a3 a4 b0 b1 b2 b3 b4 : Int) :
    (Op.equalIn (d + 1 + 1) 72 (.agg #[.int .i64 a0, .int .i64 a1, .int .i64 a2, .int .i64 a3, .int .i64 a4]) (.agg #[.int .i64 b0, .int .i64 b1, .int .i64 b2, .int .i64 b3, .int .i64 b4])).run Try.prog w =
      .ok (a0 == b0 && (a1 == b1 && (a2 == b2 && (a3 == b3 && a4 == b4)))) w := by
  obtain ⟨i, hi⟩ := info_of Try.infoI64
  rw [run_equalIn_array w (d + 1) _ _ Try.underlying72 hi, Try.cellsI64]
  simp only [show List.range 5 = [0, 1, 2, 3, 4] from rfl, Op.eqItems]
  go_simp
  by_cases h0 : a0 = b0 <;> by_cases h1 : a1 = b1 <;> by_cases h2 : a2 = b2 <;> by_cases h3 : a3 = b3 <;> by_cases h4 : a4 = b4 <;> simp [*]

set_option maxHeartbeats 4000000 in
set_option maxRecDepth 100000 in
theorem rightb_spec (w : World) (x : B14) :
    Calls Try.prog 85 #[.agg (blkC x)] w fun e w' => IsB (right14 x) e ∧ Below w.heap.size w w' := by
  have hbx : (w.alloc (.cells (blkC x) 74)).heap[w.heap.size]? = _ := heap_alloc_new w _
  have hce := fun i (hi : i < 5) => blk_cell hbx hi
  have hB : Below w.heap.size w (w.alloc (.cells (blkC x) 74)) := below_alloc w _
  generalize hP : right14 x = P
  have HP := Bx.mk hP
  dsimp only [blkC] at *
  obtain ⟨c0, c1, c2, c3, c4, c5, c6⟩ := cells7 hbx
  clear hP hbx
  go_enter Try.func85, Try.ntmps85
  go_wp2
  generalize World.alloc w _ = W at *
  have HB := Lib.hid hB
  have Hce := Lib.hid hce
  clear hB hce
  go_loop [3] (fun vi => ∃ i : Nat, i ≤ 5 ∧ vi = .int .i64 i ∧ ∀ j, j < i → okN (x.n j)) (fun vi => 5 - (intOf vi).toNat)
  case atStart => exact ⟨0, by omega, rfl, fun j h => by omega⟩
  case round =>
    obtain ⟨i, hi, rfl, hok⟩ := hrel
    by_cases hin : i < 5
    · have hcc := Hce.out i hin
      obtain ⟨n, hn⟩ : ∃ n, x.n i = n := ⟨_, rfl⟩
      rw [hn] at hcc
      have Hn := Bx.mk hn
      have Hok := Bx.mk hok
      clear hn hok
      by_cases h0 : n < 0
      · go_wp2
        go_ret
        refine ⟨⟨_, rfl, ?_⟩, HB.out⟩
        rw [← HP.out]
        exact ⟨nofun, fun h => by have := (okN_any h.1 hin).1; rw [Hn.out] at this; omega⟩
      · by_cases h1 : 1073741824 < n
        · go_wp2
          go_ret
          refine ⟨⟨_, rfl, ?_⟩, HB.out⟩
          rw [← HP.out]
          exact ⟨nofun, fun h => by have := (okN_any h.1 hin).2; rw [Hn.out] at this; omega⟩
        · go_wp2
          go_round
          case rel => exact ⟨i + 1, by omega, by go_num, fun j hj => by
            by_cases h : j < i
            · exact Hok.out j h
            · obtain rfl : j = i := by omega
              rw [Hn.out]; exact ⟨by omega, by omega⟩⟩
          case measure => simp [intOf]; omega
    · obtain rfl : i = 5 := by omega
      have Hall := Bx.mk (okN_all hok)
      clear hok
      obtain ⟨k, n0, n1, n2, n3, n4, b⟩ := x
      dsimp only at *
      have hP : P ↔ (((k = 72 ∨ k = 84) ∧ b = []) ∨ (k = 68 ∧ (n0 = 0 ∧ n1 = 0 ∧ n2 = 0 ∧ n3 = 0 ∧ n4 = 0) ∧ 1 ≤ b.length ∧ b.length ≤ 160)) := by
        rw [← HP.out, right14]; dsimp only; exact ⟨fun h => h.2, fun h => ⟨Hall.out, h⟩⟩
      have HPP := Bx.mk hP
      clear hP HP
      by_cases h72 : k = 72
      · subst h72
        go_wp2
        all_goals go_ret
        all_goals
          refine ⟨⟨_, rfl, ?_⟩, HB.out⟩
          rw [HPP.out]
          simp only [str_toList] at *
          simp_all
      · have k72 : ((k.toNat : Int) == 72) = false := by simp; intro h; exact h72 (UInt8.toNat_inj.1 (by simpa using (by exact_mod_cast h : k.toNat = 72)))
        by_cases h84 : k = 84
        · subst h84
          go_wp2
          all_goals go_ret
          all_goals
            refine ⟨⟨_, rfl, ?_⟩, HB.out⟩
            rw [HPP.out]
            simp only [str_toList] at *
            simp_all
        · have k84 : ((k.toNat : Int) == 84) = false := by simp; intro h; exact h84 (UInt8.toNat_inj.1 (by simpa using (by exact_mod_cast h : k.toNat = 84)))
          by_cases h68 : k = 68
          · subst h68
            have hq5 := eq5
            go_wp2
            all_goals clear hq5
            all_goals go_ret
            all_goals
              refine ⟨⟨_, rfl, ?_⟩, HB.out⟩
              rw [HPP.out]
              (try simp only [size_str] at *)
              first
                | (simp_all; done)
                | (simp_all; omega)
          · have k68 : ((k.toNat : Int) == 68) = false := by simp; intro h; exact h68 (UInt8.toNat_inj.1 (by simpa using (by exact_mod_cast h : k.toNat = 68)))
            go_wp2
            all_goals go_ret
            all_goals
              refine ⟨⟨_, rfl, ?_⟩, HB.out⟩
              rw [HPP.out]
              simp_all
end Go.Proofs.Ytobpjldpkgioaaa
