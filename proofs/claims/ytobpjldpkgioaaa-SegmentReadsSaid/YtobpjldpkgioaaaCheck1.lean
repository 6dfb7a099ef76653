/- check: the table -/
import Derived.Test.YtobpjldpkgioaaaProg
import Derived.Test.YtobpjldpkgioaaaBase
namespace Go.Proofs.Ytobpjldpkgioaaa
open Go.RowKit

def cstep (n : Nat) : Nat := if n % 2 = 1 then (n / 2) ^^^ 3945912366 else n / 2
def cstepN : Nat → Nat → Nat
  | 0, n => n
  | k + 1, n => cstep (cstepN k n)
def tbl (i : Nat) : Nat := cstepN 4 i
def tblV (k : Nat) : Array Value := ((List.range 16).map fun i => Value.int .u32 (if i < k then tbl i else 0 : Nat)).toArray

theorem cstep_lt {n : Nat} (h : n < 4294967296) : cstep n < 4294967296 := by
  unfold cstep
  split
  · exact Nat.xor_lt_two_pow (n := 32) (by omega) (by decide)
  · omega

theorem cstepN_lt {n : Nat} (k : Nat) (h : n < 4294967296) : cstepN k n < 4294967296 := by
  induction k with
  | zero => exact h
  | succ k ih => exact cstep_lt ih

theorem tblV_get (k i : Nat) (hi : i < 16) : (tblV k)[i]? = some (Value.int .u32 (if i < k then tbl i else 0 : Nat)) := by simp [tblV, hi]

theorem tblV_set (k : Nat) (hk : k < 16) : (tblV k).setIfInBounds k (.int .u32 (tbl k : Nat)) = tblV (k + 1) := by
  apply Array.ext_getElem?
  intro i
  rw [Array.getElem?_setIfInBounds]
  by_cases h : k = i
  · subst h; simp [tblV, hk]
  · rw [if_neg h]
    by_cases hi : i < 16
    · rw [tblV_get _ _ hi, tblV_get _ _ hi]; congr 4; simp; omega
    · simp [tblV, hi]

theorem step_odd {n : Nat} (hn : n < 4294967296) (h : (bits BinOp.and IntKind.u32 (n : Int) 1 == 1) = true) : bits BinOp.xor IntKind.u32 ((n : Int) / 2) 3945912366 = (cstep n : Nat) := by
  have e := u32_and_nat n 1 hn (by decide)
  have e' := u32_xor_nat (n / 2) 3945912366 (by omega) (by decide)
  simp only [Int.natCast_ediv, Int.cast_ofNat_Int] at e e'
  rw [e, nat_mask1] at h
  have h2 : n % 2 = 1 := by have := eq_of_beq h; omega
  rw [e', cstep, if_pos h2]

theorem step_even {n : Nat} (hn : n < 4294967296) (h : (bits BinOp.and IntKind.u32 (n : Int) 1 == 1) = false) : (n : Int) / 2 = (cstep n : Nat) := by
  have e := u32_and_nat n 1 hn (by decide)
  simp only [Int.cast_ofNat_Int] at e
  rw [e, nat_mask1] at h
  have h2 : ¬ n % 2 = 1 := fun h3 => by rw [h3] at h; exact absurd h (by decide)
  rw [cstep, if_neg h2]; omega

set_option maxHeartbeats 400000 in
theorem table_spec (w : World) :
    Calls Try.prog 124 #[] w fun e w' => e = .returned (.agg (tblV 16)) ∧ Below w.heap.size w w' := by
  go_enter Try.func124, Try.ntmps124
  go_wp2
  go_loopw [5] (fun i wr => ∃ k : Nat, k ≤ 16 ∧ i = .int .i64 k ∧ wr.heap.size = w.heap.size + 2 ∧ wr.heap[w.heap.size]? = some (.cells (tblV 0) 203 (0, 0)) ∧ wr.heap[w.heap.size + 1]? = some (.cells (tblV k) 203 (0, 0)) ∧ Below w.heap.size w wr) (fun i _ => 16 - (intOf i).toNat)
  case atStart =>
    exact ⟨0, by omega, rfl, by simp, heap_alloc2_old _ _ _, heap_alloc2_new _ _ _, ((Below.refl _ _).alloc (Nat.le_refl _) _).alloc (by simp) _⟩
  case round =>
    obtain ⟨k, hk, rfl, hsz, H0, H1, hb⟩ := hrel
    have H0' := Lib.hid H0
    have H1' := Lib.hid H1
    have Hb' := Lib.hid hb
    have Hs := Lib.hid hsz
    have c1 : k < 16 → wr.cell? ⟨w.heap.size + 1, k, none⟩ = some (.int .u32 0) := fun h => by
      rw [cell_of_row _ _ _ _ _ _ H1, tblV_get _ _ h]; simp
    have f1 := unfrozen H1 k
    clear H0 H1 hb hsz
    by_cases hlt : k < 16
    · have c1 := c1 hlt
      go_wp2
      go_loop [3, 10] (fun n i => ∃ j : Nat, j ≤ 4 ∧ i = .int .i64 j ∧ n = .int .u32 (cstepN j k : Nat)) (fun _ i => 4 - (intOf i).toNat)
      case atStart => exact ⟨0, by omega, rfl, rfl⟩
      case round =>
        obtain ⟨j, hj, rfl, rfl⟩ := hrel
        have hc := cstepN_lt j (n := k) (by omega)
        by_cases hlt2 : j < 4
        · go_wp2
          · go_round
            case rel => exact ⟨j + 1, by omega, by go_num, by rw [step_odd hc (by assumption)]; rfl⟩
            case measure => simp [intOf]; omega
          · go_round
            case rel => exact ⟨j + 1, by omega, by go_num, by rw [step_even hc (by assumption)]; rfl⟩
            case measure => simp [intOf]; omega
        · obtain rfl : j = 4 := by omega
          go_wp2
          go_roundw
          case rel => 
            have H1 := H1'.out
            refine ⟨k + 1, by omega, by go_num, by rw [size_setCell]; exact Hs.out, ?_, ?_, Hb'.out.setCell (by simp) _⟩
            · rw [heap_setCell_other _ _ _ _ (by simp)]; exact H0'.out
            · rw [heap_setCell_same _ _ _ _ _ _ H1, ← tblV_set k hlt]; rfl
          case measure => simp [intOf]; omega
    · obtain rfl : k = 16 := by omega
      go_wp2_with (first | (refine wpList_load_row rfl 203 _ rfl _ rfl _ _ _ _ H1'.out Try.underlying203 rfl (by kernel_rfl) ?_) | (refine wpList_store_row rfl 203 _ _ rfl _ _ rfl rfl _ _ H0'.out (by kernel_rfl) rfl (by kernel_rfl) ?_))
      refine bodyPost_ret (results_cell_row rfl _ _ _ _ _ _ _ rfl (setRow_heap _ _ _ _ _ _ H0'.out) Try.underlying203 rfl (by kernel_rfl)) rfl ⟨rfl, ?_⟩
      exact below_setRow Hb'.out (Nat.le_refl _) _
end Go.Proofs.Ytobpjldpkgioaaa
