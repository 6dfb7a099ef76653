/- ref02: Seal -/
import Derived.Test.YtobpjldpkgioaaaRef02
set_option linter.unusedVariables false
set_option linter.unusedSimpArgs false
namespace Go.Proofs.Ytobpjldpkgioaaa
open Go.RowKit

set_option maxHeartbeats 400000 in
theorem rseal_spec (w : World) (v : Value) (bs : List UInt8) (hv : isB w v bs) (hl : bs.length ≤ 1000000000) :
    Calls Try.prog 96 #[v] w fun e w' => (∃ r, e = .returned r ∧ ownB w' 5 w.heap.size r (sealed bs)) ∧ Below w.heap.size w w' := by
  have HV := Lib.hid hv
  obtain ⟨ao, cap, rfl, -, -⟩ := hv.shape rfl
  clear hv
  go_enter Try.func96, Try.ntmps96
  go_wp2_with (first | (go_at_call 105; refine (rof_spec _ _ bs HV.out).mono ?_; rintro e w1 ⟨rfl, rfl⟩) | (at_builtin; refine stop_in ?_))
  refine stop_out ?_; refine wpList_append_bytes (o := ⟨some 10, _, _, _, _, _⟩) rfl (.tmp 8) (.tmp 9) 40 rfl w.heap.size 5 Try.underlying40 Try.infoU8 _ _ rfl (ownB.lit (bs := []) (cs := []) (heap_alloc_new _ _) rfl (by simp) (Nat.le_refl _) rfl rfl) _ _ rfl (HV.out.alloc _) (by simp; omega) (by simp) ?_
  intro v1 w2 ho1 hc1
  have hb2 : Below w.heap.size w w2 := (below_alloc w _).trans (hc1.below (by simp) (fun k hk => hk.1))
  clear hc1
  rw [List.nil_append] at ho1
  go_wp2
  go_loopw [3, 4, 5] (fun n b i wr => ∃ k : Nat, k ≤ 4 ∧ i = .int .i64 k ∧ n = .int .u32 (crc bs / 256 ^ k : Nat) ∧ ownB wr 5 w.heap.size b (bs ++ leb k (crc bs)) ∧ Below w.heap.size w wr) (fun _ _ i _ => 4 - (intOf i).toNat)
  case atStart => exact ⟨0, by omega, rfl, by simp, by simpa [leb] using ho1, hb2⟩
  case round =>
    obtain ⟨k, hk, rfl, rfl, hown, hb⟩ := hrel
    have Hown := Lib.hid hown
    have Hb3 := Lib.hid hb
    have hsz := hb.size
    clear hown hb
    have hcrc := crc_lt bs
    have hdv : crc bs / 256 ^ k < 4294967296 := Nat.lt_of_le_of_lt (Nat.div_le_self _ _) hcrc
    by_cases hlt : k < 4
    · generalize hN : crc bs / 256 ^ k = n at hdv ⊢
      have HN := Lib.hid hN
      clear hN
      go_wp2_with (at_builtin; refine stop_in ?_)
      refine stop_out ?_; refine wpList_append_bytes (o := ⟨some 20, _, _, _, _, _⟩) rfl (.tmp 15) (.tmp 19) 40 rfl w.heap.size 5 Try.underlying40 Try.infoU8 _ _ rfl (Hown.out.alloc _) _ _ rfl (isB.one (c := UInt8.ofNat n) (heap_alloc_new _ _) (by simp)) (by simp [length_leb]; omega) (by simp; omega) ?_
      intro v1 w3 ho1 hc1
      go_wp2
      go_roundw
      case rel =>
        have hown3 : ownB w3 5 w.heap.size v1 (bs ++ leb (k + 1) (crc bs)) := by rw [leb, HN.out, ← List.append_assoc]; exact ho1
        exact ⟨k + 1, by omega, by go_num, by rw [Nat.pow_succ, ← Nat.div_div_eq_div_mul, HN.out]; rfl, hown3, (Hb3.out.alloc hsz _).trans (hc1.below (by simp; omega) (fun k hk => hk.1))⟩
      case measure => simp [intOf]; omega
    · obtain rfl : k = 4 := by omega
      go_wp2
      go_ret
      exact ⟨⟨_, rfl, Hown.out⟩, Hb3.out⟩
end Go.Proofs.Ytobpjldpkgioaaa
