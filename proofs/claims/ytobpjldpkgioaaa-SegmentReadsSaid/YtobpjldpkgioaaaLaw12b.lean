/- ref12: Right of blocks -/
import Derived.Test.YtobpjldpkgioaaaLaw12a
set_option linter.unusedVariables false
set_option linter.unusedSimpArgs false
namespace Go.Proofs.Ytobpjldpkgioaaa
open Go.RowKit
theorem str_size (l : List UInt8) : (str l).size = l.length := by simp [str, ByteArray.size]

set_option maxHeartbeats 4000000 in
set_option maxRecDepth 100000 in
theorem right_2 (w : World) (x : Rec) (hx : RecIn x) (hk : x.kind = 2) :
    Calls Try.prog 49 #[.agg (refC x)] w fun e w' => IsB (right x) e ∧ Below w.heap.size w w' := by
  rw [right, if_neg (by rw [hk]; decide), if_pos hk]
  obtain ⟨k, i, b, f, t, bl, c, l, s⟩ := x
  dsimp only at hk
  subst hk
  generalize hP : ((⟨2, i, b, f, t, bl, c, l, s⟩ : Rec) = ⟨2, 0, 0, f, t, bl, 0, 0, 0⟩ ∧ _) = P
  have HP := Lib.hid hP
  have hf := hx.from_
  have ht := hx.to
  have hbl := hx.ok.blocks
  dsimp only at hf ht hbl
  clear hP hx
  dsimp only [refC]
  go_enter Try.func49, Try.ntmps49
  go_wp2
  all_goals go_ret
  all_goals
    refine ⟨⟨_, rfl, ?_⟩, ?_⟩
    · (try unfold wrap64 at *)
      (rw [← HP.out]; clear HP; simp only [str_toList, str_size, beq_iff_eq, Rec.mk.injEq, true_and, and_true, decide_eq_true_eq, Bool.false_eq_true, false_iff, true_iff] at *; first | (simp_all; done) | (simp_all; omega) | omega)
    · (repeat (first | exact Below.refl _ _ | exact below_alloc _ _ | refine Below.setCell ?_ (by first | exact Nat.le_refl _ | (simp; done) | (simp; omega)) _ | refine Below.alloc ?_ (by first | exact Nat.le_refl _ | (simp; done) | (simp; omega)) _))

theorem right_spec (w : World) (x : Rec) (hx : RecIn x) : Calls Try.prog 49 #[.agg (refC x)] w fun e w' => IsB (right x) e ∧ Below w.heap.size w w' := by
  by_cases h1 : x.kind = 1
  · exact right_1 w x hx h1
  · by_cases h2 : x.kind = 2
    · exact right_2 w x hx h2
    · by_cases h3 : x.kind = 3
      · exact right_3 w x hx h3
      · by_cases h4 : x.kind = 4
        · exact right_4 w x hx h4
        · exact right_0 w x h1 h2 h3 h4
end Go.Proofs.Ytobpjldpkgioaaa
