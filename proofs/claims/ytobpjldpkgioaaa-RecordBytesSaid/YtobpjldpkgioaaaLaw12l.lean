/- law12: lives -/
import Derived.Test.YtobpjldpkgioaaaLaw12a
set_option linter.unusedVariables false
set_option linter.unusedSimpArgs false
namespace Go.Proofs.Ytobpjldpkgioaaa
open Go.RowKit

def exRec : Rec := ⟨3, 0, 0, 2, 5, [], 0, 0, 0⟩
theorem ex_read : rread (rbytesP exRec) = (exRec, 0) := by decide +kernel
theorem ex_len : (rbytesP exRec).length = 8 := by decide +kernel
theorem ex_head : (rbytesP exRec).take 4 = [7, 3, 2, 5] := by decide +kernel

set_option maxHeartbeats 1000000 in
set_option maxRecDepth 100000 in
theorem lives12 (w : World) : Calls Try.prog 46 #[] w fun e w' => e = .returned (.bool true) ∧ Below w.heap.size w w' := by
  have hlen := ex_len
  have hhead := ex_head
  have hread := ex_read
  go_enter Try.func46, Try.ntmps46
  go_wp2_with (first | (go_at_call 48; refine (rec_bytes _ exRec (.slice none 0 0) (isB.nil _) ⟨by decide, by decide, by decide⟩).mono ?_; rintro e w1 ⟨hb1, hok, -⟩; obtain ⟨r, rfl, ho⟩ := hok hread; clear hok; have hob := ho.isB; obtain ⟨ao, cap, rfl, hcap, -⟩ := hob.shape hlen; have q1 := run_string (P := Try.prog) (hob.take (k := 4) (by decide)) 40 5 Try.underlying40 Try.underlying5 9 Try.underlying9; rw [hhead] at q1; rw [show str [7, 3, 2, 5] = (⟨#[7, 3, 2, 5]⟩ : ByteArray) from rfl] at q1))
  go_ret
  exact ⟨rfl, hb1⟩
end Go.Proofs.Ytobpjldpkgioaaa
