/- ref01: the reader's Bytes -/
import Derived.Test.YtobpjldpkgioaaaRef01
set_option linter.unusedVariables false
namespace Go.Proofs.Ytobpjldpkgioaaa
open Go.RowKit

def QBytesPost (w : World) (r : Nat) (g : Nat → Prop) (y : List UInt8 × List UInt8 × Nat) (e : Ending) (w' : World) : Prop :=
  ∃ v, e = .returned v ∧ isB w' v y.1 ∧ inL g v ∧ isQ w' r g y.2.1 y.2.2 ∧ Chg (· = r) w w'

set_option maxHeartbeats 400000 in
theorem qbytes_spec (w : World) (r : Nat) (g : Nat → Prop) (bs : List UInt8) (e0 most : Nat) (hm : most < 9223372036854775808) (h : isQ w r g bs e0) :
    Calls Try.prog 97 #[.pointer (some ⟨r, 0, none⟩), .int .i64 most] w (QBytesPost w r g (rbytes most bs e0)) := by
  have H := Lib.hid h
  clear h
  obtain ⟨n, b1, e1, hx⟩ : ∃ n b1 e1, rnum most bs e0 = (n, b1, e1) := ⟨_, _, _, rfl⟩
  have hn := rnum_lt most bs e0
  rw [hx] at hn
  dsimp only at hn
  have Hx := Lib.hid hx
  clear hx
  by_cases h1 : e1 = 0
  · subst h1
    by_cases hl : b1.length < n
    · have hR : rbytes most bs e0 = ([], b1, 2) := by rw [rbytes, Hx.out, if_neg (by simp), if_pos hl]
      rw [hR]
      clear hR
      go_enter Try.func97, Try.ntmps97
      go_wp2_with (go_at_call 84; refine (qnumber_spec _ r g bs e0 most H.out).mono ?_; rintro e w1 ⟨rfl, hr1, hc1⟩; rw [Hx.out] at hr1 ⊢; dsimp only at hr1 ⊢; have HR1 := Lib.hid hr1; obtain ⟨v1, hh1, hv1, hg1, -⟩ := hr1; obtain ⟨c0, c1⟩ := cells2' hh1; have f0 := unfrozen hh1 0; have f1 := unfrozen hh1 1; obtain ⟨ao, cap, rfl, hcl, hcm⟩ := hv1.shape rfl; have hlen := hv1.len; simp only [maxLen] at hlen hcm; have HV1 := Lib.hid hv1; have HG1 := Lib.hid hg1; clear hh1 hv1 hg1)
      go_ret
      exact ⟨_, rfl, isB.nil _, trivial, HR1.out.set 2, hc1.trans (isR.chg0 1 _) (fun _ _ h => h)⟩
    · have hR : rbytes most bs e0 = (b1.take n, b1.drop n, 0) := by rw [rbytes, Hx.out, if_neg (by simp), if_neg hl]
      rw [hR]
      clear hR
      have hl2 : n ≤ b1.length := by omega
      go_enter Try.func97, Try.ntmps97
      go_wp2_with (go_at_call 84; refine (qnumber_spec _ r g bs e0 most H.out).mono ?_; rintro e w1 ⟨rfl, hr1, hc1⟩; rw [Hx.out] at hr1 ⊢; dsimp only at hr1 ⊢; have HR1 := Lib.hid hr1; obtain ⟨v1, hh1, hv1, hg1, -⟩ := hr1; obtain ⟨c0, c1⟩ := cells2' hh1; have f0 := unfrozen hh1 0; have f1 := unfrozen hh1 1; obtain ⟨ao, cap, rfl, hcl, hcm⟩ := hv1.shape rfl; have hlen := hv1.len; simp only [maxLen] at hlen hcm; have HV1 := Lib.hid hv1; have HG1 := Lib.hid hg1; clear hh1 hv1 hg1)
      all_goals go_ret
      all_goals
        have hcut := HV1.out.cut (l := n) (hh := b1.length) (m := cap) hl2 (Nat.le_refl _) hcl (Nat.le_refl _)
        have hgc : inL g (sliced ao n b1.length cap 1) := inL_sliced HG1.out (Nat.le_refl _)
        have hout := HV1.out.take hl2
        have hne : ¬ g r := by obtain ⟨_, _, _, _, h⟩ := HR1.out; exact h
        have hog : inL g (.slice ao n cap) := inL_take HG1.out hl2
        rw [List.take_of_length_le (by simp)] at hcut
      · rw [show sliced ao n b1.length cap 1 = .slice ao (b1.length - n) 0 by simp [sliced, h]] at hcut hgc
        subst h
        exact ⟨_, rfl, hout.chgL (isR.chg0 0 _) (hog.imp fun k hk e => hne (e ▸ hk)), hog, HR1.out.cutTo hcut hgc, hc1.trans (isR.chg0 0 _) (fun _ _ h => h)⟩
      · rw [show sliced ao n b1.length cap 1 = .slice (ao.map fun x => x.add n) (b1.length - n) (cap - n) by simp [sliced, h]] at hcut hgc
        exact ⟨_, rfl, hout.chgL (isR.chg0 0 _) (hog.imp fun k hk e => hne (e ▸ hk)), hog, HR1.out.cutTo hcut hgc, hc1.trans (isR.chg0 0 _) (fun _ _ h => h)⟩
  · have hR : rbytes most bs e0 = ([], b1, e1) := by rw [rbytes, Hx.out, if_pos (by simpa using h1)]
    rw [hR]
    clear hR
    have heb : ((e1 : Int) == 0) = false := by simp; omega
    go_enter Try.func97, Try.ntmps97
    go_wp2_with (go_at_call 84; refine (qnumber_spec _ r g bs e0 most H.out).mono ?_; rintro e w1 ⟨rfl, hr1, hc1⟩; rw [Hx.out] at hr1 ⊢; dsimp only at hr1 ⊢; have HR1 := Lib.hid hr1; obtain ⟨v1, hh1, hv1, hg1, -⟩ := hr1; obtain ⟨c0, c1⟩ := cells2' hh1; have f0 := unfrozen hh1 0; have f1 := unfrozen hh1 1; obtain ⟨ao, cap, rfl, hcl, hcm⟩ := hv1.shape rfl; have hlen := hv1.len; simp only [maxLen] at hlen hcm; have HV1 := Lib.hid hv1; have HG1 := Lib.hid hg1; clear hh1 hv1 hg1)
    go_ret
    exact ⟨_, rfl, isB.nil _, trivial, HR1.out, hc1⟩
end Go.Proofs.Ytobpjldpkgioaaa
