/- Clip, Clone, Equal of bytes; the bytes of a number -/
import Derived.Test.YtobpjldpkgioaaaProg
import Derived.Test.YtobpjldpkgioaaaBase
namespace Go.Proofs.Ytobpjldpkgioaaa
open Go.RowKit

theorem Try.infoU8 : (Try.prog.info? 5).map (fun i => (i.zero, i.size, i.bytes)) = some (some (.int .u8 0), 1, 1) := by kernel_rfl

set_option maxHeartbeats 400000 in
theorem clip_spec (w : World) (v : Value) (bs : List UInt8) (hv : isB w v bs) :
    Calls Try.prog 121 #[v] w fun e w' => (∃ ao, e = .returned (.slice ao bs.length bs.length) ∧ isB w (.slice ao bs.length bs.length) bs) ∧ w = w' := by
  have hv' := hv
  obtain ⟨ao, cap, rfl, h1, h2, h3, h4⟩ := hv'
  have hm : cap ≤ 9223372036854775807 := by unfold maxLen at h2; omega
  have HV : Hid (isB w (.slice ao bs.length bs.length) bs) := ⟨ao, bs.length, rfl, Nat.le_refl _, by omega, fun h => by have := h3 h; omega, fun a ha => ⟨fun h => (h4 a ha).1 (by omega), (h4 a ha).2⟩⟩
  clear hv h3 h4
  go_enter Try.func121, Try.ntmps121
  go_wp2
  go_ret
  exact ⟨⟨_, rfl, HV.out⟩, rfl⟩

set_option maxHeartbeats 400000 in
theorem clone_spec (w : World) (v : Value) (bs : List UInt8) (hv : isB w v bs) (hl : bs.length ≤ 140737488355328) :
    Calls Try.prog 93 #[v] w fun e w' => (∃ r, e = .returned r ∧ ownB w' 5 w.heap.size r bs) ∧ Below w.heap.size w w' := by
  have hv' := hv
  obtain ⟨ao, cap, rfl, h1, h2, h3, h4⟩ := hv'
  have HV := Lib.hid hv
  cases ao with
  | none =>
    have hc := h3 rfl
    have hb : bs = [] := List.eq_nil_of_length_eq_zero (by omega)
    subst hb
    subst hc
    clear hv h1 h2 h3 h4
    have he := fun wx => Lib.run_eql_slice_nil (P := Try.prog) wx 40 5 none 0 0 0 0 Try.underlying40
    go_enter Try.func93, Try.ntmps93
    go_wp2
    go_ret
    exact ⟨⟨_, rfl, ownB.nil _ _ _⟩, Below.refl _ _⟩
  | some ad =>
    clear hv h1 h2 h3 h4
    have he := fun wx => Lib.run_eql_slice_nil (P := Try.prog) wx 40 5 (some ad) bs.length cap 0 0 Try.underlying40
    go_enter Try.func93, Try.ntmps93
    go_wp2_with (at_builtin; refine wpList_append_bytes rfl _ _ 40 rfl w.heap.size 5 Try.underlying40 Try.infoU8 _ [] rfl (ownB.lit (cs := []) (heap_alloc_new _ _) rfl (by simp) (Nat.le_refl _) rfl rfl) _ bs rfl (HV.out.below ((Below.refl _ _).alloc (Nat.le_refl _) _)) (by simpa using hl) (by simp) ?_; intro v1 w1 ho1 hc1)
    go_ret
    exact ⟨⟨_, rfl, ho1⟩, ((Below.refl _ _).alloc (Nat.le_refl _) _).trans (hc1.below (by simp) (fun k hk => hk.1))⟩

set_option maxHeartbeats 400000 in
theorem equal_spec (w : World) (v1 v2 : Value) (b1 b2 : List UInt8) (h1 : isB w v1 b1) (h2 : isB w v2 b2) :
    Calls Try.prog 117 #[v1, v2] w fun e w' => e = .returned (.bool (decide (b1 = b2))) ∧ ∃ n, w' = w.drewN n := by
  have g1 := h1
  have g2 := h2
  obtain ⟨ao1, cap1, rfl, a1, a2, -, -⟩ := h1
  obtain ⟨ao2, cap2, rfl, c1, c2, -, -⟩ := h2
  have hm1 : b1.length ≤ 9223372036854775807 := by unfold maxLen at a2; omega
  have hm2 : b2.length ≤ 9223372036854775807 := by unfold maxLen at c2; omega
  have G1 := Lib.hid g1
  have G2 := Lib.hid g2
  clear g1 g2 a1 a2 c1 c2
  by_cases hl : b1.length = b2.length
  · have HL := Lib.hid hl
    have hx : ((b1.length : Int) != (b2.length : Int)) = false := by simp [hl]
    clear hl
    go_enter Try.func117, Try.ntmps117
    go_wp2
    go_loopw [13] (fun i wr => ∃ k n : Nat, k ≤ b1.length ∧ i = .int .i64 k ∧ b1.take k = b2.take k ∧ wr = w.drewN n) (fun i _ => b1.length - (intOf i).toNat)
    case atStart => exact ⟨0, 0, by omega, rfl, rfl, rfl⟩
    case round =>
      obtain ⟨k, n, hk, rfl, he, rfl⟩ := hrel
      have He := Lib.hid he
      clear he
      by_cases hlt : k < b1.length
      · obtain ⟨x1, o1, rfl, hc1⟩ := G1.out.at hlt
        have hlt2 : k < b2.length := by have := HL.out; omega
        obtain ⟨x2, o2, rfl, hc2⟩ := G2.out.at hlt2
        obtain ⟨d1, hd1⟩ : ∃ c8, b1[k]? = some c8 := ⟨_, List.getElem?_eq_getElem hlt⟩
        obtain ⟨d2, hd2⟩ : ∃ c8, b2[k]? = some c8 := ⟨_, List.getElem?_eq_getElem hlt2⟩
        have e1 := hc1 k d1 hd1
        have e2 := hc2 k d2 hd2
        have Hd1 := Lib.hid hd1
        have Hd2 := Lib.hid hd2
        clear hc1 hc2 hd1 hd2
        go_wp2
        go_region
        go_wp2
        · go_ret
          have hne : (((d1.toNat : Nat) : Int) != (d2.toNat : Int)) = true := by assumption
          have : ¬ b1 = b2 := fun h => by
            have e := Hd1.out; rw [h, Hd2.out] at e
            rw [Option.some.inj e] at hne; simp at hne
          exact ⟨congrArg (fun x => Ending.returned (.bool x)) (by simp [this]), n + 1, rfl⟩
        · have heq : (((d1.toNat : Nat) : Int) != (d2.toNat : Int)) = false := by assumption
          go_roundw
          case rel =>
            refine ⟨k + 1, n + 1, by omega, by go_num, ?_, rfl⟩
            have h3 : d1 = d2 := UInt8.toNat_inj.1 (by have := (bne_eq_false_iff_eq.1 heq); omega)
            have k1 := Hd1.out
            have k2 := Hd2.out
            rw [List.take_add_one, List.take_add_one, He.out, k1, k2, h3]
          case measure => simp [intOf]; omega
      · obtain rfl : k = b1.length := by omega
        go_wp2
        go_ret
        refine ⟨?_, n, rfl⟩
        have : b1 = b2 := by have h := He.out; rw [List.take_length, HL.out, List.take_length] at h; exact h
        exact congrArg (fun x => Ending.returned (.bool x)) (by simp [this])
  · have hx : ((b1.length : Int) != (b2.length : Int)) = true := by simp; omega
    have HL : Hid (¬ b1 = b2) := fun h => hl (by rw [h])
    clear hl
    go_enter Try.func117, Try.ntmps117
    go_wp2
    go_ret
    exact ⟨congrArg (fun x => Ending.returned (.bool x)) (by simp [HL.out]), 0, rfl⟩

/-- k bytes of a number, the lowest first -/
def leb : Nat → Nat → List UInt8
  | 0, _ => []
  | k + 1, n => leb k n ++ [UInt8.ofNat (n / 256 ^ k)]

theorem length_leb (k n : Nat) : (leb k n).length = k := by
  induction k with
  | zero => rfl
  | succ k ih => simp [leb, ih]

end Go.Proofs.Ytobpjldpkgioaaa
