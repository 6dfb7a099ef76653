/- check: Seal and Open -/
import Derived.Test.YtobpjldpkgioaaaCheck3
import Derived.Test.YtobpjldpkgioaaaPrims
namespace Go.Proofs.Ytobpjldpkgioaaa
open Go.RowKit

def sealed (bs : List UInt8) : List UInt8 := bs ++ leb 4 (crc bs)

theorem length_sealed (bs : List UInt8) : (sealed bs).length = bs.length + 4 := by simp [sealed, length_leb]

set_option maxHeartbeats 400000 in
theorem seal_spec (w : World) (v : Value) (bs : List UInt8) (hv : isB w v bs) (hl : bs.length ≤ 1000000000) :
    Calls Try.prog 88 #[v] w fun e w' => (∃ r, e = .returned r ∧ ownB w' 5 w.heap.size r (sealed bs)) ∧ Below w.heap.size w w' := by
  have HV := Lib.hid hv
  obtain ⟨ao, cap, rfl, -, -, -, -⟩ := hv
  go_enter Try.func88, Try.ntmps88
  go_wp2_with (first | (go_at_call 103; refine (of_spec _ _ _ _ bs (HV.out.below ((Below.refl _ _).alloc (Nat.le_refl _) _)) (by simp [cell_of_row _ _ _ _ _ _ (heap_alloc_new _ _)])).mono ?_; rintro e w1 ⟨rfl, hb1⟩) | (go_at_call 121; refine (clip_spec _ _ bs ((HV.out.below ((Below.refl _ _).alloc (Nat.le_refl _) _)).below hb1)).mono ?_; rintro e w2 ⟨⟨ao2, rfl, hcl⟩, rfl⟩))
  have Hb : Hid (Below w.heap.size w w1) := ((Below.refl _ _).alloc (Nat.le_refl _) _).trans (hb1.mono (by simp))
  have Hcl := Lib.hid hcl
  clear hb1 hcl
  go_loopw [0, 3, 9] (fun b n i wr => ∃ k : Nat, k ≤ 4 ∧ i = .int .i64 k ∧ n = .int .u32 (crc bs / 256 ^ k : Nat) ∧ appB wr 5 w.heap.size b (bs ++ leb k (crc bs)) ∧ (0 < k → ownB wr 5 w.heap.size b (bs ++ leb k (crc bs))) ∧ Below w.heap.size w wr) (fun _ _ i _ => 4 - (intOf i).toNat)
  case atStart => exact ⟨0, by omega, rfl, by simp, .inr ⟨by simpa [leb] using Hcl.out, ao2, by simp [leb]⟩, by omega, Hb.out⟩
  case round =>
    obtain ⟨k, hk, rfl, rfl, hap, hown, hb⟩ := hrel
    have Hap := Lib.hid hap
    have Hown := Lib.hid hown
    have Hb3 := Lib.hid hb
    have hsz := hb.size
    clear hap hown hb
    have hcrc := crc_lt bs
    have hdv : crc bs / 256 ^ k < 4294967296 := Nat.lt_of_le_of_lt (Nat.div_le_self _ _) hcrc
    by_cases hlt : k < 4
    · generalize hN : crc bs / 256 ^ k = n at hdv ⊢
      have HN := Lib.hid hN
      clear hN
      go_wp2_with (at_builtin; refine wpList_append_app rfl _ _ 40 rfl w.heap.size 5 Try.underlying40 Try.infoU8 _ _ rfl (appB.alloc Hap.out _) _ [UInt8.ofNat n] rfl (isB.one (heap_alloc_new _ _) (u8n n)) (by simp) (by simp [length_leb]; omega) (by simp; omega) ?_; intro v1 w3 ho1 hc1)
      go_roundw
      case rel =>
        have hown3 : ownB w3 5 w.heap.size v1 (bs ++ leb (k + 1) (crc bs)) := by rw [leb, HN.out, ← List.append_assoc]; exact ho1
        exact ⟨k + 1, by omega, by go_num, by rw [Nat.pow_succ, ← Nat.div_div_eq_div_mul, HN.out]; rfl, .inl hown3, fun _ => hown3, (Hb3.out.alloc hsz _).trans (hc1.below (by simp; omega) (fun k hk => hk.1))⟩
      case measure => simp [intOf]; omega
    · obtain rfl : k = 4 := by omega
      go_wp2
      go_ret
      exact ⟨⟨_, rfl, Hown.out (by decide)⟩, Hb3.out⟩

/-- what is sealed; none: it isn't -/
def opened (bs : List UInt8) : Option (List UInt8) :=
  if bs.length < 4 then none else if sealed (bs.take (bs.length - 4)) = bs then some (bs.take (bs.length - 4)) else none

theorem opened_len {bs body : List UInt8} (h : opened bs = some body) : bs.length = body.length + 4 := by
  unfold opened at h
  split at h
  · simp at h
  · split at h
    · simp at h; subst h; simp; omega
    · simp at h

set_option maxHeartbeats 400000 in
theorem open_short (w : World) (v : Value) (bs : List UInt8) (hv : isB w v bs) (h : bs.length < 4) :
    Calls Try.prog 80 #[v] w fun e w' => e = .returned (.tuple #[.slice none 0 0, .bool false]) ∧ w = w' := by
  have h' : (bs.length : Int) < 4 := by omega
  obtain ⟨ao, cap, rfl, -, -, -, -⟩ := hv
  go_enter Try.func80, Try.ntmps80
  go_wp2
  go_ret2
  exact ⟨rfl, rfl⟩

set_option maxHeartbeats 400000 in
theorem open_long (w : World) (v : Value) (bs : List UInt8) (hv : isB w v bs) (h : ¬ bs.length < 4) (hl : bs.length ≤ 100000000) :
    Calls Try.prog 80 #[v] w fun e w' => Below w.heap.size w w' ∧
      ((sealed (bs.take (bs.length - 4)) = bs ∧ ∃ r, e = .returned (.tuple #[r, .bool true]) ∧ ownB w' 5 w.heap.size r (bs.take (bs.length - 4))) ∨
       (¬ sealed (bs.take (bs.length - 4)) = bs ∧ e = .returned (.tuple #[.slice none 0 0, .bool false]))) := by
  have hv' := hv
  obtain ⟨ao, cap, rfl, h1, h2, h3, h4⟩ := hv
  have hc := hv'.take (k := bs.length - 4) (by omega)
  have hlt : (bs.take (bs.length - 4)).length = bs.length - 4 := by simp
  generalize hbody : bs.take (bs.length - 4) = body at hc hlt ⊢
  have HV := Lib.hid hv'
  have HC := Lib.hid hc
  have Hlt := Lib.hid hlt
  clear hv' hc h3 h4 hlt hbody
  unfold maxLen at h2
  have h' : ¬ (bs.length : Int) < 4 := by omega
  go_enter Try.func80, Try.ntmps80
  by_cases hs : sealed body = bs
  · have HS := Lib.hid hs
    have hd : decide (sealed body = bs) = true := by simpa using hs
    clear hs
    go_wp2_with (first | (go_at_call 88; refine (seal_spec _ _ _ HC.out (by rw [Hlt.out]; omega)).mono ?_; rintro e w1 ⟨⟨r, rfl, ho1⟩, hb1⟩) | (go_at_call 117; refine (equal_spec _ _ _ _ _ ho1.isB (HV.out.below hb1)).mono ?_; rintro e w2 ⟨rfl, n, rfl⟩) | (go_at_call 93; refine (clone_spec _ _ _ ((HC.out.below hb1).below (below_drewN (Below.refl _ _) n)) (by rw [Hlt.out]; omega)).mono ?_; rintro e w3 ⟨⟨r3, rfl, ho3⟩, hb3⟩))
    go_ret2
    exact ⟨hb1.trans ((below_drewN (Below.refl _ _) n).trans (hb3.mono hb1.size)), .inl ⟨HS.out, _, rfl, ho3.mono hb1.size⟩⟩
  · have HS := Lib.hid hs
    have hd : decide (sealed body = bs) = false := by simpa using hs
    clear hs
    go_wp2_with (first | (go_at_call 88; refine (seal_spec _ _ _ HC.out (by rw [Hlt.out]; omega)).mono ?_; rintro e w1 ⟨⟨r, rfl, ho1⟩, hb1⟩) | (go_at_call 117; refine (equal_spec _ _ _ _ _ ho1.isB (HV.out.below hb1)).mono ?_; rintro e w2 ⟨rfl, n, rfl⟩))
    go_ret2
    exact ⟨hb1.trans (below_drewN (Below.refl _ _) n), .inr ⟨HS.out, rfl⟩⟩

/-- Open, whatever the bytes -/
theorem open_none (w : World) (v : Value) (bs : List UInt8) (hv : isB w v bs) (hl : bs.length ≤ 100000000) (h : opened bs = none) :
    Calls Try.prog 80 #[v] w fun e w' => e = .returned (.tuple #[.slice none 0 0, .bool false]) ∧ Below w.heap.size w w' := by
  unfold opened at h
  by_cases h4 : bs.length < 4
  · exact (open_short w v bs hv h4).mono fun e w' ⟨he, hw⟩ => ⟨he, hw ▸ Below.refl _ _⟩
  · rw [if_neg h4] at h
    refine (open_long w v bs hv h4 hl).mono fun e w' ⟨hb, hs⟩ => ?_
    rcases hs with ⟨hs, -⟩ | ⟨-, he⟩
    · rw [if_pos hs] at h; simp at h
    · exact ⟨he, hb⟩

theorem open_some (w : World) (v : Value) (bs body : List UInt8) (hv : isB w v bs) (hl : bs.length ≤ 100000000) (h : opened bs = some body) :
    Calls Try.prog 80 #[v] w fun e w' => (∃ r, e = .returned (.tuple #[r, .bool true]) ∧ ownB w' 5 w.heap.size r body) ∧ Below w.heap.size w w' := by
  unfold opened at h
  by_cases h4 : bs.length < 4
  · rw [if_pos h4] at h; simp at h
  · rw [if_neg h4] at h
    refine (open_long w v bs hv h4 hl).mono fun e w' ⟨hb, hs⟩ => ?_
    rcases hs with ⟨hs, hr⟩ | ⟨hs, he⟩
    · rw [if_pos hs] at h; simp only [Option.some.injEq] at h; subst h; exact ⟨hr, hb⟩
    · rw [if_neg hs] at h; simp at h

end Go.Proofs.Ytobpjldpkgioaaa
