/- varint: Next, the reader -/
import Derived.Test.YtobpjldpkgioaaaPrims
import Derived.Laws.BitsAllLaws
set_option linter.unusedVariables false
namespace Go.Proofs.Ytobpjldpkgioaaa
open Go.RowKit

/-- the number that bytes begin with from the i-th on (n: of those ahead), how many bytes it has, the error -/
def vgo : Nat → Nat → List UInt8 → Nat × Nat × Nat
  | _, _, [] => (0, 0, 2)
  | i, n, c :: r => if (i = 9 ∧ 1 < c.toNat) ∨ (0 < i ∧ c.toNat = 0) then (0, 0, 3) else
    if c.toNat < 128 then (n + c.toNat % 128 * 128 ^ i, i + 1, 0) else vgo (i + 1) (n + c.toNat % 128 * 128 ^ i) r

abbrev vnext (b : List UInt8) : Nat × Nat × Nat := vgo 0 0 b

theorem pow_seven (i : Nat) : (2 : Nat) ^ (7 * i) = 128 ^ i := by rw [Nat.pow_mul]

theorem acc_lt (n i c : Nat) (hi : i ≤ 9) (hn : n < 128 ^ i) (hc : c < 256) (h9 : i = 9 → c ≤ 1) : c % 128 * 128 ^ i < 18446744073709551616 ∧ n + c % 128 * 128 ^ i < 18446744073709551616 := by
  match i, hi with
  | 0, _ | 1, _ | 2, _ | 3, _ | 4, _ | 5, _ | 6, _ | 7, _ | 8, _ => simp only [Nat.reducePow] at *; omega
  | 9, _ => have := h9 rfl; simp only [Nat.reducePow] at *; omega
  | i + 10, h => omega

theorem acc_step (n i c : Nat) (hi : i ≤ 9) (hn : n < 128 ^ i) (hc : c < 256) (h9 : i = 9 → c ≤ 1) :
    bits .or .u64 (n : Int) (IntKind.u64.wrap (IntKind.u64.wrap (bits .and .u8 (c : Int) 127) * 2 ^ (7 * i))) = ((n + c % 128 * 128 ^ i : Nat) : Int) := by
  obtain ⟨h1, h2⟩ := acc_lt n i c hi hn hc h9
  have ha : bits .and .u8 (c : Int) 127 = ((c % 128 : Nat) : Int) := by
    rw [show (127 : Int) = ((127 : Nat) : Int) from rfl, u8_and_nat c 127 hc (by decide)]
    rw [show (127 : Nat) = 2 ^ 7 - 1 from rfl, Nat.and_two_pow_sub_one_eq_mod]
  have hx : ((c % 128 : Nat) : Int) * 2 ^ (7 * i) = ((c % 128 * 128 ^ i : Nat) : Int) := by rw [← pow_seven]; simp
  rw [ha, IntWalk.u64_in ((c % 128 : Nat) : Int) (by omega), hx, IntWalk.u64_in _ (by omega), u64_or_nat _ _ (by omega) h1]
  congr 1
  rw [Nat.or_comm, Nat.mul_comm, ← pow_seven, ← Nat.two_pow_add_eq_or_of_lt (by rw [pow_seven]; exact hn), Nat.add_comm]

theorem acc_next (n i c : Nat) (hn : n < 128 ^ i) : n + c % 128 * 128 ^ i < 128 ^ (i + 1) := by
  have : c % 128 * 128 ^ i ≤ 127 * 128 ^ i := Nat.mul_le_mul_right _ (by omega)
  rw [Nat.pow_succ]; omega

set_option maxHeartbeats 1000000 in
set_option maxRecDepth 100000 in
theorem next_spec (w : World) (v : Value) (b : List UInt8) (hb : isB w v b) :
    Calls Try.prog 118 #[v] w fun e w' => e = .returned (.tuple #[.int .u64 (vnext b).1, .int .i64 (vnext b).2.1, .int .i64 (vnext b).2.2]) ∧ w = w' := by
  obtain ⟨ao, cap, rfl, -, -⟩ := hb.shape rfl
  have hlen := hb.len
  simp only [maxLen] at hlen
  have HB := Lib.hid hb
  clear hb
  go_enter Try.func118, Try.ntmps118
  go_wp2
  generalize hR : vnext b = R
  go_loop [5, 10] (fun vn x => ∃ i n : Nat, i ≤ b.length ∧ i ≤ 9 ∧ n < 128 ^ i ∧ x = .int .i64 i ∧ vn = .int .u64 n ∧ vgo i n (b.drop i) = R) (fun _ x => b.length - (intOf x).toNat)
  case atStart => exact ⟨0, 0, by omega, by omega, by decide, rfl, rfl, hR⟩
  case round =>
    obtain ⟨i, n, hi, hi9, hn, rfl, rfl, hv⟩ := hrel
    by_cases hin : i < b.length
    · obtain ⟨c, hc⟩ : ∃ e, b[i]? = some e := ⟨_, List.getElem?_eq_getElem hin⟩
      obtain ⟨bk, off, rfl, hcell⟩ := HB.out.at hin
      have hcc := hcell i c hc
      have hc8 := c.toNat_lt
      clear hcell
      have hd : b.drop i = c :: b.drop (i + 1) := by
        obtain ⟨hlt', he'⟩ := List.getElem?_eq_some_iff.1 hc
        rw [List.drop_eq_getElem_cons hlt', he']
      rw [hd, vgo] at hv
      have Hv := Lib.hid hv
      clear hd hv
      by_cases h9 : i = 9
      · subst h9
        by_cases h1 : 1 < c.toNat
        · go_wp2
          go_ret3
          rw [if_pos (by simp [h1])] at Hv
          obtain rfl := Hv.out
          exact ⟨rfl, rfl⟩
        · by_cases h0 : c.toNat = 0
          · rw [if_pos (.inr ⟨by decide, h0⟩)] at Hv
            go_wp2
            go_ret3
            obtain rfl := Hv.out
            exact ⟨rfl, rfl⟩
          · have h128 : c.toNat < 128 := by omega
            rw [if_neg (by omega), if_pos h128] at Hv
            have hacc := acc_step n 9 c.toNat (by omega) hn (by omega) (by omega)
            rw [show (2 : Int) ^ (7 * 9) = 9223372036854775808 by decide] at hacc
            have Hacc := Lib.hid hacc
            clear hacc
            have h0b : ((c.toNat : Int) == 0) = false := by simp; omega
            go_wp2
            all_goals go_ret3
            all_goals (obtain rfl := Hv.out; exact ⟨by rw [Hacc.out]; rfl, rfl⟩)
      · by_cases h0 : 0 < i ∧ c.toNat = 0
        · rw [if_pos (.inr h0)] at Hv
          obtain ⟨h01, h02⟩ := h0
          go_wp2
          go_ret3
          obtain rfl := Hv.out
          exact ⟨rfl, rfl⟩
        · by_cases h128 : c.toNat < 128
          · rw [if_neg (by omega), if_pos h128] at Hv
            have Hacc := Lib.hid (acc_step n i c.toNat (by omega) hn (by omega) (by omega))
            go_wp2
            all_goals go_ret3
            all_goals (obtain rfl := Hv.out; exact ⟨by rw [Hacc.out]; rfl, rfl⟩)
          · rw [if_neg (by omega), if_neg h128] at Hv
            have Hacc := Lib.hid (acc_step n i c.toNat (by omega) hn (by omega) (by omega))
            go_wp2
            all_goals go_round
            all_goals first
              | exact ⟨i + 1, _, by omega, by omega, acc_next n i c.toNat hn, by go_num, by rw [Hacc.out], Hv.out⟩
              | (simp [intOf]; omega)
    · obtain rfl : i = b.length := by omega
      rw [List.drop_length] at hv
      obtain rfl := hv
      go_wp2
      go_ret3
      exact ⟨rfl, rfl⟩
end Go.Proofs.Ytobpjldpkgioaaa
