/- ref02: the sum bit by bit -/
import Derived.Test.YtobpjldpkgioaaaCheck4
set_option linter.unusedVariables false
namespace Go.Proofs.Ytobpjldpkgioaaa
open Go.RowKit

/-- one bit: of the sum, and of the byte -/
def rstep (n c : Nat) : Nat := if n % 2 = c % 2 then n / 2 else (n / 2) ^^^ 3945912366
def rstepN : Nat → Nat → Nat → Nat
  | 0, n, _ => n
  | k + 1, n, c => rstep (rstepN k n c) (c / 2 ^ k)

theorem rstep_lt {n c : Nat} (h : n < 4294967296) : rstep n c < 4294967296 := by
  unfold rstep
  split
  · omega
  · exact Nat.xor_lt_two_pow (n := 32) (by omega) (by decide)

theorem xor_mod2 (n c : Nat) : (n ^^^ c) % 2 = 1 ↔ ¬ n % 2 = c % 2 := by
  have h := Nat.testBit_xor n c 0
  simp only [Nat.testBit_zero] at h
  rcases Nat.mod_two_eq_zero_or_one n with h1 | h1 <;> rcases Nat.mod_two_eq_zero_or_one c with h2 | h2 <;> simp_all

theorem xor_div2 (n c : Nat) : (n ^^^ c) / 2 = n / 2 ^^^ c / 2 := Nat.xor_div_two

theorem rstep_c (n c : Nat) : cstep (n ^^^ c) = rstep n c ^^^ c / 2 := by
  unfold cstep rstep
  by_cases h : n % 2 = c % 2
  · rw [if_neg (by rw [xor_mod2]; simpa using h), if_pos h, xor_div2]
  · rw [if_pos (by rw [xor_mod2]; exact h), if_neg h, xor_div2, Nat.xor_assoc, Nat.xor_assoc, Nat.xor_comm (c / 2)]

theorem rstepN_c (k n c : Nat) : cstepN k (n ^^^ c) = rstepN k n c ^^^ c / 2 ^ k := by
  induction k with
  | zero => simp [cstepN, rstepN]
  | succ k ih => rw [cstepN, ih, rstep_c, rstepN, Nat.div_div_eq_div_mul, ← Nat.pow_succ]

theorem rstepN_lt {n c : Nat} (h : n < 4294967296) : ∀ k, rstepN k n c < 4294967296
  | 0 => h
  | k + 1 => rstep_lt (rstepN_lt h k)

set_option maxHeartbeats 1000000 in
set_option maxRecDepth 100000 in
theorem rof_spec (w : World) (v : Value) (bs : List UInt8) (hv : isB w v bs) :
    Calls Try.prog 105 #[v] w fun e w' => e = .returned (.int .u32 (crc bs : Nat)) ∧ w = w' := by
  obtain ⟨ao, cap, rfl, -, -⟩ := hv.shape rfl
  have hlen := hv.len
  simp only [maxLen] at hlen
  have HB := Lib.hid hv
  clear hv
  go_enter Try.func105, Try.ntmps105
  go_wp2
  go_loop [3, 4] (fun vn x => ∃ i : Nat, i ≤ bs.length ∧ x = .int .i64 i ∧ vn = .int .u32 (crcFrom 4294967295 (bs.take i) : Nat)) (fun _ x => bs.length - (intOf x).toNat)
  case atStart => exact ⟨0, by omega, rfl, rfl⟩
  case round =>
    obtain ⟨i, hi, rfl, rfl⟩ := hrel
    by_cases hin : i < bs.length
    · obtain ⟨c, hc⟩ : ∃ e, bs[i]? = some e := ⟨_, List.getElem?_eq_getElem hin⟩
      obtain ⟨bk, off, rfl, hcell⟩ := HB.out.at hin
      have hcc := hcell i c hc
      have hc8 := c.toNat_lt
      clear hcell
      have hN := crcFrom_lt (n := 4294967295) (by decide) (bs.take i)
      generalize hNN : crcFrom 4294967295 (bs.take i) = N at hN
      have HNN := Lib.hid hNN
      clear hNN
      go_wp2
      go_loop [3, 5, 6] (fun vn vc x => ∃ k : Nat, k ≤ 8 ∧ x = .int .i64 k ∧ vn = .int .u32 (rstepN k N c.toNat : Nat) ∧ vc = .int .u8 ((c.toNat / 2 ^ k : Nat) : Int)) (fun _ _ x => 8 - (intOf x).toNat)
      case atStart => exact ⟨0, by omega, rfl, rfl, by simp⟩
      case round =>
        obtain ⟨k, hk, rfl, rfl, rfl⟩ := hrel
        by_cases hk8 : k < 8
        · have hm := rstepN_lt (c := c.toNat) hN k
          have hd : c.toNat / 2 ^ k < 256 := Nat.lt_of_le_of_lt (Nat.div_le_self _ _) hc8
          have hs : rstepN (k + 1) N c.toNat = rstep (rstepN k N c.toNat) (c.toNat / 2 ^ k) := rfl
          have hd2 : c.toNat / 2 ^ (k + 1) = c.toNat / 2 ^ k / 2 := by rw [Nat.pow_succ, Nat.div_div_eq_div_mul]
          have Hs := Lib.hid hs
          have Hd2 := Lib.hid hd2
          clear hs hd2
          generalize rstepN k N c.toNat = m at *
          generalize c.toNat / 2 ^ k = d at *
          go_wp2
          · rename_i hx
            have hne : ¬ m % 2 = d % 2 := fun h => by
              have : ((m : Int) % 2 != (d : Int) % 2) = false := by simp; omega
              rw [this] at hx; exact absurd hx (by decide)
            go_round
            case rel => exact ⟨k + 1, by omega, by go_num, by
              have e := u32_xor_nat (m / 2) 3945912366 (by omega) (by decide)
              simp only [Int.natCast_ediv, Int.cast_ofNat_Int] at e
              rw [Hs.out, rstep, if_neg hne, e], by rw [Hd2.out]; simp⟩
            case measure => simp [intOf]; omega
          · rename_i hx
            have hne : m % 2 = d % 2 := by
              have := hx; simp at this; omega
            go_round
            case rel => exact ⟨k + 1, by omega, by go_num, by rw [Hs.out, rstep, if_pos hne]; simp, by rw [Hd2.out]; simp⟩
            case measure => simp [intOf]; omega
        · obtain rfl : k = 8 := by omega
          have h8 : crcFrom 4294967295 (bs.take (i + 1)) = rstepN 8 N c.toNat := by
            obtain ⟨hlt', he'⟩ := List.getElem?_eq_some_iff.1 hc
            have h := rstepN_c 8 N c.toNat
            rw [show c.toNat / 2 ^ 8 = 0 by omega, Nat.xor_zero] at h
            rw [crcFrom_snoc _ _ _ hlt', he', HNN.out, cbyte, h]
          have H8 := Lib.hid h8
          clear h8
          go_wp2
          go_round
          case rel => exact ⟨i + 1, by omega, by go_num, by rw [H8.out]⟩
          case measure => simp [intOf]; omega
    · obtain rfl : i = bs.length := by omega
      have hlt := crcFrom_lt (n := 4294967295) (by decide) bs
      rw [List.take_length]
      go_wp2
      go_ret
      refine ⟨?_, rfl⟩
      have e : ((crc bs : Nat) : Int) = 4294967295 - (crcFrom 4294967295 bs : Nat) := by unfold crc; omega
      rw [e]; rfl
end Go.Proofs.Ytobpjldpkgioaaa
