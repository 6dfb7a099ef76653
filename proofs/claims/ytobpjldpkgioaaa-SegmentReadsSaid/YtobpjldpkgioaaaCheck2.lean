/- check: the sum of a row of bytes, by half bytes, is the sum bit by bit -/
import Derived.Test.YtobpjldpkgioaaaCheck1
namespace Go.Proofs.Ytobpjldpkgioaaa
open Go.RowKit

/-- a byte's share -/
def cbyte (n : Nat) (c : UInt8) : Nat := cstepN 8 (n ^^^ c.toNat)
def crcFrom (n : Nat) (bs : List UInt8) : Nat := bs.foldl cbyte n
/-- the sum of bytes -/
def crc (bs : List UInt8) : Nat := 4294967295 - crcFrom 4294967295 bs

theorem cbyte_lt {n : Nat} (h : n < 4294967296) (c : UInt8) : cbyte n c < 4294967296 :=
  cstepN_lt 8 (Nat.xor_lt_two_pow (n := 32) h (Nat.lt_trans c.toNat_lt (by decide)))

theorem crcFrom_lt {n : Nat} (h : n < 4294967296) (bs : List UInt8) : crcFrom n bs < 4294967296 := by
  induction bs generalizing n with
  | nil => exact h
  | cons c bs ih => exact ih (cbyte_lt h c)

theorem crcFrom_snoc (n : Nat) (bs : List UInt8) (k : Nat) (h : k < bs.length) : crcFrom n (bs.take (k + 1)) = cbyte (crcFrom n (bs.take k)) bs[k] := by
  unfold crcFrom; rw [List.take_succ_eq_append_getElem h, List.foldl_append]; rfl

theorem crc_lt (bs : List UInt8) : crc bs < 4294967296 := by unfold crc; omega

/-! ### four bits at a time -/
theorem cstep_xor (a b : Nat) : cstep (a ^^^ b) = cstep a ^^^ cstep b := by
  unfold cstep
  have hd : (a ^^^ b) / 2 = a / 2 ^^^ b / 2 := by
    have := Nat.shiftRight_xor_distrib (a := a) (b := b) (i := 1)
    simpa [Nat.shiftRight_eq_div_pow] using this
  have hm : (a ^^^ b) % 2 = (a % 2) ^^^ (b % 2) := Nat.xor_mod_two_pow (n := 1)
  have hx : ∀ x : Nat, 3945912366 ^^^ (x ^^^ 3945912366) = x := fun x => by rw [Nat.xor_comm x, ← Nat.xor_assoc, Nat.xor_self, Nat.zero_xor]
  rw [hd, hm]
  rcases Nat.mod_two_eq_zero_or_one a with ha | ha <;> rcases Nat.mod_two_eq_zero_or_one b with hb | hb <;> simp [ha, hb]
  · rw [Nat.xor_assoc]
  · rw [Nat.xor_assoc, Nat.xor_comm (b / 2), ← Nat.xor_assoc]
  · rw [Nat.xor_assoc, hx]

theorem cstepN_xor (k a b : Nat) : cstepN k (a ^^^ b) = cstepN k a ^^^ cstepN k b := by
  induction k with
  | zero => rfl
  | succ k ih => simp only [cstepN, ih, cstep_xor]

theorem cstepN_even (k : Nat) (n : Nat) (h : n % 2 ^ k = 0) : cstepN k n = n / 2 ^ k := by
  induction k with
  | zero => simp [cstepN]
  | succ k ih =>
    have h1 : n % 2 ^ k = 0 := by
      have : 2 ^ k ∣ 2 ^ (k + 1) := Nat.pow_dvd_pow 2 (Nat.le_succ k)
      exact Nat.mod_eq_zero_of_dvd (Nat.dvd_trans this (Nat.dvd_of_mod_eq_zero h))
    rw [cstepN, ih h1, cstep, if_neg, Nat.div_div_eq_div_mul, ← Nat.pow_succ]
    intro h2
    obtain ⟨q, rfl⟩ := Nat.dvd_of_mod_eq_zero h
    rw [Nat.pow_succ, Nat.mul_assoc, Nat.mul_div_cancel_left _ (Nat.two_pow_pos k)] at h2
    omega

theorem cstepN_add (a b n : Nat) : cstepN (a + b) n = cstepN a (cstepN b n) := by
  induction a with
  | zero => simp [cstepN]
  | succ a ih => rw [Nat.succ_add, cstepN, cstepN, ih]

theorem split4 (n : Nat) : n = (n / 16 * 16) ^^^ (n % 16) := by
  have h : n / 16 * 16 ||| n % 16 = n / 16 * 16 + n % 16 := nat_join 4 _ _ (by omega) (by omega)
  have h2 : (n / 16 * 16) &&& (n % 16) = 0 := by
    apply Nat.eq_of_testBit_eq
    intro i
    rw [Nat.testBit_and, Nat.zero_testBit]
    by_cases hi : i < 4
    · have : (n / 16 * 16).testBit i = false := by
        rw [show n / 16 * 16 = (n / 16) <<< 4 by rw [Nat.shiftLeft_eq], Nat.testBit_shiftLeft]; simp; omega
      rw [this]; rfl
    · have : (n % 16).testBit i = false := by
        apply Nat.testBit_lt_two_pow
        exact Nat.lt_of_lt_of_le (Nat.mod_lt _ (by decide)) (Nat.pow_le_pow_right (n := 2) (by decide) (show 4 ≤ i by omega))
      rw [this]; simp
  have h3 : n / 16 * 16 ^^^ n % 16 = n / 16 * 16 ||| n % 16 := by
    apply Nat.eq_of_testBit_eq
    intro i
    have := congrArg (·.testBit i) h2
    simp only [Nat.testBit_and, Nat.zero_testBit] at this
    rw [Nat.testBit_xor, Nat.testBit_or]
    cases h5 : (n / 16 * 16).testBit i <;> cases h6 : (n % 16).testBit i <;> simp_all
  rw [h3, h]; omega

theorem four (n : Nat) : cstepN 4 n = n / 16 ^^^ tbl (n % 16) := by
  conv => lhs; rw [split4 n]
  rw [cstepN_xor, cstepN_even 4 _ (by omega), tbl]
  congr 1
  omega

theorem div16_xor (a b : Nat) : (a ^^^ b) / 16 = a / 16 ^^^ b / 16 := by
  have := Nat.shiftRight_xor_distrib (a := a) (b := b) (i := 4)
  simpa [Nat.shiftRight_eq_div_pow] using this

theorem halves (n : Nat) (c : UInt8) :
    (n / 16 ^^^ tbl ((n ^^^ c.toNat) % 16)) / 16 ^^^ tbl (((n / 16 ^^^ tbl ((n ^^^ c.toNat) % 16)) ^^^ c.toNat / 16) % 16) = cbyte n c := by
  have hc : c.toNat / 16 / 16 = 0 := by have := c.toNat_lt; omega
  have e1 : n / 16 ^^^ tbl ((n ^^^ c.toNat) % 16) = cstepN 4 (n ^^^ c.toNat) ^^^ c.toNat / 16 := by
    rw [four, div16_xor, Nat.xor_assoc, Nat.xor_assoc, Nat.xor_comm (tbl _), ← Nat.xor_assoc (c.toNat / 16), Nat.xor_self, Nat.zero_xor]
  rw [e1, Nat.xor_assoc, Nat.xor_self, Nat.xor_zero, div16_xor, hc, Nat.xor_zero, ← four, cbyte, ← cstepN_add]

theorem tbl_lt {i : Nat} (h : i < 16) : tbl i < 4294967296 := cstepN_lt 4 (by omega)

end Go.Proofs.Ytobpjldpkgioaaa
