/- a record's bytes are read as it; no program in sight -/
import Derived.Test.YtobpjldpkgioaaaRef12e
set_option linter.unusedVariables false
set_option linter.unusedSimpArgs false
namespace Go.Proofs.Ytobpjldpkgioaaa
open Go.RowKit

theorem vgo_enc : ∀ (f m i acc : Nat) (rest : List UInt8), i + f = 10 → 1 ≤ f → m < 128 ^ f → m * 128 ^ i < 18446744073709551616 → (0 < i → 0 < m) →
    vgo i acc (vnumF f m ++ rest) = (acc + m * 128 ^ i, i + (vnumF f m).length, 0) := by
  intro f
  induction f with
  | zero => intro m i acc rest _ h; omega
  | succ f ih =>
    intro m i acc rest hif _ hm h64 hpos
    by_cases h128 : m < 128
    · have hc : (UInt8.ofNat m).toNat = m := by simp; omega
      rw [vnumF, if_pos h128, List.singleton_append, vgo, hc, if_neg, if_pos h128, Nat.mod_eq_of_lt h128]
      · simp
      · rintro (⟨h9, h1⟩ | ⟨h0, h1⟩)
        · subst h9; simp only [Nat.reducePow] at h64; omega
        · have := hpos h0; omega
    · have hf : 1 ≤ f := by
        rcases Nat.eq_zero_or_pos f with h | h
        · subst h; simp only [Nat.zero_add, Nat.pow_one] at hm; omega
        · exact h
      have hc : (UInt8.ofNat (m % 128 + 128)).toNat = m % 128 + 128 := by simp; omega
      have hp : 128 ^ (i + 1) = 128 ^ i * 128 := Nat.pow_succ 128 i
      have hmd : m / 128 * (128 ^ i * 128) ≤ m * 128 ^ i := by
        rw [Nat.mul_comm (128 ^ i) 128, ← Nat.mul_assoc]; exact Nat.mul_le_mul_right _ (Nat.div_mul_le_self _ _)
      rw [vnumF, if_neg h128, List.cons_append, vgo, hc, if_neg (by omega), if_neg (by omega)]
      rw [ih (m / 128) (i + 1) _ rest (by omega) hf (by rw [Nat.div_lt_iff_lt_mul (by decide), ← Nat.pow_succ]; exact hm) (by rw [hp]; omega) (by intro _; omega)]
      refine Prod.ext ?_ (Prod.ext ?_ rfl)
      · show acc + (m % 128 + 128) % 128 * 128 ^ i + m / 128 * 128 ^ (i + 1) = acc + m * 128 ^ i
        rw [hp, show (m % 128 + 128) % 128 = m % 128 by omega, Nat.mul_comm (128 ^ i) 128, ← Nat.mul_assoc, Nat.add_assoc, ← Nat.add_mul]
        congr 2; omega
      · show i + 1 + (vnumF f (m / 128)).length = i + (List.length (_ :: vnumF f (m / 128)))
        rw [List.length_cons]; omega

theorem vnext_enc (n : Nat) (rest : List UInt8) (hn : n < 18446744073709551616) : vnext (vnum n ++ rest) = (n, (vnum n).length, 0) := by
  have := vgo_enc 10 n 0 0 rest rfl (by decide) (by simp only [Nat.reducePow]; omega) (by simpa using hn) (by omega)
  simpa using this

theorem rnum_enc (M n : Nat) (rest : List UInt8) (hn : n < 18446744073709551616) (hM : n ≤ M) : rnum M (vnum n ++ rest) 0 = (n, rest, 0) := by
  have h := vnext_enc n rest hn
  rw [rnum_zero (by rw [h]) (by rw [h]; exact hM), h]
  simp

theorem opened_sealed (b : List UInt8) : opened (sealed b) = some b := by
  have hl := length_sealed b
  have ht : (sealed b).take ((sealed b).length - 4) = b := by rw [hl]; simp [sealed]
  rw [opened, if_neg (by omega), ht, if_pos rfl]

theorem rbytes_enc (s : List UInt8) (h : s.length ≤ 200) : rbytes 200 (vtexts [s]) 0 = (s, [], 0) := by
  have e : vtexts [s] = vnum s.length ++ s := by simp [vtexts]
  have hr := rnum_enc 200 s.length s (by omega) h
  rw [e, rbytes, hr, if_neg (by simp), if_neg (by simp)]
  simp

theorem u64n_nat {x : Int} (h0 : 0 ≤ x) (h1 : x < 18446744073709551616) : ((u64n x : Nat) : Int) = x := by unfold u64n; omega

theorem vnums2 (a b : Nat) : vnums [a, b] = vnum a ++ (vnum b ++ []) := by simp [vnums]
theorem vnums3 (a b c : Nat) : vnums [a, b, c] = vnum a ++ (vnum b ++ (vnum c ++ [])) := by simp [vnums]
theorem vnums1 (a : Nat) : vnums [a] = vnum a := by simp [vnums]

theorem rparse_rbody {x : Rec} (h : right x) : rparse (rbody x) = some x := by
  obtain ⟨k, i, b, f, t, bl, c, l, s⟩ := x
  unfold right at h
  unfold rbody
  dsimp only at h ⊢
  by_cases h1 : k = 1
  · subst h1
    rw [if_pos rfl] at h ⊢
    obtain ⟨he, g1, g2, g3, g4⟩ := h
    simp only [Rec.mk.injEq, true_and] at he
    obtain ⟨rfl, rfl, rfl, rfl, rfl, rfl⟩ := he
    have hi := u64n_nat g1 (by omega)
    have hb := u64n_nat g3 (by omega)
    generalize u64n i = i' at *
    generalize u64n b = b' at *
    subst hi hb
    rw [rparse, if_pos rfl, vnums2, rnum_enc _ _ _ (by omega) (by omega)]
    dsimp only
    rw [rnum_enc _ _ _ (by omega) (by omega)]
    exact if_pos rfl
  · rw [if_neg h1] at h ⊢
    by_cases h2 : k = 2
    · subst h2
      rw [if_pos rfl] at h ⊢
      obtain ⟨he, g1, g2, g3, g4, g5, g6⟩ := h
      simp only [Rec.mk.injEq, true_and] at he
      obtain ⟨rfl, rfl, rfl, rfl, rfl⟩ := he
      have hf := u64n_nat g1 (by omega)
      generalize u64n f = f' at *
      subst hf
      rw [rparse, if_neg (by decide), if_pos rfl, vnums1, vnext_enc _ _ (by omega)]
      dsimp only
      rw [if_neg (by omega), List.drop_left, rdata, if_neg (by omega)]
      simp only [Option.some.injEq, Rec.mk.injEq, true_and, and_true]
      omega
    · rw [if_neg h2] at h ⊢
      by_cases h3 : k = 3
      · subst h3
        rw [if_pos rfl] at h ⊢
        obtain ⟨he, g1, g2, g3⟩ := h
        simp only [Rec.mk.injEq, true_and] at he
        obtain ⟨rfl, rfl, rfl, rfl, rfl, rfl⟩ := he
        have hf := u64n_nat g1 (by omega)
        have ht := u64n_nat (x := t) (by omega) (by omega)
        generalize u64n f = f' at *
        generalize u64n t = t' at *
        subst hf ht
        rw [rparse, if_neg (by decide), if_neg (by decide), if_pos rfl, vnums2, rnum_enc _ _ _ (by omega) (by omega)]
        dsimp only
        rw [rnum_enc _ _ _ (by omega) (by omega)]
        exact if_pos ⟨rfl, by omega⟩
      · rw [if_neg h3] at h ⊢
        by_cases h4 : k = 4
        · subst h4
          rw [if_pos rfl] at h
          obtain ⟨he, g1, g2, g3, g4⟩ := h
          simp only [Rec.mk.injEq, true_and] at he
          obtain ⟨rfl, rfl, rfl, rfl, rfl, -⟩ := he
          have hc := u64n_nat g1 (by omega)
          generalize u64n c = c' at *
          subst hc
          rw [rparse, if_neg (by decide), if_neg (by decide), if_neg (by decide), if_pos rfl, vnums3, rnum_enc _ _ _ (by omega) (by omega)]
          dsimp only
          rw [rnum_enc _ _ _ (by omega) (by omega)]
          dsimp only
          rw [rnum_enc _ _ _ (by omega) (by omega)]
          exact if_pos rfl
        · rw [if_neg h4] at h; exact h.elim

theorem right_len {x : Rec} (h : right x) : x.blocks.length ≤ 128 := by
  unfold right at h
  split at h
  · have := congrArg Rec.blocks h.1; dsimp only at this; rw [this]; simp
  · split at h
    · omega
    · split at h
      · have := congrArg Rec.blocks h.1; dsimp only at this; rw [this]; simp
      · split at h
        · have := congrArg Rec.blocks h.1; dsimp only at this; rw [this]; simp
        · exact h.elim

theorem rread_rbytesP {x : Rec} (h : right x) : rread (rbytesP x) = (x, 0) := by
  have h1 := rbody_len x
  have h2 := right_len h
  have h3 := length_sealed (rbody x)
  rw [rread, rbytesP, rbytes_enc _ (by omega), if_neg (by simp)]
  dsimp only
  rw [opened_sealed]
  dsimp only
  rw [rparse_rbody h]

theorem rparse_right {bs : List UInt8} {x : Rec} (h : rparse bs = some x) : right x := by
  cases bs with
  | nil => simp [rparse] at h
  | cons k r =>
    rw [rparse] at h
    by_cases h1 : k = 1
    · rw [if_pos h1] at h
      have l1 := rnum_lt 1099511627776 r 0
      have l2 := rnum_lt 1099511627776 (rnum 1099511627776 r 0).2.1 (rnum 1099511627776 r 0).2.2
      split at h
      · obtain rfl := Option.some.inj h
        rw [right, if_pos rfl]; dsimp only; exact ⟨rfl, by omega, by omega, by omega, by omega⟩
      · simp at h
    · rw [if_neg h1] at h
      by_cases h2 : k = 2
      · rw [if_pos h2] at h
        split at h
        · simp at h
        · rename_i hn
          unfold rdata at h
          split at h
          · simp at h
          · rename_i hd
            obtain rfl := Option.some.inj h
            rw [right, if_neg (show ¬ (2 : UInt8) = 1 by decide), if_pos rfl]; dsimp only
            exact ⟨rfl, by omega, by omega, by omega, by omega, by omega, by omega⟩
      · rw [if_neg h2] at h
        by_cases h3 : k = 3
        · rw [if_pos h3] at h
          have l1 := rnum_lt 255 r 0
          have l2 := rnum_lt 256 (rnum 255 r 0).2.1 (rnum 255 r 0).2.2
          split at h
          · rename_i hz
            obtain rfl := Option.some.inj h
            rw [right, if_neg (show ¬ (3 : UInt8) = 1 by decide), if_neg (show ¬ (3 : UInt8) = 2 by decide), if_pos rfl]; dsimp only
            exact ⟨rfl, by omega, by omega, by omega⟩
          · simp at h
        · rw [if_neg h3] at h
          by_cases h4 : k = 4
          · rw [if_pos h4] at h
            have l1 := rnum_lt 1099511627776 r 0
            have l2 := rnum_lt 1099511627776 (rnum 1099511627776 r 0).2.1 (rnum 1099511627776 r 0).2.2
            have l3 := rnum_lt 2305843009213693950 (rnum 1099511627776 (rnum 1099511627776 r 0).2.1 (rnum 1099511627776 r 0).2.2).2.1 (rnum 1099511627776 (rnum 1099511627776 r 0).2.1 (rnum 1099511627776 r 0).2.2).2.2
            dsimp only at h
            split at h
            · obtain rfl := Option.some.inj h
              rw [right, if_neg (show ¬ (4 : UInt8) = 1 by decide), if_neg (show ¬ (4 : UInt8) = 2 by decide), if_neg (show ¬ (4 : UInt8) = 3 by decide), if_pos rfl]; dsimp only
              exact ⟨rfl, by omega, by omega, by omega, by omega⟩
            · simp at h
          · rw [if_neg h4] at h; simp at h

theorem rread_right {bs : List UInt8} {x : Rec} (h : rread bs = (x, 0)) : right x := by
  unfold rread at h
  split at h
  · rename_i h0
    simp only [Prod.mk.injEq] at h; exact absurd h.2 h0
  · split at h
    · simp at h
    · split at h
      · simp at h
      · rename_i hp
        simp only [Prod.mk.injEq, and_true] at h
        subst h
        exact rparse_right hp
end Go.Proofs.Ytobpjldpkgioaaa
