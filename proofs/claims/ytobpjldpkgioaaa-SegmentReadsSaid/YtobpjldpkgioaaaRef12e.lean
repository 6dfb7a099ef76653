/- ref12: parse is record's parse -/
import Derived.Test.YtobpjldpkgioaaaRef12b
import Derived.Test.YtobpjldpkgioaaaRef12c
import Derived.Test.YtobpjldpkgioaaaRef12d
set_option linter.unusedVariables false
set_option linter.unusedSimpArgs false
namespace Go.Proofs.Ytobpjldpkgioaaa
open Go.RowKit

theorem rend_zero {b : List UInt8} {e : Nat} : rend b e = 0 ↔ e = 0 ∧ b = [] := by
  unfold rend
  by_cases he : e = 0
  · subst he
    rw [if_neg (by simp)]
    cases b <;> simp
  · rw [if_pos he]; simp [he]

theorem rnum_zero {M : Nat} {b : List UInt8} (h1 : (vnext b).2.2 = 0) (h2 : (vnext b).1 ≤ M) : rnum M b 0 = ((vnext b).1, b.drop (vnext b).2.1, 0) := by
  rw [rnum, if_neg (by simp), if_neg (by simp [h1]), if_neg (by omega)]
theorem rnum_err {M : Nat} {b : List UInt8} (h1 : ¬ (vnext b).2.2 = 0) : rnum M b 0 = (0, b, (vnext b).2.2) := by
  rw [rnum, if_neg (by simp), if_pos h1]
theorem rnum_long {M : Nat} {b : List UInt8} (h1 : (vnext b).2.2 = 0) (h2 : M < (vnext b).1) : rnum M b 0 = (0, b, 5) := by
  rw [rnum, if_neg (by simp), if_neg (by simp [h1]), if_pos h2]
theorem rnum_failed {M : Nat} {b : List UInt8} {e : Nat} (h : ¬ e = 0) : rnum M b e = (0, b, e) := by rw [rnum, if_pos h]

theorem vnext_lt (b : List UInt8) : (vnext b).1 < 18446744073709551616 := vgo_lt b 0 0 (by omega) (by decide)

theorem qp1 (w : World) (v : Value) (r : List UInt8) (hb : isB w v (1 :: r)) (hr : r.length ≤ 100000) : Calls Try.prog 98 #[v] w (QparsePost w (rparse (1 :: r))) := by
  have l1 := rnum_lt 1099511627776 r 0
  have l2 := rnum_lt 1099511627776 (rnum 1099511627776 r 0).2.1 (rnum 1099511627776 r 0).2.2
  rw [rparse, if_pos rfl]
  obtain ⟨n1, b1, e1, hx⟩ : ∃ n b1 e1, rnum 1099511627776 r 0 = (n, b1, e1) := ⟨_, _, _, rfl⟩
  rw [hx] at l1 l2 ⊢
  dsimp only at l1 l2 ⊢
  obtain ⟨n2, b2, e2, hy⟩ : ∃ n b2 e2, rnum 1099511627776 b1 e1 = (n, b2, e2) := ⟨_, _, _, rfl⟩
  rw [hy] at l2 ⊢
  dsimp only at l2 ⊢
  refine qwalk_1 w v r hb hr n1 n2 b1 b2 e1 e2 hx hy _ (fun he hbe _ => if_pos (rend_zero.2 ⟨he, hbe⟩)) (fun h => if_neg fun hz => ?_)
  have hz2 := rend_zero.1 hz
  exact h ⟨hz2.1, hz2.2, by rw [right, if_pos rfl]; dsimp only; exact ⟨rfl, by omega, by omega, by omega, by omega⟩⟩

theorem right_2i {n : Nat} {b : List UInt8} : right (rec2 n b) ↔ ((n : Int) < 256 ∧ 1 ≤ (b.length : Int) / 32 ∧ (b.length : Int) / 32 ≤ 4 ∧ (n : Int) + (b.length : Int) / 32 ≤ 256 ∧ (b.length : Int) = 32 * ((b.length : Int) / 32)) := by
  rw [right, if_neg (by dsimp only [rec2]; decide), if_pos rfl]
  dsimp only [rec2]
  constructor
  · rintro ⟨-, h⟩; omega
  · intro h; exact ⟨rfl, by omega⟩

theorem qp2 (w : World) (v : Value) (r : List UInt8) (hb : isB w v (2 :: r)) (hr : r.length ≤ 100000) : Calls Try.prog 98 #[v] w (QparsePost w (rparse (2 :: r))) := by
  rw [rparse, if_neg (by decide), if_pos rfl]
  have e0 := @rnum_err 255 r
  have e1 := @rnum_zero 255 r
  have e2 := @rnum_long 255 r
  obtain ⟨n, s, e, hx⟩ : ∃ n s e, vnext r = (n, s, e) := ⟨_, _, _, rfl⟩
  rw [hx] at e0 e1 e2 ⊢
  dsimp only at e0 e1 e2 ⊢
  by_cases he : e = 0
  · by_cases hn : n ≤ 255
    · refine qwalk_2 w v r hb hr _ _ _ (e1 he hn) _ (fun _ hrt => ?_) (fun h => ?_)
      · rw [right_2i] at hrt
        rw [if_neg (by omega), rdata, if_neg (by omega)]
        simp
      · rw [right_2i] at h
        rw [if_neg (by omega), rdata, if_pos (by omega)]
    · refine qwalk_2 w v r hb hr _ _ _ (e2 he (by omega)) _ (fun h => absurd h (by decide)) (fun _ => if_pos (.inr (by omega)))
  · exact qwalk_2 w v r hb hr _ _ _ (e0 he) _ (fun h => absurd h he) (fun _ => if_pos (.inl he))

theorem qp3 (w : World) (v : Value) (r : List UInt8) (hb : isB w v (3 :: r)) (hr : r.length ≤ 100000) : Calls Try.prog 98 #[v] w (QparsePost w (rparse (3 :: r))) := by
  have l1 := rnum_lt 255 r 0
  have l2 := rnum_lt 256 (rnum 255 r 0).2.1 (rnum 255 r 0).2.2
  rw [rparse, if_neg (by decide), if_neg (by decide), if_pos rfl]
  obtain ⟨n1, b1, e1, hx⟩ : ∃ n b1 e1, rnum 255 r 0 = (n, b1, e1) := ⟨_, _, _, rfl⟩
  rw [hx] at l1 l2 ⊢
  dsimp only at l1 l2 ⊢
  obtain ⟨n2, b2, e2, hy⟩ : ∃ n b2 e2, rnum 256 b1 e1 = (n, b2, e2) := ⟨_, _, _, rfl⟩
  rw [hy] at l2 ⊢
  dsimp only at l2 ⊢
  have hri : right (⟨3, 0, 0, n1, n2, [], 0, 0, 0⟩ : Rec) ↔ n1 < n2 := by
    rw [right, if_neg (show ¬ (3 : UInt8) = 1 by decide), if_neg (show ¬ (3 : UInt8) = 2 by decide), if_pos rfl]
    dsimp only
    constructor
    · rintro ⟨-, h⟩; omega
    · intro h; exact ⟨rfl, by omega⟩
  refine qwalk_3 w v r hb hr n1 n2 b1 b2 e1 e2 hx hy _ (fun he hbe hrt => if_pos ⟨rend_zero.2 ⟨he, hbe⟩, hri.1 hrt⟩) (fun h => if_neg fun hz => ?_)
  have hz2 := rend_zero.1 hz.1
  exact h ⟨hz2.1, hz2.2, hri.2 hz.2⟩

theorem qp4 (w : World) (v : Value) (r : List UInt8) (hb : isB w v (4 :: r)) (hr : r.length ≤ 100000) : Calls Try.prog 98 #[v] w (QparsePost w (rparse (4 :: r))) := by
  have l1 := rnum_lt 1099511627776 r 0
  have l2 := rnum_lt 1099511627776 (rnum 1099511627776 r 0).2.1 (rnum 1099511627776 r 0).2.2
  rw [rparse, if_neg (by decide), if_neg (by decide), if_neg (by decide), if_pos rfl]
  obtain ⟨n1, b1, e1, hx⟩ : ∃ n b1 e1, rnum 1099511627776 r 0 = (n, b1, e1) := ⟨_, _, _, rfl⟩
  rw [hx] at l1 l2 ⊢
  dsimp only at l1 l2 ⊢
  obtain ⟨n2, b2, e2, hy⟩ : ∃ n b2 e2, rnum 1099511627776 b1 e1 = (n, b2, e2) := ⟨_, _, _, rfl⟩
  rw [hy] at l2 ⊢
  dsimp only at l2 ⊢
  have hri : ∀ n3 : Nat, right (⟨4, 0, 0, 0, 0, [], n1, n2, n3⟩ : Rec) ↔ n3 < 2305843009213693951 := fun n3 => by
    rw [right, if_neg (show ¬ (4 : UInt8) = 1 by decide), if_neg (show ¬ (4 : UInt8) = 2 by decide), if_neg (show ¬ (4 : UInt8) = 3 by decide), if_pos rfl]
    dsimp only
    constructor
    · rintro ⟨-, h⟩; omega
    · intro h; exact ⟨rfl, by omega⟩
  by_cases he : e2 = 0
  · subst he
    have hv := vnext_lt b2
    by_cases hz : (vnext b2).2.2 = 0
    · refine qwalk_4 w v r hb hr n1 n2 _ b1 b2 _ e1 0 _ hx hy (rnum_zero hz (by omega)) _ (fun _ hbe hrt => ?_) (fun h => ?_)
      · rw [hri] at hrt
        rw [rnum_zero hz (by omega)]
        dsimp only
        exact if_pos (rend_zero.2 ⟨rfl, hbe⟩)
      · rw [hri] at h
        by_cases hn : (vnext b2).1 < 2305843009213693951
        · rw [rnum_zero hz (by omega)]
          dsimp only
          exact if_neg fun hz => h ⟨rfl, (rend_zero.1 hz).2, hn⟩
        · rw [rnum_long hz (by omega)]
          dsimp only
          exact if_neg fun hz => absurd (rend_zero.1 hz).1 (by decide)
    · refine qwalk_4 w v r hb hr n1 n2 _ b1 b2 _ e1 0 _ hx hy (rnum_err hz) _ (fun h => absurd h hz) (fun h => ?_)
      rw [rnum_err hz]
      dsimp only
      exact if_neg fun h => hz (rend_zero.1 h).1
  · refine qwalk_4 w v r hb hr n1 n2 _ b1 b2 _ e1 e2 _ hx hy (rnum_failed he) _ (fun h => absurd h he) (fun h => ?_)
    rw [rnum_failed he]
    dsimp only
    exact if_neg fun h => he (rend_zero.1 h).1

theorem qparse_spec (w : World) (v : Value) (bs : List UInt8) (hb : isB w v bs) (hl : bs.length ≤ 100000) :
    Calls Try.prog 98 #[v] w (QparsePost w (rparse bs)) := by
  cases bs with
  | nil => exact qwalk_e w v hb
  | cons k r =>
    have hr : r.length ≤ 100000 := by simp at hl; omega
    by_cases h1 : k = 1
    · subst h1; exact qp1 w v r hb hr
    · by_cases h2 : k = 2
      · subst h2; exact qp2 w v r hb hr
      · by_cases h3 : k = 3
        · subst h3; exact qp3 w v r hb hr
        · by_cases h4 : k = 4
          · subst h4; exact qp4 w v r hb hr
          · have : rparse (k :: r) = none := by rw [rparse, if_neg h1, if_neg h2, if_neg h3, if_neg h4]
            rw [this]
            exact qwalk_0 w v k r hb h1 h2 h3 h4
end Go.Proofs.Ytobpjldpkgioaaa
