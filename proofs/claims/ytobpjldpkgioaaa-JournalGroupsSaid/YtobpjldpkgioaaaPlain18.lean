/- the plain law: what a journal's disk has, and what it tells anew -/
import Derived.Test.YtobpjldpkgioaaaLaw18
namespace Go.Proofs.Ytobpjldpkgioaaa
open Go.RowKit

/-- a group's sectors from the i-th entry on, of l; u sectors lie ahead of the group -/
def jsecs (base l u : Nat) : Nat → List (List UInt8) → List UInt8
  | _, [] => []
  | i, e :: r => jsector (base + (u + i)) (decide (i + 1 = l)) e ++ jsecs base l u (i + 1) r

def jcnt : List (List (List UInt8)) → Nat
  | [] => 0
  | g :: r => g.length + jcnt r

/-- the sectors of groups, u sectors lie ahead -/
def jall (base : Nat) : Nat → List (List (List UInt8)) → List UInt8
  | _, [] => []
  | u, g :: r => jsecs base g.length u 0 g ++ jall base (u + g.length) r

def goodG (g : List (List UInt8)) : Prop := ¬ jbad g ∧ 0 < g.length

theorem good_head {e : List UInt8} {r : List (List UInt8)} (h : ¬ jbad (e :: r)) : 1 ≤ e.length ∧ e.length ≤ 46 ∧ ¬ jbad r :=
  ⟨Nat.le_of_not_lt fun x => h ⟨e, by simp, .inl x⟩, Nat.le_of_not_lt fun x => h ⟨e, by simp, .inr x⟩, fun ⟨x, hx, hb⟩ => h ⟨x, by simp [hx], hb⟩⟩

theorem zeros_add (a b : Nat) : zeros (a + b) = zeros a ++ zeros b := by simp [zeros]
theorem zeros_len (a : Nat) : (zeros a).length = a := by simp [zeros]

theorem pad_full {b : List UInt8} (h : b.length = 64) : pad b = b := by simp [pad, h, zeros]

theorem putS_next (a s : List UInt8) (m r : Nat) (ha : a.length = 64 * m) (hs : s.length = 64) : putS (a ++ zeros (64 * (r + 1))) m s = a ++ s ++ zeros (64 * r) := by
  rw [putS, pad_full hs, splice, List.take_append_of_le_length (by omega), List.take_of_length_le (by omega), hs, show 64 * (r + 1) = 64 + 64 * r by omega, zeros_add, List.drop_append, ha, List.drop_of_length_le (l := a) (by omega), show 64 * m + 64 - 64 * m = 64 by omega, List.drop_left' (zeros_len 64)]
  simp

theorem jput_secs (base n l : Nat) (g : List (List UInt8)) : ∀ (i r : Nat) (a : List UInt8), a.length = 64 * (n + i) → ¬ jbad g → g.length ≤ r →
    jput base n l i g (a ++ zeros (64 * r)) = a ++ jsecs base l n i g ++ zeros (64 * (r - g.length)) := by
  induction g with
  | nil => intro i r a _ _ _; simp [jput, jsecs]
  | cons e g ih =>
    intro i r a ha hb hr
    obtain ⟨h1, h2, h3⟩ := good_head hb
    simp only [List.length_cons] at hr
    have hl := jsector_len (base + (n + i)) (decide (i + 1 = l)) e h2
    rw [jput, jsecs, show r = (r - 1) + 1 by omega, putS_next _ _ _ _ ha hl, ih (i + 1) (r - 1) _ (by simp [ha, hl]; omega) h3 (by omega)]
    simp only [List.append_assoc, List.length_cons]
    rw [show r - 1 - g.length = r - 1 + 1 - (g.length + 1) by omega]

theorem sect_at (a s z : List UInt8) (m : Nat) (ha : a.length = 64 * m) (hs : s.length = 64) : sect (a ++ (s ++ z)) m = s := by
  rw [sect, List.drop_append, ← ha, List.drop_length, Nat.sub_self]
  simp [← hs]

theorem jread_jsector (n : Nat) (last : Bool) (e : List UInt8) (h1 : 1 ≤ e.length) (h2 : e.length ≤ 46) : jread (jsector n last e) n = some (e, last) := by
  have hL := length_leb 8 n
  have t8 : (jsector n last e).take 8 = leb 8 n := by simp [jsector, List.append_assoc, List.take_append_of_le_length, hL]
  have d56 : (jsector n last e).drop 56 = leb 8 n := by
    rw [jsector, List.drop_append, List.drop_of_length_le (by simp [hL, zeros]; omega)]
    simp [hL, zeros]
    rw [show 56 - (8 + (e.length + (46 - e.length) + 1 + 1)) = 0 by omega]; rfl
  have g8 : (jsector n last e).getD 8 0 = if last then 1 else 0 := by simp [jsector, List.append_assoc, List.getD, List.getElem?_append, hL]
  have g9 : (jsector n last e).getD 9 0 = UInt8.ofNat e.length := by simp [jsector, List.append_assoc, List.getD, List.getElem?_append, hL]
  have d10 : (jsector n last e).drop 10 = e ++ (zeros (46 - e.length) ++ leb 8 n) := by
    simp [jsector, List.append_assoc, List.drop_append, hL]
  have n9 : (UInt8.ofNat e.length).toNat = e.length := by simp; omega
  unfold jread
  rw [if_pos ⟨t8, d56⟩, g8, g9, n9, d10]
  cases last
  · rw [if_neg (by rintro (h | h | h); exact absurd h (by decide); omega; omega)]; simp
  · rw [if_neg (by rintro (h | h | h); exact absurd h (by decide); omega; omega)]; simp

theorem leb_zero (n : Nat) : ∀ k, leb k n = zeros k → ∀ j, j < k → n / 256 ^ j % 256 = 0 := by
  intro k
  induction k with
  | zero => intro _ j hj; omega
  | succ k ih =>
    intro h j hj
    rw [leb_succ, show zeros (k + 1) = zeros k ++ [0] by rw [zeros_add]; rfl] at h
    obtain ⟨ha, hb⟩ := List.append_inj h (by simp [length_leb, zeros])
    by_cases hjk : j = k
    · subst hjk
      have := congrArg (fun l : List UInt8 => (l.getD 0 0).toNat) hb
      simpa using this
    · exact ih ha j (by omega)

theorem leb8_ne (n : Nat) (h1 : 1 ≤ n) (h2 : n < 18446744073709551616) : leb 8 n ≠ zeros 8 := by
  intro h
  have a0 := leb_zero n 8 h 0 (by decide)
  have a1 := leb_zero n 8 h 1 (by decide)
  have a2 := leb_zero n 8 h 2 (by decide)
  have a3 := leb_zero n 8 h 3 (by decide)
  have a4 := leb_zero n 8 h 4 (by decide)
  have a5 := leb_zero n 8 h 5 (by decide)
  have a6 := leb_zero n 8 h 6 (by decide)
  have a7 := leb_zero n 8 h 7 (by decide)
  simp only [Nat.reducePow, Nat.div_one] at a0 a1 a2 a3 a4 a5 a6 a7
  omega

theorem jread_zeros (n : Nat) (h1 : 1 ≤ n) (h2 : n < 18446744073709551616) : jread (zeros 64) n = none := by
  unfold jread
  rw [if_neg]
  rintro ⟨h, -⟩
  exact leb8_ne n h1 h2 h.symm

theorem jscan_empty (a : List UInt8) (base u r : Nat) (out : List (List (List UInt8))) (ha : a.length = 64 * u) (h1 : 1 ≤ base) (h2 : base + (u + r) < 18446744073709551616) :
    jscan (a ++ zeros (64 * r)) base r u [] out u = (out, u) := by
  cases r with
  | zero => rfl
  | succ r =>
    rw [jscan, show 64 * (r + 1) = 64 + 64 * r by omega, zeros_add, sect_at _ _ _ _ ha (zeros_len 64), jread_zeros _ (by omega) (by omega)]

theorem jscan_grp (base l u : Nat) (z : List UInt8) (out : List (List (List UInt8))) (k : Nat) (g : List (List UInt8)) : ∀ (i nx : Nat) (gr : List (List UInt8)) (a : List UInt8), a.length = 64 * (u + i) → ¬ jbad g → 0 < g.length → i + g.length = l →
    jscan (a ++ (jsecs base l u i g ++ z)) base (g.length + k) (u + i) gr out nx = jscan (a ++ (jsecs base l u i g ++ z)) base k (u + l) [] (out ++ [gr ++ g]) (u + l) := by
  induction g with
  | nil => intro i nx gr a _ _ h; exact absurd h (by decide)
  | cons e g ih =>
    intro i nx gr a ha hb _ hl
    obtain ⟨h1, h2, h3⟩ := good_head hb
    simp only [List.length_cons] at hl ⊢
    have hlen := jsector_len (base + (u + i)) (decide (i + 1 = l)) e h2
    rw [show g.length + 1 + k = (g.length + k) + 1 by omega]
    conv => lhs; rw [jscan]
    simp only [jsecs, List.append_assoc]
    rw [sect_at _ _ _ _ ha hlen, jread_jsector _ _ _ h1 h2]
    by_cases hg : g = []
    · subst hg
      simp only [List.length_nil, Nat.zero_add] at hl
      rw [decide_eq_true hl]
      simp only [List.length_nil, Nat.zero_add]
      rw [show u + i + 1 = u + l by omega]
    · have hpos : 0 < g.length := List.length_pos_iff.2 hg
      rw [decide_eq_false (by omega)]
      simp only
      have := ih (i + 1) nx (gr ++ [e]) (a ++ jsector (base + (u + i)) (decide (i + 1 = l)) e) (by simp [ha, hlen]; omega) h3 hpos (by omega)
      rw [decide_eq_false (by omega)] at this
      simp only [List.append_assoc, List.singleton_append] at this
      exact this

theorem jsecs_len (base l u : Nat) (g : List (List UInt8)) : ∀ i, ¬ jbad g → (jsecs base l u i g).length = 64 * g.length := by
  induction g with
  | nil => intro i _; rfl
  | cons e g ih =>
    intro i hb
    obtain ⟨h1, h2, h3⟩ := good_head hb
    rw [jsecs, List.length_append, jsector_len _ _ _ h2, ih _ h3, List.length_cons]; omega

theorem jall_len (base : Nat) (gs : List (List (List UInt8))) : ∀ u, (∀ g ∈ gs, goodG g) → (jall base u gs).length = 64 * jcnt gs := by
  induction gs with
  | nil => intro u _; rfl
  | cons g gs ih =>
    intro u h
    rw [jall, List.length_append, jsecs_len _ _ _ _ _ (h g (by simp)).1, ih _ (fun x hx => h x (by simp [hx])), jcnt]; omega

theorem jscan_all (base r : Nat) (gs : List (List (List UInt8))) : ∀ (u : Nat) (out : List (List (List UInt8))) (a : List UInt8), a.length = 64 * u → (∀ g ∈ gs, goodG g) → 1 ≤ base → base + (u + (jcnt gs + r)) < 18446744073709551616 →
    jscan (a ++ (jall base u gs ++ zeros (64 * r))) base (jcnt gs + r) u [] out u = (out ++ gs, u + jcnt gs) := by
  induction gs with
  | nil => intro u out a ha _ h1 h2; simp only [jall, jcnt, List.nil_append, Nat.zero_add, List.append_nil, Nat.add_zero]; exact jscan_empty a base u r out ha h1 (by simp [jcnt] at h2; omega)
  | cons g gs ih =>
    intro u out a ha hg h1 h2
    obtain ⟨hb, hp⟩ := hg g (by simp)
    rw [jcnt] at h2 ⊢
    rw [jall, List.append_assoc, Nat.add_assoc]
    have := jscan_grp base g.length u (jall base (u + g.length) gs ++ zeros (64 * r)) out (jcnt gs + r) g 0 u [] a ha hb hp (by omega)
    rw [Nat.add_zero] at this
    rw [this]
    have h3 := ih (u + g.length) (out ++ [[] ++ g]) (a ++ jsecs base g.length u 0 g) (by simp [ha, jsecs_len _ _ _ _ _ hb]; omega) (fun x hx => hg x (by simp [hx])) h1 (by omega)
    rw [List.append_assoc] at h3
    rw [h3]
    simp [Nat.add_assoc]

theorem jsecs_snoc (base l u : Nat) (e : List UInt8) (g : List (List UInt8)) : ∀ i, jsecs base l u i (g ++ [e]) = jsecs base l u i g ++ jsector (base + (u + (i + g.length))) (decide (i + g.length + 1 = l)) e := by
  induction g with
  | nil => intro i; simp [jsecs]
  | cons x g ih =>
    intro i
    simp only [List.cons_append, jsecs, ih, List.append_assoc, List.length_cons]
    rw [show i + 1 + g.length = i + (g.length + 1) by omega]

theorem jcnt_snoc (g : List (List UInt8)) (gs : List (List (List UInt8))) : jcnt (gs ++ [g]) = jcnt gs + g.length := by
  induction gs with
  | nil => simp [jcnt]
  | cons x gs ih => simp only [List.cons_append, jcnt, ih]; omega

theorem jall_snoc (base : Nat) (g : List (List UInt8)) (gs : List (List (List UInt8))) : ∀ u, jall base u (gs ++ [g]) = jall base u gs ++ jsecs base g.length (u + jcnt gs) 0 g := by
  induction gs with
  | nil => intro u; simp [jall, jcnt]
  | cons x gs ih => intro u; simp only [List.cons_append, jall, ih, jcnt, List.append_assoc, Nat.add_assoc]

/-- the disk's bytes behind the groups gs, n sectors in all -/
def jdisk (base n : Nat) (gs : List (List (List UInt8))) : List UInt8 := jall base 0 gs ++ zeros (64 * (n - jcnt gs))

theorem jdisk_put (base n : Nat) (gs : List (List (List UInt8))) (g : List (List UInt8)) (h : ∀ g ∈ gs, goodG g) (hg : ¬ jbad g) (hn : jcnt gs + g.length ≤ n) :
    jput base (jcnt gs) g.length 0 g (jdisk base n gs) = jdisk base n (gs ++ [g]) := by
  rw [jdisk, jput_secs _ _ _ _ 0 (n - jcnt gs) _ (jall_len base gs 0 h) hg (by omega), jdisk, jall_snoc, jcnt_snoc, Nat.zero_add, Nat.sub_sub]

theorem jdisk_scan (base n : Nat) (gs : List (List (List UInt8))) (h : ∀ g ∈ gs, goodG g) (hn : jcnt gs ≤ n) (h1 : 1 ≤ base) (h2 : base + n < 18446744073709551616) :
    jscan (jdisk base n gs) base n 0 [] [] 0 = (gs, jcnt gs) := by
  have := jscan_all base (n - jcnt gs) gs 0 [] [] rfl h h1 (by omega)
  rw [show jcnt gs + (n - jcnt gs) = n by omega] at this
  simpa [jdisk] using this

theorem jdisk_take (base n : Nat) (gs : List (List (List UInt8))) (h : ∀ g ∈ gs, goodG g) : ((jdisk base n gs).drop (64 * 0)).take (64 * jcnt gs) = jall base 0 gs := by
  rw [Nat.mul_zero, List.drop_zero, jdisk, ← jall_len base gs 0 h, List.take_left']
  rfl

end Go.Proofs.Ytobpjldpkgioaaa
