/- rows whose elements are rows: read, and made by a call -/
import Derived.Test.YtobpjldpkgioaaaBase
namespace Go.Proofs.Ytobpjldpkgioaaa
open Go.RowKit

/-- v reads in w as a row of one-cell values that read as the xs -/
def isS {α : Type} (R : World → Value → α → Prop) (w : World) (v : Value) (xs : List α) : Prop :=
  ∃ ao cap, v = .slice ao xs.length cap ∧ xs.length ≤ cap ∧ cap ≤ maxLen ∧ (ao = none → cap = 0) ∧
    ∀ a, ao = some a → (0 < cap → a.spot = none) ∧ ∀ i x, xs[i]? = some x → ∃ u, w.cell? ⟨a.block, a.off + i, none⟩ = some u ∧ R w u x

abbrev isBs : World → Value → List (List UInt8) → Prop := isS isB
abbrev isBss : World → Value → List (List (List UInt8)) → Prop := isS isBs

/-- R stays where the world grows -/
def Grows {α : Type} (R : World → Value → α → Prop) : Prop := ∀ w w' u x, R w u x → Below w.heap.size w w' → R w' u x

theorem isS.below {α : Type} {R : World → Value → α → Prop} (hR : Grows R) {w w' : World} {v : Value} {xs : List α} (h : isS R w v xs) (hb : Below w.heap.size w w') : isS R w' v xs := by
  obtain ⟨ao, cap, rfl, h1, h2, h3, h4⟩ := h
  refine ⟨ao, cap, rfl, h1, h2, h3, fun a ha => ⟨(h4 a ha).1, fun i x hx => ?_⟩⟩
  obtain ⟨u, hu, hr⟩ := (h4 a ha).2 i x hx
  exact ⟨u, by rw [hb.cell (World.block_lt_of_cell? w _ hu)]; exact hu, hR _ _ _ _ hr hb⟩

theorem grows_B : Grows isB := fun _ _ _ _ h hb => h.below hb
theorem grows_Bs : Grows isBs := fun _ _ _ _ h hb => isS.below grows_B h hb
theorem grows_Bss : Grows isBss := fun _ _ _ _ h hb => isS.below grows_Bs h hb

theorem isS.nil {α : Type} (R : World → Value → α → Prop) (w : World) : isS R w (.slice none 0 0) ([] : List α) :=
  ⟨none, 0, rfl, Nat.le_refl _, by simp [maxLen], fun _ => rfl, fun _ h => nomatch h⟩

theorem isS.len {α : Type} {R : World → Value → α → Prop} {w : World} {v : Value} {xs : List α} (h : isS R w v xs) : xs.length ≤ maxLen := by
  obtain ⟨ao, cap, rfl, h1, h2, h3, h4⟩ := h; omega

theorem isS.at {α : Type} {R : World → Value → α → Prop} {w : World} {ao : Option Addr} {n cap : Nat} {xs : List α} (h : isS R w (.slice ao n cap) xs) {j : Nat} (hj : j < xs.length) :
    ∃ b off, ao = some ⟨b, off, none⟩ ∧ ∀ i x, xs[i]? = some x → ∃ u, w.cell? ⟨b, off + i, none⟩ = some u ∧ R w u x := by
  obtain ⟨ao', cap', e, g1, g2, g3, g4⟩ := h
  simp only [Value.slice.injEq] at e
  obtain ⟨rfl, rfl, rfl⟩ := e
  cases ao with
  | none => have := g3 rfl; omega
  | some a =>
    obtain ⟨h5, h6⟩ := g4 a rfl
    replace h5 := h5 (by omega)
    obtain ⟨b, off, sp⟩ := a
    simp only at h5 h6
    subst h5
    exact ⟨b, off, rfl, h6⟩

theorem isS.shape {α : Type} {R : World → Value → α → Prop} {w : World} {v : Value} {xs : List α} (h : isS R w v xs) {n : Nat} (hn : xs.length = n) : ∃ ao cap, v = .slice ao n cap ∧ n ≤ cap ∧ cap ≤ maxLen := by
  obtain ⟨ao, cap, rfl, h1, h2, -, -⟩ := h
  exact ⟨ao, cap, by rw [hn], by omega, h2⟩

/-- v is a row of one-cell values that was made behind block B, they read as the xs -/
def ownS {α : Type} (R : World → Value → α → Prop) (w : World) (e B : Nat) (v : Value) (xs : List α) : Prop :=
  ∃ us : List Value, w.ownsRow B e 1 v xs.length us ∧ ∀ (i : Nat) (x : α), xs[i]? = some x → ∃ u, us[i]? = some u ∧ R w u x

theorem ownS.nil {α : Type} (R : World → Value → α → Prop) (w : World) (e B : Nat) : ownS R w e B (.slice none 0 0) ([] : List α) :=
  ⟨[], World.ownsRow_nil w B e 1, fun i x h => by simp at h⟩

theorem ownS.below {α : Type} {R R' : World → Value → α → Prop} {w w' : World} {e B : Nat} {v : Value} {xs : List α} (h : ownS R w e B v xs) (hb : Below w.heap.size w w') (hR : ∀ u x, R w u x → R' w' u x) : ownS R' w' e B v xs := by
  obtain ⟨us, h1, h2⟩ := h
  exact ⟨us, ownsRow_below h1 hb, fun i x hx => let ⟨u, hu, hr⟩ := h2 i x hx; ⟨u, hu, hR _ _ hr⟩⟩

theorem ownsRow_keeps {w w' : World} {e B size n : Nat} {v : Value} {xs : List Value} (h : w.ownsRow B e size v n xs) (hb : ∀ k, v.ownBlock = some k → w'.heap[k]? = w.heap[k]?) : w'.ownsRow B e size v n xs := by
  obtain ⟨hl, h⟩ := h
  refine ⟨hl, ?_⟩
  rcases h with h | ⟨g, cap, cur, rfl, hg, hh, r⟩
  · exact .inl h
  · exact .inr ⟨g, cap, cur, rfl, hg, by rw [hb g rfl]; exact hh, r⟩

theorem ownS.keeps {α : Type} {R R' : World → Value → α → Prop} {w w' : World} {e B : Nat} {v : Value} {xs : List α} (h : ownS R w e B v xs) (hb : ∀ k, v.ownBlock = some k → w'.heap[k]? = w.heap[k]?) (hR : ∀ u x, R w u x → R' w' u x) : ownS R' w' e B v xs := by
  obtain ⟨us, h1, h2⟩ := h
  exact ⟨us, ownsRow_keeps h1 hb, fun i x hx => let ⟨u, hu, hr⟩ := h2 i x hx; ⟨u, hu, hR _ _ hr⟩⟩

theorem ownS.isS {α : Type} {R : World → Value → α → Prop} {w : World} {e B : Nat} {v : Value} {xs : List α} (h : ownS R w e B v xs) : isS R w v xs := by
  obtain ⟨us, ⟨hl, h⟩, h2⟩ := h
  rcases h with ⟨rfl, h0⟩ | ⟨g, cap, cur, rfl, hg, hh, h1, h3, h4, h5⟩
  · have : xs = [] := List.eq_nil_of_length_eq_zero h0
    subst this; exact isS.nil R w
  · refine ⟨some ⟨g, 0, none⟩, cap, rfl, h1, h3, nofun, ?_⟩
    rintro a ha
    obtain rfl := Option.some.inj ha
    refine ⟨fun _ => rfl, fun i x hx => ?_⟩
    obtain ⟨u, hu, hr⟩ := h2 i x hx
    refine ⟨u, ?_, hr⟩
    rw [cell_of_row w g _ _ _ _ hh]
    rw [← h5, List.getElem?_take] at hu
    have hi : i < xs.length := (List.getElem?_eq_some_iff.1 hx).1
    simp only [Nat.mul_one, hi, if_true] at hu
    simpa using hu

theorem ownS.lt {α : Type} {R : World → Value → α → Prop} {w : World} {e B : Nat} {v : Value} {xs : List α} (h : ownS R w e B v xs) : ∀ k, v.ownBlock = some k → B ≤ k ∧ k < w.heap.size := by
  obtain ⟨us, h1, h2⟩ := h; exact h1.lt

/-- the elements, and one more -/
theorem elems_snoc {α : Type} {R R' : Value → α → Prop} {us : List Value} {xs : List α} {u : Value} {x : α} (hl : us.length = xs.length) (hus : ∀ (i : Nat) (x : α), xs[i]? = some x → ∃ u, us[i]? = some u ∧ R u x)
    (hR : ∀ u x, R u x → R' u x) (hu : R' u x) : ∀ (i : Nat) (y : α), (xs ++ [x])[i]? = some y → ∃ z, (us ++ [u])[i]? = some z ∧ R' z y := by
  intro i y hy
  by_cases hi : i < xs.length
  · rw [List.getElem?_append_left hi] at hy
    obtain ⟨z, hz, hr⟩ := hus i y hy
    exact ⟨z, by rw [List.getElem?_append_left (by omega)]; exact hz, hR _ _ hr⟩
  · have hi2 : i = xs.length := by
      have := (List.getElem?_eq_some_iff.1 hy).1; simp at this; omega
    subst hi2
    rw [List.getElem?_append_right (Nat.le_refl _)] at hy
    simp at hy
    subst hy
    exact ⟨u, by rw [List.getElem?_append_right (by omega), hl]; simp, hu⟩

/-- block k of w has elements of type e -/
def typ (w : World) (k e : Nat) : Prop := ∃ cs fz, w.heap[k]? = some (.cells cs e fz)

/-- below block B, but for blocks of elements of type e, the world is as it was -/
structure BelowX (e B : Nat) (w w' : World) : Prop where
  size : w.heap.size ≤ w'.heap.size
  block : ∀ k, k < B → k < w.heap.size → ¬ typ w k e → w'.heap[k]? = w.heap[k]?

theorem BelowX.trans {e B : Nat} {a b c : World} (h : BelowX e B a b) (k : BelowX e B b c) : BelowX e B a c :=
  ⟨Nat.le_trans h.size k.size, fun i hi hs ht => by
    have h1 := h.block i hi hs ht
    have ht2 : ¬ typ b i e := fun ⟨cs, fz, h2⟩ => ht ⟨cs, fz, by rw [← h1]; exact h2⟩
    rw [k.block i hi (Nat.lt_of_lt_of_le hs h.size) ht2, h1]⟩
theorem BelowX.ofBelow {e B : Nat} {w w' : World} (h : Below B w w') : BelowX e B w w' := ⟨h.size, fun k hk _ _ => h.block k hk⟩
theorem BelowX.mono {e B B' : Nat} {w w' : World} (h : BelowX e B w w') (hB : B' ≤ B) : BelowX e B' w w' := ⟨h.size, fun k hk => h.block k (by omega)⟩
theorem BelowX.refl (e B : Nat) (w : World) : BelowX e B w w := ⟨Nat.le_refl _, fun _ _ _ _ => rfl⟩

/-- R holds here, and wherever the world below B is as it was but for blocks of type e -/
def Stab {α : Type} (e B : Nat) (R : World → Value → α → Prop) (w : World) (u : Value) (x : α) : Prop := ∀ w', BelowX e B w w' → R w' u x

theorem Stab.here {α : Type} {e B : Nat} {R : World → Value → α → Prop} {w : World} {u : Value} {x : α} (h : Stab e B R w u x) : R w u x := h w (BelowX.refl _ _ _)
theorem Stab.next {α : Type} {e B B' : Nat} {R : World → Value → α → Prop} {w w' : World} {u : Value} {x : α} (h : Stab e B R w u x) (hb : BelowX e B w w') (hB : B ≤ B') : Stab e B' R w' u x :=
  fun w2 h2 => h w2 (hb.trans (h2.mono hB))

theorem ownS.typ_of {α : Type} {R : World → Value → α → Prop} {w : World} {e B : Nat} {v : Value} {xs : List α} (h : ownS R w e B v xs) : ∀ k, v.ownBlock = some k → typ w k e := by
  obtain ⟨us, ⟨hl, h⟩, h2⟩ := h
  intro k hk
  rcases h with ⟨rfl, h0⟩ | ⟨g, cap, cur, rfl, hg, hh, r⟩
  · simp [Value.ownBlock] at hk
  · simp only [Value.ownBlock, Option.some.injEq] at hk
    subst hk; exact ⟨_, _, hh⟩

/-- append of one more element, that lies in a row of its own. -/
theorem wpList_append_S {P : Program} {ops : Array Oper} {rest : List Oper} {o : Oper} {a : Act} {w : World} {Q : Exit → Act → World → Prop} {α : Type} (R : World → Value → α → Prop) (hgd : o.guard = none) (s x : Operand) (t : TypeId)
    (ho : o.op = .call { callee := .builtin .append, args := #[s, x], argTypes := #[t, t] })
    (B : Nat) (e : TypeId) (ht : P.underlying t = some (.slice e)) (z : Value) (bytes : Nat) (hi : (P.info? e).map (fun i => (i.zero, i.size, i.bytes)) = some (some z, 1, bytes)) (hz : z.cells.size = 1)
    (v : Value) (xs : List α) (hs : a.eval s = v) (hown : ownS R w e B v xs)
    (g c : Nat) (u : Value) (x1 : α) (hx : a.eval x = .slice (some ⟨g, 0, none⟩) 1 c) (hu : w.cell? ⟨g, 0, none⟩ = some u) (h1 : u.oneCell' = true)
    (hlen : (xs.length + 1) * bytes ≤ 140737488355328) (h63 : xs.length + 1 ≤ maxLen) (hbase : B ≤ w.heap.size)
    (h : ∀ v' w', (∀ R' : World → Value → α → Prop, (∀ u x, R w u x → R' w' u x) → R' w' u x1 → ownS R' w' e B v' (xs ++ [x1])) → Chg (fun k => B ≤ k ∧ v.ownBlock = some k) w w' → BelowX e w.heap.size w w' →
      wpList P ops Q rest (a.put o.dst v') w') : wpList P ops Q (o :: rest) a w := by
  obtain ⟨i, hi1, hi2, hi3, hi4⟩ := info_parts hi
  have hlt := hown.lt
  have htyp := hown.typ_of
  obtain ⟨us, hrow, hus⟩ := hown
  have hul : us.length = xs.length := by have := hrow.1; simpa using this
  refine wpList_append_own w hgd s x t ho B e i z 1 bytes ht hi1 hi2 hi3 hi4 hz (by decide) v xs.length us hs hrow ⟨g, 0, none⟩ 1 c [u] hx rfl ?_ ?_ h63 hlen hbase ?_
  · intro j u' hj
    have hj0 : j = 0 := by have := (List.getElem?_eq_some_iff.1 hj).1; simpa using this
    subst hj0
    simp only [List.getElem?_cons_zero, Option.some.injEq] at hj
    subst hj
    simpa [Addr.add] using hu
  · intro u' hu'; simp only [List.mem_singleton] at hu'; rw [hu']; exact h1
  · intro v' w' h2 h3 _
    refine h v' w' (fun R' hR' hu' => ⟨us ++ [u], by simpa using h2, elems_snoc (R := R w) (R' := R' w') hul hus hR' hu'⟩) (chg_grown h3 fun k hk => ⟨(hlt k hk).1, hk⟩) ⟨h3.size, fun k hk _ hn => h3.block k hk (fun e' => hn (htyp k e'.symm))⟩

end Go.Proofs.Ytobpjldpkgioaaa
