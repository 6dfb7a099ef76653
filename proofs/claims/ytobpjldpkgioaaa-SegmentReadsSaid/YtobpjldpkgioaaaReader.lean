/- varint's reader -/
import Derived.Test.YtobpjldpkgioaaaVarint
set_option linter.unusedVariables false
namespace Go.Proofs.Ytobpjldpkgioaaa
open Go.RowKit

/-- the block in which the elements lie, if there are any, fulfils p -/
def inL (p : Nat → Prop) : Value → Prop
  | .slice (some a) n _ => 0 < n → p a.block
  | _ => True

/-- a reader (of type T) in block r: the bytes that are left (in block g), what is wrong -/
def isRT (T : TypeId) (w : World) (r : Nat) (g : Nat → Prop) (bs : List UInt8) (e : Nat) : Prop :=
  ∃ v, w.heap[r]? = some (.cells #[v, .int .i64 e] T (0, 0)) ∧ isB w v bs ∧ inL g v ∧ ¬ g r
abbrev isR : World → Nat → (Nat → Prop) → List UInt8 → Nat → Prop := isRT 170

theorem inBlk.imp {p q : Nat → Prop} {v : Value} (h : inBlk p v) (hpq : ∀ k, p k → q k) : inBlk q v := by
  unfold inBlk at *
  split at h <;> simp_all

theorem inL.imp {p q : Nat → Prop} {v : Value} (h : inL p v) (hpq : ∀ k, p k → q k) : inL q v := by
  unfold inL at *
  split at h <;> simp_all

theorem isB.chgL {S : Nat → Prop} {w w' : World} {v : Value} {bs : List UInt8} (h : isB w v bs) (hc : Chg S w w') (hv : inL (fun k => ¬ S k) v) : isB w' v bs := by
  obtain ⟨ao, cap, rfl, h1, h2, h3, h4⟩ := h
  refine ⟨ao, cap, rfl, h1, h2, h3, fun a ha => ⟨(h4 a ha).1, fun i hi => ?_⟩⟩
  subst ha
  have hu := (h4 a rfl).2 i hi
  rw [World.cell?_of_block (w := w) (a := ⟨a.block, a.off + i, none⟩) (hc.block a.block (World.block_lt_of_cell? w ⟨a.block, a.off + i, none⟩ hu) (hv (by omega)))]; exact hu

theorem isB.inL {w : World} {v : Value} {bs : List UInt8} (h : isB w v bs) : inL (fun k => k < w.heap.size) v := by
  obtain ⟨ao, cap, rfl, h1, h2, h3, h4⟩ := h
  cases ao with
  | none => trivial
  | some a => intro h0; exact World.block_lt_of_cell? w ⟨a.block, a.off + 0, none⟩ ((h4 a rfl).2 0 h0)

theorem inL_own {w : World} {e B : Nat} {v : Value} {bs : List UInt8} (h : ownB w e B v bs) : inL (fun k => B ≤ k ∧ k < w.heap.size) v := by
  have hlt := h.lt
  obtain ⟨hl, h⟩ := h
  rcases h with ⟨rfl, h0⟩ | ⟨g, cap, cur, rfl, hg, r⟩
  · trivial
  · exact fun _ => hlt g rfl

theorem inL_take {p : Nat → Prop} {ao : Option Addr} {n c n' c' : Nat} (hp : inL p (.slice ao n c)) (h : n' ≤ n) : inL p (.slice ao n' c') := by
  cases ao with
  | none => trivial
  | some a => exact fun h0 => hp (by omega)

theorem inL_sliced {p : Nat → Prop} {ao : Option Addr} {n c l h m : Nat} (hp : inL p (.slice ao n c)) (hh : h ≤ n) : inL p (sliced ao l h m 1) := by
  cases ao with
  | none => unfold sliced; split <;> trivial
  | some a =>
    have e : ∀ x, (a.add x).block = a.block := fun x => by unfold Addr.add; split <;> rfl
    unfold sliced
    by_cases hm : m = l
    · simp only [hm, if_true]; exact fun h0 => hp (by omega)
    · simp only [hm, if_false, Option.map_some]; exact fun h0 => (e _).symm ▸ hp (by omega)

theorem isRT.chg {T : TypeId} {S : Nat → Prop} {w w' : World} {r : Nat} {g : Nat → Prop} {bs : List UInt8} {e : Nat} (h : isRT T w r g bs e) (hc : Chg S w w') (hr : ¬ S r) (hg : ∀ k, g k → ¬ S k) : isRT T w' r g bs e := by
  obtain ⟨v, h1, h2, h3, h4⟩ := h
  exact ⟨v, hc.keeps h1 hr, h2.chgL hc (h3.imp hg), h3, h4⟩

theorem isRT.below {T : TypeId} {w w' : World} {r : Nat} {g : Nat → Prop} {bs : List UInt8} {e : Nat} (h : isRT T w r g bs e) (hb : Below w.heap.size w w') : isRT T w' r g bs e := by
  obtain ⟨v, h1, h2, h3, h4⟩ := h
  exact ⟨v, below_keeps hb h1, h2.below hb, h3, h4⟩

theorem cells2' {w : World} {b : Nat} {c0 c1 : Value} {T : TypeId} (h : w.heap[b]? = some (.cells #[c0, c1] T (0, 0))) :
  w.cell? ⟨b, 0, none⟩ = some c0 ∧ w.cell? ⟨b, 1, none⟩ = some c1 := by
  refine ⟨?_, ?_⟩ <;> simp [cell_of_row w b _ _ T _ h]

def OpenR (w : World) (b : List UInt8) (e : Ending) (w' : World) : Prop :=
  ∃ r g, e = .returned (.pointer (some ⟨r, 0, none⟩)) ∧ isR w' r g b 0 ∧ w.heap.size ≤ r ∧ (∀ k, g k → w.heap.size ≤ k ∧ k < w'.heap.size) ∧ Below w.heap.size w w'

theorem ropen_spec (w : World) (v : Value) (b : List UInt8) (hb : isB w v b) (hl : b.length ≤ 140737488355328) :
    Calls Try.prog 51 #[v] w (OpenR w b) := by
  have HB := Lib.hid hb
  clear hb
  go_enter Try.func51, Try.ntmps51
  go_wp2_with (go_at_call 93; refine (clone_spec _ _ b HB.out hl).mono ?_; rintro e w1 ⟨⟨rv, rfl, hr⟩, hb1⟩; obtain ⟨aor, capr, rfl, -, -⟩ := hr.isB.shape rfl; replace hr := Lib.hid hr)
  go_ret
  replace hr := hr.out
  have hz := hb1.size
  exact ⟨_, _, rfl, ⟨_, heap_alloc_new _ _, hr.isB.alloc _, inL_own hr, fun h => absurd h.2 (Nat.lt_irrefl _)⟩, hz, fun k hk => ⟨hk.1, by rw [size_alloc]; exact Nat.lt_succ_of_lt hk.2⟩, hb1.alloc hz _⟩

theorem failed_spec (w : World) (r : Nat) (g : Nat → Prop) (bs : List UInt8) (e0 : Nat) (h : isR w r g bs e0) :
    Calls Try.prog 91 #[.pointer (some ⟨r, 0, none⟩)] w fun e w' => e = .returned (.int .i64 e0) ∧ w = w' := by
  obtain ⟨v, h1, -, -, -⟩ := h
  obtain ⟨c0, c1⟩ := cells2' h1
  clear h1
  go_enter Try.func91, Try.ntmps91
  go_wp2
  go_ret
  exact ⟨rfl, rfl⟩

def FailPost (w : World) (r : Nat) (g : Nat → Prop) (bs : List UInt8) (e1 : Nat) (e : Ending) (w' : World) : Prop := e = .returned (.tuple #[]) ∧ isR w' r g bs e1 ∧ Chg (· = r) w w'

theorem isRT.set {T : TypeId} {w : World} {r : Nat} {g : Nat → Prop} {bs : List UInt8} {e : Nat} (h : isRT T w r g bs e) (e1 : Nat) : isRT T (w.setCell ⟨r, 1, none⟩ (.int .i64 e1)) r g bs e1 := by
  obtain ⟨v, h1, h2, h3, h4⟩ := h
  refine ⟨v, heap_setCell_same _ _ _ _ _ _ h1, h2.chgL (Chg.setCell (p := ⟨r, 1, none⟩) (Chg.refl (· = r) w) (.inr rfl) _) (h3.imp fun k hk e => h4 (e ▸ hk)), h3, h4⟩

theorem isRT.cutTo {T : TypeId} {w : World} {r : Nat} {g : Nat → Prop} {bs : List UInt8} {e : Nat} (h : isRT T w r g bs e) {v : Value} {bs' : List UInt8} (hv : isB w v bs') (hg : inL g v) : isRT T (w.setCell ⟨r, 0, none⟩ v) r g bs' e := by
  obtain ⟨v0, h1, h2, h3, h4⟩ := h
  refine ⟨v, heap_setCell_same _ _ _ _ _ _ h1, hv.chgL (Chg.setCell (p := ⟨r, 0, none⟩) (Chg.refl (· = r) w) (.inr rfl) _) (hg.imp fun k hk e => h4 (e ▸ hk)), hg, h4⟩

theorem isR.chg0 {w : World} {r : Nat} (i : Nat) (v : Value) : Chg (· = r) w (w.setCell ⟨r, i, none⟩ v) := Chg.setCell (p := ⟨r, i, none⟩) (Chg.refl (· = r) w) (.inr rfl) _

theorem fail_spec (w : World) (r : Nat) (g : Nat → Prop) (bs : List UInt8) (e0 e1 : Nat) (h : isR w r g bs e0) :
    Calls Try.prog 119 #[.pointer (some ⟨r, 0, none⟩), .int .i64 e1] w (FailPost w r g bs (if e0 = 0 then e1 else e0)) := by
  have H := Lib.hid h
  obtain ⟨v, h1, -, -, -⟩ := h
  obtain ⟨c0, c1⟩ := cells2' h1
  have f1 := unfrozen h1 1
  clear h1
  by_cases h0 : e0 = 0
  · subst h0
    go_enter Try.func119, Try.ntmps119
    go_wp2
    go_end0
    exact ⟨rfl, H.out.set e1, isR.chg0 _ _⟩
  · have hb : ((e0 : Int) == 0) = false := by simp; omega
    go_enter Try.func119, Try.ntmps119
    go_wp2
    go_end0
    exact ⟨rfl, H.out, Chg.refl _ _⟩

/-- the number that comes next, up to most: it, what is left, what is wrong -/
def rnum (most : Nat) (bs : List UInt8) (e : Nat) : Nat × List UInt8 × Nat :=
  if e ≠ 0 then (0, bs, e) else
  if (vnext bs).2.2 ≠ 0 then (0, bs, (vnext bs).2.2) else if most < (vnext bs).1 then (0, bs, 5) else ((vnext bs).1, bs.drop (vnext bs).2.1, 0)

theorem vgo_size : ∀ (bs : List UInt8) (i n : Nat), (vgo i n bs).2.1 ≤ i + bs.length := by
  intro bs
  induction bs with
  | nil => intro i n; simp [vgo]
  | cons c r ih =>
    intro i n
    unfold vgo
    split
    · simp
    · split
      · simp
      · have := ih (i + 1) (n + c.toNat % 128 * 128 ^ i); simp only [List.length_cons]; omega

theorem vgo_lt : ∀ (bs : List UInt8) (i n : Nat), i ≤ 9 → n < 128 ^ i → (vgo i n bs).1 < 18446744073709551616 := by
  intro bs
  induction bs with
  | nil => intro i n _ _; simp [vgo]
  | cons c r ih =>
    intro i n hi hn
    have hc := c.toNat_lt
    unfold vgo
    split
    · simp
    · rename_i h
      split
      · exact (acc_lt n i c.toNat hi hn hc (fun h9 => by omega)).2
      · exact ih (i + 1) _ (by omega) (acc_next n i _ hn)

def NumPost (w : World) (r : Nat) (g : Nat → Prop) (x : Nat × List UInt8 × Nat) (e : Ending) (w' : World) : Prop := e = .returned (.int .u64 x.1) ∧ isR w' r g x.2.1 x.2.2 ∧ Chg (· = r) w w'

set_option maxHeartbeats 400000 in
theorem number_spec (w : World) (r : Nat) (g : Nat → Prop) (bs : List UInt8) (e0 most : Nat) (h : isR w r g bs e0) :
    Calls Try.prog 81 #[.pointer (some ⟨r, 0, none⟩), .int .u64 most] w (NumPost w r g (rnum most bs e0)) := by
  have H := Lib.hid h
  obtain ⟨v, h1, hv, hg, hne⟩ := h
  obtain ⟨c0, c1⟩ := cells2' h1
  have f0 := unfrozen h1 0
  obtain ⟨ao, cap, rfl, -, -⟩ := hv.shape rfl
  have hlen := hv.len
  have Hg := Lib.hid hg
  have HV := Lib.hid hv
  simp only [maxLen] at hlen
  clear h1 hg hv hne
  by_cases h0 : e0 = 0
  · subst h0
    obtain ⟨n, s, er, hx⟩ : ∃ n s er, vnext bs = (n, s, er) := ⟨_, _, _, rfl⟩
    have hs := vgo_size bs 0 0
    have hnl := vgo_lt bs 0 0 (by omega) (by decide)
    have Hx := Lib.hid hx
    rw [show vgo 0 0 bs = vnext bs from rfl, hx] at hs hnl
    clear hx
    dsimp only at hs hnl
    by_cases her : er = 0
    · subst her
      by_cases hm : most < n
      · have hR : rnum most bs 0 = (0, bs, 5) := by rw [rnum, if_neg (by simp), Hx.out, if_neg (by simp), if_pos hm]
        rw [hR]
        go_enter Try.func81, Try.ntmps81
        go_wp2_with (first | (go_at_call 91; refine (failed_spec _ _ _ _ _ H.out).mono ?_; rintro e w1 ⟨rfl, rfl⟩) | (go_at_call 118; refine (next_spec _ _ bs HV.out).mono ?_; rintro e w1 ⟨rfl, rfl⟩; rw [Hx.out]) | (go_at_call 119; refine (fail_spec _ r g bs 0 5 H.out).mono ?_; rintro e w2 ⟨rfl, hr2, hc2⟩))
        go_ret
        exact ⟨rfl, hr2, hc2⟩
      · have hR : rnum most bs 0 = (n, bs.drop s, 0) := by rw [rnum, if_neg (by simp), Hx.out, if_neg (by simp), if_neg hm]
        rw [hR]
        clear hR
        have hcap : s ≤ cap := by obtain ⟨ao', cap', e, g1, -⟩ := HV.out; simp only [Value.slice.injEq] at e; omega
        have hcl : bs.length ≤ cap := by obtain ⟨ao', cap', e, g1, -⟩ := HV.out; simp only [Value.slice.injEq] at e; omega
        have hsl : s ≤ bs.length := by omega
        go_enter Try.func81, Try.ntmps81
        go_wp2_with (first | (go_at_call 91; refine (failed_spec _ _ _ _ _ H.out).mono ?_; rintro e w1 ⟨rfl, rfl⟩) | (go_at_call 118; refine (next_spec _ _ bs HV.out).mono ?_; rintro e w1 ⟨rfl, rfl⟩; rw [Hx.out]) | (go_at_call 119; refine (fail_spec _ r g bs 0 5 H.out).mono ?_; rintro e w2 ⟨rfl, hr2, hc2⟩))
        all_goals go_ret
        all_goals
          have hcut := HV.out.cut (l := s) (hh := bs.length) (m := cap) hsl (Nat.le_refl _) hcl (Nat.le_refl _)
          have hgc : inL g (sliced ao s bs.length cap 1) := inL_sliced Hg.out (Nat.le_refl _)
          rw [List.take_of_length_le (by simp)] at hcut
        · rw [show sliced ao s bs.length cap 1 = .slice ao (bs.length - s) 0 by simp [sliced, h]] at hcut hgc
          exact ⟨rfl, H.out.cutTo hcut hgc, isR.chg0 _ _⟩
        · rw [show sliced ao s bs.length cap 1 = .slice (ao.map fun x => x.add s) (bs.length - s) (cap - s) by simp [sliced, h]] at hcut hgc
          exact ⟨rfl, H.out.cutTo hcut hgc, isR.chg0 _ _⟩
    · have hR : rnum most bs 0 = (0, bs, er) := by rw [rnum, if_neg (by simp), Hx.out, if_pos (by simpa using her)]
      rw [hR]
      have heb : ((er : Int) == 0) = false := by simp; omega
      go_enter Try.func81, Try.ntmps81
      go_wp2_with (first | (go_at_call 91; refine (failed_spec _ _ _ _ _ H.out).mono ?_; rintro e w1 ⟨rfl, rfl⟩) | (go_at_call 118; refine (next_spec _ _ bs HV.out).mono ?_; rintro e w1 ⟨rfl, rfl⟩; rw [Hx.out]) | (go_at_call 119; refine (fail_spec _ r g bs 0 er H.out).mono ?_; rintro e w2 ⟨rfl, hr2, hc2⟩))
      go_ret
      exact ⟨rfl, hr2, hc2⟩
  · have hR : rnum most bs e0 = (0, bs, e0) := by rw [rnum, if_pos h0]
    rw [hR]
    have heb : ((e0 : Int) == 0) = false := by simp; omega
    go_enter Try.func81, Try.ntmps81
    go_wp2_with (first | (go_at_call 91; refine (failed_spec _ _ _ _ _ H.out).mono ?_; rintro e w1 ⟨rfl, rfl⟩) | (go_at_call 118; refine (next_spec _ _ bs HV.out).mono ?_; rintro e w1 ⟨rfl, rfl⟩; rw [Hx.out]) | (go_at_call 119; refine (fail_spec _ r g bs 0 0 H.out).mono ?_; rintro e w2 ⟨rfl, hr2, hc2⟩))
    go_ret
    exact ⟨rfl, H.out, Chg.refl _ _⟩

theorem isB.takeCap {w : World} {ao : Option Addr} {n cap : Nat} {bs : List UInt8} (h : isB w (.slice ao n cap) bs) {k : Nat} (hk : k ≤ n) : isB w (.slice ao k k) (bs.take k) := by
  obtain ⟨ao', cap', e, g1, g2, g3, g4⟩ := h
  simp only [Value.slice.injEq] at e
  obtain ⟨rfl, rfl, rfl⟩ := e
  have hl : (bs.take k).length = k := by rw [List.length_take]; omega
  refine ⟨ao, k, by rw [hl], by rw [hl]; exact Nat.le_refl _, by omega, fun h => by have := g3 h; omega, fun a ha => ⟨fun h => (g4 a ha).1 (by omega), fun i hi => ?_⟩⟩
  rw [hl] at hi
  rw [(g4 a ha).2 i (by omega)]; simp

/-- the bytes that come next, at most so many: they, what is left, what is wrong -/
def rbytes (most : Nat) (bs : List UInt8) (e : Nat) : List UInt8 × List UInt8 × Nat :=
  if (rnum most bs e).2.2 ≠ 0 then ([], (rnum most bs e).2.1, (rnum most bs e).2.2) else
  if (rnum most bs e).2.1.length < (rnum most bs e).1 then ([], (rnum most bs e).2.1, 2) else
    ((rnum most bs e).2.1.take (rnum most bs e).1, (rnum most bs e).2.1.drop (rnum most bs e).1, 0)

def BytesPost (w : World) (r : Nat) (g : Nat → Prop) (y : List UInt8 × List UInt8 × Nat) (e : Ending) (w' : World) : Prop :=
  ∃ v, e = .returned v ∧ isB w' v y.1 ∧ inL g v ∧ isR w' r g y.2.1 y.2.2 ∧ Chg (· = r) w w'

theorem rnum_lt (most : Nat) (bs : List UInt8) (e : Nat) : (rnum most bs e).1 ≤ most := by
  unfold rnum; split
  · simp
  · split
    · simp
    · split
      · simp
      · simp only; omega

set_option maxHeartbeats 400000 in
theorem rbytes_spec (w : World) (r : Nat) (g : Nat → Prop) (bs : List UInt8) (e0 most : Nat) (hm : most < 9223372036854775808) (h : isR w r g bs e0) :
    Calls Try.prog 90 #[.pointer (some ⟨r, 0, none⟩), .int .i64 most] w (BytesPost w r g (rbytes most bs e0)) := by
  have H := Lib.hid h
  clear h
  obtain ⟨n, b1, e1, hx⟩ : ∃ n b1 e1, rnum most bs e0 = (n, b1, e1) := ⟨_, _, _, rfl⟩
  have hn := rnum_lt most bs e0
  rw [hx] at hn
  dsimp only at hn
  have Hx := Lib.hid hx
  clear hx
  have hmax : (if (most : Int) < 0 then (0 : Int) else most) = most := by split <;> omega
  by_cases h1 : e1 = 0
  · subst h1
    by_cases hl : b1.length < n
    · have hR : rbytes most bs e0 = ([], b1, 2) := by rw [rbytes, Hx.out, if_neg (by simp), if_pos hl]
      rw [hR]
      go_enter Try.func90, Try.ntmps90
      go_wp2_with (first | (go_at_call 81; refine (number_spec _ r g bs e0 most H.out).mono ?_; rintro e w1 ⟨rfl, hr1, hc1⟩; rw [Hx.out] at hr1 ⊢; dsimp only at hr1 ⊢; have HR1 := Lib.hid hr1; obtain ⟨v1, hh1, hv1, hg1, -⟩ := hr1; obtain ⟨c0, c1⟩ := cells2' hh1; have f0 := unfrozen hh1 0; obtain ⟨ao, cap, rfl, hcl, hcm⟩ := hv1.shape rfl; have hlen := hv1.len; simp only [maxLen] at hlen hcm; have HV1 := Lib.hid hv1; have HG1 := Lib.hid hg1; clear hh1 hv1 hg1) | (go_at_call 119; refine (fail_spec _ r g b1 0 2 HR1.out).mono ?_; rintro e w2 ⟨rfl, hr2, hc2⟩) | (go_at_call 91; refine (failed_spec _ _ _ _ _ hr2).mono ?_; rintro e w1 ⟨rfl, rfl⟩) | (go_at_call 91; refine (failed_spec _ _ _ _ _ HR1.out).mono ?_; rintro e w1 ⟨rfl, rfl⟩))
      go_ret
      exact ⟨_, rfl, isB.nil _, trivial, hr2, hc1.trans hc2 (fun _ _ h => h)⟩
    · have hR : rbytes most bs e0 = (b1.take n, b1.drop n, 0) := by rw [rbytes, Hx.out, if_neg (by simp), if_neg hl]
      rw [hR]
      clear hR
      have hl2 : n ≤ b1.length := by omega
      go_enter Try.func90, Try.ntmps90
      go_wp2_with (first | (go_at_call 81; refine (number_spec _ r g bs e0 most H.out).mono ?_; rintro e w1 ⟨rfl, hr1, hc1⟩; rw [Hx.out] at hr1 ⊢; dsimp only at hr1 ⊢; have HR1 := Lib.hid hr1; obtain ⟨v1, hh1, hv1, hg1, -⟩ := hr1; obtain ⟨c0, c1⟩ := cells2' hh1; have f0 := unfrozen hh1 0; obtain ⟨ao, cap, rfl, hcl, hcm⟩ := hv1.shape rfl; have hlen := hv1.len; simp only [maxLen] at hlen hcm; have HV1 := Lib.hid hv1; have HG1 := Lib.hid hg1; clear hh1 hv1 hg1) | (go_at_call 119; refine (fail_spec _ r g b1 0 2 HR1.out).mono ?_; rintro e w2 ⟨rfl, hr2, hc2⟩) | (go_at_call 91; refine (failed_spec _ _ _ _ _ hr2).mono ?_; rintro e w1 ⟨rfl, rfl⟩) | (go_at_call 91; refine (failed_spec _ _ _ _ _ HR1.out).mono ?_; rintro e w1 ⟨rfl, rfl⟩))
      all_goals go_ret
      all_goals
        have hcut := HV1.out.cut (l := n) (hh := b1.length) (m := cap) hl2 (Nat.le_refl _) hcl (Nat.le_refl _)
        have hgc : inL g (sliced ao n b1.length cap 1) := inL_sliced HG1.out (Nat.le_refl _)
        have hout := HV1.out.takeCap hl2
        have hne : ¬ g r := by obtain ⟨_, _, _, _, h⟩ := HR1.out; exact h
        have hog : inL g (.slice ao n n) := inL_take HG1.out hl2
        rw [List.take_of_length_le (by simp)] at hcut
      · rw [show sliced ao n b1.length cap 1 = .slice ao (b1.length - n) 0 by simp [sliced, h]] at hcut hgc
        exact ⟨_, rfl, hout.chgL (isR.chg0 0 _) (hog.imp fun k hk e => hne (e ▸ hk)), hog, HR1.out.cutTo hcut hgc, hc1.trans (isR.chg0 0 _) (fun _ _ h => h)⟩
      · rw [show sliced ao n b1.length cap 1 = .slice (ao.map fun x => x.add n) (b1.length - n) (cap - n) by simp [sliced, h]] at hcut hgc
        exact ⟨_, rfl, hout.chgL (isR.chg0 0 _) (hog.imp fun k hk e => hne (e ▸ hk)), hog, HR1.out.cutTo hcut hgc, hc1.trans (isR.chg0 0 _) (fun _ _ h => h)⟩
  · have hR : rbytes most bs e0 = ([], b1, e1) := by rw [rbytes, Hx.out, if_pos (by simpa using h1)]
    rw [hR]
    have heb : ((e1 : Int) == 0) = false := by simp; omega
    go_enter Try.func90, Try.ntmps90
    go_wp2_with (first | (go_at_call 81; refine (number_spec _ r g bs e0 most H.out).mono ?_; rintro e w1 ⟨rfl, hr1, hc1⟩; rw [Hx.out] at hr1 ⊢; dsimp only at hr1 ⊢; have HR1 := Lib.hid hr1; obtain ⟨v1, hh1, hv1, hg1, -⟩ := hr1; obtain ⟨c0, c1⟩ := cells2' hh1; have f0 := unfrozen hh1 0; obtain ⟨ao, cap, rfl, hcl, hcm⟩ := hv1.shape rfl; have hlen := hv1.len; simp only [maxLen] at hlen hcm; have HV1 := Lib.hid hv1; have HG1 := Lib.hid hg1; clear hh1 hv1 hg1) | (go_at_call 119; refine (fail_spec _ r g b1 0 2 HR1.out).mono ?_; rintro e w2 ⟨rfl, hr2, hc2⟩) | (go_at_call 91; refine (failed_spec _ _ _ _ _ hr2).mono ?_; rintro e w1 ⟨rfl, rfl⟩) | (go_at_call 91; refine (failed_spec _ _ _ _ _ HR1.out).mono ?_; rintro e w1 ⟨rfl, rfl⟩))
    go_ret
    exact ⟨_, rfl, isB.nil _, trivial, HR1.out, hc1⟩

def rend (bs : List UInt8) (e : Nat) : Nat := if e ≠ 0 then e else if 0 < bs.length then 5 else 0

theorem rend_spec (w : World) (r : Nat) (g : Nat → Prop) (bs : List UInt8) (e0 : Nat) (h : isR w r g bs e0) :
    Calls Try.prog 82 #[.pointer (some ⟨r, 0, none⟩)] w fun e w' => e = .returned (.int .i64 (rend bs e0)) ∧ w = w' := by
  have H := Lib.hid h
  obtain ⟨v, h1, hv, -, -⟩ := h
  obtain ⟨c0, c1⟩ := cells2' h1
  obtain ⟨ao, cap, rfl, -, -⟩ := hv.shape rfl
  have hlen := hv.len
  simp only [maxLen] at hlen
  clear h1 hv
  by_cases h0 : e0 = 0
  · subst h0
    by_cases hl : 0 < bs.length
    · rw [show rend bs 0 = 5 by rw [rend, if_neg (by simp), if_pos hl]]
      go_enter Try.func82, Try.ntmps82
      go_wp2_with (go_at_call 91; refine (failed_spec _ _ _ _ _ H.out).mono ?_; rintro e w1 ⟨rfl, rfl⟩)
      go_ret
      exact ⟨rfl, rfl⟩
    · rw [show rend bs 0 = 0 by rw [rend, if_neg (by simp), if_neg hl]]
      go_enter Try.func82, Try.ntmps82
      go_wp2_with (go_at_call 91; refine (failed_spec _ _ _ _ _ H.out).mono ?_; rintro e w1 ⟨rfl, rfl⟩)
      go_ret
      exact ⟨rfl, rfl⟩
  · rw [show rend bs e0 = e0 by rw [rend, if_pos h0]]
    have heb : ((e0 : Int) == 0) = false := by simp; omega
    go_enter Try.func82, Try.ntmps82
    go_wp2_with (go_at_call 91; refine (failed_spec _ _ _ _ _ H.out).mono ?_; rintro e w1 ⟨rfl, rfl⟩)
    go_ret
    exact ⟨rfl, rfl⟩
end Go.Proofs.Ytobpjldpkgioaaa
