/- record: parse -/
import Derived.Test.YtobpjldpkgioaaaRecord
set_option linter.unusedVariables false
set_option linter.unusedSimpArgs false
namespace Go.Proofs.Ytobpjldpkgioaaa
open Go.RowKit

def nilRec : Rec := ⟨0, 0, 0, 0, 0, [], 0, 0, 0⟩

/-- a record of blocks -/
def rdata (f : Nat) (bs : List UInt8) : Option Rec :=
  if bs.length / 32 < 1 ∨ 4 < bs.length / 32 ∨ bs.length % 32 ≠ 0 ∨ 256 < (f : Int) + (bs.length / 32 : Nat) then none else some ⟨2, 0, 0, f, f + (bs.length / 32 : Nat), bs, 0, 0, 0⟩

/-- the record of bytes, without their sum -/
def rparse : List UInt8 → Option Rec
  | [] => none
  | k :: r =>
    if k = 1 then
      if rend (rnum 1099511627776 (rnum 1099511627776 r 0).2.1 (rnum 1099511627776 r 0).2.2).2.1 (rnum 1099511627776 (rnum 1099511627776 r 0).2.1 (rnum 1099511627776 r 0).2.2).2.2 = 0 then
        some ⟨1, (rnum 1099511627776 r 0).1, (rnum 1099511627776 (rnum 1099511627776 r 0).2.1 (rnum 1099511627776 r 0).2.2).1, 0, 0, [], 0, 0, 0⟩ else none
    else if k = 2 then
      if (vnext r).2.2 ≠ 0 ∨ 256 ≤ (vnext r).1 then none else rdata (vnext r).1 (r.drop (vnext r).2.1)
    else if k = 3 then
      if rend (rnum 256 (rnum 255 r 0).2.1 (rnum 255 r 0).2.2).2.1 (rnum 256 (rnum 255 r 0).2.1 (rnum 255 r 0).2.2).2.2 = 0 ∧ (rnum 255 r 0).1 < (rnum 256 (rnum 255 r 0).2.1 (rnum 255 r 0).2.2).1 then
        some ⟨3, 0, 0, (rnum 255 r 0).1, (rnum 256 (rnum 255 r 0).2.1 (rnum 255 r 0).2.2).1, [], 0, 0, 0⟩ else none
    else if k = 4 then
      let a := rnum 1099511627776 r 0
      let b := rnum 1099511627776 a.2.1 a.2.2
      let c := rnum 2305843009213693950 b.2.1 b.2.2
      if rend c.2.1 c.2.2 = 0 then some ⟨4, 0, 0, 0, 0, [], a.1, b.1, c.1⟩ else none
    else none

def RparsePost (w : World) (p : Nat → Prop) (o : Option Rec) (e : Ending) (w' : World) : Prop :=
  Below w.heap.size w w' ∧ match o with
    | none => e = .returned (.tuple #[.agg (recC nilRec (.slice none 0 0)), .int .i64 3])
    | some x => ∃ v, e = .returned (.tuple #[.agg (recC x v), .int .i64 0]) ∧ isB w' v x.blocks ∧ inL p v

theorem cell_keep {w w' : World} {a : Addr} {u : Value} (h : w.cell? a = some u) (hb : Below w.heap.size w w') : w'.cell? a = some u := (hb.cell (World.block_lt_of_cell? w a h)).trans h

/-- a row but its first byte -/
theorem isB.rest {w : World} {ao : Option Addr} {n cap : Nat} {k : UInt8} {r : List UInt8} (h : isB w (.slice ao n cap) (k :: r)) :
    ∃ b off, ao = some ⟨b, off, none⟩ ∧ w.cell? ⟨b, off, none⟩ = some (.int .u8 (k.toNat : Int)) ∧ isB w (.slice (if cap = 1 then some ⟨b, off, none⟩ else some ⟨b, off + 1, none⟩) r.length (cap - 1)) r := by
  obtain ⟨b, off, rfl, hc⟩ := h.at (j := 0) (by simp)
  obtain ⟨ao', cap', e, g1, g2, g3, g4⟩ := h
  simp only [Value.slice.injEq] at e
  obtain ⟨rfl, rfl, rfl⟩ := e
  simp only [List.length_cons] at g1
  refine ⟨b, off, rfl, hc 0 k rfl, ?_⟩
  by_cases h1 : cap = 1
  · subst h1
    obtain rfl : r = [] := List.eq_nil_of_length_eq_zero (by omega)
    exact ⟨_, 0, rfl, by simp, by simp, nofun, fun a ha => ⟨fun h => absurd h (by decide), fun i hi => absurd hi (by simp)⟩⟩
  · rw [if_neg h1]
    refine ⟨some ⟨b, off + 1, none⟩, cap - 1, rfl, by omega, by omega, nofun, ?_⟩
    rintro a ha
    obtain rfl := Option.some.inj ha
    refine ⟨fun _ => rfl, fun i hi => ?_⟩
    have := hc (i + 1) r[i] (by simp [hi])
    rw [show off + 1 + i = off + (i + 1) by omega]; exact this

theorem cells9 {w : World} {b : Nat} {c0 c1 c2 c3 c4 c5 c6 c7 c8 : Value} {T : TypeId} (h : w.heap[b]? = some (.cells #[c0, c1, c2, c3, c4, c5, c6, c7, c8] T (0, 0))) :
    w.cell? ⟨b, 0, none⟩ = some c0 ∧ w.cell? ⟨b, 1, none⟩ = some c1 ∧ w.cell? ⟨b, 2, none⟩ = some c2 ∧ w.cell? ⟨b, 3, none⟩ = some c3 ∧ w.cell? ⟨b, 4, none⟩ = some c4 ∧ w.cell? ⟨b, 5, none⟩ = some c5 ∧
      w.cell? ⟨b, 6, none⟩ = some c6 ∧ w.cell? ⟨b, 7, none⟩ = some c7 ∧ w.cell? ⟨b, 8, none⟩ = some c8 := by
  refine ⟨?_, ?_, ?_, ?_, ?_, ?_, ?_, ?_, ?_⟩ <;> simp [cell_of_row w b _ _ T _ h]

theorem isRT.put {T : TypeId} {w : World} {r : Nat} {g : Nat → Prop} {bs : List UInt8} {e : Nat} (h : isRT T w r g bs e) {b i : Nat} (u : Value) (hr : r ≠ b) (hg : ¬ g b) : isRT T (w.setCell ⟨b, i, none⟩ u) r g bs e :=
  h.chg (Chg.setCell (p := ⟨b, i, none⟩) (Chg.refl (· = b) _) (.inr rfl) _) hr (fun k hk e => hg (e ▸ hk))

abbrev nilC : Array Value := #[.int .u8 0, .int .i64 0, .int .i64 0, .int .i64 0, .int .i64 0, .slice none 0 0, .int .i64 0, .int .u64 0, .int .u64 0]

theorem nil_post {w w' : World} {p : Nat → Prop} (hb : Below w.heap.size w w') : RparsePost w p none (.returned (.tuple #[.agg (recC nilRec (.slice none 0 0)), .int .i64 3])) w' := ⟨hb, rfl⟩

set_option maxHeartbeats 1000000 in
set_option maxRecDepth 100000 in
theorem parse_1 (w : World) (p : Nat → Prop) (v : Value) (r : List UInt8) (hb : isB w v (1 :: r)) (hl : r.length ≤ 100000) :
    Calls Try.prog 92 #[v] w (RparsePost w p (rparse (1 :: r))) := by
  obtain ⟨ao, cap, rfl, hcap, -⟩ := hb.shape (n := r.length + 1) rfl
  obtain ⟨b, off, rfl, hk, hc2⟩ := hb.rest
  have Hc2 := Lib.hid hc2
  clear hb hc2
  rw [rparse, if_pos rfl]
  obtain ⟨n1, b1, e1, hx⟩ : ∃ n b1 e1, rnum 1099511627776 r 0 = (n, b1, e1) := ⟨_, _, _, rfl⟩
  have hn1 := rnum_lt 1099511627776 r 0
  rw [hx] at hn1 ⊢
  dsimp only at hn1 ⊢
  obtain ⟨n2, b2, e2, hy⟩ : ∃ n b2 e2, rnum 1099511627776 b1 e1 = (n, b2, e2) := ⟨_, _, _, rfl⟩
  have hn2 := rnum_lt 1099511627776 b1 e1
  rw [hy] at hn2 ⊢
  dsimp only at hn2 ⊢
  have Hx := Lib.hid hx
  have Hy := Lib.hid hy
  clear hx hy
  obtain ⟨z, hz⟩ : ∃ z, rend b2 e2 = z := ⟨_, rfl⟩
  rw [hz]
  have Hz := Lib.hid hz
  clear hz
  generalize hR : (if z = 0 then some (⟨1, n1, n2, 0, 0, [], 0, 0, 0⟩ : Rec) else none) = R
  by_cases hz : z = 0
  · subst hz
    rw [if_pos rfl] at hR
    subst hR
    go_enter Try.func92, Try.ntmps92
    go_wp2_with (first | (go_at_call 51; refine (ropen_spec _ _ r (Hc2.out.below (below_alloc _ _)) (by omega)).mono ?_; rintro e w1 ⟨rb, g, rfl, hr, hrb, hg, hb1⟩; have hk1 := cell_keep (cell_keep hk (below_alloc _ _)) hb1; generalize (if cap = 1 then some (⟨b, off, none⟩ : Addr) else some ⟨b, off + 1, none⟩) = q; have HR1 := below_keeps hb1 (heap_alloc_new w _); have hrw := lt_of_heap hr.choose_spec.1; have hgne := hr.choose_spec.2.2.2; simp only [size_alloc] at hrb hg; have hne1 : rb ≠ w1.heap.size := (by omega); have hne2 : ¬ g w1.heap.size := fun h => Nat.lt_irrefl _ (hg _ h).2; have hsz1 := hb1.size; simp only [size_alloc] at hsz1; have HB1 : Below w.heap.size w w1 := (below_alloc w _).trans (hb1.mono (by simp))) | (go_at_call 81; refine (number_spec _ rb g b1 e1 1099511627776 hr2).mono ?_; rintro e w3 ⟨rfl, hr3, hc3⟩; rw [Hy.out] at hr3 ⊢; dsimp only at hr3 ⊢; have hT := hc3.keeps (hc2.keeps (heap_alloc_new w1 _) (by omega)) (by omega); obtain ⟨q0, q1, q2, q3, q4, q5, q6, q7, q8⟩ := cells9 hT; have f1 := unfrozen hT; have HS := hc3.keeps (hc2.keeps (below_keeps (below_alloc _ _) HR1) (by omega)) (by omega); obtain ⟨s0, s1, s2, s3, s4, s5, s6, s7, s8⟩ := cells9 HS; have f3 := unfrozen HS; have HB3 : Below w.heap.size w w3 := (HB1.alloc (by omega) _).trans ((hc2.below (by simp; omega) (fun k hk => by omega)).trans (hc3.below (by have := hc2.size; simp only [size_alloc] at this; omega) (fun k hk => by omega)))) | (go_at_call 81; refine (number_spec _ rb g r 0 1099511627776 (hr.below (below_alloc _ _))).mono ?_; rintro e w2 ⟨rfl, hr2, hc2⟩; rw [Hx.out] at hr2 ⊢; dsimp only at hr2 ⊢) | (go_at_call 82; refine (rend_spec _ rb g b2 e2 ((hr3.put _ hne1 hne2).put _ hne1 hne2)).mono ?_; rintro e w4 ⟨rfl, rfl⟩; rw [Hz.out]))
    refine bodyPost_ret (v := .tuple #[.agg _, .int .i64 _]) (by rw [results_cell_tmp rfl]; go_simp; exact ⟨rfl, rfl⟩) rfl ?_
    refine ⟨?_, _, rfl, isB.nil _, trivial⟩
    iterate 11 (refine Below.setCell ?_ (by first | exact Nat.le_refl _ | (dsimp only; omega)) _)
    exact HB3
  · have hz1 : ((z : Int) != 0) = true := by simp; omega
    rw [if_neg hz] at hR
    subst hR
    go_enter Try.func92, Try.ntmps92
    go_wp2_with (first | (go_at_call 51; refine (ropen_spec _ _ r (Hc2.out.below (below_alloc _ _)) (by omega)).mono ?_; rintro e w1 ⟨rb, g, rfl, hr, hrb, hg, hb1⟩; have hk1 := cell_keep (cell_keep hk (below_alloc _ _)) hb1; generalize (if cap = 1 then some (⟨b, off, none⟩ : Addr) else some ⟨b, off + 1, none⟩) = q; have HR1 := below_keeps hb1 (heap_alloc_new w _); have hrw := lt_of_heap hr.choose_spec.1; have hgne := hr.choose_spec.2.2.2; simp only [size_alloc] at hrb hg; have hne1 : rb ≠ w1.heap.size := (by omega); have hne2 : ¬ g w1.heap.size := fun h => Nat.lt_irrefl _ (hg _ h).2; have hsz1 := hb1.size; simp only [size_alloc] at hsz1; have HB1 : Below w.heap.size w w1 := (below_alloc w _).trans (hb1.mono (by simp))) | (go_at_call 81; refine (number_spec _ rb g b1 e1 1099511627776 hr2).mono ?_; rintro e w3 ⟨rfl, hr3, hc3⟩; rw [Hy.out] at hr3 ⊢; dsimp only at hr3 ⊢; have hT := hc3.keeps (hc2.keeps (heap_alloc_new w1 _) (by omega)) (by omega); obtain ⟨q0, q1, q2, q3, q4, q5, q6, q7, q8⟩ := cells9 hT; have f1 := unfrozen hT; have HS := hc3.keeps (hc2.keeps (below_keeps (below_alloc _ _) HR1) (by omega)) (by omega); obtain ⟨s0, s1, s2, s3, s4, s5, s6, s7, s8⟩ := cells9 HS; have f3 := unfrozen HS; have HB3 : Below w.heap.size w w3 := (HB1.alloc (by omega) _).trans ((hc2.below (by simp; omega) (fun k hk => by omega)).trans (hc3.below (by have := hc2.size; simp only [size_alloc] at this; omega) (fun k hk => by omega)))) | (go_at_call 81; refine (number_spec _ rb g r 0 1099511627776 (hr.below (below_alloc _ _))).mono ?_; rintro e w2 ⟨rfl, hr2, hc2⟩; rw [Hx.out] at hr2 ⊢; dsimp only at hr2 ⊢) | (go_at_call 82; refine (rend_spec _ rb g b2 e2 ((hr3.put _ hne1 hne2).put _ hne1 hne2)).mono ?_; rintro e w4 ⟨rfl, rfl⟩; rw [Hz.out]))
    refine bodyPost_ret (v := .tuple #[.agg _, .int .i64 _]) (by rw [results_cell_tmp rfl]; go_simp; exact ⟨rfl, rfl⟩) rfl ?_
    refine nil_post ?_
    iterate 11 (refine Below.setCell ?_ (by first | exact Nat.le_refl _ | (dsimp only; omega)) _)
    exact HB3

set_option maxHeartbeats 1000000 in
set_option maxRecDepth 100000 in
theorem parse_3 (w : World) (p : Nat → Prop) (v : Value) (r : List UInt8) (hb : isB w v (3 :: r)) (hl : r.length ≤ 100000) :
    Calls Try.prog 92 #[v] w (RparsePost w p (rparse (3 :: r))) := by
  obtain ⟨ao, cap, rfl, hcap, -⟩ := hb.shape (n := r.length + 1) rfl
  obtain ⟨b, off, rfl, hk, hc2⟩ := hb.rest
  have Hc2 := Lib.hid hc2
  clear hb hc2
  rw [rparse, if_neg (by decide), if_neg (by decide), if_pos rfl]
  obtain ⟨n1, b1, e1, hx⟩ : ∃ n b1 e1, rnum 255 r 0 = (n, b1, e1) := ⟨_, _, _, rfl⟩
  have hn1 := rnum_lt 255 r 0
  rw [hx] at hn1 ⊢
  dsimp only at hn1 ⊢
  obtain ⟨n2, b2, e2, hy⟩ : ∃ n b2 e2, rnum 256 b1 e1 = (n, b2, e2) := ⟨_, _, _, rfl⟩
  have hn2 := rnum_lt 256 b1 e1
  rw [hy] at hn2 ⊢
  dsimp only at hn2 ⊢
  have Hx := Lib.hid hx
  have Hy := Lib.hid hy
  clear hx hy
  obtain ⟨z, hz⟩ : ∃ z, rend b2 e2 = z := ⟨_, rfl⟩
  have hze : ¬ e2 = 0 → ¬ z = 0 := by intro h; rw [← hz, rend, if_pos h]; exact h
  rw [hz]
  have Hz := Lib.hid hz
  clear hz
  generalize hR : (if z = 0 ∧ n1 < n2 then some (⟨3, 0, 0, n1, n2, [], 0, 0, 0⟩ : Rec) else none) = R
  by_cases he : e2 = 0
  · subst he
    by_cases hlt : n1 < n2
    · by_cases hz : z = 0
      · subst hz
        rw [if_pos ⟨rfl, hlt⟩] at hR
        subst hR
        go_enter Try.func92, Try.ntmps92
        go_wp2_with (first | ((go_at_call 51; refine (ropen_spec _ _ r (Hc2.out.below (below_alloc _ _)) (by omega)).mono ?_; rintro e w1 ⟨rb, g, rfl, hr, hrb, hg, hb1⟩; have hk1 := cell_keep (cell_keep hk (below_alloc _ _)) hb1; generalize (if cap = 1 then some (⟨b, off, none⟩ : Addr) else some ⟨b, off + 1, none⟩) = q; have HR1 := below_keeps hb1 (heap_alloc_new w _); have hrw := lt_of_heap hr.choose_spec.1; have hgne := hr.choose_spec.2.2.2; simp only [size_alloc] at hrb hg; have hne1 : rb ≠ w1.heap.size := (by omega); have hne2 : ¬ g w1.heap.size := fun h => Nat.lt_irrefl _ (hg _ h).2; have hsz1 := hb1.size; simp only [size_alloc] at hsz1; have HB1 : Below w.heap.size w w1 := (below_alloc w _).trans (hb1.mono (by simp))); have hsz1' : w.heap.size ≤ w1.heap.size := Nat.le_of_succ_le hsz1) | (go_at_call 81; refine (number_spec _ rb g b1 e1 256 (hr2.put _ hne1 hne2)).mono ?_; rintro e w3 ⟨rfl, hr3, hc3⟩; rw [Hy.out] at hr3 ⊢; dsimp only at hr3 ⊢; replace hT := hc3.keeps hT (by omega); obtain ⟨q0, q1, q2, q3, q4, q5, q6, q7, q8⟩ := cells9 hT; have f1 := unfrozen hT; have HS := hc3.keeps ((isR.chg0 (r := w1.heap.size) 3 _).keeps (hc2.keeps (below_keeps (below_alloc _ _) HR1) (by omega)) (by omega)) (by omega); obtain ⟨s0, s1, s2, s3, s4, s5, s6, s7, s8⟩ := cells9 HS; have f3 := unfrozen HS; have HB2 : Below w.heap.size w w2 := (HB1.alloc (by omega) _).trans (hc2.below (by simp; omega) (fun k hk => by omega)); have HB3 : Below w.heap.size w w3 := (HB2.setCell (p := ⟨w1.heap.size, 3, none⟩) hsz1' _).trans (hc3.below (by rw [size_setCell]; exact HB2.size) (fun k hk => by omega))) | (go_at_call 81; refine (number_spec _ rb g r 0 255 (hr.below (below_alloc _ _))).mono ?_; rintro e w2 ⟨rfl, hr2, hc2⟩; rw [Hx.out] at hr2 ⊢; dsimp only at hr2 ⊢; have hT := hc2.keeps (heap_alloc_new w1 _) (by omega); obtain ⟨q0, q1, q2, q3, q4, q5, q6, q7, q8⟩ := cells9 hT; have f1 := unfrozen hT; replace hT := heap_setCell_same _ _ 3 _ _ (.int .i64 n1) hT) | (go_at_call 91; refine (failed_spec _ rb g b2 _ (hr3.put _ hne1 hne2)).mono ?_; rintro e w4 ⟨rfl, rfl⟩) | (go_at_call 82; refine (rend_spec _ rb g b2 _ (hr3.put _ hne1 hne2)).mono ?_; rintro e w4 ⟨rfl, rfl⟩; rw [Hz.out]))
        refine bodyPost_ret (v := .tuple #[.agg _, .int .i64 _]) (by rw [results_cell_tmp rfl]; go_simp; exact ⟨rfl, rfl⟩) rfl ?_
        refine ⟨?_, _, rfl, isB.nil _, trivial⟩
        iterate 10 (refine Below.setCell ?_ (by first | exact Nat.le_refl _ | (dsimp only; omega)) _)
        exact HB3
      · have hz1 : ((z : Int) != 0) = true := by simp; omega
        rw [if_neg (by omega)] at hR
        subst hR
        go_enter Try.func92, Try.ntmps92
        go_wp2_with (first | ((go_at_call 51; refine (ropen_spec _ _ r (Hc2.out.below (below_alloc _ _)) (by omega)).mono ?_; rintro e w1 ⟨rb, g, rfl, hr, hrb, hg, hb1⟩; have hk1 := cell_keep (cell_keep hk (below_alloc _ _)) hb1; generalize (if cap = 1 then some (⟨b, off, none⟩ : Addr) else some ⟨b, off + 1, none⟩) = q; have HR1 := below_keeps hb1 (heap_alloc_new w _); have hrw := lt_of_heap hr.choose_spec.1; have hgne := hr.choose_spec.2.2.2; simp only [size_alloc] at hrb hg; have hne1 : rb ≠ w1.heap.size := (by omega); have hne2 : ¬ g w1.heap.size := fun h => Nat.lt_irrefl _ (hg _ h).2; have hsz1 := hb1.size; simp only [size_alloc] at hsz1; have HB1 : Below w.heap.size w w1 := (below_alloc w _).trans (hb1.mono (by simp))); have hsz1' : w.heap.size ≤ w1.heap.size := Nat.le_of_succ_le hsz1) | (go_at_call 81; refine (number_spec _ rb g b1 e1 256 (hr2.put _ hne1 hne2)).mono ?_; rintro e w3 ⟨rfl, hr3, hc3⟩; rw [Hy.out] at hr3 ⊢; dsimp only at hr3 ⊢; replace hT := hc3.keeps hT (by omega); obtain ⟨q0, q1, q2, q3, q4, q5, q6, q7, q8⟩ := cells9 hT; have f1 := unfrozen hT; have HS := hc3.keeps ((isR.chg0 (r := w1.heap.size) 3 _).keeps (hc2.keeps (below_keeps (below_alloc _ _) HR1) (by omega)) (by omega)) (by omega); obtain ⟨s0, s1, s2, s3, s4, s5, s6, s7, s8⟩ := cells9 HS; have f3 := unfrozen HS; have HB2 : Below w.heap.size w w2 := (HB1.alloc (by omega) _).trans (hc2.below (by simp; omega) (fun k hk => by omega)); have HB3 : Below w.heap.size w w3 := (HB2.setCell (p := ⟨w1.heap.size, 3, none⟩) hsz1' _).trans (hc3.below (by rw [size_setCell]; exact HB2.size) (fun k hk => by omega))) | (go_at_call 81; refine (number_spec _ rb g r 0 255 (hr.below (below_alloc _ _))).mono ?_; rintro e w2 ⟨rfl, hr2, hc2⟩; rw [Hx.out] at hr2 ⊢; dsimp only at hr2 ⊢; have hT := hc2.keeps (heap_alloc_new w1 _) (by omega); obtain ⟨q0, q1, q2, q3, q4, q5, q6, q7, q8⟩ := cells9 hT; have f1 := unfrozen hT; replace hT := heap_setCell_same _ _ 3 _ _ (.int .i64 n1) hT) | (go_at_call 91; refine (failed_spec _ rb g b2 _ (hr3.put _ hne1 hne2)).mono ?_; rintro e w4 ⟨rfl, rfl⟩) | (go_at_call 82; refine (rend_spec _ rb g b2 _ (hr3.put _ hne1 hne2)).mono ?_; rintro e w4 ⟨rfl, rfl⟩; rw [Hz.out]))
        refine bodyPost_ret (v := .tuple #[.agg _, .int .i64 _]) (by rw [results_cell_tmp rfl]; go_simp; exact ⟨rfl, rfl⟩) rfl ?_
        refine nil_post ?_
        iterate 10 (refine Below.setCell ?_ (by first | exact Nat.le_refl _ | (dsimp only; omega)) _)
        exact HB3
    · rw [if_neg (by omega)] at hR
      subst hR
      go_enter Try.func92, Try.ntmps92
      go_wp2_with (first | ((go_at_call 51; refine (ropen_spec _ _ r (Hc2.out.below (below_alloc _ _)) (by omega)).mono ?_; rintro e w1 ⟨rb, g, rfl, hr, hrb, hg, hb1⟩; have hk1 := cell_keep (cell_keep hk (below_alloc _ _)) hb1; generalize (if cap = 1 then some (⟨b, off, none⟩ : Addr) else some ⟨b, off + 1, none⟩) = q; have HR1 := below_keeps hb1 (heap_alloc_new w _); have hrw := lt_of_heap hr.choose_spec.1; have hgne := hr.choose_spec.2.2.2; simp only [size_alloc] at hrb hg; have hne1 : rb ≠ w1.heap.size := (by omega); have hne2 : ¬ g w1.heap.size := fun h => Nat.lt_irrefl _ (hg _ h).2; have hsz1 := hb1.size; simp only [size_alloc] at hsz1; have HB1 : Below w.heap.size w w1 := (below_alloc w _).trans (hb1.mono (by simp))); have hsz1' : w.heap.size ≤ w1.heap.size := Nat.le_of_succ_le hsz1) | (go_at_call 81; refine (number_spec _ rb g b1 e1 256 (hr2.put _ hne1 hne2)).mono ?_; rintro e w3 ⟨rfl, hr3, hc3⟩; rw [Hy.out] at hr3 ⊢; dsimp only at hr3 ⊢; replace hT := hc3.keeps hT (by omega); obtain ⟨q0, q1, q2, q3, q4, q5, q6, q7, q8⟩ := cells9 hT; have f1 := unfrozen hT; have HS := hc3.keeps ((isR.chg0 (r := w1.heap.size) 3 _).keeps (hc2.keeps (below_keeps (below_alloc _ _) HR1) (by omega)) (by omega)) (by omega); obtain ⟨s0, s1, s2, s3, s4, s5, s6, s7, s8⟩ := cells9 HS; have f3 := unfrozen HS; have HB2 : Below w.heap.size w w2 := (HB1.alloc (by omega) _).trans (hc2.below (by simp; omega) (fun k hk => by omega)); have HB3 : Below w.heap.size w w3 := (HB2.setCell (p := ⟨w1.heap.size, 3, none⟩) hsz1' _).trans (hc3.below (by rw [size_setCell]; exact HB2.size) (fun k hk => by omega))) | (go_at_call 81; refine (number_spec _ rb g r 0 255 (hr.below (below_alloc _ _))).mono ?_; rintro e w2 ⟨rfl, hr2, hc2⟩; rw [Hx.out] at hr2 ⊢; dsimp only at hr2 ⊢; have hT := hc2.keeps (heap_alloc_new w1 _) (by omega); obtain ⟨q0, q1, q2, q3, q4, q5, q6, q7, q8⟩ := cells9 hT; have f1 := unfrozen hT; replace hT := heap_setCell_same _ _ 3 _ _ (.int .i64 n1) hT) | (go_at_call 91; refine (failed_spec _ rb g b2 _ (hr3.put _ hne1 hne2)).mono ?_; rintro e w4 ⟨rfl, rfl⟩) | (go_at_call 82; refine (rend_spec _ rb g b2 _ (hr3.put _ hne1 hne2)).mono ?_; rintro e w4 ⟨rfl, rfl⟩; rw [Hz.out]))
      refine bodyPost_ret (v := .tuple #[.agg _, .int .i64 _]) (by rw [results_cell_tmp rfl]; go_simp; exact ⟨rfl, rfl⟩) rfl ?_
      refine nil_post ?_
      iterate 10 (refine Below.setCell ?_ (by first | exact Nat.le_refl _ | (dsimp only; omega)) _)
      exact HB3
  · have hz := hze he
    have hz1 : ((z : Int) != 0) = true := by simp; omega
    have he1 : ((e2 : Int) == 0) = false := by simp; omega
    rw [if_neg (by omega)] at hR
    subst hR
    go_enter Try.func92, Try.ntmps92
    go_wp2_with (first | ((go_at_call 51; refine (ropen_spec _ _ r (Hc2.out.below (below_alloc _ _)) (by omega)).mono ?_; rintro e w1 ⟨rb, g, rfl, hr, hrb, hg, hb1⟩; have hk1 := cell_keep (cell_keep hk (below_alloc _ _)) hb1; generalize (if cap = 1 then some (⟨b, off, none⟩ : Addr) else some ⟨b, off + 1, none⟩) = q; have HR1 := below_keeps hb1 (heap_alloc_new w _); have hrw := lt_of_heap hr.choose_spec.1; have hgne := hr.choose_spec.2.2.2; simp only [size_alloc] at hrb hg; have hne1 : rb ≠ w1.heap.size := (by omega); have hne2 : ¬ g w1.heap.size := fun h => Nat.lt_irrefl _ (hg _ h).2; have hsz1 := hb1.size; simp only [size_alloc] at hsz1; have HB1 : Below w.heap.size w w1 := (below_alloc w _).trans (hb1.mono (by simp))); have hsz1' : w.heap.size ≤ w1.heap.size := Nat.le_of_succ_le hsz1) | (go_at_call 81; refine (number_spec _ rb g b1 e1 256 (hr2.put _ hne1 hne2)).mono ?_; rintro e w3 ⟨rfl, hr3, hc3⟩; rw [Hy.out] at hr3 ⊢; dsimp only at hr3 ⊢; replace hT := hc3.keeps hT (by omega); obtain ⟨q0, q1, q2, q3, q4, q5, q6, q7, q8⟩ := cells9 hT; have f1 := unfrozen hT; have HS := hc3.keeps ((isR.chg0 (r := w1.heap.size) 3 _).keeps (hc2.keeps (below_keeps (below_alloc _ _) HR1) (by omega)) (by omega)) (by omega); obtain ⟨s0, s1, s2, s3, s4, s5, s6, s7, s8⟩ := cells9 HS; have f3 := unfrozen HS; have HB2 : Below w.heap.size w w2 := (HB1.alloc (by omega) _).trans (hc2.below (by simp; omega) (fun k hk => by omega)); have HB3 : Below w.heap.size w w3 := (HB2.setCell (p := ⟨w1.heap.size, 3, none⟩) hsz1' _).trans (hc3.below (by rw [size_setCell]; exact HB2.size) (fun k hk => by omega))) | (go_at_call 81; refine (number_spec _ rb g r 0 255 (hr.below (below_alloc _ _))).mono ?_; rintro e w2 ⟨rfl, hr2, hc2⟩; rw [Hx.out] at hr2 ⊢; dsimp only at hr2 ⊢; have hT := hc2.keeps (heap_alloc_new w1 _) (by omega); obtain ⟨q0, q1, q2, q3, q4, q5, q6, q7, q8⟩ := cells9 hT; have f1 := unfrozen hT; replace hT := heap_setCell_same _ _ 3 _ _ (.int .i64 n1) hT) | (go_at_call 91; refine (failed_spec _ rb g b2 _ (hr3.put _ hne1 hne2)).mono ?_; rintro e w4 ⟨rfl, rfl⟩) | (go_at_call 82; refine (rend_spec _ rb g b2 _ (hr3.put _ hne1 hne2)).mono ?_; rintro e w4 ⟨rfl, rfl⟩; rw [Hz.out]))
    refine bodyPost_ret (v := .tuple #[.agg _, .int .i64 _]) (by rw [results_cell_tmp rfl]; go_simp; exact ⟨rfl, rfl⟩) rfl ?_
    refine nil_post ?_
    iterate 10 (refine Below.setCell ?_ (by first | exact Nat.le_refl _ | (dsimp only; omega)) _)
    exact HB3
end Go.Proofs.Ytobpjldpkgioaaa
