/- RecordSame, the walk -/
import Derived.Test.YtobpjldpkgioaaaLaw12l
set_option linter.unusedVariables false
set_option linter.unusedSimpArgs false
namespace Go.Proofs.Ytobpjldpkgioaaa
open Go.RowKit

theorem rec_ext {x y : Rec} (h1 : (x.kind.toNat : Int) = y.kind.toNat) (h2 : x.id = y.id) (h3 : x.base = y.base) (h4 : x.from_ = y.from_) (h5 : x.to = y.to) (h6 : (str x.blocks).toList = (str y.blocks).toList) (h7 : x.count = y.count) (h8 : (x.len : Int) = y.len) (h9 : (x.sum : Int) = y.sum) : x = y := by
  obtain ⟨k1, i1, b1, f1, t1, l1, c1, n1, s1⟩ := x
  obtain ⟨k2, i2, b2, f2, t2, l2, c2, n2, s2⟩ := y
  simp only [Rec.mk.injEq, str_toList, Int.natCast_inj, UInt8.toNat_inj] at *
  simp [*]

set_option maxHeartbeats 4000000 in
set_option maxRecDepth 100000 in
theorem law_same (w : World) (x y : Rec) (v1 v2 : Value) (h1 : isB w v1 x.blocks) (h2 : isB w v2 y.blocks) :
    Calls Try.prog 9 #[.agg (recC x v1), .agg (recC y v2)] w fun e w' => e = .returned (.bool true) ∧ Below w.heap.size w w' := by
  have H1 := Lib.hid h1
  have H2 := Lib.hid h2
  obtain ⟨ao1, cap1, rfl, -, -⟩ := h1.shape (n := x.blocks.length) rfl
  obtain ⟨ao2, cap2, rfl, -, -⟩ := h2.shape (n := y.blocks.length) rfl
  clear h1 h2
  dsimp only [recC]
  go_enter Try.func9, Try.ntmps9
  go_wp2_with (first | (go_at_call 46; refine (lives12 _).mono ?_; rintro e w1 ⟨rfl, hb1⟩))
  have hx := below_keeps hb1 ((Below.heap_alloc _ (.cells (recC y (.slice ao2 y.blocks.length cap2)) 102) w.heap.size (by simp)).trans (heap_alloc_new w (.cells (recC x (.slice ao1 x.blocks.length cap1)) 102)))
  have hy := below_keeps hb1 (heap_new _ (.cells (recC y (.slice ao2 y.blocks.length cap2)) 102) (n := w.heap.size + 1) (by simp))
  have hB1 : Below w.heap.size w w1 := ((below_alloc w _).alloc (by simp) _).trans (hb1.mono (by simp; omega))
  dsimp only [recC] at hx hy
  clear hb1
  obtain ⟨a0, a1, a2, a3, a4, a5, a6, a7, a8⟩ := cells9 hx
  obtain ⟨b0, b1, b2, b3, b4, b5, b6, b7, b8⟩ := cells9 hy
  have keepc := fun (a : Addr) (u : Value) (q : w1.cell? a = some u) wx (h : Below w1.heap.size w1 wx) => (h.cell (World.block_lt_of_cell? w1 _ q)).trans q
  replace a0 := keepc _ _ a0
  replace a1 := keepc _ _ a1
  replace a2 := keepc _ _ a2
  replace a3 := keepc _ _ a3
  replace a4 := keepc _ _ a4
  replace a5 := keepc _ _ a5
  replace a6 := keepc _ _ a6
  replace a7 := keepc _ _ a7
  replace a8 := keepc _ _ a8
  replace b0 := keepc _ _ b0
  replace b1 := keepc _ _ b1
  replace b2 := keepc _ _ b2
  replace b3 := keepc _ _ b3
  replace b4 := keepc _ _ b4
  replace b5 := keepc _ _ b5
  replace b6 := keepc _ _ b6
  replace b7 := keepc _ _ b7
  replace b8 := keepc _ _ b8
  have HB1 := Lib.hid hB1
  clear hx hy keepc hB1
  by_cases hxy : x = y
  · have Hxy := Lib.hid hxy
    clear hxy
    refine wp_region_seq (fun wx => Below w1.heap.size w1 wx) [(0, true), (1, true), (3, true), (5, true), (2, false), (4, false), (6, false), (7, true), (8, true), (9, true), (10, true), (11, true), (12, false), (13, true), (14, true)] (by kernel_rfl) (by kernel_rfl) (fun c a d v w h => by cases d <;> exact h) ((Below.refl w1.heap.size w1).drew) ?_
    simp only [pickSeq, List.map_cons, List.map_nil, List.getD_cons_zero, List.getD_cons_succ]
    have hHeld := ((Below.refl w1.heap.size w1).drew)
    refine seq_take (v := ?_) (by rfl) (fun wx hSw => ?_) ?_; rotate_left; (go_simp <;> try with_reducible rfl); (try simp only [Act.put, List.setIfInBounds_toArray, List.set_cons_zero, List.set_cons_succ])
    refine seq_take (v := ?_) (by rfl) (fun wx hSw => ?_) ?_; rotate_left; (go_simp <;> try with_reducible rfl); (try simp only [Act.put, List.setIfInBounds_toArray, List.set_cons_zero, List.set_cons_succ])
    refine seq_take (v := ?_) (by rfl) (fun wx hSw => ?_) ?_; rotate_left; (go_simp <;> try with_reducible rfl); (try simp only [Act.put, List.setIfInBounds_toArray, List.set_cons_zero, List.set_cons_succ])
    refine seq_take (v := ?_) (by rfl) (fun wx hSw => ?_) ?_; rotate_left; (go_simp <;> try with_reducible rfl); (try simp only [Act.put, List.setIfInBounds_toArray, List.set_cons_zero, List.set_cons_succ])
    refine seq_run (fun K hK => ?_); go_simp; go_at_call 53; refine (same_rec _ x y _ _ ((H1.out.below HB1.out).below hHeld) ((H2.out.below HB1.out).below hHeld)).mono ?_; rintro e w2 ⟨⟨bb, rfl, hbb⟩, hb2⟩; obtain rfl : bb = true := hbb.2 Hxy.out; clear hbb; refine hK.out _ _ ((hHeld.trans (hb2.mono hHeld.size))) (fun hHeld => ?_); clear hK K; (try simp only [Act.put, List.setIfInBounds_toArray, List.set_cons_zero, List.set_cons_succ])
    refine seq_run (fun K hK => ?_); go_simp; go_at_call 47; refine (plain_spec _ x _ ((H1.out.below HB1.out).below hHeld)).mono ?_; rintro e w3 ⟨rfl, hb3⟩; refine hK.out _ _ ((hHeld.trans (hb3.mono hHeld.size))) (fun hHeld => ?_); clear hK K; (try simp only [Act.put, List.setIfInBounds_toArray, List.set_cons_zero, List.set_cons_succ])
    refine seq_run (fun K hK => ?_); go_simp; go_at_call 47; refine (plain_spec _ y _ ((H2.out.below HB1.out).below hHeld)).mono ?_; rintro e w4 ⟨rfl, hb4⟩; refine hK.out _ _ ((hHeld.trans (hb4.mono hHeld.size))) (fun hHeld => ?_); clear hK K; (try simp only [Act.put, List.setIfInBounds_toArray, List.set_cons_zero, List.set_cons_succ])
    refine seq_take (v := .bool true) (by rfl) (fun wx hSw => by (dsimp only [refC]; go_simp; rw [Hxy.out]; simp)) ?_; (try simp only [Act.put, List.setIfInBounds_toArray, List.set_cons_zero, List.set_cons_succ])
    refine seq_take (v := ?_) (by rfl) (fun wx hSw => ?_) ?_; rotate_left; (go_simp <;> try with_reducible rfl); (try simp only [Act.put, List.setIfInBounds_toArray, List.set_cons_zero, List.set_cons_succ])
    refine seq_take (v := ?_) (by rfl) (fun wx hSw => ?_) ?_; rotate_left; (go_simp <;> try with_reducible rfl); (try simp only [Act.put, List.setIfInBounds_toArray, List.set_cons_zero, List.set_cons_succ])
    refine seq_take (v := ?_) (by rfl) (fun wx hSw => ?_) ?_; rotate_left; (go_simp <;> try with_reducible rfl); (try simp only [Act.put, List.setIfInBounds_toArray, List.set_cons_zero, List.set_cons_succ])
    refine seq_take (v := ?_) (by rfl) (fun wx hSw => ?_) ?_; rotate_left; (go_simp <;> try with_reducible rfl); (try simp only [Act.put, List.setIfInBounds_toArray, List.set_cons_zero, List.set_cons_succ])
    refine seq_run (fun K hK => ?_); go_simp; go_at_call 53; refine (same_rec _ x x _ _ ((H1.out.below HB1.out).below hHeld) ((H1.out.below HB1.out).below hHeld)).mono ?_; rintro e w5 ⟨⟨b5, rfl, hb5'⟩, hb5⟩; obtain rfl : b5 = true := hb5'.2 rfl; clear hb5'; refine hK.out _ _ ((hHeld.trans (hb5.mono hHeld.size))) (fun hHeld => ?_); clear hK K; (try simp only [Act.put, List.setIfInBounds_toArray, List.set_cons_zero, List.set_cons_succ])
    refine seq_take (v := ?_) (by rfl) (fun wx hSw => ?_) ?_; rotate_left; (go_simp <;> try with_reducible rfl); (try simp only [Act.put, List.setIfInBounds_toArray, List.set_cons_zero, List.set_cons_succ])
    refine seq_take (v := ?_) (by rfl) (fun wx hSw => ?_) ?_; rotate_left; (go_simp <;> try with_reducible rfl); (try simp only [Act.put, List.setIfInBounds_toArray, List.set_cons_zero, List.set_cons_succ])
    refine seq_nil ?_
    have Hb := Lib.hid hHeld
    clear hHeld hb2 hb3 hb4 hb5 a0 a1 a2 a3 a4 a5 a6 a7 a8 b0 b1 b2 b3 b4 b6 b7 b8
    go_wp2
    go_ret
    exact ⟨rfl, HB1.out.trans (Hb.out.mono HB1.out.size)⟩
  · have Hxy := Lib.hid hxy
    clear hxy
    refine wp_region_seq (fun wx => Below w1.heap.size w1 wx) [(0, true), (1, true), (3, true), (5, true), (2, false), (4, false), (6, false), (7, true), (8, true), (9, true), (10, true), (11, true), (12, false), (13, true), (14, true)] (by kernel_rfl) (by kernel_rfl) (fun c a d v w h => by cases d <;> exact h) ((Below.refl w1.heap.size w1).drew) ?_
    simp only [pickSeq, List.map_cons, List.map_nil, List.getD_cons_zero, List.getD_cons_succ]
    have hHeld := ((Below.refl w1.heap.size w1).drew)
    refine seq_take (v := ?_) (by rfl) (fun wx hSw => ?_) ?_; rotate_left; (go_simp <;> try with_reducible rfl); (try simp only [Act.put, List.setIfInBounds_toArray, List.set_cons_zero, List.set_cons_succ])
    refine seq_take (v := ?_) (by rfl) (fun wx hSw => ?_) ?_; rotate_left; (go_simp <;> try with_reducible rfl); (try simp only [Act.put, List.setIfInBounds_toArray, List.set_cons_zero, List.set_cons_succ])
    refine seq_take (v := ?_) (by rfl) (fun wx hSw => ?_) ?_; rotate_left; (go_simp <;> try with_reducible rfl); (try simp only [Act.put, List.setIfInBounds_toArray, List.set_cons_zero, List.set_cons_succ])
    refine seq_take (v := ?_) (by rfl) (fun wx hSw => ?_) ?_; rotate_left; (go_simp <;> try with_reducible rfl); (try simp only [Act.put, List.setIfInBounds_toArray, List.set_cons_zero, List.set_cons_succ])
    refine seq_run (fun K hK => ?_); go_simp; go_at_call 53; refine (same_rec _ x y _ _ ((H1.out.below HB1.out).below hHeld) ((H2.out.below HB1.out).below hHeld)).mono ?_; rintro e w2 ⟨⟨bb, rfl, hbb⟩, hb2⟩; obtain rfl : bb = false := (by cases bb; rfl; exact absurd (hbb.1 rfl) Hxy.out); clear hbb; refine hK.out _ _ ((hHeld.trans (hb2.mono hHeld.size))) (fun hHeld => ?_); clear hK K; (try simp only [Act.put, List.setIfInBounds_toArray, List.set_cons_zero, List.set_cons_succ])
    refine seq_run (fun K hK => ?_); go_simp; go_at_call 47; refine (plain_spec _ x _ ((H1.out.below HB1.out).below hHeld)).mono ?_; rintro e w3 ⟨rfl, hb3⟩; refine hK.out _ _ ((hHeld.trans (hb3.mono hHeld.size))) (fun hHeld => ?_); clear hK K; (try simp only [Act.put, List.setIfInBounds_toArray, List.set_cons_zero, List.set_cons_succ])
    refine seq_run (fun K hK => ?_); go_simp; go_at_call 47; refine (plain_spec _ y _ ((H2.out.below HB1.out).below hHeld)).mono ?_; rintro e w4 ⟨rfl, hb4⟩; refine hK.out _ _ ((hHeld.trans (hb4.mono hHeld.size))) (fun hHeld => ?_); clear hK K; (try simp only [Act.put, List.setIfInBounds_toArray, List.set_cons_zero, List.set_cons_succ])
    refine seq_take (v := .bool false) (by rfl) (fun wx hSw => by (dsimp only [refC]; go_simp; exact fun h1 h2 h3 h4 h5 h6 h7 h8 h9 => Hxy.out (rec_ext h1 h2 h3 h4 h5 h6 h7 h8 h9))) ?_; (try simp only [Act.put, List.setIfInBounds_toArray, List.set_cons_zero, List.set_cons_succ])
    refine seq_take (v := ?_) (by rfl) (fun wx hSw => ?_) ?_; rotate_left; (go_simp <;> try with_reducible rfl); (try simp only [Act.put, List.setIfInBounds_toArray, List.set_cons_zero, List.set_cons_succ])
    refine seq_take (v := ?_) (by rfl) (fun wx hSw => ?_) ?_; rotate_left; (go_simp <;> try with_reducible rfl); (try simp only [Act.put, List.setIfInBounds_toArray, List.set_cons_zero, List.set_cons_succ])
    refine seq_take (v := ?_) (by rfl) (fun wx hSw => ?_) ?_; rotate_left; (go_simp <;> try with_reducible rfl); (try simp only [Act.put, List.setIfInBounds_toArray, List.set_cons_zero, List.set_cons_succ])
    refine seq_take (v := ?_) (by rfl) (fun wx hSw => ?_) ?_; rotate_left; (go_simp <;> try with_reducible rfl); (try simp only [Act.put, List.setIfInBounds_toArray, List.set_cons_zero, List.set_cons_succ])
    refine seq_run (fun K hK => ?_); go_simp; go_at_call 53; refine (same_rec _ x x _ _ ((H1.out.below HB1.out).below hHeld) ((H1.out.below HB1.out).below hHeld)).mono ?_; rintro e w5 ⟨⟨b5, rfl, hb5'⟩, hb5⟩; obtain rfl : b5 = true := hb5'.2 rfl; clear hb5'; refine hK.out _ _ ((hHeld.trans (hb5.mono hHeld.size))) (fun hHeld => ?_); clear hK K; (try simp only [Act.put, List.setIfInBounds_toArray, List.set_cons_zero, List.set_cons_succ])
    refine seq_take (v := ?_) (by rfl) (fun wx hSw => ?_) ?_; rotate_left; (go_simp <;> try with_reducible rfl); (try simp only [Act.put, List.setIfInBounds_toArray, List.set_cons_zero, List.set_cons_succ])
    refine seq_take (v := ?_) (by rfl) (fun wx hSw => ?_) ?_; rotate_left; (go_simp <;> try with_reducible rfl); (try simp only [Act.put, List.setIfInBounds_toArray, List.set_cons_zero, List.set_cons_succ])
    refine seq_nil ?_
    have Hb := Lib.hid hHeld
    clear hHeld hb2 hb3 hb4 hb5 a0 a1 a2 a3 a4 a5 a6 a7 a8 b0 b1 b2 b3 b4 b6 b7 b8
    go_wp2
    go_ret
    exact ⟨rfl, HB1.out.trans (Hb.out.mono HB1.out.size)⟩
end Go.Proofs.Ytobpjldpkgioaaa
