/- RecordBytes, the walk -/
import Derived.Test.YtobpjldpkgioaaaLaw12l
import Derived.Test.YtobpjldpkgioaaaRef12g
import Derived.Test.YtobpjldpkgioaaaRecordSame
import Derived.Test.YtobpjldpkgioaaaFrameRec
set_option linter.unusedVariables false
set_option linter.unusedSimpArgs false
namespace Go.Proofs.Ytobpjldpkgioaaa
open Go.RowKit

set_option maxHeartbeats 4000000 in
set_option maxRecDepth 100000 in
theorem law_bytes_long (w : World) (x : Rec) (v : Value) (hb : isB w v x.blocks) (hl : 500 < x.blocks.length) :
    Calls Try.prog 7 #[.agg (recC x v)] w fun e w' => e = .returned (.bool true) ∧ Below w.heap.size w w' := by
  obtain ⟨ao, cap, rfl, -, -⟩ := hb.shape (n := x.blocks.length) rfl
  have hl2 : (500 : Int) < x.blocks.length := by omega
  clear hb
  dsimp only [recC]
  have hb4 : (w.alloc (.cells (recC x (.slice ao x.blocks.length cap)) 102)).heap[w.heap.size]? = _ := heap_alloc_new w _
  dsimp only [recC] at hb4
  go_enter Try.func7, Try.ntmps7
  go_wp2_with (first | (go_at_call 46; refine (lives12 (w.alloc _)).mono ?_; rintro e w1 ⟨rfl, hb1⟩; have hq := below_keeps hb1 hb4; obtain ⟨q0, q1, q2, q3, q4, q5, q6, q7, q8⟩ := cells9 hq) | (go_at_call 46; refine (lives12 w1).mono ?_; rintro e w2 ⟨rfl, hb2⟩))
  go_ret
  exact ⟨rfl, (below_alloc w _).trans ((hb1.mono (by simp)).trans (hb2.mono (by have := hb1.size; simp at this; omega)))⟩

set_option maxHeartbeats 4000000 in
set_option maxRecDepth 100000 in
theorem law_bytes_wrong (w : World) (x : Rec) (v : Value) (hb : isB w v x.blocks) (hx : RecIn x) (hl : x.blocks.length ≤ 500) (hr : ¬ right x) :
    Calls Try.prog 7 #[.agg (recC x v)] w fun e w' => e = .returned (.bool true) ∧ Below w.heap.size w w' := by
  obtain ⟨ao, cap, rfl, -, -⟩ := hb.shape (n := x.blocks.length) rfl
  have hl2 : ¬ (500 : Int) < x.blocks.length := by omega
  have HB := Lib.hid hb
  have HX := Lib.hid hx
  have Hr := Lib.hid hr
  clear hb hx hr
  dsimp only [recC]
  have hb4 : (w.alloc (.cells (recC x (.slice ao x.blocks.length cap)) 102)).heap[w.heap.size]? = _ := heap_alloc_new w _
  dsimp only [recC] at hb4
  go_enter Try.func7, Try.ntmps7
  go_wp2_with (first | (go_at_call 46; refine (lives12 (w.alloc _)).mono ?_; rintro e w1 ⟨rfl, hb1⟩; have hq := below_keeps hb1 hb4; obtain ⟨q0, q1, q2, q3, q4, q5, q6, q7, q8⟩ := cells9 hq; have HB1 : Below w.heap.size w w1 := (below_alloc w _).trans (hb1.mono (by simp)); have hs1 := hb1.size; simp only [size_alloc] at hs1) | (go_at_call 47; refine (plain_spec w1 x _ (HB.out.below HB1)).mono ?_; rintro e w2 ⟨rfl, hb2⟩; have hq2 := below_keeps hb2 hq; have hs2 := hb2.size; have HB2 := HB1.trans (hb2.mono HB1.size); have hq2' := fun o => below_keeps (below_alloc w2 o) hq2; have q0 := fun o => (cells9 (hq2' o)).1; have q1 := fun o => (cells9 (hq2' o)).2.1; have q2 := fun o => (cells9 (hq2' o)).2.2.1; have q3 := fun o => (cells9 (hq2' o)).2.2.2.1; have q4 := fun o => (cells9 (hq2' o)).2.2.2.2.1; have q5 := fun o => (cells9 (hq2' o)).2.2.2.2.2.1; have q6 := fun o => (cells9 (hq2' o)).2.2.2.2.2.2.1; have q7 := fun o => (cells9 (hq2' o)).2.2.2.2.2.2.2.1; have q8 := fun o => (cells9 (hq2' o)).2.2.2.2.2.2.2.2; dsimp only [refC]) | (go_at_call 48; refine (rec_bytes _ x _ ((HB.out.below HB2).alloc _) HX.out.ok).mono ?_; rintro e w3 ⟨hb3, -, hno⟩; obtain rfl := hno (fun h => Hr.out (rread_right h)); clear hno; have hT3 := below_keeps hb3 (heap_alloc_new w2 (.cells (refC x) 104)); dsimp only [refC] at hT3; obtain ⟨t0, t1, t2, t3, t4, t5, t6, t7, t8⟩ := cells9 hT3; have hs3 := hb3.size; simp only [size_alloc] at hs3; have HB3 : Below w.heap.size w w3 := (HB2.alloc (by omega) _).trans (hb3.mono (by simp; omega))) | (go_at_call 49; refine (right_spec w3 x HX.out).mono ?_; rintro e w4 ⟨⟨bb, rfl, hbb⟩, hb4'⟩; obtain rfl : bb = false := (by cases bb; rfl; exact absurd (hbb.1 rfl) Hr.out); clear hbb))
  go_ret
  exact ⟨rfl, HB3.trans (hb4'.mono HB3.size)⟩

set_option maxHeartbeats 4000000 in
set_option maxRecDepth 100000 in
theorem law_bytes_right (w : World) (x : Rec) (v : Value) (hb : isB w v x.blocks) (hx : RecIn x) (hl : x.blocks.length ≤ 500) (hr : right x) :
    Calls Try.prog 7 #[.agg (recC x v)] w fun e w' => e = .returned (.bool true) ∧ Below w.heap.size w w' := by
  obtain ⟨ao, cap, rfl, -, -⟩ := hb.shape (n := x.blocks.length) rfl
  have hl2 : ¬ (500 : Int) < x.blocks.length := by omega
  have HB := Lib.hid hb
  have HX := Lib.hid hx
  have hrr := rread_rbytesP hr
  have Hr := Lib.hid hr
  have Hrr := Lib.hid hrr
  have hlq : (rbytesP x).length ≤ 1000 := by
    have h1 := vtexts_len [sealed (rbody x)]
    have h2 := rbody_len x
    simp only [total, List.map_cons, List.map_nil, List.sum_cons, List.sum_nil, length_sealed] at h1
    unfold rbytesP; omega
  clear hb hx hr hrr
  dsimp only [recC]
  have hb4 : (w.alloc (.cells (recC x (.slice ao x.blocks.length cap)) 102)).heap[w.heap.size]? = _ := heap_alloc_new w _
  dsimp only [recC] at hb4
  go_enter Try.func7, Try.ntmps7
  go_wp2_with (first | (go_at_call 46; refine (lives12 (w.alloc _)).mono ?_; rintro e w1 ⟨rfl, hb1⟩; have hq := below_keeps hb1 hb4; obtain ⟨q0, q1, q2, q3, q4, q5, q6, q7, q8⟩ := cells9 hq; have HB1 : Below w.heap.size w w1 := (below_alloc w _).trans (hb1.mono (by simp)); have hs1 := hb1.size; simp only [size_alloc] at hs1) | (go_at_call 47; refine (plain_spec w1 x _ (HB.out.below HB1)).mono ?_; rintro e w2 ⟨rfl, hb2⟩; have hq2 := below_keeps hb2 hq; have hs2 := hb2.size; have HB2 := HB1.trans (hb2.mono HB1.size); have hq2' := fun o => below_keeps (below_alloc w2 o) hq2; have q0 := fun o => (cells9 (hq2' o)).1; have q1 := fun o => (cells9 (hq2' o)).2.1; have q2 := fun o => (cells9 (hq2' o)).2.2.1; have q3 := fun o => (cells9 (hq2' o)).2.2.2.1; have q4 := fun o => (cells9 (hq2' o)).2.2.2.2.1; have q5 := fun o => (cells9 (hq2' o)).2.2.2.2.2.1; have q6 := fun o => (cells9 (hq2' o)).2.2.2.2.2.2.1; have q7 := fun o => (cells9 (hq2' o)).2.2.2.2.2.2.2.1; have q8 := fun o => (cells9 (hq2' o)).2.2.2.2.2.2.2.2; dsimp only [refC]) | (go_at_call 48; refine (rec_bytes _ x _ ((HB.out.below HB2).alloc _) HX.out.ok).mono ?_; rintro e w3 ⟨hb3, hyes, -⟩; obtain ⟨rv, rfl, horv⟩ := hyes Hrr.out; clear hyes; have hT3 := below_keeps hb3 (heap_alloc_new w2 (.cells (refC x) 104)); dsimp only [refC] at hT3; obtain ⟨t0, t1, t2, t3, t4, t5, t6, t7, t8⟩ := cells9 hT3; have hs3 := hb3.size; simp only [size_alloc] at hs3; have HB3 : Below w.heap.size w w3 := (HB2.alloc (by omega) _).trans (hb3.mono (by simp; omega)); have hQ3 := below_keeps hb3 (below_keeps (below_alloc w2 (.cells (refC x) 104)) hq2); obtain ⟨ar, cr, rfl, -, -⟩ := horv.isB.shape (n := (rbytesP x).length) rfl) | (go_at_call 49; refine (right_spec w3 x HX.out).mono ?_; rintro e w4 ⟨⟨bb, rfl, hbb⟩, hb4'⟩; obtain rfl : bb = true := hbb.2 Hr.out; clear hbb; have hs4 := hb4'.size; have hT4 := below_keeps hb4' hT3; have hQ4 := below_keeps hb4' hQ3; have hor4 := horv.isB.below hb4'; have HB4 := HB3.trans (hb4'.mono HB3.size)) | (go_at_call 51; refine (ropen_spec w4 _ (rbytesP x) hor4 (by omega)).mono ?_; rintro e w5 ⟨rb, g, rfl, hr5, hrb, hg5, hb5⟩; have hs5 := hb5.size) | (go_at_call 50; refine (read_spec _ rb g (rbytesP x) hr5).mono ?_; rintro e w6 ⟨v6, rfl, hv6, -, hc6⟩; rw [Hrr.out] at hv6 ⊢; dsimp only [recC] at hv6 ⊢; have hs6 := hc6.size; have HB46 : Below w4.heap.size w4 w6 := hb5.trans (hc6.below hs5 (fun k hk => by omega)); obtain ⟨ao6, cap6, rfl, -, -⟩ := hv6.shape (n := x.blocks.length) rfl))
  have hT6 := below_keeps (below_alloc w6 (.cells (recC x (.slice ao6 x.blocks.length cap6)) 102)) (below_keeps HB46 hT4)
  have hQ6 := below_keeps (below_alloc w6 (.cells (recC x (.slice ao6 x.blocks.length cap6)) 102)) (below_keeps HB46 hQ4)
  have hS6 := heap_alloc_new w6 (.cells (recC x (.slice ao6 x.blocks.length cap6)) 102)
  have hor6 := (hor4.below HB46).alloc (.cells (recC x (.slice ao6 x.blocks.length cap6)) 102)
  have hv7 := hv6.alloc (.cells (recC x (.slice ao6 x.blocks.length cap6)) 102)
  have HB7 : Below w.heap.size w (w6.alloc (.cells (recC x (.slice ao6 x.blocks.length cap6)) 102)) := (HB4.trans (HB46.mono HB4.size)).alloc (by have := HB4.size; omega) _
  dsimp only [recC] at hT6 hQ6 hS6 hor6 hv7 HB7
  generalize World.alloc w6 _ = W at *
  obtain ⟨a0, a1, a2, a3, a4, a5, a6, a7, a8⟩ := cells9 hT6
  obtain ⟨b0, b1, b2, b3, b4, b5, b6, b7, b8⟩ := cells9 hQ6
  obtain ⟨c0, c1, c2, c3, c4, c5, c6, c7, c8⟩ := cells9 hS6
  have keepc := fun (a : Addr) (u : Value) (q : W.cell? a = some u) wx (h : Below W.heap.size W wx) => (h.cell (World.block_lt_of_cell? W _ q)).trans q
  replace a0 := keepc _ _ a0
  replace a1 := keepc _ _ a1
  replace a2 := keepc _ _ a2
  replace a3 := keepc _ _ a3
  replace a4 := keepc _ _ a4
  replace a5 := keepc _ _ a5
  replace a6 := keepc _ _ a6
  replace a7 := keepc _ _ a7
  replace a8 := keepc _ _ a8
  replace b0 := keepc _ _ b0
  replace b1 := keepc _ _ b1
  replace b2 := keepc _ _ b2
  replace b3 := keepc _ _ b3
  replace b4 := keepc _ _ b4
  replace b5 := keepc _ _ b5
  replace b6 := keepc _ _ b6
  replace b7 := keepc _ _ b7
  replace b8 := keepc _ _ b8
  replace c0 := keepc _ _ c0
  replace c1 := keepc _ _ c1
  replace c2 := keepc _ _ c2
  replace c3 := keepc _ _ c3
  replace c4 := keepc _ _ c4
  replace c5 := keepc _ _ c5
  replace c6 := keepc _ _ c6
  replace c7 := keepc _ _ c7
  replace c8 := keepc _ _ c8
  have qs := fun wx (h : Below W.heap.size W wx) => run_string (P := Try.prog) (hor6.below h) 40 5 Try.underlying40 Try.underlying5 9 Try.underlying9
  have HV7 := Lib.hid hv7
  have HB7' := Lib.hid HB7
  clear hT6 hQ6 hS6 hor6 hv7 keepc HB7
  refine wp_region_seq (fun wx => Below W.heap.size W wx) [(0, true), (1, true), (2, true), (3, true), (4, true), (5, true), (6, false), (7, false), (8, true), (9, true), (10, true), (11, true), (12, true), (13, true), (14, true), (15, true), (17, true), (16, false), (18, true), (19, true), (20, true), (21, true), (22, true), (23, false), (24, true), (25, true)] (by kernel_rfl) (by kernel_rfl) (fun c a d v w h => by cases d <;> exact h) ((Below.refl W.heap.size W).drew) ?_
  simp only [pickSeq, List.map_cons, List.map_nil, List.getD_cons_zero, List.getD_cons_succ]
  have hHeld := ((Below.refl W.heap.size W).drew)
  refine seq_take (v := ?_) (by rfl) (fun wx hSw => ?_) ?_; rotate_left; (go_simp <;> try with_reducible rfl); (try simp only [Act.put, List.setIfInBounds_toArray, List.set_cons_zero, List.set_cons_succ])
  refine seq_take (v := ?_) (by rfl) (fun wx hSw => ?_) ?_; rotate_left; (go_simp <;> try with_reducible rfl); (try simp only [Act.put, List.setIfInBounds_toArray, List.set_cons_zero, List.set_cons_succ])
  refine seq_take (v := ?_) (by rfl) (fun wx hSw => ?_) ?_; rotate_left; (go_simp <;> try with_reducible rfl); (try simp only [Act.put, List.setIfInBounds_toArray, List.set_cons_zero, List.set_cons_succ])
  refine seq_take (v := ?_) (by rfl) (fun wx hSw => ?_) ?_; rotate_left; (go_simp <;> try with_reducible rfl); (try simp only [Act.put, List.setIfInBounds_toArray, List.set_cons_zero, List.set_cons_succ])
  refine seq_take (v := ?_) (by rfl) (fun wx hSw => ?_) ?_; rotate_left; (go_simp <;> try with_reducible rfl); (try simp only [Act.put, List.setIfInBounds_toArray, List.set_cons_zero, List.set_cons_succ])
  refine seq_take (v := ?_) (by rfl) (fun wx hSw => ?_) ?_; rotate_left; (go_simp <;> try with_reducible rfl); (try simp only [Act.put, List.setIfInBounds_toArray, List.set_cons_zero, List.set_cons_succ])
  refine seq_run (fun K hK => ?_); go_simp; go_at_call 52; refine (qbytes_right _ x HX.out Hr.out).mono ?_; rintro e z1 ⟨⟨y1, rfl, hy1⟩, hz1⟩; have q7 := run_string (P := Try.prog) hy1.isB 40 5 Try.underlying40 Try.underlying5 9 Try.underlying9; refine hK.out _ _ ((hHeld.trans (hz1.mono hHeld.size))) (fun hHeld => ?_); clear hK K; (try simp only [Act.put, List.setIfInBounds_toArray, List.set_cons_zero, List.set_cons_succ])
  refine seq_run (fun K hK => ?_); go_simp; skip; refine hK.out _ _ (hHeld) (fun hHeld => ?_); clear hK K; (try simp only [Act.put, List.setIfInBounds_toArray, List.set_cons_zero, List.set_cons_succ])
  refine seq_take (v := .bool true) (by rfl) (fun wx hSw => by (go_simp)) ?_; (try simp only [Act.put, List.setIfInBounds_toArray, List.set_cons_zero, List.set_cons_succ])
  refine seq_take (v := ?_) (by rfl) (fun wx hSw => ?_) ?_; rotate_left; (go_simp <;> try with_reducible rfl); (try simp only [Act.put, List.setIfInBounds_toArray, List.set_cons_zero, List.set_cons_succ])
  refine seq_take (v := ?_) (by rfl) (fun wx hSw => ?_) ?_; rotate_left; (go_simp <;> try with_reducible rfl); (try simp only [Act.put, List.setIfInBounds_toArray, List.set_cons_zero, List.set_cons_succ])
  refine seq_take (v := ?_) (by rfl) (fun wx hSw => ?_) ?_; rotate_left; (go_simp <;> try with_reducible rfl); (try simp only [Act.put, List.setIfInBounds_toArray, List.set_cons_zero, List.set_cons_succ])
  refine seq_take (v := ?_) (by rfl) (fun wx hSw => ?_) ?_; rotate_left; (go_simp <;> try with_reducible rfl); (try simp only [Act.put, List.setIfInBounds_toArray, List.set_cons_zero, List.set_cons_succ])
  refine seq_take (v := ?_) (by rfl) (fun wx hSw => ?_) ?_; rotate_left; (go_simp <;> try with_reducible rfl); (try simp only [Act.put, List.setIfInBounds_toArray, List.set_cons_zero, List.set_cons_succ])
  refine seq_take (v := ?_) (by rfl) (fun wx hSw => ?_) ?_; rotate_left; (go_simp <;> try with_reducible rfl); (try simp only [Act.put, List.setIfInBounds_toArray, List.set_cons_zero, List.set_cons_succ])
  refine seq_take (v := ?_) (by rfl) (fun wx hSw => ?_) ?_; rotate_left; (go_simp <;> try with_reducible rfl); (try simp only [Act.put, List.setIfInBounds_toArray, List.set_cons_zero, List.set_cons_succ])
  refine seq_take (v := ?_) (by rfl) (fun wx hSw => ?_) ?_; rotate_left; (go_simp <;> try with_reducible rfl); (try simp only [Act.put, List.setIfInBounds_toArray, List.set_cons_zero, List.set_cons_succ])
  refine seq_run (fun K hK => ?_); go_simp; go_at_call 47; refine (plain_spec _ x _ (HV7.out.below hHeld)).mono ?_; rintro e z2 ⟨rfl, hz2⟩; refine hK.out _ _ ((hHeld.trans (hz2.mono hHeld.size))) (fun hHeld => ?_); clear hK K; (try simp only [Act.put, List.setIfInBounds_toArray, List.set_cons_zero, List.set_cons_succ])
  refine seq_take (v := .bool true) (by rfl) (fun wx hSw => by (dsimp only [refC]; go_simp)) ?_; (try simp only [Act.put, List.setIfInBounds_toArray, List.set_cons_zero, List.set_cons_succ])
  refine seq_take (v := ?_) (by rfl) (fun wx hSw => ?_) ?_; rotate_left; (go_simp <;> try with_reducible rfl); (try simp only [Act.put, List.setIfInBounds_toArray, List.set_cons_zero, List.set_cons_succ])
  refine seq_take (v := ?_) (by rfl) (fun wx hSw => ?_) ?_; rotate_left; (go_simp <;> try with_reducible rfl); (try simp only [Act.put, List.setIfInBounds_toArray, List.set_cons_zero, List.set_cons_succ])
  refine seq_take (v := ?_) (by rfl) (fun wx hSw => ?_) ?_; rotate_left; (go_simp <;> try with_reducible rfl); (try simp only [Act.put, List.setIfInBounds_toArray, List.set_cons_zero, List.set_cons_succ])
  refine seq_take (v := ?_) (by rfl) (fun wx hSw => ?_) ?_; rotate_left; (go_simp <;> try with_reducible rfl); (try simp only [Act.put, List.setIfInBounds_toArray, List.set_cons_zero, List.set_cons_succ])
  refine seq_run (fun K hK => ?_); go_simp; go_at_call 53; refine (same_rec _ x x _ _ ((HB.out.below HB7'.out).below hHeld) (HV7.out.below hHeld)).mono ?_; rintro e z3 ⟨⟨b9, rfl, hb9⟩, hz3⟩; obtain rfl : b9 = true := hb9.2 rfl; clear hb9; refine hK.out _ _ ((hHeld.trans (hz3.mono hHeld.size))) (fun hHeld => ?_); clear hK K; (try simp only [Act.put, List.setIfInBounds_toArray, List.set_cons_zero, List.set_cons_succ])
  refine seq_take (v := ?_) (by rfl) (fun wx hSw => ?_) ?_; rotate_left; (go_simp <;> try with_reducible rfl); (try simp only [Act.put, List.setIfInBounds_toArray, List.set_cons_zero, List.set_cons_succ])
  refine seq_take (v := ?_) (by rfl) (fun wx hSw => ?_) ?_; rotate_left; (go_simp <;> try with_reducible rfl); (try simp only [Act.put, List.setIfInBounds_toArray, List.set_cons_zero, List.set_cons_succ])
  refine seq_nil ?_
  have Hb := Lib.hid hHeld
  clear hHeld
  go_wp2
  go_ret
  exact ⟨rfl, HB7'.out.trans (Hb.out.mono HB7'.out.size)⟩

theorem law_bytes (w : World) (x : Rec) (v : Value) (hb : isB w v x.blocks) (hx : RecNum x) :
    Calls Try.prog 7 #[.agg (recC x v)] w fun e w' => e = .returned (.bool true) ∧ Below w.heap.size w w' := by
  by_cases hl : 500 < x.blocks.length
  · exact law_bytes_long w x v hb hl
  · have hin : RecIn x := ⟨hx.id, hx.base, hx.from_, hx.to, hx.count, hx.len, hx.sum, by omega⟩
    by_cases hr : right x
    · exact law_bytes_right w x v hb hin (by omega) hr
    · exact law_bytes_wrong w x v hb hin (by omega) hr
end Go.Proofs.Ytobpjldpkgioaaa
