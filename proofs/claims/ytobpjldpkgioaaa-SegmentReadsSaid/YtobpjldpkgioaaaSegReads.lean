/- SegmentReads, the walk -/
import Derived.Test.YtobpjldpkgioaaaSeg9
set_option linter.unusedVariables false
set_option linter.unusedSimpArgs false
namespace Go.Proofs.Ytobpjldpkgioaaa
open Go.RowKit

theorem p14_five {bs : List UInt8} {k : UInt8} {l : List Nat} (h : p14 bs = .nums k l) : l.length = 5 ∧ (k = 72 ∨ k = 84) := by
  unfold p14 at h
  split at h
  · cases h
  · cases h
  · split at h
    · split at h <;> cases h
    · split at h
      · rename_i hc
        cases h; exact ⟨rst_len _ 5, hc.1⟩
      · cases h

theorem err_end {n0 n1 n2 n3 n4 : Nat} (h : n4 ≤ 1) : errOf (.nums 84 [n0, n1, n2, n3, n4]) = 0 := by
  rw [errOf, if_neg (by decide), if_pos (show List.getD [n0, n1, n2, n3, n4] 4 0 ≤ 1 from h)]
theorem err_end2 {n0 n1 n2 n3 n4 : Nat} (h : ¬ n4 ≤ 1) : errOf (.nums 84 [n0, n1, n2, n3, n4]) = 3 := by
  rw [errOf, if_neg (by decide), if_neg (show ¬ List.getD [n0, n1, n2, n3, n4] 4 0 ≤ 1 from h)]

set_option maxHeartbeats 4000000 in
set_option maxRecDepth 100000 in
theorem seg_long (w : World) (v : Value) (b : List UInt8) (hb : isB w v b) (hl : 500 < b.length) :
    Calls Try.prog 5 #[v] w fun e w' => e = .returned (.bool true) ∧ Below w.heap.size w w' := by
  obtain ⟨ao, cap, rfl, -, -⟩ := hb.shape (n := b.length) rfl
  have hl2 : (500 : Int) < b.length := by omega
  clear hb
  go_enter Try.func5, Try.ntmps5
  go_wp2_with (first | (go_at_call 34; refine (lives15 w).mono ?_; rintro e w1 ⟨rfl, hb1⟩) | (go_at_call 34; refine (lives15 w1).mono ?_; rintro e w2 ⟨rfl, hb2⟩))
  go_ret
  exact ⟨rfl, hb1.trans (hb2.mono hb1.size)⟩

set_option maxHeartbeats 4000000 in
set_option maxRecDepth 100000 in
theorem seg_err_case (w : World) (v : Value) (b : List UInt8) (n : Nat) (hb : isB w v b) (hl : b.length ≤ 500) (hp : p14 b = .err n) :
    Calls Try.prog 5 #[v] w fun e w' => e = .returned (.bool true) ∧ Below w.heap.size w w' := by
  obtain ⟨ao, cap, rfl, -, -⟩ := hb.shape (n := b.length) rfl; have hl2 : ¬ (500 : Int) < b.length := (by omega); have HB := Lib.hid hb; have HP := Bx.mk hp; clear hb hp
  have hq5 := eq5
  go_enter Try.func5, Try.ntmps5
  go_wp2_with (first | (go_at_call 34; refine (lives15 w).mono ?_; rintro e w1 ⟨rfl, hb1⟩) | ((go_at_call 35; refine (sread_spec w1 _ b (HB.out.below hb1) (by omega)).mono ?_; rintro e w2 ⟨v2, rfl, hv2, hb2⟩; rw [HP.out] at hv2 ⊢); obtain rfl := hv2; dsimp only [errOf]) | ((go_at_call 36; refine (rb_spec w2 _ b ((HB.out.below hb1).below hb2) (by omega)).mono ?_; rintro e w3 ⟨rfl, hb3⟩; rw [HP.out]); dsimp only [rb14, zeroB, blkC]))
  have hB3 : Below w.heap.size w w3 := (hb1.trans (hb2.mono hb1.size)).trans (hb3.mono (by have := hb1.size; have := hb2.size; omega))
  have hT := heap_alloc_new w3 (.cells #[.int .u8 0, .int .i64 0, .int .i64 0, .int .i64 0, .int .i64 0, .int .i64 0, .string (str [])] 74)
  have hB4 : Below w.heap.size w (w3.alloc (.cells #[.int .u8 0, .int .i64 0, .int .i64 0, .int .i64 0, .int .i64 0, .int .i64 0, .string (str [])] 74)) := hB3.alloc hB3.size _
  generalize World.alloc w3 _ = W at *
  obtain ⟨a0, a1, a2, a3, a4, a5, a6⟩ := cells7 hT; have keepc := fun (a : Addr) (u : Value) (q : W.cell? a = some u) wx (h : Below W.heap.size W wx) => (h.cell (World.block_lt_of_cell? W _ q)).trans q; replace a0 := keepc _ _ a0; replace a1 := keepc _ _ a1; replace a2 := keepc _ _ a2; replace a3 := keepc _ _ a3; replace a4 := keepc _ _ a4; replace a5 := keepc _ _ a5; replace a6 := keepc _ _ a6; clear keepc
  have HB4 := Lib.hid hB4
  clear hT hB4 hB3 hb1 hb2 hb3
  refine wp_region_seq (fun wx => Below W.heap.size W wx) [(0, true), (1, true), (2, true), (3, true), (4, true), (6, true), (5, false), (7, true), (8, true), (9, true)] (by kernel_rfl) (by kernel_rfl) (fun c a d v w h => by cases d <;> exact h) ((Below.refl W.heap.size W).drew) ?_
  simp only [pickSeq, List.map_cons, List.map_nil, List.getD_cons_zero, List.getD_cons_succ]
  have hHeld := ((Below.refl W.heap.size W).drew)
  refine seq_take (v := ?_) (by rfl) (fun wx hSw => ?_) ?_; rotate_left; (go_simp <;> try with_reducible rfl); (try simp only [Act.put, List.setIfInBounds_toArray, List.set_cons_zero, List.set_cons_succ])
  refine seq_take (v := ?_) (by rfl) (fun wx hSw => ?_) ?_; rotate_left; (go_simp <;> try with_reducible rfl); (try simp only [Act.put, List.setIfInBounds_toArray, List.set_cons_zero, List.set_cons_succ])
  refine seq_take (v := ?_) (by rfl) (fun wx hSw => ?_) ?_; rotate_left; (go_simp <;> try with_reducible rfl); (try simp only [Act.put, List.setIfInBounds_toArray, List.set_cons_zero, List.set_cons_succ])
  refine seq_take (v := ?_) (by rfl) (fun wx hSw => ?_) ?_; rotate_left; (go_simp <;> try with_reducible rfl); (try simp only [Act.put, List.setIfInBounds_toArray, List.set_cons_zero, List.set_cons_succ])
  refine seq_take (v := ?_) (by rfl) (fun wx hSw => ?_) ?_; rotate_left; (go_simp <;> try with_reducible rfl); (try simp only [Act.put, List.setIfInBounds_toArray, List.set_cons_zero, List.set_cons_succ])
  refine seq_take (v := ?_) (by rfl) (fun wx hSw => ?_) ?_; rotate_left; (go_simp <;> try with_reducible rfl); (try simp only [Act.put, List.setIfInBounds_toArray, List.set_cons_zero, List.set_cons_succ])
  refine seq_run (fun K hK => ?_); go_simp; go_at_call 37; refine (plain_nil _).mono ?_; rintro e w7 ⟨rfl, hb7⟩; refine hK.out _ _ ((hHeld.trans (hb7.mono hHeld.size))) (fun hHeld => ?_); clear hK K; (try simp only [Act.put, List.setIfInBounds_toArray, List.set_cons_zero, List.set_cons_succ])
  refine seq_take (v := .bool true) (by rfl) (fun wx hSw => by ((try dsimp only [blkC]); (try simp only [show str [] = (⟨#[]⟩ : ByteArray) from rfl]); go_simp)) ?_; (try simp only [Act.put, List.setIfInBounds_toArray, List.set_cons_zero, List.set_cons_succ])
  refine seq_take (v := ?_) (by rfl) (fun wx hSw => ?_) ?_; rotate_left; (go_simp <;> try with_reducible rfl); (try simp only [Act.put, List.setIfInBounds_toArray, List.set_cons_zero, List.set_cons_succ])
  refine seq_take (v := ?_) (by rfl) (fun wx hSw => ?_) ?_; rotate_left; (go_simp <;> try with_reducible rfl); (try simp only [Act.put, List.setIfInBounds_toArray, List.set_cons_zero, List.set_cons_succ])
  refine seq_nil ?_
  have Hb := Lib.hid hHeld
  clear hHeld
  go_wp2
  go_ret
  exact ⟨rfl, HB4.out.trans (Hb.out.mono HB4.out.size)⟩

set_option maxHeartbeats 4000000 in
set_option maxRecDepth 100000 in
theorem seg_data (w : World) (v : Value) (b : List UInt8) (d : List UInt8) (hb : isB w v b) (hl : b.length ≤ 500) (hp : p14 b = .data d) :
    Calls Try.prog 5 #[v] w fun e w' => e = .returned (.bool true) ∧ Below w.heap.size w w' := by
  obtain ⟨ao, cap, rfl, -, -⟩ := hb.shape (n := b.length) rfl; have hl2 : ¬ (500 : Int) < b.length := (by omega); have HB := Lib.hid hb; have HP := Bx.mk hp; clear hb hp
  have hq5 := eq5
  go_enter Try.func5, Try.ntmps5
  go_wp2_with (first | (go_at_call 34; refine (lives15 w).mono ?_; rintro e w1 ⟨rfl, hb1⟩) | ((go_at_call 35; refine (sread_spec w1 _ b (HB.out.below hb1) (by omega)).mono ?_; rintro e w2 ⟨v2, rfl, hv2, hb2⟩; rw [HP.out] at hv2 ⊢); obtain ⟨sv, rfl, hsv⟩ := hv2; obtain ⟨ao4, cap4, rfl, -, -⟩ := hsv.shape (n := d.length) rfl; dsimp only [errOf]) | ((go_at_call 36; refine (rb_spec w2 _ b ((HB.out.below hb1).below hb2) (by omega)).mono ?_; rintro e w3 ⟨rfl, hb3⟩; rw [HP.out]); dsimp only [rb14, blkC]))
  have hB3 : Below w.heap.size w w3 := (hb1.trans (hb2.mono hb1.size)).trans (hb3.mono (by have := hb1.size; have := hb2.size; omega))
  have hT := heap_alloc_new w3 (.cells #[.int .u8 68, .int .i64 0, .int .i64 0, .int .i64 0, .int .i64 0, .int .i64 0, .string (str d)] 74)
  have hB4 : Below w.heap.size w (w3.alloc (.cells #[.int .u8 68, .int .i64 0, .int .i64 0, .int .i64 0, .int .i64 0, .int .i64 0, .string (str d)] 74)) := hB3.alloc hB3.size _
  have Hs4 := Lib.hid ((hsv.below hb3).alloc (.cells #[.int .u8 68, .int .i64 0, .int .i64 0, .int .i64 0, .int .i64 0, .int .i64 0, .string (str d)] 74))
  clear hsv
  generalize World.alloc w3 _ = W at *
  obtain ⟨a0, a1, a2, a3, a4, a5, a6⟩ := cells7 hT; have keepc := fun (a : Addr) (u : Value) (q : W.cell? a = some u) wx (h : Below W.heap.size W wx) => (h.cell (World.block_lt_of_cell? W _ q)).trans q; replace a0 := keepc _ _ a0; replace a1 := keepc _ _ a1; replace a2 := keepc _ _ a2; replace a3 := keepc _ _ a3; replace a4 := keepc _ _ a4; replace a5 := keepc _ _ a5; replace a6 := keepc _ _ a6; clear keepc
  have HB4 := Lib.hid hB4
  clear hT hB4 hB3 hb1 hb2 hb3
  refine wp_region_seq (fun wx => Below W.heap.size W wx) [(0, true), (1, true), (2, true), (3, true), (4, true), (6, true), (5, false), (7, true), (8, true), (9, true)] (by kernel_rfl) (by kernel_rfl) (fun c a d v w h => by cases d <;> exact h) ((Below.refl W.heap.size W).drew) ?_
  simp only [pickSeq, List.map_cons, List.map_nil, List.getD_cons_zero, List.getD_cons_succ]
  have hHeld := ((Below.refl W.heap.size W).drew)
  refine seq_take (v := ?_) (by rfl) (fun wx hSw => ?_) ?_; rotate_left; (go_simp <;> try with_reducible rfl); (try simp only [Act.put, List.setIfInBounds_toArray, List.set_cons_zero, List.set_cons_succ])
  refine seq_take (v := ?_) (by rfl) (fun wx hSw => ?_) ?_; rotate_left; (go_simp <;> try with_reducible rfl); (try simp only [Act.put, List.setIfInBounds_toArray, List.set_cons_zero, List.set_cons_succ])
  refine seq_take (v := ?_) (by rfl) (fun wx hSw => ?_) ?_; rotate_left; (go_simp <;> try with_reducible rfl); (try simp only [Act.put, List.setIfInBounds_toArray, List.set_cons_zero, List.set_cons_succ])
  refine seq_take (v := ?_) (by rfl) (fun wx hSw => ?_) ?_; rotate_left; (go_simp <;> try with_reducible rfl); (try simp only [Act.put, List.setIfInBounds_toArray, List.set_cons_zero, List.set_cons_succ])
  refine seq_take (v := ?_) (by rfl) (fun wx hSw => ?_) ?_; rotate_left; (go_simp <;> try with_reducible rfl); (try simp only [Act.put, List.setIfInBounds_toArray, List.set_cons_zero, List.set_cons_succ])
  refine seq_take (v := ?_) (by rfl) (fun wx hSw => ?_) ?_; rotate_left; (go_simp <;> try with_reducible rfl); (try simp only [Act.put, List.setIfInBounds_toArray, List.set_cons_zero, List.set_cons_succ])
  refine seq_run (fun K hK => ?_); go_simp; go_at_call 37; refine (plain_data _ _ d ((Hs4.out).below hHeld)).mono ?_; rintro e w7 ⟨rfl, hb7⟩; refine hK.out _ _ ((hHeld.trans (hb7.mono hHeld.size))) (fun hHeld => ?_); clear hK K; (try simp only [Act.put, List.setIfInBounds_toArray, List.set_cons_zero, List.set_cons_succ])
  refine seq_take (v := .bool true) (by rfl) (fun wx hSw => by ((try dsimp only [blkC]); (try simp only [show str [] = (⟨#[]⟩ : ByteArray) from rfl]); go_simp)) ?_; (try simp only [Act.put, List.setIfInBounds_toArray, List.set_cons_zero, List.set_cons_succ])
  refine seq_take (v := ?_) (by rfl) (fun wx hSw => ?_) ?_; rotate_left; (go_simp <;> try with_reducible rfl); (try simp only [Act.put, List.setIfInBounds_toArray, List.set_cons_zero, List.set_cons_succ])
  refine seq_take (v := ?_) (by rfl) (fun wx hSw => ?_) ?_; rotate_left; (go_simp <;> try with_reducible rfl); (try simp only [Act.put, List.setIfInBounds_toArray, List.set_cons_zero, List.set_cons_succ])
  refine seq_nil ?_
  have Hb := Lib.hid hHeld
  clear hHeld
  go_wp2
  go_ret
  exact ⟨rfl, HB4.out.trans (Hb.out.mono HB4.out.size)⟩

set_option maxHeartbeats 4000000 in
set_option maxRecDepth 100000 in
theorem seg_head (w : World) (v : Value) (b : List UInt8) (n0 n1 n2 n3 n4 : Nat) (hb : isB w v b) (hl : b.length ≤ 500) (hp : p14 b = .nums 72 [n0, n1, n2, n3, n4]) :
    Calls Try.prog 5 #[v] w fun e w' => e = .returned (.bool true) ∧ Below w.heap.size w w' := by
  obtain ⟨ao, cap, rfl, -, -⟩ := hb.shape (n := b.length) rfl; have hl2 : ¬ (500 : Int) < b.length := (by omega); have HB := Lib.hid hb; have HP := Bx.mk hp; clear hb hp
  have hq5 := eq5
  go_enter Try.func5, Try.ntmps5
  go_wp2_with (first | (go_at_call 34; refine (lives15 w).mono ?_; rintro e w1 ⟨rfl, hb1⟩) | ((go_at_call 35; refine (sread_spec w1 _ b (HB.out.below hb1) (by omega)).mono ?_; rintro e w2 ⟨v2, rfl, hv2, hb2⟩; rw [HP.out] at hv2 ⊢); rw [isBlk, if_pos rfl] at hv2; obtain rfl := hv2; rw [show errOf (.nums 72 [n0, n1, n2, n3, n4]) = 0 from rfl]; dsimp only [five, List.range, List.range.loop, List.map, List.getD_cons_zero, List.getD_cons_succ]) | ((go_at_call 36; refine (rb_spec w2 _ b ((HB.out.below hb1).below hb2) (by omega)).mono ?_; rintro e w3 ⟨rfl, hb3⟩; rw [HP.out]); dsimp only [rb14, numsB, blkC, List.getD_cons_zero, List.getD_cons_succ]))
  have hB3 : Below w.heap.size w w3 := (hb1.trans (hb2.mono hb1.size)).trans (hb3.mono (by have := hb1.size; have := hb2.size; omega))
  have hT := heap_alloc_new w3 (.cells #[.int .u8 72, .int .i64 n0, .int .i64 n1, .int .i64 n2, .int .i64 n3, .int .i64 n4, .string (str [])] 74)
  have hB4 : Below w.heap.size w (w3.alloc (.cells #[.int .u8 72, .int .i64 n0, .int .i64 n1, .int .i64 n2, .int .i64 n3, .int .i64 n4, .string (str [])] 74)) := hB3.alloc hB3.size _
  generalize World.alloc w3 _ = W at *
  obtain ⟨a0, a1, a2, a3, a4, a5, a6⟩ := cells7 hT; have keepc := fun (a : Addr) (u : Value) (q : W.cell? a = some u) wx (h : Below W.heap.size W wx) => (h.cell (World.block_lt_of_cell? W _ q)).trans q; replace a0 := keepc _ _ a0; replace a1 := keepc _ _ a1; replace a2 := keepc _ _ a2; replace a3 := keepc _ _ a3; replace a4 := keepc _ _ a4; replace a5 := keepc _ _ a5; replace a6 := keepc _ _ a6; clear keepc
  have HB4 := Lib.hid hB4
  clear hT hB4 hB3 hb1 hb2 hb3
  refine wp_region_seq (fun wx => Below W.heap.size W wx) [(0, true), (1, true), (2, true), (3, true), (4, true), (6, true), (5, false), (7, true), (8, true), (9, true)] (by kernel_rfl) (by kernel_rfl) (fun c a d v w h => by cases d <;> exact h) ((Below.refl W.heap.size W).drew) ?_
  simp only [pickSeq, List.map_cons, List.map_nil, List.getD_cons_zero, List.getD_cons_succ]
  have hHeld := ((Below.refl W.heap.size W).drew)
  refine seq_take (v := ?_) (by rfl) (fun wx hSw => ?_) ?_; rotate_left; (go_simp <;> try with_reducible rfl); (try simp only [Act.put, List.setIfInBounds_toArray, List.set_cons_zero, List.set_cons_succ])
  refine seq_take (v := ?_) (by rfl) (fun wx hSw => ?_) ?_; rotate_left; (go_simp <;> try with_reducible rfl); (try simp only [Act.put, List.setIfInBounds_toArray, List.set_cons_zero, List.set_cons_succ])
  refine seq_take (v := ?_) (by rfl) (fun wx hSw => ?_) ?_; rotate_left; (go_simp <;> try with_reducible rfl); (try simp only [Act.put, List.setIfInBounds_toArray, List.set_cons_zero, List.set_cons_succ])
  refine seq_take (v := ?_) (by rfl) (fun wx hSw => ?_) ?_; rotate_left; (go_simp <;> try with_reducible rfl); (try simp only [Act.put, List.setIfInBounds_toArray, List.set_cons_zero, List.set_cons_succ])
  refine seq_take (v := ?_) (by rfl) (fun wx hSw => ?_) ?_; rotate_left; (go_simp <;> try with_reducible rfl); (try simp only [Act.put, List.setIfInBounds_toArray, List.set_cons_zero, List.set_cons_succ])
  refine seq_take (v := ?_) (by rfl) (fun wx hSw => ?_) ?_; rotate_left; (go_simp <;> try with_reducible rfl); (try simp only [Act.put, List.setIfInBounds_toArray, List.set_cons_zero, List.set_cons_succ])
  refine seq_run (fun K hK => ?_); go_simp; go_at_call 37; refine (plain_head _ n0 n1 n2 n3 n4).mono ?_; rintro e w7 ⟨rfl, hb7⟩; refine hK.out _ _ ((hHeld.trans (hb7.mono hHeld.size))) (fun hHeld => ?_); clear hK K; (try simp only [Act.put, List.setIfInBounds_toArray, List.set_cons_zero, List.set_cons_succ])
  refine seq_take (v := .bool true) (by rfl) (fun wx hSw => by ((try dsimp only [blkC]); (try simp only [show str [] = (⟨#[]⟩ : ByteArray) from rfl]); go_simp)) ?_; (try simp only [Act.put, List.setIfInBounds_toArray, List.set_cons_zero, List.set_cons_succ])
  refine seq_take (v := ?_) (by rfl) (fun wx hSw => ?_) ?_; rotate_left; (go_simp <;> try with_reducible rfl); (try simp only [Act.put, List.setIfInBounds_toArray, List.set_cons_zero, List.set_cons_succ])
  refine seq_take (v := ?_) (by rfl) (fun wx hSw => ?_) ?_; rotate_left; (go_simp <;> try with_reducible rfl); (try simp only [Act.put, List.setIfInBounds_toArray, List.set_cons_zero, List.set_cons_succ])
  refine seq_nil ?_
  have Hb := Lib.hid hHeld
  clear hHeld
  go_wp2
  go_ret
  exact ⟨rfl, HB4.out.trans (Hb.out.mono HB4.out.size)⟩
set_option maxHeartbeats 4000000 in
set_option maxRecDepth 100000 in
theorem seg_end (w : World) (v : Value) (b : List UInt8) (n0 n1 n2 n3 n4 : Nat) (hb : isB w v b) (hl : b.length ≤ 500) (h4 : n4 ≤ 1) (hp : p14 b = .nums 84 [n0, n1, n2, n3, n4]) :
    Calls Try.prog 5 #[v] w fun e w' => e = .returned (.bool true) ∧ Below w.heap.size w w' := by
  obtain ⟨ao, cap, rfl, -, -⟩ := hb.shape (n := b.length) rfl; have hl2 : ¬ (500 : Int) < b.length := (by omega); have HB := Lib.hid hb; have HP := Bx.mk hp; clear hb hp
  have h4i : ¬ (1 : Int) < n4 := by omega
  have hq5 := eq5
  go_enter Try.func5, Try.ntmps5
  go_wp2_with (first | (go_at_call 34; refine (lives15 w).mono ?_; rintro e w1 ⟨rfl, hb1⟩) | ((go_at_call 35; refine (sread_spec w1 _ b (HB.out.below hb1) (by omega)).mono ?_; rintro e w2 ⟨v2, rfl, hv2, hb2⟩; rw [HP.out] at hv2 ⊢); rw [isBlk, if_neg (by decide), if_pos (show List.getD [n0, n1, n2, n3, n4] 4 0 ≤ 1 from h4)] at hv2; obtain rfl := hv2; rw [err_end h4]; dsimp only [List.getD_cons_zero, List.getD_cons_succ]) | ((go_at_call 36; refine (rb_spec w2 _ b ((HB.out.below hb1).below hb2) (by omega)).mono ?_; rintro e w3 ⟨rfl, hb3⟩; rw [HP.out]); dsimp only [rb14, numsB, blkC, List.getD_cons_zero, List.getD_cons_succ]))
  have hB3 : Below w.heap.size w w3 := (hb1.trans (hb2.mono hb1.size)).trans (hb3.mono (by have := hb1.size; have := hb2.size; omega))
  have hT := heap_alloc_new w3 (.cells #[.int .u8 84, .int .i64 n0, .int .i64 n1, .int .i64 n2, .int .i64 n3, .int .i64 n4, .string (str [])] 74)
  have hB4 : Below w.heap.size w (w3.alloc (.cells #[.int .u8 84, .int .i64 n0, .int .i64 n1, .int .i64 n2, .int .i64 n3, .int .i64 n4, .string (str [])] 74)) := hB3.alloc hB3.size _
  generalize World.alloc w3 _ = W at *
  obtain ⟨a0, a1, a2, a3, a4, a5, a6⟩ := cells7 hT; have keepc := fun (a : Addr) (u : Value) (q : W.cell? a = some u) wx (h : Below W.heap.size W wx) => (h.cell (World.block_lt_of_cell? W _ q)).trans q; replace a0 := keepc _ _ a0; replace a1 := keepc _ _ a1; replace a2 := keepc _ _ a2; replace a3 := keepc _ _ a3; replace a4 := keepc _ _ a4; replace a5 := keepc _ _ a5; replace a6 := keepc _ _ a6; clear keepc
  have HB4 := Lib.hid hB4
  clear hT hB4 hB3 hb1 hb2 hb3
  refine wp_region_seq (fun wx => Below W.heap.size W wx) [(0, true), (1, true), (2, true), (3, true), (4, true), (6, true), (5, false), (7, true), (8, true), (9, true)] (by kernel_rfl) (by kernel_rfl) (fun c a d v w h => by cases d <;> exact h) ((Below.refl W.heap.size W).drew) ?_
  simp only [pickSeq, List.map_cons, List.map_nil, List.getD_cons_zero, List.getD_cons_succ]
  have hHeld := ((Below.refl W.heap.size W).drew)
  refine seq_take (v := ?_) (by rfl) (fun wx hSw => ?_) ?_; rotate_left; (go_simp <;> try with_reducible rfl); (try simp only [Act.put, List.setIfInBounds_toArray, List.set_cons_zero, List.set_cons_succ])
  refine seq_take (v := ?_) (by rfl) (fun wx hSw => ?_) ?_; rotate_left; (go_simp <;> try with_reducible rfl); (try simp only [Act.put, List.setIfInBounds_toArray, List.set_cons_zero, List.set_cons_succ])
  refine seq_take (v := ?_) (by rfl) (fun wx hSw => ?_) ?_; rotate_left; (go_simp <;> try with_reducible rfl); (try simp only [Act.put, List.setIfInBounds_toArray, List.set_cons_zero, List.set_cons_succ])
  refine seq_take (v := ?_) (by rfl) (fun wx hSw => ?_) ?_; rotate_left; (go_simp <;> try with_reducible rfl); (try simp only [Act.put, List.setIfInBounds_toArray, List.set_cons_zero, List.set_cons_succ])
  refine seq_take (v := ?_) (by rfl) (fun wx hSw => ?_) ?_; rotate_left; (go_simp <;> try with_reducible rfl); (try simp only [Act.put, List.setIfInBounds_toArray, List.set_cons_zero, List.set_cons_succ])
  refine seq_take (v := ?_) (by rfl) (fun wx hSw => ?_) ?_; rotate_left; (go_simp <;> try with_reducible rfl); (try simp only [Act.put, List.setIfInBounds_toArray, List.set_cons_zero, List.set_cons_succ])
  refine seq_run (fun K hK => ?_); go_simp; go_at_call 37; refine (plain_end _ n0 n1 n2 n3 (decide (n4 = 1))).mono ?_; rintro e w7 ⟨rfl, hb7⟩; rw [show (if decide (n4 = 1) = true then (1 : Int) else 0) = n4 by by_cases h : n4 = 1 <;> simp [h]; omega]; refine hK.out _ _ ((hHeld.trans (hb7.mono hHeld.size))) (fun hHeld => ?_); clear hK K; (try simp only [Act.put, List.setIfInBounds_toArray, List.set_cons_zero, List.set_cons_succ])
  refine seq_take (v := .bool true) (by rfl) (fun wx hSw => by ((try dsimp only [blkC]); (try simp only [show str [] = (⟨#[]⟩ : ByteArray) from rfl]); go_simp)) ?_; (try simp only [Act.put, List.setIfInBounds_toArray, List.set_cons_zero, List.set_cons_succ])
  refine seq_take (v := ?_) (by rfl) (fun wx hSw => ?_) ?_; rotate_left; (go_simp <;> try with_reducible rfl); (try simp only [Act.put, List.setIfInBounds_toArray, List.set_cons_zero, List.set_cons_succ])
  refine seq_take (v := ?_) (by rfl) (fun wx hSw => ?_) ?_; rotate_left; (go_simp <;> try with_reducible rfl); (try simp only [Act.put, List.setIfInBounds_toArray, List.set_cons_zero, List.set_cons_succ])
  refine seq_nil ?_
  have Hb := Lib.hid hHeld
  clear hHeld
  go_wp2
  go_ret
  exact ⟨rfl, HB4.out.trans (Hb.out.mono HB4.out.size)⟩

set_option maxHeartbeats 4000000 in
set_option maxRecDepth 100000 in
theorem seg_end2 (w : World) (v : Value) (b : List UInt8) (n0 n1 n2 n3 n4 : Nat) (hb : isB w v b) (hl : b.length ≤ 500) (h4 : ¬ n4 ≤ 1) (hp : p14 b = .nums 84 [n0, n1, n2, n3, n4]) :
    Calls Try.prog 5 #[v] w fun e w' => e = .returned (.bool true) ∧ Below w.heap.size w w' := by
  obtain ⟨ao, cap, rfl, -, -⟩ := hb.shape (n := b.length) rfl; have hl2 : ¬ (500 : Int) < b.length := (by omega); have HB := Lib.hid hb; have HP := Bx.mk hp; clear hb hp
  have h4i : (1 : Int) < n4 := by omega
  have hq5 := eq5
  go_enter Try.func5, Try.ntmps5
  go_wp2_with (first | (go_at_call 34; refine (lives15 w).mono ?_; rintro e w1 ⟨rfl, hb1⟩) | ((go_at_call 35; refine (sread_spec w1 _ b (HB.out.below hb1) (by omega)).mono ?_; rintro e w2 ⟨v2, rfl, hv2, hb2⟩; rw [HP.out] at hv2 ⊢); rw [isBlk, if_neg (by decide), if_neg (show ¬ List.getD [n0, n1, n2, n3, n4] 4 0 ≤ 1 from h4)] at hv2; obtain rfl := hv2; rw [err_end2 h4]; dsimp only [List.getD_cons_zero, List.getD_cons_succ]) | ((go_at_call 36; refine (rb_spec w2 _ b ((HB.out.below hb1).below hb2) (by omega)).mono ?_; rintro e w3 ⟨rfl, hb3⟩; rw [HP.out]); dsimp only [rb14, numsB, blkC, List.getD_cons_zero, List.getD_cons_succ]))
  go_ret
  exact ⟨rfl, ((hb1.trans (hb2.mono hb1.size)).trans (hb3.mono (by have := hb1.size; have := hb2.size; omega))).alloc (by have := hb1.size; have := hb2.size; have := hb3.size; omega) _⟩

theorem law_segreads (w : World) (v : Value) (b : List UInt8) (hb : isB w v b) :
    Calls Try.prog 5 #[v] w fun e w' => e = .returned (.bool true) ∧ Below w.heap.size w w' := by
  by_cases hl : 500 < b.length
  · exact seg_long w v b hb hl
  · have hl : b.length ≤ 500 := by omega
    cases hp : p14 b with
    | err n => exact seg_err_case w v b n hb hl hp
    | data d => exact seg_data w v b d hb hl hp
    | nums k l =>
      obtain ⟨h5, hk⟩ := p14_five hp
      obtain ⟨n0, n1, n2, n3, n4, rfl⟩ := five_row h5
      rcases hk with rfl | rfl
      · exact seg_head w v b n0 n1 n2 n3 n4 hb hl hp
      · by_cases h4 : n4 ≤ 1
        · exact seg_end w v b n0 n1 n2 n3 n4 hb hl h4 hp
        · exact seg_end2 w v b n0 n1 n2 n3 n4 hb hl h4 hp
end Go.Proofs.Ytobpjldpkgioaaa
