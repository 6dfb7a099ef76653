/- ref12: Read -/
import Derived.Test.YtobpjldpkgioaaaRef12e
set_option linter.unusedVariables false
set_option linter.unusedSimpArgs false
namespace Go.Proofs.Ytobpjldpkgioaaa
open Go.RowKit

def QreadPost (w : World) (rb : Nat) (x : Rec × Nat) (e : Ending) (w' : World) : Prop :=
  e = .returned (.tuple #[.agg (refC x.1), .int .i64 x.2]) ∧ Chg (· = rb) w w'

theorem nil_qread {w w' : World} {rb n : Nat} (hc : Chg (· = rb) w w') : QreadPost w rb (nilRec, n) (.returned (.tuple #[.agg nilQ, .int .i64 n])) w' := ⟨rfl, hc⟩
theorem some_qread {w w' : World} {rb : Nat} {x : Rec} (hc : Chg (· = rb) w w') : QreadPost w rb (x, 0) (.returned (.tuple #[.agg #[.int .u8 x.kind.toNat, .int .i64 x.id, .int .i64 x.base, .int .i64 x.from_, .int .i64 x.to, .string (str x.blocks), .int .i64 x.count, .int .u64 x.len, .int .u64 x.sum], .int .i64 0])) w' := ⟨rfl, hc⟩

theorem qparse_spec' {o : Option Rec} (w : World) (v : Value) (bs : List UInt8) (hb : isB w v bs) (hl : bs.length ≤ 100000) (ho : rparse bs = o) :
    Calls Try.prog 98 #[v] w (QparsePost w o) := ho ▸ qparse_spec w v bs hb hl

set_option maxHeartbeats 4000000 in
set_option maxRecDepth 100000 in
theorem qread_spec (w : World) (rb : Nat) (g : Nat → Prop) (bs : List UInt8) (hr : isQ w rb g bs 0) :
    Calls Try.prog 54 #[.pointer (some ⟨rb, 0, none⟩)] w (QreadPost w rb (rread bs)) := by
  have hrw := lt_of_heap hr.choose_spec.1
  unfold rread
  have hy := rbytes_len 200 bs 0
  obtain ⟨y, b1, e1, hx⟩ : ∃ n b1 e1, rbytes 200 bs 0 = (n, b1, e1) := ⟨_, _, _, rfl⟩
  rw [hx] at hy ⊢
  dsimp only at hy ⊢
  have Hx := Lib.hid hx
  clear hx
  by_cases he : e1 = 0
  · subst he
    rw [if_neg (by simp)]
    by_cases h4 : y.length < 4
    · have h4i : (y.length : Int) < 4 := by omega
      rw [show opened y = none by rw [opened, if_pos h4]]
      go_enter Try.func54, Try.ntmps54
      go_wp2_with (first | (go_at_call 97; refine (qbytes_spec _ rb g bs 0 200 (by decide) (hr.below (below_alloc _ _))).mono ?_; rintro e w1 ⟨v1, rfl, hv1, hg1, hr1, hc1⟩; rw [Hx.out] at hv1 hr1; dsimp only at hv1 hr1; have HS := hc1.keeps (heap_alloc_new w _) (by omega); obtain ⟨s0, s1, s2, s3, s4, s5, s6, s7, s8⟩ := cells9 HS; have f3 := unfrozen HS; have hs1 := hc1.size; simp only [size_alloc] at hs1; have HC1 : Chg (· = rb) w w1 := (Chg.alloc (Chg.refl _ _) _).trans hc1 (fun _ _ h => h); obtain ⟨vr, hrow, -, -, -⟩ := hr1; obtain ⟨rc0, rc1⟩ := cells2' hrow; obtain ⟨ao1, cap1, rfl, hca1, -⟩ := hv1.shape (n := y.length) rfl; have HV1 := Lib.hid hv1; clear hv1 hg1 hrow))
      have q12 : ∀ wx, isB wx (.slice ao1 y.length cap1) y → (convert 40 9 (.slice ao1 y.length cap1)).run Try.prog wx = .ok (.string (str y)) wx := fun wx h => run_string h 40 5 Try.underlying40 Try.underlying5 9 Try.underlying9
      refine wp_region_seq (fun wx => isB wx (.slice ao1 y.length cap1) y) [(0, true), (1, true), (2, true), (3, true), (4, true), (5, true), (6, true), (7, true), (8, true), (9, true), (10, true), (11, true), (12, true), (13, true), (14, true)] (by kernel_rfl) (by kernel_rfl) (fun c a d v w h => by cases d <;> exact h) (HV1.out.drew) ?_
      simp only [pickSeq, List.map_cons, List.map_nil, List.getD_cons_zero, List.getD_cons_succ]
      have hHeld := (HV1.out.drew)
      refine seq_take (v := ?_) (by rfl) (fun wx hSw => ?_) ?_; rotate_left; (go_simp <;> try with_reducible rfl); (try simp only [Act.put, List.setIfInBounds_toArray, List.set_cons_zero, List.set_cons_succ])
      refine seq_take (v := ?_) (by rfl) (fun wx hSw => ?_) ?_; rotate_left; (go_simp <;> try with_reducible rfl); (try simp only [Act.put, List.setIfInBounds_toArray, List.set_cons_zero, List.set_cons_succ])
      refine seq_take (v := ?_) (by rfl) (fun wx hSw => ?_) ?_; rotate_left; (go_simp <;> try with_reducible rfl); (try simp only [Act.put, List.setIfInBounds_toArray, List.set_cons_zero, List.set_cons_succ])
      refine seq_take (v := ?_) (by rfl) (fun wx hSw => ?_) ?_; rotate_left; (go_simp <;> try with_reducible rfl); (try simp only [Act.put, List.setIfInBounds_toArray, List.set_cons_zero, List.set_cons_succ])
      refine seq_skip (by rfl) ?_; (try simp only [Act.put, List.setIfInBounds_toArray, List.set_cons_zero, List.set_cons_succ])
      refine seq_skip (by rfl) ?_; (try simp only [Act.put, List.setIfInBounds_toArray, List.set_cons_zero, List.set_cons_succ])
      refine seq_skip (by rfl) ?_; (try simp only [Act.put, List.setIfInBounds_toArray, List.set_cons_zero, List.set_cons_succ])
      refine seq_skip (by rfl) ?_; (try simp only [Act.put, List.setIfInBounds_toArray, List.set_cons_zero, List.set_cons_succ])
      refine seq_skip (by rfl) ?_; (try simp only [Act.put, List.setIfInBounds_toArray, List.set_cons_zero, List.set_cons_succ])
      refine seq_skip (by rfl) ?_; (try simp only [Act.put, List.setIfInBounds_toArray, List.set_cons_zero, List.set_cons_succ])
      refine seq_skip (by rfl) ?_; (try simp only [Act.put, List.setIfInBounds_toArray, List.set_cons_zero, List.set_cons_succ])
      refine seq_skip (by rfl) ?_; (try simp only [Act.put, List.setIfInBounds_toArray, List.set_cons_zero, List.set_cons_succ])
      refine seq_skip (by rfl) ?_; (try simp only [Act.put, List.setIfInBounds_toArray, List.set_cons_zero, List.set_cons_succ])
      refine seq_skip (by rfl) ?_; (try simp only [Act.put, List.setIfInBounds_toArray, List.set_cons_zero, List.set_cons_succ])
      refine seq_take (v := ?_) (by rfl) (fun wx hSw => ?_) ?_; rotate_left; (go_simp <;> try with_reducible rfl); (try simp only [Act.put, List.setIfInBounds_toArray, List.set_cons_zero, List.set_cons_succ])
      refine seq_nil ?_
      go_wp2
      refine bodyPost_ret (v := .tuple #[.agg _, .int .i64 _]) (by rw [results_cell_tmp rfl]; go_simp; exact ⟨rfl, rfl⟩) rfl ?_
      refine nil_qread ?_
      refine Chg.drew ?_
      iterate 9 (refine Chg.setCell ?_ (.inl (by first | exact Nat.le_refl _ | (dsimp only; omega))) _)
      exact HC1
    · have h4i : ¬ (y.length : Int) < 4 := by omega
      have hsub : ((y.length : Int) - 4) = ((y.length - 4 : Nat) : Int) := by omega
      by_cases hs : sealed (y.take (y.length - 4)) = y
      · rw [show opened y = some (y.take (y.length - 4)) by rw [opened, if_neg h4, if_pos hs]]
        dsimp only
        have Hs := Lib.hid hs
        clear hs
        cases hp : rparse (y.take (y.length - 4)) with
        | none =>
          have Hp := Lib.hid hp
          clear hp
          dsimp only
          go_enter Try.func54, Try.ntmps54
          go_wp2_with (first | (go_at_call 97; refine (qbytes_spec _ rb g bs 0 200 (by decide) (hr.below (below_alloc _ _))).mono ?_; rintro e w1 ⟨v1, rfl, hv1, hg1, hr1, hc1⟩; rw [Hx.out] at hv1 hr1; dsimp only at hv1 hr1; have HS := hc1.keeps (heap_alloc_new w _) (by omega); obtain ⟨s0, s1, s2, s3, s4, s5, s6, s7, s8⟩ := cells9 HS; have f3 := unfrozen HS; have hs1 := hc1.size; simp only [size_alloc] at hs1; have HC1 : Chg (· = rb) w w1 := (Chg.alloc (Chg.refl _ _) _).trans hc1 (fun _ _ h => h); obtain ⟨vr, hrow, -, -, -⟩ := hr1; obtain ⟨rc0, rc1⟩ := cells2' hrow; obtain ⟨ao1, cap1, rfl, hca1, -⟩ := hv1.shape (n := y.length) rfl; have HV1 := Lib.hid hv1; clear hv1 hg1 hrow))
          have q12 : ∀ wx, isB wx (.slice ao1 y.length cap1) y → (convert 40 9 (.slice ao1 y.length cap1)).run Try.prog wx = .ok (.string (str y)) wx := fun wx h => run_string h 40 5 Try.underlying40 Try.underlying5 9 Try.underlying9
          refine wp_region_seq (fun wx => isB wx (.slice ao1 y.length cap1) y) [(0, true), (1, true), (2, true), (3, true), (4, true), (5, true), (6, true), (7, true), (8, true), (11, true), (12, true), (9, false), (10, false), (13, true), (14, true)] (by kernel_rfl) (by kernel_rfl) (fun c a d v w h => by cases d <;> exact h) (HV1.out.drew) ?_
          simp only [pickSeq, List.map_cons, List.map_nil, List.getD_cons_zero, List.getD_cons_succ]
          have hHeld := (HV1.out.drew)
          refine seq_take (v := ?_) (by rfl) (fun wx hSw => ?_) ?_; rotate_left; (go_simp <;> try with_reducible rfl); (try simp only [Act.put, List.setIfInBounds_toArray, List.set_cons_zero, List.set_cons_succ])
          refine seq_take (v := ?_) (by rfl) (fun wx hSw => ?_) ?_; rotate_left; (go_simp <;> try with_reducible rfl); (try simp only [Act.put, List.setIfInBounds_toArray, List.set_cons_zero, List.set_cons_succ])
          refine seq_take (v := .bool false) (by rfl) (fun wx hSw => by (go_simp <;> omega)) ?_; (try simp only [Act.put, List.setIfInBounds_toArray, List.set_cons_zero, List.set_cons_succ])
          refine seq_take (v := ?_) (by rfl) (fun wx hSw => ?_) ?_; rotate_left; (go_simp <;> try with_reducible rfl); (try simp only [Act.put, List.setIfInBounds_toArray, List.set_cons_zero, List.set_cons_succ])
          refine seq_take (v := ?_) (by rfl) (fun wx hSw => ?_) ?_; rotate_left; (go_simp <;> try with_reducible rfl); (try simp only [Act.put, List.setIfInBounds_toArray, List.set_cons_zero, List.set_cons_succ])
          refine seq_take (v := ?_) (by rfl) (fun wx hSw => ?_) ?_; rotate_left; (go_simp <;> try with_reducible rfl); (try simp only [Act.put, List.setIfInBounds_toArray, List.set_cons_zero, List.set_cons_succ])
          refine seq_take (v := ?_) (by rfl) (fun wx hSw => ?_) ?_; rotate_left; (go_simp <;> try with_reducible rfl); (try simp only [Act.put, List.setIfInBounds_toArray, List.set_cons_zero, List.set_cons_succ])
          refine seq_take (v := .int .i64 (y.length - 4 : Nat)) (by rfl) (fun wx hSw => by (go_simp; exact IntWalk.i64_in _ (by omega))) ?_; (try simp only [Act.put, List.setIfInBounds_toArray, List.set_cons_zero, List.set_cons_succ])
          refine seq_take (v := .slice ao1 (y.length - 4) cap1) (by rfl) (fun wx hSw => by (go_simp; intro h; omega)) ?_; (try simp only [Act.put, List.setIfInBounds_toArray, List.set_cons_zero, List.set_cons_succ])
          refine seq_take (v := ?_) (by rfl) (fun wx hSw => ?_) ?_; rotate_left; (go_simp <;> try with_reducible rfl); (try simp only [Act.put, List.setIfInBounds_toArray, List.set_cons_zero, List.set_cons_succ])
          refine seq_take (v := ?_) (by rfl) (fun wx hSw => ?_) ?_; rotate_left; (go_simp <;> try with_reducible rfl); (try simp only [Act.put, List.setIfInBounds_toArray, List.set_cons_zero, List.set_cons_succ])
          refine seq_run (fun K hK => ?_); go_simp; go_at_call 96; refine (rseal_spec _ _ _ (hHeld.take (k := y.length - 4) (by omega)) (by rw [List.length_take]; omega)).mono ?_; rintro e w2 ⟨⟨r2, rfl, ho2⟩, hb2⟩; have q10 := run_string (P := Try.prog) ho2.isB 40 5 Try.underlying40 Try.underlying5 9 Try.underlying9; refine hK.out _ _ (hHeld.below hb2) (fun hHeld => ?_); clear hK K; (try simp only [Act.put, List.setIfInBounds_toArray, List.set_cons_zero, List.set_cons_succ])
          refine seq_run (fun K hK => ?_); go_simp; skip; refine hK.out _ _ (hHeld) (fun hHeld => ?_); clear hK K; (try simp only [Act.put, List.setIfInBounds_toArray, List.set_cons_zero, List.set_cons_succ])
          refine seq_take (v := .bool false) (by rfl) (fun wx hSw => by (go_simp; rw [Hs.out])) ?_; (try simp only [Act.put, List.setIfInBounds_toArray, List.set_cons_zero, List.set_cons_succ])
          refine seq_take (v := ?_) (by rfl) (fun wx hSw => ?_) ?_; rotate_left; (go_simp <;> try with_reducible rfl); (try simp only [Act.put, List.setIfInBounds_toArray, List.set_cons_zero, List.set_cons_succ])
          refine seq_nil ?_
          have HC2 : Chg (· = rb) w w2 := HC1.drew.trans (Chg.ofBelow (S := (· = rb)) hb2) (fun _ _ h => h)
          have hs2 := hb2.size
          replace hs2 : w1.heap.size ≤ w2.heap.size := hs2
          replace HS := below_keeps hb2 HS
          go_wp2_with (go_at_call 98; refine (qparse_spec' (o := none) _ _ (y.take (y.length - 4)) (hHeld.take (by omega)) (by rw [List.length_take]; omega) Hp.out).mono ?_; rintro e w3 ⟨hb3, rfl⟩; replace HS := below_keeps hb3 HS; have s0 := fun o => (cells9 (below_keeps (below_alloc w3 o) HS)).1; have s1 := fun o => (cells9 (below_keeps (below_alloc w3 o) HS)).2.1; have s2 := fun o => (cells9 (below_keeps (below_alloc w3 o) HS)).2.2.1; have s3 := fun o => (cells9 (below_keeps (below_alloc w3 o) HS)).2.2.2.1; have s4 := fun o => (cells9 (below_keeps (below_alloc w3 o) HS)).2.2.2.2.1; have s5 := fun o => (cells9 (below_keeps (below_alloc w3 o) HS)).2.2.2.2.2.1; have s6 := fun o => (cells9 (below_keeps (below_alloc w3 o) HS)).2.2.2.2.2.2.1; have s7 := fun o => (cells9 (below_keeps (below_alloc w3 o) HS)).2.2.2.2.2.2.2.1; have s8 := fun o => (cells9 (below_keeps (below_alloc w3 o) HS)).2.2.2.2.2.2.2.2; have f3 := fun o => unfrozen (below_keeps (below_alloc w3 o) HS); dsimp only [refC, nilRec])
          refine bodyPost_ret (v := .tuple #[.agg _, .int .i64 _]) (by rw [results_cell_tmp rfl]; go_simp; exact ⟨rfl, rfl⟩) rfl ?_
          refine nil_qread ?_
          iterate 9 (refine Chg.setCell ?_ (.inl (by first | exact Nat.le_refl _ | (dsimp only; omega))) _)
          exact (HC2.trans (Chg.ofBelow (S := (· = rb)) hb3) (fun _ _ h => h)).alloc _
        | some x =>
          have Hp := Lib.hid hp
          clear hp
          dsimp only
          go_enter Try.func54, Try.ntmps54
          go_wp2_with (first | (go_at_call 97; refine (qbytes_spec _ rb g bs 0 200 (by decide) (hr.below (below_alloc _ _))).mono ?_; rintro e w1 ⟨v1, rfl, hv1, hg1, hr1, hc1⟩; rw [Hx.out] at hv1 hr1; dsimp only at hv1 hr1; have HS := hc1.keeps (heap_alloc_new w _) (by omega); obtain ⟨s0, s1, s2, s3, s4, s5, s6, s7, s8⟩ := cells9 HS; have f3 := unfrozen HS; have hs1 := hc1.size; simp only [size_alloc] at hs1; have HC1 : Chg (· = rb) w w1 := (Chg.alloc (Chg.refl _ _) _).trans hc1 (fun _ _ h => h); obtain ⟨vr, hrow, -, -, -⟩ := hr1; obtain ⟨rc0, rc1⟩ := cells2' hrow; obtain ⟨ao1, cap1, rfl, hca1, -⟩ := hv1.shape (n := y.length) rfl; have HV1 := Lib.hid hv1; clear hv1 hg1 hrow))
          have q12 : ∀ wx, isB wx (.slice ao1 y.length cap1) y → (convert 40 9 (.slice ao1 y.length cap1)).run Try.prog wx = .ok (.string (str y)) wx := fun wx h => run_string h 40 5 Try.underlying40 Try.underlying5 9 Try.underlying9
          refine wp_region_seq (fun wx => isB wx (.slice ao1 y.length cap1) y) [(0, true), (1, true), (2, true), (3, true), (4, true), (5, true), (6, true), (7, true), (8, true), (11, true), (12, true), (9, false), (10, false), (13, true), (14, true)] (by kernel_rfl) (by kernel_rfl) (fun c a d v w h => by cases d <;> exact h) (HV1.out.drew) ?_
          simp only [pickSeq, List.map_cons, List.map_nil, List.getD_cons_zero, List.getD_cons_succ]
          have hHeld := (HV1.out.drew)
          refine seq_take (v := ?_) (by rfl) (fun wx hSw => ?_) ?_; rotate_left; (go_simp <;> try with_reducible rfl); (try simp only [Act.put, List.setIfInBounds_toArray, List.set_cons_zero, List.set_cons_succ])
          refine seq_take (v := ?_) (by rfl) (fun wx hSw => ?_) ?_; rotate_left; (go_simp <;> try with_reducible rfl); (try simp only [Act.put, List.setIfInBounds_toArray, List.set_cons_zero, List.set_cons_succ])
          refine seq_take (v := .bool false) (by rfl) (fun wx hSw => by (go_simp <;> omega)) ?_; (try simp only [Act.put, List.setIfInBounds_toArray, List.set_cons_zero, List.set_cons_succ])
          refine seq_take (v := ?_) (by rfl) (fun wx hSw => ?_) ?_; rotate_left; (go_simp <;> try with_reducible rfl); (try simp only [Act.put, List.setIfInBounds_toArray, List.set_cons_zero, List.set_cons_succ])
          refine seq_take (v := ?_) (by rfl) (fun wx hSw => ?_) ?_; rotate_left; (go_simp <;> try with_reducible rfl); (try simp only [Act.put, List.setIfInBounds_toArray, List.set_cons_zero, List.set_cons_succ])
          refine seq_take (v := ?_) (by rfl) (fun wx hSw => ?_) ?_; rotate_left; (go_simp <;> try with_reducible rfl); (try simp only [Act.put, List.setIfInBounds_toArray, List.set_cons_zero, List.set_cons_succ])
          refine seq_take (v := ?_) (by rfl) (fun wx hSw => ?_) ?_; rotate_left; (go_simp <;> try with_reducible rfl); (try simp only [Act.put, List.setIfInBounds_toArray, List.set_cons_zero, List.set_cons_succ])
          refine seq_take (v := .int .i64 (y.length - 4 : Nat)) (by rfl) (fun wx hSw => by (go_simp; exact IntWalk.i64_in _ (by omega))) ?_; (try simp only [Act.put, List.setIfInBounds_toArray, List.set_cons_zero, List.set_cons_succ])
          refine seq_take (v := .slice ao1 (y.length - 4) cap1) (by rfl) (fun wx hSw => by (go_simp; intro h; omega)) ?_; (try simp only [Act.put, List.setIfInBounds_toArray, List.set_cons_zero, List.set_cons_succ])
          refine seq_take (v := ?_) (by rfl) (fun wx hSw => ?_) ?_; rotate_left; (go_simp <;> try with_reducible rfl); (try simp only [Act.put, List.setIfInBounds_toArray, List.set_cons_zero, List.set_cons_succ])
          refine seq_take (v := ?_) (by rfl) (fun wx hSw => ?_) ?_; rotate_left; (go_simp <;> try with_reducible rfl); (try simp only [Act.put, List.setIfInBounds_toArray, List.set_cons_zero, List.set_cons_succ])
          refine seq_run (fun K hK => ?_); go_simp; go_at_call 96; refine (rseal_spec _ _ _ (hHeld.take (k := y.length - 4) (by omega)) (by rw [List.length_take]; omega)).mono ?_; rintro e w2 ⟨⟨r2, rfl, ho2⟩, hb2⟩; have q10 := run_string (P := Try.prog) ho2.isB 40 5 Try.underlying40 Try.underlying5 9 Try.underlying9; refine hK.out _ _ (hHeld.below hb2) (fun hHeld => ?_); clear hK K; (try simp only [Act.put, List.setIfInBounds_toArray, List.set_cons_zero, List.set_cons_succ])
          refine seq_run (fun K hK => ?_); go_simp; skip; refine hK.out _ _ (hHeld) (fun hHeld => ?_); clear hK K; (try simp only [Act.put, List.setIfInBounds_toArray, List.set_cons_zero, List.set_cons_succ])
          refine seq_take (v := .bool false) (by rfl) (fun wx hSw => by (go_simp; rw [Hs.out])) ?_; (try simp only [Act.put, List.setIfInBounds_toArray, List.set_cons_zero, List.set_cons_succ])
          refine seq_take (v := ?_) (by rfl) (fun wx hSw => ?_) ?_; rotate_left; (go_simp <;> try with_reducible rfl); (try simp only [Act.put, List.setIfInBounds_toArray, List.set_cons_zero, List.set_cons_succ])
          refine seq_nil ?_
          have HC2 : Chg (· = rb) w w2 := HC1.drew.trans (Chg.ofBelow (S := (· = rb)) hb2) (fun _ _ h => h)
          have hs2 := hb2.size
          replace hs2 : w1.heap.size ≤ w2.heap.size := hs2
          replace HS := below_keeps hb2 HS
          go_wp2_with (go_at_call 98; refine (qparse_spec' (o := some x) _ _ (y.take (y.length - 4)) (hHeld.take (by omega)) (by rw [List.length_take]; omega) Hp.out).mono ?_; rintro e w3 ⟨hb3, rfl⟩; replace HS := below_keeps (below_alloc w3 (.cells (refC x) 104)) (below_keeps hb3 HS); dsimp only [refC] at HS; obtain ⟨s0, s1, s2, s3, s4, s5, s6, s7, s8⟩ := cells9 HS; have f3 := unfrozen HS; dsimp only [refC])
          refine bodyPost_ret (v := .tuple #[.agg _, .int .i64 _]) (by rw [results_cell_tmp rfl]; go_simp; exact ⟨rfl, rfl⟩) rfl ?_
          refine some_qread ?_
          iterate 9 (refine Chg.setCell ?_ (.inl (by first | exact Nat.le_refl _ | (dsimp only; omega))) _)
          exact (HC2.trans (Chg.ofBelow (S := (· = rb)) hb3) (fun _ _ h => h)).alloc _
      · rw [show opened y = none by rw [opened, if_neg h4, if_neg hs]]
        dsimp only
        have Hs := Lib.hid hs
        clear hs
        go_enter Try.func54, Try.ntmps54
        go_wp2_with (first | (go_at_call 97; refine (qbytes_spec _ rb g bs 0 200 (by decide) (hr.below (below_alloc _ _))).mono ?_; rintro e w1 ⟨v1, rfl, hv1, hg1, hr1, hc1⟩; rw [Hx.out] at hv1 hr1; dsimp only at hv1 hr1; have HS := hc1.keeps (heap_alloc_new w _) (by omega); obtain ⟨s0, s1, s2, s3, s4, s5, s6, s7, s8⟩ := cells9 HS; have f3 := unfrozen HS; have hs1 := hc1.size; simp only [size_alloc] at hs1; have HC1 : Chg (· = rb) w w1 := (Chg.alloc (Chg.refl _ _) _).trans hc1 (fun _ _ h => h); obtain ⟨vr, hrow, -, -, -⟩ := hr1; obtain ⟨rc0, rc1⟩ := cells2' hrow; obtain ⟨ao1, cap1, rfl, hca1, -⟩ := hv1.shape (n := y.length) rfl; have HV1 := Lib.hid hv1; clear hv1 hg1 hrow))
        have q12 : ∀ wx, isB wx (.slice ao1 y.length cap1) y → (convert 40 9 (.slice ao1 y.length cap1)).run Try.prog wx = .ok (.string (str y)) wx := fun wx h => run_string h 40 5 Try.underlying40 Try.underlying5 9 Try.underlying9
        refine wp_region_seq (fun wx => isB wx (.slice ao1 y.length cap1) y) [(0, true), (1, true), (2, true), (3, true), (4, true), (5, true), (6, true), (7, true), (8, true), (11, true), (12, true), (9, false), (10, false), (13, true), (14, true)] (by kernel_rfl) (by kernel_rfl) (fun c a d v w h => by cases d <;> exact h) (HV1.out.drew) ?_
        simp only [pickSeq, List.map_cons, List.map_nil, List.getD_cons_zero, List.getD_cons_succ]
        have hHeld := (HV1.out.drew)
        refine seq_take (v := ?_) (by rfl) (fun wx hSw => ?_) ?_; rotate_left; (go_simp <;> try with_reducible rfl); (try simp only [Act.put, List.setIfInBounds_toArray, List.set_cons_zero, List.set_cons_succ])
        refine seq_take (v := ?_) (by rfl) (fun wx hSw => ?_) ?_; rotate_left; (go_simp <;> try with_reducible rfl); (try simp only [Act.put, List.setIfInBounds_toArray, List.set_cons_zero, List.set_cons_succ])
        refine seq_take (v := .bool false) (by rfl) (fun wx hSw => by (go_simp <;> omega)) ?_; (try simp only [Act.put, List.setIfInBounds_toArray, List.set_cons_zero, List.set_cons_succ])
        refine seq_take (v := ?_) (by rfl) (fun wx hSw => ?_) ?_; rotate_left; (go_simp <;> try with_reducible rfl); (try simp only [Act.put, List.setIfInBounds_toArray, List.set_cons_zero, List.set_cons_succ])
        refine seq_take (v := ?_) (by rfl) (fun wx hSw => ?_) ?_; rotate_left; (go_simp <;> try with_reducible rfl); (try simp only [Act.put, List.setIfInBounds_toArray, List.set_cons_zero, List.set_cons_succ])
        refine seq_take (v := ?_) (by rfl) (fun wx hSw => ?_) ?_; rotate_left; (go_simp <;> try with_reducible rfl); (try simp only [Act.put, List.setIfInBounds_toArray, List.set_cons_zero, List.set_cons_succ])
        refine seq_take (v := ?_) (by rfl) (fun wx hSw => ?_) ?_; rotate_left; (go_simp <;> try with_reducible rfl); (try simp only [Act.put, List.setIfInBounds_toArray, List.set_cons_zero, List.set_cons_succ])
        refine seq_take (v := .int .i64 (y.length - 4 : Nat)) (by rfl) (fun wx hSw => by (go_simp; exact IntWalk.i64_in _ (by omega))) ?_; (try simp only [Act.put, List.setIfInBounds_toArray, List.set_cons_zero, List.set_cons_succ])
        refine seq_take (v := .slice ao1 (y.length - 4) cap1) (by rfl) (fun wx hSw => by (go_simp; intro h; omega)) ?_; (try simp only [Act.put, List.setIfInBounds_toArray, List.set_cons_zero, List.set_cons_succ])
        refine seq_take (v := ?_) (by rfl) (fun wx hSw => ?_) ?_; rotate_left; (go_simp <;> try with_reducible rfl); (try simp only [Act.put, List.setIfInBounds_toArray, List.set_cons_zero, List.set_cons_succ])
        refine seq_take (v := ?_) (by rfl) (fun wx hSw => ?_) ?_; rotate_left; (go_simp <;> try with_reducible rfl); (try simp only [Act.put, List.setIfInBounds_toArray, List.set_cons_zero, List.set_cons_succ])
        refine seq_run (fun K hK => ?_); go_simp; go_at_call 96; refine (rseal_spec _ _ _ (hHeld.take (k := y.length - 4) (by omega)) (by rw [List.length_take]; omega)).mono ?_; rintro e w2 ⟨⟨r2, rfl, ho2⟩, hb2⟩; have q10 := run_string (P := Try.prog) ho2.isB 40 5 Try.underlying40 Try.underlying5 9 Try.underlying9; refine hK.out _ _ (hHeld.below hb2) (fun hHeld => ?_); clear hK K; (try simp only [Act.put, List.setIfInBounds_toArray, List.set_cons_zero, List.set_cons_succ])
        refine seq_run (fun K hK => ?_); go_simp; skip; refine hK.out _ _ (hHeld) (fun hHeld => ?_); clear hK K; (try simp only [Act.put, List.setIfInBounds_toArray, List.set_cons_zero, List.set_cons_succ])
        refine seq_take (v := .bool true) (by rfl) (fun wx hSw => by (go_simp; exact fun h => Hs.out (by simpa [str_toList] using h))) ?_; (try simp only [Act.put, List.setIfInBounds_toArray, List.set_cons_zero, List.set_cons_succ])
        refine seq_take (v := ?_) (by rfl) (fun wx hSw => ?_) ?_; rotate_left; (go_simp <;> try with_reducible rfl); (try simp only [Act.put, List.setIfInBounds_toArray, List.set_cons_zero, List.set_cons_succ])
        refine seq_nil ?_
        have HC2 : Chg (· = rb) w w2 := HC1.drew.trans (Chg.ofBelow (S := (· = rb)) hb2) (fun _ _ h => h)
        have hs2 := hb2.size
        replace hs2 : w1.heap.size ≤ w2.heap.size := hs2
        replace HS := below_keeps hb2 HS
        obtain ⟨s0, s1, s2, s3, s4, s5, s6, s7, s8⟩ := cells9 HS; have f3 := unfrozen HS
        go_wp2
        refine bodyPost_ret (v := .tuple #[.agg _, .int .i64 _]) (by rw [results_cell_tmp rfl]; go_simp; exact ⟨rfl, rfl⟩) rfl ?_
        refine nil_qread ?_
        iterate 9 (refine Chg.setCell ?_ (.inl (by first | exact Nat.le_refl _ | (dsimp only; omega))) _)
        exact HC2
  · have he1 : ((e1 : Int) != 0) = true := by simp; omega
    rw [if_pos he]
    go_enter Try.func54, Try.ntmps54
    go_wp2_with (first | (go_at_call 97; refine (qbytes_spec _ rb g bs 0 200 (by decide) (hr.below (below_alloc _ _))).mono ?_; rintro e w1 ⟨v1, rfl, hv1, hg1, hr1, hc1⟩; rw [Hx.out] at hv1 hr1; dsimp only at hv1 hr1; have HS := hc1.keeps (heap_alloc_new w _) (by omega); obtain ⟨s0, s1, s2, s3, s4, s5, s6, s7, s8⟩ := cells9 HS; have f3 := unfrozen HS; have hs1 := hc1.size; simp only [size_alloc] at hs1; have HC1 : Chg (· = rb) w w1 := (Chg.alloc (Chg.refl _ _) _).trans hc1 (fun _ _ h => h); obtain ⟨vr, hrow, -, -, -⟩ := hr1; obtain ⟨rc0, rc1⟩ := cells2' hrow; obtain ⟨ao1, cap1, rfl, hca1, -⟩ := hv1.shape (n := y.length) rfl; have HV1 := Lib.hid hv1; clear hv1 hg1 hrow))
    go_region
    all_goals go_wp2
    all_goals refine bodyPost_ret (v := .tuple #[.agg _, .int .i64 _]) (by rw [results_cell_tmp rfl]; go_simp; exact ⟨rfl, rfl⟩) rfl ?_
    all_goals
      refine nil_qread ?_
      refine Chg.drew ?_
      iterate 9 (refine Chg.setCell ?_ (.inl (by first | exact Nat.le_refl _ | (dsimp only; omega))) _)
      exact HC1
end Go.Proofs.Ytobpjldpkgioaaa
