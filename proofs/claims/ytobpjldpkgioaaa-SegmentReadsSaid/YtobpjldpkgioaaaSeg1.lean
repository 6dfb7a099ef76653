/- ref14: open -/
import Derived.Test.YtobpjldpkgioaaaRef02b
import Derived.Test.YtobpjldpkgioaaaSeq2
import Derived.Test.YtobpjldpkgioaaaRef12f
set_option linter.unusedVariables false
set_option linter.unusedSimpArgs false
namespace Go.Proofs.Ytobpjldpkgioaaa
open Go.RowKit

/-- ref14.open: the bytes are the argument's own -/
def Open14 (w : World) (ao : Option Addr) (cap : Nat) (o : Option (List UInt8)) (e : Ending) (w' : World) : Prop :=
  Below w.heap.size w w' ∧ match o with
    | none => e = .returned (.tuple #[.slice none 0 0, .bool false])
    | some body => e = .returned (.tuple #[.slice ao body.length cap, .bool true])

set_option maxHeartbeats 4000000 in
set_option maxRecDepth 100000 in
theorem open14_spec (w : World) (ao1 : Option Addr) (cap1 : Nat) (y : List UInt8) (hv : isB w (.slice ao1 y.length cap1) y) (hl : y.length ≤ 100000000) :
    Calls Try.prog 83 #[.slice ao1 y.length cap1] w (Open14 w ao1 cap1 (opened y)) := by
  have HV1 := Lib.hid hv
  obtain ⟨ao', cap', e', hca1, -⟩ := hv.shape (n := y.length) rfl
  simp only [Value.slice.injEq] at e'
  obtain ⟨rfl, -, rfl⟩ := e'
  clear hv
  have q12 : ∀ wx, isB wx (.slice ao1 y.length cap1) y → (convert 40 9 (.slice ao1 y.length cap1)).run Try.prog wx = .ok (.string (str y)) wx := fun wx h => run_string h 40 5 Try.underlying40 Try.underlying5 9 Try.underlying9
  by_cases h4 : y.length < 4
  · have h4i : (y.length : Int) < 4 := by omega
    rw [show opened y = none by rw [opened, if_pos h4]]
    go_enter Try.func83, Try.ntmps83
    go_wp2
    refine wp_region_seq (fun wx => isB wx (.slice ao1 y.length cap1) y) [(0, true), (1, true), (2, true), (3, true), (4, true), (5, true), (6, true), (7, true), (8, true), (9, true), (10, true), (11, true), (12, true), (13, true), (14, true)] (by kernel_rfl) (by kernel_rfl) (fun c a d v w h => by cases d <;> exact h) (HV1.out.drew) ?_
    simp only [pickSeq, List.map_cons, List.map_nil, List.getD_cons_zero, List.getD_cons_succ]
    have hHeld := (HV1.out.drew)
    refine seq_take (v := ?_) (by rfl) (fun wx hSw => ?_) ?_; rotate_left; (go_simp <;> try with_reducible rfl); (try simp only [Act.put, List.setIfInBounds_toArray, List.set_cons_zero, List.set_cons_succ])
    refine seq_take (v := ?_) (by rfl) (fun wx hSw => ?_) ?_; rotate_left; (go_simp <;> try with_reducible rfl); (try simp only [Act.put, List.setIfInBounds_toArray, List.set_cons_zero, List.set_cons_succ])
    refine seq_take (v := ?_) (by rfl) (fun wx hSw => ?_) ?_; rotate_left; (go_simp <;> try with_reducible rfl); (try simp only [Act.put, List.setIfInBounds_toArray, List.set_cons_zero, List.set_cons_succ])
    refine seq_take (v := ?_) (by rfl) (fun wx hSw => ?_) ?_; rotate_left; (go_simp <;> try with_reducible rfl); (try simp only [Act.put, List.setIfInBounds_toArray, List.set_cons_zero, List.set_cons_succ])
    refine seq_skip (by rfl) ?_; (try simp only [Act.put, List.setIfInBounds_toArray, List.set_cons_zero, List.set_cons_succ])
    refine seq_skip (by rfl) ?_; (try simp only [Act.put, List.setIfInBounds_toArray, List.set_cons_zero, List.set_cons_succ])
    refine seq_skip (by rfl) ?_; (try simp only [Act.put, List.setIfInBounds_toArray, List.set_cons_zero, List.set_cons_succ])
    refine seq_skip (by rfl) ?_; (try simp only [Act.put, List.setIfInBounds_toArray, List.set_cons_zero, List.set_cons_succ])
    refine seq_skip (by rfl) ?_; (try simp only [Act.put, List.setIfInBounds_toArray, List.set_cons_zero, List.set_cons_succ])
    refine seq_skip (by rfl) ?_; (try simp only [Act.put, List.setIfInBounds_toArray, List.set_cons_zero, List.set_cons_succ])
    refine seq_skip (by rfl) ?_; (try simp only [Act.put, List.setIfInBounds_toArray, List.set_cons_zero, List.set_cons_succ])
    refine seq_skip (by rfl) ?_; (try simp only [Act.put, List.setIfInBounds_toArray, List.set_cons_zero, List.set_cons_succ])
    refine seq_skip (by rfl) ?_; (try simp only [Act.put, List.setIfInBounds_toArray, List.set_cons_zero, List.set_cons_succ])
    refine seq_skip (by rfl) ?_; (try simp only [Act.put, List.setIfInBounds_toArray, List.set_cons_zero, List.set_cons_succ])
    refine seq_take (v := ?_) (by rfl) (fun wx hSw => ?_) ?_; rotate_left; (go_simp <;> try with_reducible rfl); (try simp only [Act.put, List.setIfInBounds_toArray, List.set_cons_zero, List.set_cons_succ])
    refine seq_nil ?_
    go_wp2
    go_ret2
    exact ⟨(Below.refl _ _).drew, rfl⟩
  · have h4i : ¬ (y.length : Int) < 4 := by omega
    have hsub : ((y.length : Int) - 4) = ((y.length - 4 : Nat) : Int) := by omega
    by_cases hs : sealed (y.take (y.length - 4)) = y
    · have hR : opened y = some (y.take (y.length - 4)) := by rw [opened, if_neg h4, if_pos hs]
      rw [hR]
      have Hs := Lib.hid hs
      clear hs hR
      have hlt : (y.take (y.length - 4)).length = y.length - 4 := by rw [List.length_take]; omega
      have Hlt := Lib.hid hlt
      clear hlt
      go_enter Try.func83, Try.ntmps83
      go_wp2
      refine wp_region_seq (fun wx => isB wx (.slice ao1 y.length cap1) y) [(0, true), (1, true), (2, true), (3, true), (4, true), (5, true), (6, true), (7, true), (8, true), (11, true), (12, true), (9, false), (10, false), (13, true), (14, true)] (by kernel_rfl) (by kernel_rfl) (fun c a d v w h => by cases d <;> exact h) (HV1.out.drew) ?_
      simp only [pickSeq, List.map_cons, List.map_nil, List.getD_cons_zero, List.getD_cons_succ]
      have hHeld := (HV1.out.drew)
      refine seq_take (v := ?_) (by rfl) (fun wx hSw => ?_) ?_; rotate_left; (go_simp <;> try with_reducible rfl); (try simp only [Act.put, List.setIfInBounds_toArray, List.set_cons_zero, List.set_cons_succ])
      refine seq_take (v := ?_) (by rfl) (fun wx hSw => ?_) ?_; rotate_left; (go_simp <;> try with_reducible rfl); (try simp only [Act.put, List.setIfInBounds_toArray, List.set_cons_zero, List.set_cons_succ])
      refine seq_take (v := .bool false) (by rfl) (fun wx hSw => by (go_simp <;> omega)) ?_; (try simp only [Act.put, List.setIfInBounds_toArray, List.set_cons_zero, List.set_cons_succ])
      refine seq_take (v := ?_) (by rfl) (fun wx hSw => ?_) ?_; rotate_left; (go_simp <;> try with_reducible rfl); (try simp only [Act.put, List.setIfInBounds_toArray, List.set_cons_zero, List.set_cons_succ])
      refine seq_take (v := ?_) (by rfl) (fun wx hSw => ?_) ?_; rotate_left; (go_simp <;> try with_reducible rfl); (try simp only [Act.put, List.setIfInBounds_toArray, List.set_cons_zero, List.set_cons_succ])
      refine seq_take (v := ?_) (by rfl) (fun wx hSw => ?_) ?_; rotate_left; (go_simp <;> try with_reducible rfl); (try simp only [Act.put, List.setIfInBounds_toArray, List.set_cons_zero, List.set_cons_succ])
      refine seq_take (v := ?_) (by rfl) (fun wx hSw => ?_) ?_; rotate_left; (go_simp <;> try with_reducible rfl); (try simp only [Act.put, List.setIfInBounds_toArray, List.set_cons_zero, List.set_cons_succ])
      refine seq_take (v := .int .i64 (y.length - 4 : Nat)) (by rfl) (fun wx hSw => by (go_simp; exact IntWalk.i64_in _ (by omega))) ?_; (try simp only [Act.put, List.setIfInBounds_toArray, List.set_cons_zero, List.set_cons_succ])
      refine seq_take (v := .slice ao1 (y.length - 4) cap1) (by rfl) (fun wx hSw => by (go_simp; intro h; omega)) ?_; (try simp only [Act.put, List.setIfInBounds_toArray, List.set_cons_zero, List.set_cons_succ])
      refine seq_take (v := ?_) (by rfl) (fun wx hSw => ?_) ?_; rotate_left; (go_simp <;> try with_reducible rfl); (try simp only [Act.put, List.setIfInBounds_toArray, List.set_cons_zero, List.set_cons_succ])
      refine seq_take (v := ?_) (by rfl) (fun wx hSw => ?_) ?_; rotate_left; (go_simp <;> try with_reducible rfl); (try simp only [Act.put, List.setIfInBounds_toArray, List.set_cons_zero, List.set_cons_succ])
      refine seq_run (fun K hK => ?_); go_simp; go_at_call 96; refine (rseal_spec _ _ _ (hHeld.take (k := y.length - 4) (by omega)) (by rw [List.length_take]; omega)).mono ?_; rintro e w2 ⟨⟨r2, rfl, ho2⟩, hb2⟩; have q10 := run_string (P := Try.prog) ho2.isB 40 5 Try.underlying40 Try.underlying5 9 Try.underlying9; refine hK.out _ _ (hHeld.below hb2) (fun hHeld => ?_); clear hK K; (try simp only [Act.put, List.setIfInBounds_toArray, List.set_cons_zero, List.set_cons_succ])
      refine seq_run (fun K hK => ?_); go_simp; skip; refine hK.out _ _ (hHeld) (fun hHeld => ?_); clear hK K; (try simp only [Act.put, List.setIfInBounds_toArray, List.set_cons_zero, List.set_cons_succ])
      refine seq_take (v := .bool false) (by rfl) (fun wx hSw => by (go_simp; rw [Hs.out])) ?_; (try simp only [Act.put, List.setIfInBounds_toArray, List.set_cons_zero, List.set_cons_succ])
      refine seq_take (v := ?_) (by rfl) (fun wx hSw => ?_) ?_; rotate_left; (go_simp <;> try with_reducible rfl); (try simp only [Act.put, List.setIfInBounds_toArray, List.set_cons_zero, List.set_cons_succ])
      refine seq_nil ?_
      have Hb := Lib.hid hb2
      go_wp2
      all_goals go_ret2
      all_goals (refine ⟨((Below.refl _ w).drew).trans Hb.out, ?_⟩; show _ = Ending.returned (.tuple #[.slice ao1 (y.take (y.length - 4)).length cap1, .bool true]); rw [Hlt.out]; rfl)
    · rw [show opened y = none by rw [opened, if_neg h4, if_neg hs]]
      have Hs := Lib.hid hs
      clear hs
      go_enter Try.func83, Try.ntmps83
      go_wp2
      refine wp_region_seq (fun wx => isB wx (.slice ao1 y.length cap1) y) [(0, true), (1, true), (2, true), (3, true), (4, true), (5, true), (6, true), (7, true), (8, true), (11, true), (12, true), (9, false), (10, false), (13, true), (14, true)] (by kernel_rfl) (by kernel_rfl) (fun c a d v w h => by cases d <;> exact h) (HV1.out.drew) ?_
      simp only [pickSeq, List.map_cons, List.map_nil, List.getD_cons_zero, List.getD_cons_succ]
      have hHeld := (HV1.out.drew)
      refine seq_take (v := ?_) (by rfl) (fun wx hSw => ?_) ?_; rotate_left; (go_simp <;> try with_reducible rfl); (try simp only [Act.put, List.setIfInBounds_toArray, List.set_cons_zero, List.set_cons_succ])
      refine seq_take (v := ?_) (by rfl) (fun wx hSw => ?_) ?_; rotate_left; (go_simp <;> try with_reducible rfl); (try simp only [Act.put, List.setIfInBounds_toArray, List.set_cons_zero, List.set_cons_succ])
      refine seq_take (v := .bool false) (by rfl) (fun wx hSw => by (go_simp <;> omega)) ?_; (try simp only [Act.put, List.setIfInBounds_toArray, List.set_cons_zero, List.set_cons_succ])
      refine seq_take (v := ?_) (by rfl) (fun wx hSw => ?_) ?_; rotate_left; (go_simp <;> try with_reducible rfl); (try simp only [Act.put, List.setIfInBounds_toArray, List.set_cons_zero, List.set_cons_succ])
      refine seq_take (v := ?_) (by rfl) (fun wx hSw => ?_) ?_; rotate_left; (go_simp <;> try with_reducible rfl); (try simp only [Act.put, List.setIfInBounds_toArray, List.set_cons_zero, List.set_cons_succ])
      refine seq_take (v := ?_) (by rfl) (fun wx hSw => ?_) ?_; rotate_left; (go_simp <;> try with_reducible rfl); (try simp only [Act.put, List.setIfInBounds_toArray, List.set_cons_zero, List.set_cons_succ])
      refine seq_take (v := ?_) (by rfl) (fun wx hSw => ?_) ?_; rotate_left; (go_simp <;> try with_reducible rfl); (try simp only [Act.put, List.setIfInBounds_toArray, List.set_cons_zero, List.set_cons_succ])
      refine seq_take (v := .int .i64 (y.length - 4 : Nat)) (by rfl) (fun wx hSw => by (go_simp; exact IntWalk.i64_in _ (by omega))) ?_; (try simp only [Act.put, List.setIfInBounds_toArray, List.set_cons_zero, List.set_cons_succ])
      refine seq_take (v := .slice ao1 (y.length - 4) cap1) (by rfl) (fun wx hSw => by (go_simp; intro h; omega)) ?_; (try simp only [Act.put, List.setIfInBounds_toArray, List.set_cons_zero, List.set_cons_succ])
      refine seq_take (v := ?_) (by rfl) (fun wx hSw => ?_) ?_; rotate_left; (go_simp <;> try with_reducible rfl); (try simp only [Act.put, List.setIfInBounds_toArray, List.set_cons_zero, List.set_cons_succ])
      refine seq_take (v := ?_) (by rfl) (fun wx hSw => ?_) ?_; rotate_left; (go_simp <;> try with_reducible rfl); (try simp only [Act.put, List.setIfInBounds_toArray, List.set_cons_zero, List.set_cons_succ])
      refine seq_run (fun K hK => ?_); go_simp; go_at_call 96; refine (rseal_spec _ _ _ (hHeld.take (k := y.length - 4) (by omega)) (by rw [List.length_take]; omega)).mono ?_; rintro e w2 ⟨⟨r2, rfl, ho2⟩, hb2⟩; have q10 := run_string (P := Try.prog) ho2.isB 40 5 Try.underlying40 Try.underlying5 9 Try.underlying9; refine hK.out _ _ (hHeld.below hb2) (fun hHeld => ?_); clear hK K; (try simp only [Act.put, List.setIfInBounds_toArray, List.set_cons_zero, List.set_cons_succ])
      refine seq_run (fun K hK => ?_); go_simp; skip; refine hK.out _ _ (hHeld) (fun hHeld => ?_); clear hK K; (try simp only [Act.put, List.setIfInBounds_toArray, List.set_cons_zero, List.set_cons_succ])
      refine seq_take (v := .bool true) (by rfl) (fun wx hSw => by (go_simp; exact fun h => Hs.out (by simpa [str_toList] using h))) ?_; (try simp only [Act.put, List.setIfInBounds_toArray, List.set_cons_zero, List.set_cons_succ])
      refine seq_take (v := ?_) (by rfl) (fun wx hSw => ?_) ?_; rotate_left; (go_simp <;> try with_reducible rfl); (try simp only [Act.put, List.setIfInBounds_toArray, List.set_cons_zero, List.set_cons_succ])
      refine seq_nil ?_
      have Hb := Lib.hid hb2
      go_wp2
      go_ret2
      exact ⟨((Below.refl _ w).drew).trans Hb.out, rfl⟩
end Go.Proofs.Ytobpjldpkgioaaa
