/- record: Read -/
import Derived.Test.YtobpjldpkgioaaaRecord4
import Derived.Test.YtobpjldpkgioaaaRef02b
set_option linter.unusedVariables false
set_option linter.unusedSimpArgs false
namespace Go.Proofs.Ytobpjldpkgioaaa
open Go.RowKit

/-- the record that comes next, and what is wrong -/
def rread (bs : List UInt8) : Rec × Nat :=
  if (rbytes 200 bs 0).2.2 ≠ 0 then (nilRec, (rbytes 200 bs 0).2.2) else
  match opened (rbytes 200 bs 0).1 with
  | none => (nilRec, 4)
  | some body => match rparse body with
    | none => (nilRec, 3)
    | some x => (x, 0)

def RreadPost (w : World) (rb : Nat) (x : Rec × Nat) (e : Ending) (w' : World) : Prop :=
  ∃ v, e = .returned (.tuple #[.agg (recC x.1 v), .int .i64 x.2]) ∧ isB w' v x.1.blocks ∧ inL (fun k => w.heap.size ≤ k) v ∧ Chg (· = rb) w w'

theorem rbytes_len (most : Nat) (bs : List UInt8) (e : Nat) : (rbytes most bs e).1.length ≤ most := by
  have := rnum_lt most bs e
  unfold rbytes
  split
  · simp
  · split
    · simp
    · simp only [List.length_take]; omega

theorem nil_rpost {w w' : World} {rb n : Nat} (hc : Chg (· = rb) w w') : RreadPost w rb (nilRec, n) (.returned (.tuple #[.agg (recC nilRec (.slice none 0 0)), .int .i64 n])) w' :=
  ⟨_, rfl, isB.nil _, trivial, hc⟩

theorem recC_rpost {w w' : World} {rb : Nat} {x : Rec} {v : Value} (hc : Chg (· = rb) w w') (hv : isB w' v x.blocks) (hp : inL (fun k => w.heap.size ≤ k) v) :
    RreadPost w rb (x, 0) (.returned (.tuple #[.agg #[.int .u8 x.kind.toNat, .int .i64 x.id, .int .i64 x.base, .int .i64 x.from_, .int .i64 x.to, v, .int .i64 x.count, .int .u64 x.len, .int .u64 x.sum], .int .i64 0])) w' := ⟨v, rfl, hv, hp, hc⟩

theorem parse_spec' {o : Option Rec} (w : World) (p : Nat → Prop) (v : Value) (bs : List UInt8) (hb : isB w v bs) (hl : bs.length ≤ 100000) (hp : inL p v) (ho : rparse bs = o) :
    Calls Try.prog 92 #[v] w (RparsePost w p o) := ho ▸ parse_spec w p v bs hb hl hp

set_option maxHeartbeats 1000000 in
set_option maxRecDepth 100000 in
theorem read_spec (w : World) (rb : Nat) (g : Nat → Prop) (bs : List UInt8) (hr : isR w rb g bs 0) :
    Calls Try.prog 50 #[.pointer (some ⟨rb, 0, none⟩)] w (RreadPost w rb (rread bs)) := by
  have hrw := lt_of_heap hr.choose_spec.1
  unfold rread
  have hy := rbytes_len 200 bs 0
  obtain ⟨y, b1, e1, hx⟩ : ∃ n b1 e1, rbytes 200 bs 0 = (n, b1, e1) := ⟨_, _, _, rfl⟩
  rw [hx] at hy ⊢
  dsimp only at hy ⊢
  have Hx := Lib.hid hx
  clear hx
  by_cases he : e1 = 0
  · subst he
    rw [if_neg (by simp)]
    cases ho : opened y with
    | none =>
      dsimp only
      have Ho := Lib.hid ho
      clear ho
      go_enter Try.func50, Try.ntmps50
      go_wp2_with (first | (go_at_call 90; refine (rbytes_spec _ rb g bs 0 200 (by decide) (hr.below (below_alloc _ _))).mono ?_; rintro e w1 ⟨v1, rfl, hv1, hg1, hr1, hc1⟩; rw [Hx.out] at hv1 hr1; dsimp only at hv1 hr1; have HS := hc1.keeps (heap_alloc_new w _) (by omega); obtain ⟨s0, s1, s2, s3, s4, s5, s6, s7, s8⟩ := cells9 HS; have f3 := unfrozen HS; have hs1 := hc1.size; simp only [size_alloc] at hs1; have HC1 : Chg (· = rb) w w1 := (Chg.alloc (Chg.refl _ _) _).trans hc1 (fun _ _ h => h)) | (go_at_call 91; refine (failed_spec _ rb g b1 _ hr1).mono ?_; rintro e w2 ⟨rfl, rfl⟩) | (go_at_call 80; refine (open_none _ _ _ hv1 (by omega) Ho.out).mono ?_; rintro e w2 ⟨rfl, hb2⟩; replace HS := below_keeps hb2 HS; obtain ⟨s0, s1, s2, s3, s4, s5, s6, s7, s8⟩ := cells9 HS; have f3 := unfrozen HS))
      refine bodyPost_ret (v := .tuple #[.agg _, .int .i64 _]) (by rw [results_cell_tmp rfl]; go_simp; exact ⟨rfl, rfl⟩) rfl ?_
      refine nil_rpost ?_
      iterate 9 (refine Chg.setCell ?_ (.inl (by first | exact Nat.le_refl _ | (dsimp only; omega))) _)
      exact HC1.trans (Chg.ofBelow (S := (· = rb)) hb2) (fun _ _ h => h)
    | some body =>
      dsimp only
      have hbl := opened_len ho
      have Ho := Lib.hid ho
      clear ho
      cases hp : rparse body with
      | none =>
        have Hp := Lib.hid hp
        clear hp
        dsimp only
        go_enter Try.func50, Try.ntmps50
        go_wp2_with (first | (go_at_call 90; refine (rbytes_spec _ rb g bs 0 200 (by decide) (hr.below (below_alloc _ _))).mono ?_; rintro e w1 ⟨v1, rfl, hv1, hg1, hr1, hc1⟩; rw [Hx.out] at hv1 hr1; dsimp only at hv1 hr1; have HS := hc1.keeps (heap_alloc_new w _) (by omega); obtain ⟨s0, s1, s2, s3, s4, s5, s6, s7, s8⟩ := cells9 HS; have f3 := unfrozen HS; have hs1 := hc1.size; simp only [size_alloc] at hs1; have HC1 : Chg (· = rb) w w1 := (Chg.alloc (Chg.refl _ _) _).trans hc1 (fun _ _ h => h)) | (go_at_call 91; refine (failed_spec _ rb g b1 _ hr1).mono ?_; rintro e w2 ⟨rfl, rfl⟩) | (go_at_call 80; refine (open_some _ _ _ body hv1 (by omega) Ho.out).mono ?_; rintro e w2 ⟨⟨vb, rfl, hob⟩, hb2⟩; have hs2 := hb2.size; replace HS := below_keeps hb2 HS; have HC2 : Chg (· = rb) w w2 := HC1.trans (Chg.ofBelow (S := (· = rb)) hb2) (fun _ _ h => h)) | (go_at_call 92; refine (parse_spec' (o := none) _ (fun k => w.heap.size ≤ k) _ body hob.isB (by omega) ((inL_own hob).imp fun k hk => by omega) Hp.out).mono ?_; rintro e w3 ⟨hb3, rfl⟩; replace HS := below_keeps hb3 HS; obtain ⟨s0, s1, s2, s3, s4, s5, s6, s7, s8⟩ := cells9 HS; have f3 := unfrozen HS; dsimp only [recC, nilRec]))
        refine bodyPost_ret (v := .tuple #[.agg _, .int .i64 _]) (by rw [results_cell_tmp rfl]; go_simp; exact ⟨rfl, rfl⟩) rfl ?_
        refine nil_rpost ?_
        iterate 9 (refine Chg.setCell ?_ (.inl (by first | exact Nat.le_refl _ | (dsimp only; omega))) _)
        exact HC2.trans (Chg.ofBelow (S := (· = rb)) hb3) (fun _ _ h => h)
      | some x =>
        have Hp := Lib.hid hp
        clear hp
        dsimp only
        go_enter Try.func50, Try.ntmps50
        go_wp2_with (first | (go_at_call 90; refine (rbytes_spec _ rb g bs 0 200 (by decide) (hr.below (below_alloc _ _))).mono ?_; rintro e w1 ⟨v1, rfl, hv1, hg1, hr1, hc1⟩; rw [Hx.out] at hv1 hr1; dsimp only at hv1 hr1; have HS := hc1.keeps (heap_alloc_new w _) (by omega); obtain ⟨s0, s1, s2, s3, s4, s5, s6, s7, s8⟩ := cells9 HS; have f3 := unfrozen HS; have hs1 := hc1.size; simp only [size_alloc] at hs1; have HC1 : Chg (· = rb) w w1 := (Chg.alloc (Chg.refl _ _) _).trans hc1 (fun _ _ h => h)) | (go_at_call 91; refine (failed_spec _ rb g b1 _ hr1).mono ?_; rintro e w2 ⟨rfl, rfl⟩) | (go_at_call 80; refine (open_some _ _ _ body hv1 (by omega) Ho.out).mono ?_; rintro e w2 ⟨⟨vb, rfl, hob⟩, hb2⟩; have hs2 := hb2.size; replace HS := below_keeps hb2 HS; have HC2 : Chg (· = rb) w w2 := HC1.trans (Chg.ofBelow (S := (· = rb)) hb2) (fun _ _ h => h)) | (go_at_call 92; refine (parse_spec' (o := some x) _ (fun k => w.heap.size < k) _ body hob.isB (by omega) ((inL_own hob).imp fun k hk => by omega) Hp.out).mono ?_; rintro e w3 ⟨hb3, v3, rfl, hv3, hp3⟩; replace HS := below_keeps hb3 HS; obtain ⟨s0, s1, s2, s3, s4, s5, s6, s7, s8⟩ := cells9 HS; have f3 := unfrozen HS; obtain ⟨aoq, capq, hq, -, -⟩ := hv3.shape (n := x.blocks.length) rfl; subst hq; have HV3 := Lib.hid hv3; clear hv3; dsimp only [recC]))
        refine bodyPost_ret (v := .tuple #[.agg _, .int .i64 _]) (by rw [results_cell_tmp rfl]; go_simp; exact ⟨rfl, rfl⟩) rfl ?_
        have hfin : Below w.heap.size w3 w3 := Below.refl _ _
        refine recC_rpost ?_ ?_ (hp3.imp fun k hk => Nat.le_of_lt hk)
        · iterate 9 (refine Chg.setCell ?_ (.inl (by first | exact Nat.le_refl _ | (dsimp only; omega))) _)
          exact HC2.trans (Chg.ofBelow (S := (· = rb)) hb3) (fun _ _ h => h)
        · refine HV3.out.chgL (S := (· = w.heap.size)) ?_ (hp3.imp fun k hk e => Nat.ne_of_gt hk e)
          iterate 9 (refine Chg.setCell (S := (· = w.heap.size)) ?_ (.inr (by show _ = _; rfl)) _)
          exact Chg.refl _ _
  · have he1 : ((e1 : Int) != 0) = true := by simp; omega
    rw [if_pos he]
    go_enter Try.func50, Try.ntmps50
    go_wp2_with (first | (go_at_call 90; refine (rbytes_spec _ rb g bs 0 200 (by decide) (hr.below (below_alloc _ _))).mono ?_; rintro e w1 ⟨v1, rfl, hv1, hg1, hr1, hc1⟩; rw [Hx.out] at hv1 hr1; dsimp only at hv1 hr1; have HS := hc1.keeps (heap_alloc_new w _) (by omega); obtain ⟨s0, s1, s2, s3, s4, s5, s6, s7, s8⟩ := cells9 HS; have f3 := unfrozen HS; have hs1 := hc1.size; simp only [size_alloc] at hs1; have HC1 : Chg (· = rb) w w1 := (Chg.alloc (Chg.refl _ _) _).trans hc1 (fun _ _ h => h)) | (go_at_call 91; refine (failed_spec _ rb g b1 _ hr1).mono ?_; rintro e w2 ⟨rfl, rfl⟩))
    refine bodyPost_ret (v := .tuple #[.agg _, .int .i64 _]) (by rw [results_cell_tmp rfl]; go_simp; exact ⟨rfl, rfl⟩) rfl ?_
    refine nil_rpost ?_
    iterate 9 (refine Chg.setCell ?_ (.inl (by first | exact Nat.le_refl _ | (dsimp only; omega))) _)
    exact HC1
end Go.Proofs.Ytobpjldpkgioaaa
