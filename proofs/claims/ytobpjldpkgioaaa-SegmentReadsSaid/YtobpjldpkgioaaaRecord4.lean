/- record: parse of blocks; parse -/
import Derived.Test.YtobpjldpkgioaaaRecord3
set_option linter.unusedVariables false
set_option linter.unusedSimpArgs false
namespace Go.Proofs.Ytobpjldpkgioaaa
open Go.RowKit

theorem isB.restN {w : World} {b off n cap : Nat} {bs : List UInt8} (h : isB w (.slice (some ⟨b, off, none⟩) n cap) bs) {l : Nat} (hl : l ≤ n) :
    isB w (.slice (if cap = l then some ⟨b, off, none⟩ else some ⟨b, off + l, none⟩) (n - l) (cap - l)) (bs.drop l) := by
  obtain ⟨ao', cap', e, g1, g2, g3, g4⟩ := h
  simp only [Value.slice.injEq] at e
  obtain ⟨rfl, rfl, rfl⟩ := e
  obtain ⟨-, hc⟩ := g4 _ rfl
  dsimp only at hc
  by_cases h1 : cap = l
  · obtain hd : bs.drop l = [] := List.drop_eq_nil_of_le (by omega)
    rw [hd]
    refine ⟨some ⟨b, off, none⟩, 0, by rw [if_pos h1]; simp; omega, by simp, by simp, nofun, fun a ha => ⟨fun h => by omega, fun i hi => absurd hi (by simp)⟩⟩
  · rw [if_neg h1]
    refine ⟨some ⟨b, off + l, none⟩, cap - l, by rw [List.length_drop], by rw [List.length_drop]; omega, by omega, nofun, ?_⟩
    rintro a ha
    obtain rfl := Option.some.inj ha
    refine ⟨fun _ => rfl, fun i hi => ?_⟩
    rw [List.length_drop] at hi
    have := hc (l + i) (by omega)
    rw [show off + l + i = off + (l + i) by omega, this]; simp

def RdPost (w : World) (o : Option Rec) (v : Value) (e : Ending) (w' : World) : Prop :=
  Below w.heap.size w w' ∧ match o with
    | none => e = .returned (.tuple #[.agg (recC nilRec (.slice none 0 0)), .int .i64 3])
    | some x => x.blocks.length ≤ 100000 ∧ e = .returned (.tuple #[.agg (recC x v), .int .i64 0])

theorem rdata2 (w : World) (f : Nat) (v : Value) (bs : List UInt8) (hf : f < 256) (hl : bs.length ≤ 100000) (hb : isB w v bs) :
    Calls Try.prog 122 #[.int .i64 f, v] w (RdPost w (rdata f bs) v) := by
  refine (rdata_spec w f v bs hf hb).mono fun e w' ⟨h1, h2⟩ => ⟨h1, ?_⟩
  unfold rdata
  split at h2
  · rename_i h; rw [if_pos h]; exact h2
  · rename_i h; rw [if_neg h]; exact ⟨hl, h2⟩

theorem rdata3 {o : Option Rec} (w : World) (f : Nat) (v : Value) (bs : List UInt8) (hf : f < 256) (hl : bs.length ≤ 100000) (hb : isB w v bs) (hR : rdata f bs = o) :
    Calls Try.prog 122 #[.int .i64 f, v] w (RdPost w o v) := hR ▸ rdata2 w f v bs hf hl hb

theorem rec_post {w w' : World} {p : Nat → Prop} {x : Rec} {v : Value} (hb : Below w.heap.size w w') (hv : isB w v x.blocks) (hp : inL p v) :
    RparsePost w p (some x) (.returned (.tuple #[.agg #[.int .u8 x.kind.toNat, .int .i64 x.id, .int .i64 x.base, .int .i64 x.from_, .int .i64 x.to, v, .int .i64 x.count, .int .u64 x.len, .int .u64 x.sum], .int .i64 0])) w' := ⟨hb, v, rfl, hv.below hb, hp⟩

theorem rdata_blocks {f : Nat} {bs : List UInt8} {x : Rec} (h : rdata f bs = some x) : x.blocks = bs := by
  unfold rdata at h
  split at h
  · simp at h
  · simp at h; subst h; rfl

set_option maxHeartbeats 1000000 in
set_option maxRecDepth 100000 in
theorem parse_2 (w : World) (p : Nat → Prop) (v : Value) (r : List UInt8) (hb : isB w v (2 :: r)) (hl : r.length ≤ 100000) (hp : inL p v) :
    Calls Try.prog 92 #[v] w (RparsePost w p (rparse (2 :: r))) := by
  have HB := Lib.hid hb
  obtain ⟨ao, cap, rfl, hcap, -⟩ := hb.shape (n := r.length + 1) rfl
  obtain ⟨b, off, rfl, hk, hc2⟩ := hb.rest
  have Hc2 := Lib.hid hc2
  clear hb hc2
  rw [rparse, if_neg (by decide), if_pos rfl]
  obtain ⟨n, s, er, hx⟩ : ∃ n s er, vnext r = (n, s, er) := ⟨_, _, _, rfl⟩
  have hs := vgo_size r 0 0
  have hnl := vgo_lt r 0 0 (by omega) (by decide)
  rw [show vgo 0 0 r = vnext r from rfl, hx] at hs hnl
  rw [hx]
  have Hx := Lib.hid hx
  clear hx
  dsimp only at hs hnl ⊢
  generalize hR : (if er ≠ 0 ∨ 256 ≤ n then none else rdata n (r.drop s)) = R
  by_cases her : er = 0
  · subst her
    by_cases hn : 256 ≤ n
    · rw [if_pos (.inr hn)] at hR
      subst hR
      go_enter Try.func92, Try.ntmps92
      go_wp2_with (first | ((go_at_call 51; refine (ropen_spec _ _ r (Hc2.out.below (below_alloc _ _)) (by omega)).mono ?_; rintro e w1 ⟨rb, g, rfl, hr, hrb, hg, hb1⟩; have hk1 := cell_keep (cell_keep hk (below_alloc _ _)) hb1; generalize (if cap = 1 then some (⟨b, off, none⟩ : Addr) else some ⟨b, off + 1, none⟩) = q; have HR1 := below_keeps hb1 (heap_alloc_new w _); have hrw := lt_of_heap hr.choose_spec.1; have hgne := hr.choose_spec.2.2.2; simp only [size_alloc] at hrb hg; have hne1 : rb ≠ w1.heap.size := (by omega); have hne2 : ¬ g w1.heap.size := fun h => Nat.lt_irrefl _ (hg _ h).2; have hsz1 := hb1.size; simp only [size_alloc] at hsz1; have HB1 : Below w.heap.size w w1 := (below_alloc w _).trans (hb1.mono (by simp))); have HS := below_keeps (below_alloc w1 (.cells #[.int .u8 2, .int .i64 0, .int .i64 0, .int .i64 0, .int .i64 0, .slice none 0 0, .int .i64 0, .int .u64 0, .int .u64 0] 102)) HR1; obtain ⟨s0, s1, s2, s3, s4, s5, s6, s7, s8⟩ := cells9 HS; have f3 := unfrozen HS) | (go_at_call 118; refine (next_spec _ _ r (((Hc2.out.below (below_alloc _ _)).below hb1).alloc _)).mono ?_; rintro e w4 ⟨rfl, rfl⟩; rw [Hx.out]; generalize (if cap = 1 then some (⟨b, off, none⟩ : Addr) else some ⟨b, off + 1, none⟩) = q2))
      refine bodyPost_ret (v := .tuple #[.agg _, .int .i64 _]) (by rw [results_cell_tmp rfl]; go_simp; exact ⟨rfl, rfl⟩) rfl ?_
      refine nil_post ?_
      iterate 9 (refine Below.setCell ?_ (by first | exact Nat.le_refl _ | (dsimp only; omega)) _)
      exact HB1.alloc (by omega) _
    · rw [if_neg (by omega)] at hR
      have hsm : (IntKind.i64.wrap ((1 : Int) + s)) = 1 + s := IntWalk.i64_in _ (by omega)
      have HD := Lib.hid (HB.out.restN (l := 1 + s) (by omega))
      have hpq : inL p (.slice (if cap = 1 + s then some ⟨b, off, none⟩ else some ⟨b, off + (1 + s), none⟩) (r.length + 1 - (1 + s)) (cap - (1 + s))) := by split <;> exact fun h0 => hp (by omega)
      have Hp := Lib.hid hpq
      have hdr : List.drop (1 + s) (2 :: r) = r.drop s := by rw [Nat.add_comm]; rfl
      rw [hdr] at HD
      have hxb := fun x (h : R = some x) => rdata_blocks (hR.trans h)
      clear hpq
      generalize hk2 : (Value.slice (if cap = 1 + s then some ⟨b, off, none⟩ else some ⟨b, off + (1 + s), none⟩) (r.length + 1 - (1 + s)) (cap - (1 + s))) = qv at HD Hp
      have HR0 := Lib.hid hR
      clear hR
      cases R with
      | none =>
        go_enter Try.func92, Try.ntmps92
        go_wp2_with (first | ((go_at_call 51; refine (ropen_spec _ _ r (Hc2.out.below (below_alloc _ _)) (by omega)).mono ?_; rintro e w1 ⟨rb, g, rfl, hr, hrb, hg, hb1⟩; have hk1 := cell_keep (cell_keep hk (below_alloc _ _)) hb1; generalize (if cap = 1 then some (⟨b, off, none⟩ : Addr) else some ⟨b, off + 1, none⟩) = q; have HR1 := below_keeps hb1 (heap_alloc_new w _); have hrw := lt_of_heap hr.choose_spec.1; have hgne := hr.choose_spec.2.2.2; simp only [size_alloc] at hrb hg; have hne1 : rb ≠ w1.heap.size := (by omega); have hne2 : ¬ g w1.heap.size := fun h => Nat.lt_irrefl _ (hg _ h).2; have hsz1 := hb1.size; simp only [size_alloc] at hsz1; have HB1 : Below w.heap.size w w1 := (below_alloc w _).trans (hb1.mono (by simp))); have HS := below_keeps (below_alloc w1 (.cells #[.int .u8 2, .int .i64 0, .int .i64 0, .int .i64 0, .int .i64 0, .slice none 0 0, .int .i64 0, .int .u64 0, .int .u64 0] 102)) HR1; obtain ⟨s0, s1, s2, s3, s4, s5, s6, s7, s8⟩ := cells9 HS; have f3 := unfrozen HS) | (go_at_call 118; refine (next_spec _ _ r (((Hc2.out.below (below_alloc _ _)).below hb1).alloc _)).mono ?_; rintro e w4 ⟨rfl, rfl⟩; rw [Hx.out]; generalize (if cap = 1 then some (⟨b, off, none⟩ : Addr) else some ⟨b, off + 1, none⟩) = q2) | (go_at_call 122; refine (rdata3 _ n qv (r.drop s) (by omega) (by rw [List.length_drop]; omega) (((HD.out.below (below_alloc _ _)).below hb1).alloc _) HR0.out).mono ?_; rintro e w2 ⟨hb2, rfl⟩; replace HS := below_keeps hb2 HS; obtain ⟨s0, s1, s2, s3, s4, s5, s6, s7, s8⟩ := cells9 HS; have f3 := unfrozen HS; dsimp only [recC, nilRec]))
        all_goals refine bodyPost_ret (v := .tuple #[.agg _, .int .i64 _]) (by rw [results_cell_tmp rfl]; go_simp; exact ⟨rfl, rfl⟩) rfl ?_
        all_goals refine nil_post ?_
        all_goals iterate 9 (refine Below.setCell ?_ (by first | exact Nat.le_refl _ | (dsimp only; omega)) _)
        all_goals exact (HB1.alloc (by omega) _).trans (hb2.mono (by simp; omega))
      | some x =>
        have hx := hxb x rfl
        rw [← hx] at HD
        go_enter Try.func92, Try.ntmps92
        go_wp2_with (first | ((go_at_call 51; refine (ropen_spec _ _ r (Hc2.out.below (below_alloc _ _)) (by omega)).mono ?_; rintro e w1 ⟨rb, g, rfl, hr, hrb, hg, hb1⟩; have hk1 := cell_keep (cell_keep hk (below_alloc _ _)) hb1; generalize (if cap = 1 then some (⟨b, off, none⟩ : Addr) else some ⟨b, off + 1, none⟩) = q; have HR1 := below_keeps hb1 (heap_alloc_new w _); have hrw := lt_of_heap hr.choose_spec.1; have hgne := hr.choose_spec.2.2.2; simp only [size_alloc] at hrb hg; have hne1 : rb ≠ w1.heap.size := (by omega); have hne2 : ¬ g w1.heap.size := fun h => Nat.lt_irrefl _ (hg _ h).2; have hsz1 := hb1.size; simp only [size_alloc] at hsz1; have HB1 : Below w.heap.size w w1 := (below_alloc w _).trans (hb1.mono (by simp))); have HS := below_keeps (below_alloc w1 (.cells #[.int .u8 2, .int .i64 0, .int .i64 0, .int .i64 0, .int .i64 0, .slice none 0 0, .int .i64 0, .int .u64 0, .int .u64 0] 102)) HR1; obtain ⟨s0, s1, s2, s3, s4, s5, s6, s7, s8⟩ := cells9 HS; have f3 := unfrozen HS) | (go_at_call 118; refine (next_spec _ _ r (((Hc2.out.below (below_alloc _ _)).below hb1).alloc _)).mono ?_; rintro e w4 ⟨rfl, rfl⟩; rw [Hx.out]; generalize (if cap = 1 then some (⟨b, off, none⟩ : Addr) else some ⟨b, off + 1, none⟩) = q2) | (go_at_call 122; refine (rdata3 _ n _ (r.drop s) (by omega) (by rw [List.length_drop]; omega) ((((hx ▸ HD.out).below (below_alloc _ _)).below hb1).alloc _) HR0.out).mono ?_; rintro e w2 ⟨hb2, -, rfl⟩; replace HS := below_keeps hb2 HS; obtain ⟨s0, s1, s2, s3, s4, s5, s6, s7, s8⟩ := cells9 HS; have f3 := unfrozen HS; obtain ⟨aoq, capq, hq, -, -⟩ := HD.out.shape (n := x.blocks.length) rfl; subst hq; have HD2 := Lib.hid ((((HD.out.below (below_alloc _ _)).below hb1).alloc _).below hb2); dsimp only [recC]))
        all_goals refine bodyPost_ret (v := .tuple #[.agg _, .int .i64 _]) (by rw [results_cell_tmp rfl]; go_simp; exact ⟨rfl, rfl⟩) rfl ?_
        all_goals
          have hlq : r.length - s = x.blocks.length := by rw [hx, List.length_drop]
          rw [hlq]
          refine rec_post ?_ HD.out Hp.out
          iterate 9 (refine Below.setCell ?_ (by first | exact Nat.le_refl _ | (dsimp only; omega)) _)
          exact (HB1.alloc (by omega) _).trans (hb2.mono (by simp; omega))
  · have he1 : ((er : Int) != 0) = true := by simp; omega
    rw [if_pos (.inl her)] at hR
    subst hR
    go_enter Try.func92, Try.ntmps92
    go_wp2_with (first | ((go_at_call 51; refine (ropen_spec _ _ r (Hc2.out.below (below_alloc _ _)) (by omega)).mono ?_; rintro e w1 ⟨rb, g, rfl, hr, hrb, hg, hb1⟩; have hk1 := cell_keep (cell_keep hk (below_alloc _ _)) hb1; generalize (if cap = 1 then some (⟨b, off, none⟩ : Addr) else some ⟨b, off + 1, none⟩) = q; have HR1 := below_keeps hb1 (heap_alloc_new w _); have hrw := lt_of_heap hr.choose_spec.1; have hgne := hr.choose_spec.2.2.2; simp only [size_alloc] at hrb hg; have hne1 : rb ≠ w1.heap.size := (by omega); have hne2 : ¬ g w1.heap.size := fun h => Nat.lt_irrefl _ (hg _ h).2; have hsz1 := hb1.size; simp only [size_alloc] at hsz1; have HB1 : Below w.heap.size w w1 := (below_alloc w _).trans (hb1.mono (by simp))); have HS := below_keeps (below_alloc w1 (.cells #[.int .u8 2, .int .i64 0, .int .i64 0, .int .i64 0, .int .i64 0, .slice none 0 0, .int .i64 0, .int .u64 0, .int .u64 0] 102)) HR1; obtain ⟨s0, s1, s2, s3, s4, s5, s6, s7, s8⟩ := cells9 HS; have f3 := unfrozen HS) | (go_at_call 118; refine (next_spec _ _ r (((Hc2.out.below (below_alloc _ _)).below hb1).alloc _)).mono ?_; rintro e w4 ⟨rfl, rfl⟩; rw [Hx.out]; generalize (if cap = 1 then some (⟨b, off, none⟩ : Addr) else some ⟨b, off + 1, none⟩) = q2))
    refine bodyPost_ret (v := .tuple #[.agg _, .int .i64 _]) (by rw [results_cell_tmp rfl]; go_simp; exact ⟨rfl, rfl⟩) rfl ?_
    refine nil_post ?_
    iterate 9 (refine Below.setCell ?_ (by first | exact Nat.le_refl _ | (dsimp only; omega)) _)
    exact HB1.alloc (by omega) _

/-- record.parse, whatever the bytes -/
theorem parse_spec (w : World) (p : Nat → Prop) (v : Value) (bs : List UInt8) (hb : isB w v bs) (hl : bs.length ≤ 100000) (hp : inL p v) :
    Calls Try.prog 92 #[v] w (RparsePost w p (rparse bs)) := by
  cases bs with
  | nil => exact parse_e w p v hb
  | cons k r =>
    have hr : r.length ≤ 100000 := by simp at hl; omega
    by_cases h1 : k = 1
    · subst h1; exact parse_1 w p v r hb hr
    · by_cases h2 : k = 2
      · subst h2; exact parse_2 w p v r hb hr hp
      · by_cases h3 : k = 3
        · subst h3; exact parse_3 w p v r hb hr
        · by_cases h4 : k = 4
          · subst h4; exact parse_4 w p v r hb hr
          · exact parse_0 w p v k r hb hr h1 h2 h3 h4
end Go.Proofs.Ytobpjldpkgioaaa
