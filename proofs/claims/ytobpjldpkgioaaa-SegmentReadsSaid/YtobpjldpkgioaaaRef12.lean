/- ref12: parse -/
import Derived.Test.YtobpjldpkgioaaaLaw12b
set_option linter.unusedVariables false
set_option linter.unusedSimpArgs false
namespace Go.Proofs.Ytobpjldpkgioaaa
open Go.RowKit

def QparsePost (w : World) (o : Option Rec) (e : Ending) (w' : World) : Prop :=
  Below w.heap.size w w' ∧ match o with
    | none => e = .returned (.tuple #[.agg (refC nilRec), .bool false])
    | some x => e = .returned (.tuple #[.agg (refC x), .bool true])

abbrev nilQ : Array Value := #[.int .u8 0, .int .i64 0, .int .i64 0, .int .i64 0, .int .i64 0, .string ⟨#[]⟩, .int .i64 0, .int .u64 0, .int .u64 0]

/-- three new blocks -/
theorem alloc3 (w : World) (A B C : Obj) : ((w.alloc A).alloc B).alloc C = ((w.alloc A).alloc B).alloc C ∧ (((w.alloc A).alloc B).alloc C).heap[w.heap.size]? = some A ∧ (((w.alloc A).alloc B).alloc C).heap[w.heap.size + 1]? = some B ∧
    (((w.alloc A).alloc B).alloc C).heap[w.heap.size + 2]? = some C ∧ (((w.alloc A).alloc B).alloc C).heap.size = w.heap.size + 3 ∧ Below w.heap.size w (((w.alloc A).alloc B).alloc C) :=
  ⟨rfl, (Below.heap_alloc _ _ _ (by simp; omega)).trans ((Below.heap_alloc _ _ _ (by simp)).trans (heap_alloc_new _ _)), (Below.heap_alloc _ _ _ (by simp)).trans (heap_new _ _ (by simp)), heap_new _ _ (by simp), by simp, ((below_alloc w _).alloc (by simp) _).alloc (by simp; omega) _⟩

/-- the world behind the first steps of parse: the blocks, the reader -/
structure QSt (w W : World) (k : UInt8) (r : List UInt8) : Prop where
  size : W.heap.size = w.heap.size + 3
  below : Below w.heap.size w W
  res : W.heap[w.heap.size]? = some (.cells nilQ 104 (0, 0))
  rec_ : W.heap[w.heap.size + 1]? = some (.cells #[.int .u8 k.toNat, .int .i64 0, .int .i64 0, .int .i64 0, .int .i64 0, .string ⟨#[]⟩, .int .i64 0, .int .u64 0, .int .u64 0] 104 (0, 0))
  rd : isQ W (w.heap.size + 1 + 1) (fun k => k < w.heap.size) r 0

theorem QSt.mk' {w : World} {v : Value} {r : List UInt8} {k : UInt8} (hv : isB w v r) :
    QSt w (((w.alloc (.cells nilQ 104 (0, 0))).alloc (.cells #[.int .u8 k.toNat, .int .i64 0, .int .i64 0, .int .i64 0, .int .i64 0, .string ⟨#[]⟩, .int .i64 0, .int .u64 0, .int .u64 0] 104 (0, 0))).alloc (.cells #[v, .int .i64 0] 119 (0, 0))) k r := by
  obtain ⟨-, h1, h2, h3, h4, h5⟩ := alloc3 w (.cells nilQ 104 (0, 0)) (.cells #[.int .u8 k.toNat, .int .i64 0, .int .i64 0, .int .i64 0, .int .i64 0, .string ⟨#[]⟩, .int .i64 0, .int .u64 0, .int .u64 0] 104 (0, 0)) (.cells #[v, .int .i64 0] 119 (0, 0))
  exact ⟨h4, h5, h1, h2, v, h3, hv.below h5, hv.inL, by omega⟩

theorem none_qpost {w w' : World} (hb : Below w.heap.size w w') : QparsePost w none (.returned (.tuple #[.agg (refC nilRec), .bool false])) w' := ⟨hb, rfl⟩
theorem some_qpost {w w' : World} {x : Rec} (hb : Below w.heap.size w w') : QparsePost w (some x) (.returned (.tuple #[.agg (refC x), .bool true])) w' := ⟨hb, rfl⟩

--GEN
set_option maxHeartbeats 4000000 in
set_option maxRecDepth 100000 in
theorem qwalk_1 (w : World) (v : Value) (r : List UInt8) (hb : isB w v (1 :: r)) (hl : r.length ≤ 100000) (n1 n2 : Nat) (b1 b2 : List UInt8) (e1 e2 : Nat) (hx1 : rnum 1099511627776 r 0 = (n1, b1, e1)) (hx2 : rnum 1099511627776 b1 e1 = (n2, b2, e2)) (R : Option Rec)
    (hs : e2 = 0 → b2 = [] → right (⟨1, n1, n2, 0, 0, [], 0, 0, 0⟩ : Rec) → R = some (⟨1, n1, n2, 0, 0, [], 0, 0, 0⟩ : Rec)) (hn : ¬ (e2 = 0 ∧ b2 = [] ∧ right (⟨1, n1, n2, 0, 0, [], 0, 0, 0⟩ : Rec)) → R = none) :
    Calls Try.prog 98 #[v] w (QparsePost w R) := by
  obtain ⟨ao, cap, rfl, hcap, -⟩ := hb.shape (n := r.length + 1) rfl
  obtain ⟨b, off, rfl, hk, hc2⟩ := hb.rest
  have Hca : Hid (cap = 1 → QSt w (((w.alloc (.cells nilQ 104 (0, 0))).alloc (.cells #[.int .u8 1, .int .i64 0, .int .i64 0, .int .i64 0, .int .i64 0, .string ⟨#[]⟩, .int .i64 0, .int .u64 0, .int .u64 0] 104 (0, 0))).alloc (.cells #[.slice (some ⟨b, off, none⟩) r.length 0, .int .i64 0] 119 (0, 0))) 1 r) := fun h => by
    subst h; exact QSt.mk' (k := 1) (by rw [if_pos rfl] at hc2; exact hc2)
  have Hcb : Hid (¬ cap = 1 → QSt w (((w.alloc (.cells nilQ 104 (0, 0))).alloc (.cells #[.int .u8 1, .int .i64 0, .int .i64 0, .int .i64 0, .int .i64 0, .string ⟨#[]⟩, .int .i64 0, .int .u64 0, .int .u64 0] 104 (0, 0))).alloc (.cells #[.slice (some ⟨b, off + 1, none⟩) r.length (cap - 1), .int .i64 0] 119 (0, 0))) 1 r) := fun h => by
    rw [if_neg h] at hc2; exact QSt.mk' (k := 1) hc2
  have hk0 := cell_keep hk (below_alloc w (.cells nilQ 104 (0, 0)))
  dsimp only [nilQ] at hk0
  clear hb hc2
  have hn1 := rnum_lt 1099511627776 r 0
  rw [hx1] at hn1
  dsimp only at hn1
  have Hx1 := Lib.hid hx1
  clear hx1
  have hn2 := rnum_lt 1099511627776 b1 e1
  rw [hx2] at hn2
  dsimp only at hn2
  have Hx2 := Lib.hid hx2
  clear hx2
  have hin : RecIn (⟨1, n1, n2, 0, 0, [], 0, 0, 0⟩ : Rec) := ⟨by constructor <;> dsimp only <;> omega, by constructor <;> dsimp only <;> omega, by constructor <;> dsimp only <;> omega, by constructor <;> dsimp only <;> omega, by constructor <;> dsimp only <;> omega, by dsimp only; omega, by dsimp only; omega, by simp⟩
  have Hin := Lib.hid hin
  clear hin
  by_cases he : e2 = 0
  · by_cases hbe : b2 = []
    · subst he
      by_cases hrt : right (⟨1, n1, n2, 0, 0, [], 0, 0, 0⟩ : Rec)
      · rw [hs rfl hbe hrt]
        have hbl : b2.length = 0 := by rw [hbe]; rfl
        have hbl2 : ¬ (0 : Int) < b2.length := by omega
        clear hs hn hbe
        go_enter Try.func98, Try.ntmps98
        go_wp2_with (first | (go_at_call 84; refine (qnumber_spec _ (w.heap.size + 1 + 1) _ b1 e1 1099511627776 (hr2.put _ (by omega) (by omega))).mono ?_; rintro e w3 ⟨rfl, hr3, hc3⟩; rw [Hx2.out] at hr3 ⊢; dsimp only at hr3 ⊢; replace hT := hc3.keeps hT (by omega); obtain ⟨q0, q1, q2, q3, q4, q5, q6, q7, q8⟩ := cells9 hT; have f1 := unfrozen hT; replace hT := show _ = some (Obj.cells #[.int .u8 1, .int .i64 n1, .int .i64 n2, .int .i64 0, .int .i64 0, .string ⟨#[]⟩, .int .i64 0, .int .u64 0, .int .u64 0] 104 (0, 0)) from heap_setCell_same _ _ 2 _ _ (.int .i64 n2) hT; replace HS := hc3.keeps ((isR.chg0 (r := w.heap.size + 1) 1 _).keeps HS (by omega)) (by omega); have HB3 : Below w.heap.size w w3 := (HB2.setCell (p := ⟨w.heap.size + 1, 1, none⟩) (by dsimp only; omega) _).trans (hc3.below (by rw [size_setCell]; exact HB2.size) (fun k hk => by omega)); have hz3 := HB3.size) | (guard_target =~ Calls _ 84 _ (World.alloc (World.alloc (World.alloc w _) _) _) _; have HST : Hid (QSt w _ 1 r) := (by first | exact Hca.out (by assumption) | exact Hcb.out (by assumption)); generalize World.alloc (World.alloc (World.alloc w _) _) _ = W at HST ⊢; have hWs := HST.out.size; go_at_call 84; refine (qnumber_spec _ (w.heap.size + 1 + 1) _ r 0 1099511627776 HST.out.rd).mono ?_; rintro e w2 ⟨rfl, hr2, hc2⟩; rw [Hx1.out] at hr2 ⊢; dsimp only at hr2 ⊢; have hT := hc2.keeps HST.out.rec_ (by omega); obtain ⟨q0, q1, q2, q3, q4, q5, q6, q7, q8⟩ := cells9 hT; have f1 := unfrozen hT; replace hT := show _ = some (Obj.cells #[.int .u8 1, .int .i64 n1, .int .i64 0, .int .i64 0, .int .i64 0, .string ⟨#[]⟩, .int .i64 0, .int .u64 0, .int .u64 0] 104 (0, 0)) from heap_setCell_same _ _ 1 _ _ (.int .i64 n1) hT; have HS := hc2.keeps HST.out.res (by omega); have HB2 : Below w.heap.size w w2 := HST.out.below.trans (hc2.below (by omega) (fun k hk => by omega)); have hz2 := HB2.size) | (go_at_call 49; refine (right_spec _ (⟨1, n1, n2, 0, 0, [], 0, 0, 0⟩ : Rec) Hin.out).mono ?_; rintro e w9 ⟨⟨bb, rfl, hbb⟩, hb9⟩; obtain rfl : bb = true := hbb.2 hrt; clear hbb; have hrr : isQ w9 (w.heap.size + 1 + 1) _ b2 _ := (hr3.put _ (by omega) (by omega)).below hb9; replace hT := below_keeps hb9 hT; obtain ⟨q0, q1, q2, q3, q4, q5, q6, q7, q8⟩ := cells9 hT; have f1 := unfrozen hT; replace HS := below_keeps hb9 ((isR.chg0 (r := w.heap.size + 1) 2 _).keeps HS (by omega)); obtain ⟨s0, s1, s2, s3, s4, s5, s6, s7, s8⟩ := cells9 HS; have f3 := unfrozen HS; have HB9 : Below w.heap.size w w9 := (HB3.setCell (p := ⟨w.heap.size + 1, 2, none⟩) (by dsimp only; omega) _).trans (hb9.mono (by rw [size_setCell]; exact HB3.size)); obtain ⟨vr, hrow, hvr, -, -⟩ := hrr; obtain ⟨rc0, rc1⟩ := cells2' hrow; obtain ⟨aor, capr, rfl, -, -⟩ := hvr.shape (n := b2.length) rfl))
        all_goals refine bodyPost_ret (v := .tuple #[.agg _, .bool _]) (by rw [results_cell_tmp rfl]; go_simp; exact ⟨rfl, rfl⟩) rfl ?_
        all_goals
          refine some_qpost ?_
          iterate 9 (refine Below.setCell ?_ (by first | exact Nat.le_refl _ | (dsimp only; omega)) _)
          exact HB9
      · rw [hn (fun h => hrt h.2.2)]
        have hbl : b2.length = 0 := by rw [hbe]; rfl
        have hbl2 : ¬ (0 : Int) < b2.length := by omega
        clear hs hn hbe
        go_enter Try.func98, Try.ntmps98
        go_wp2_with (first | (go_at_call 84; refine (qnumber_spec _ (w.heap.size + 1 + 1) _ b1 e1 1099511627776 (hr2.put _ (by omega) (by omega))).mono ?_; rintro e w3 ⟨rfl, hr3, hc3⟩; rw [Hx2.out] at hr3 ⊢; dsimp only at hr3 ⊢; replace hT := hc3.keeps hT (by omega); obtain ⟨q0, q1, q2, q3, q4, q5, q6, q7, q8⟩ := cells9 hT; have f1 := unfrozen hT; replace hT := show _ = some (Obj.cells #[.int .u8 1, .int .i64 n1, .int .i64 n2, .int .i64 0, .int .i64 0, .string ⟨#[]⟩, .int .i64 0, .int .u64 0, .int .u64 0] 104 (0, 0)) from heap_setCell_same _ _ 2 _ _ (.int .i64 n2) hT; replace HS := hc3.keeps ((isR.chg0 (r := w.heap.size + 1) 1 _).keeps HS (by omega)) (by omega); have HB3 : Below w.heap.size w w3 := (HB2.setCell (p := ⟨w.heap.size + 1, 1, none⟩) (by dsimp only; omega) _).trans (hc3.below (by rw [size_setCell]; exact HB2.size) (fun k hk => by omega)); have hz3 := HB3.size) | (guard_target =~ Calls _ 84 _ (World.alloc (World.alloc (World.alloc w _) _) _) _; have HST : Hid (QSt w _ 1 r) := (by first | exact Hca.out (by assumption) | exact Hcb.out (by assumption)); generalize World.alloc (World.alloc (World.alloc w _) _) _ = W at HST ⊢; have hWs := HST.out.size; go_at_call 84; refine (qnumber_spec _ (w.heap.size + 1 + 1) _ r 0 1099511627776 HST.out.rd).mono ?_; rintro e w2 ⟨rfl, hr2, hc2⟩; rw [Hx1.out] at hr2 ⊢; dsimp only at hr2 ⊢; have hT := hc2.keeps HST.out.rec_ (by omega); obtain ⟨q0, q1, q2, q3, q4, q5, q6, q7, q8⟩ := cells9 hT; have f1 := unfrozen hT; replace hT := show _ = some (Obj.cells #[.int .u8 1, .int .i64 n1, .int .i64 0, .int .i64 0, .int .i64 0, .string ⟨#[]⟩, .int .i64 0, .int .u64 0, .int .u64 0] 104 (0, 0)) from heap_setCell_same _ _ 1 _ _ (.int .i64 n1) hT; have HS := hc2.keeps HST.out.res (by omega); have HB2 : Below w.heap.size w w2 := HST.out.below.trans (hc2.below (by omega) (fun k hk => by omega)); have hz2 := HB2.size) | (go_at_call 49; refine (right_spec _ (⟨1, n1, n2, 0, 0, [], 0, 0, 0⟩ : Rec) Hin.out).mono ?_; rintro e w9 ⟨⟨bb, rfl, hbb⟩, hb9⟩; obtain rfl : bb = false := (by cases bb; rfl; exact absurd (hbb.1 rfl) hrt); clear hbb; have hrr : isQ w9 (w.heap.size + 1 + 1) _ b2 _ := (hr3.put _ (by omega) (by omega)).below hb9; replace hT := below_keeps hb9 hT; obtain ⟨q0, q1, q2, q3, q4, q5, q6, q7, q8⟩ := cells9 hT; have f1 := unfrozen hT; replace HS := below_keeps hb9 ((isR.chg0 (r := w.heap.size + 1) 2 _).keeps HS (by omega)); obtain ⟨s0, s1, s2, s3, s4, s5, s6, s7, s8⟩ := cells9 HS; have f3 := unfrozen HS; have HB9 : Below w.heap.size w w9 := (HB3.setCell (p := ⟨w.heap.size + 1, 2, none⟩) (by dsimp only; omega) _).trans (hb9.mono (by rw [size_setCell]; exact HB3.size)); obtain ⟨vr, hrow, hvr, -, -⟩ := hrr; obtain ⟨rc0, rc1⟩ := cells2' hrow; obtain ⟨aor, capr, rfl, -, -⟩ := hvr.shape (n := b2.length) rfl))
        all_goals refine bodyPost_ret (v := .tuple #[.agg _, .bool _]) (by rw [results_cell_tmp rfl]; go_simp; exact ⟨rfl, rfl⟩) rfl ?_
        all_goals
          refine none_qpost ?_
          iterate 9 (refine Below.setCell ?_ (by first | exact Nat.le_refl _ | (dsimp only; omega)) _)
          exact HB9
    · rw [hn (fun h => hbe h.2.1)]
      subst he
      have hbl : 0 < b2.length := List.length_pos_iff.2 hbe
      have hbl2 : (0 : Int) < b2.length := by omega
      clear hs hn hbe
      go_enter Try.func98, Try.ntmps98
      go_wp2_with (first | (go_at_call 84; refine (qnumber_spec _ (w.heap.size + 1 + 1) _ b1 e1 1099511627776 (hr2.put _ (by omega) (by omega))).mono ?_; rintro e w3 ⟨rfl, hr3, hc3⟩; rw [Hx2.out] at hr3 ⊢; dsimp only at hr3 ⊢; replace hT := hc3.keeps hT (by omega); obtain ⟨q0, q1, q2, q3, q4, q5, q6, q7, q8⟩ := cells9 hT; have f1 := unfrozen hT; replace hT := show _ = some (Obj.cells #[.int .u8 1, .int .i64 n1, .int .i64 n2, .int .i64 0, .int .i64 0, .string ⟨#[]⟩, .int .i64 0, .int .u64 0, .int .u64 0] 104 (0, 0)) from heap_setCell_same _ _ 2 _ _ (.int .i64 n2) hT; replace HS := hc3.keeps ((isR.chg0 (r := w.heap.size + 1) 1 _).keeps HS (by omega)) (by omega); have HB3 : Below w.heap.size w w3 := (HB2.setCell (p := ⟨w.heap.size + 1, 1, none⟩) (by dsimp only; omega) _).trans (hc3.below (by rw [size_setCell]; exact HB2.size) (fun k hk => by omega)); have hz3 := HB3.size) | (guard_target =~ Calls _ 84 _ (World.alloc (World.alloc (World.alloc w _) _) _) _; have HST : Hid (QSt w _ 1 r) := (by first | exact Hca.out (by assumption) | exact Hcb.out (by assumption)); generalize World.alloc (World.alloc (World.alloc w _) _) _ = W at HST ⊢; have hWs := HST.out.size; go_at_call 84; refine (qnumber_spec _ (w.heap.size + 1 + 1) _ r 0 1099511627776 HST.out.rd).mono ?_; rintro e w2 ⟨rfl, hr2, hc2⟩; rw [Hx1.out] at hr2 ⊢; dsimp only at hr2 ⊢; have hT := hc2.keeps HST.out.rec_ (by omega); obtain ⟨q0, q1, q2, q3, q4, q5, q6, q7, q8⟩ := cells9 hT; have f1 := unfrozen hT; replace hT := show _ = some (Obj.cells #[.int .u8 1, .int .i64 n1, .int .i64 0, .int .i64 0, .int .i64 0, .string ⟨#[]⟩, .int .i64 0, .int .u64 0, .int .u64 0] 104 (0, 0)) from heap_setCell_same _ _ 1 _ _ (.int .i64 n1) hT; have HS := hc2.keeps HST.out.res (by omega); have HB2 : Below w.heap.size w w2 := HST.out.below.trans (hc2.below (by omega) (fun k hk => by omega)); have hz2 := HB2.size) | (go_at_call 49; refine (right_spec _ (⟨1, n1, n2, 0, 0, [], 0, 0, 0⟩ : Rec) Hin.out).mono ?_; rintro e w9 ⟨⟨bb, rfl, hbb⟩, hb9⟩; clear hbb; have hrr : isQ w9 (w.heap.size + 1 + 1) _ b2 _ := (hr3.put _ (by omega) (by omega)).below hb9; replace hT := below_keeps hb9 hT; obtain ⟨q0, q1, q2, q3, q4, q5, q6, q7, q8⟩ := cells9 hT; have f1 := unfrozen hT; replace HS := below_keeps hb9 ((isR.chg0 (r := w.heap.size + 1) 2 _).keeps HS (by omega)); obtain ⟨s0, s1, s2, s3, s4, s5, s6, s7, s8⟩ := cells9 HS; have f3 := unfrozen HS; have HB9 : Below w.heap.size w w9 := (HB3.setCell (p := ⟨w.heap.size + 1, 2, none⟩) (by dsimp only; omega) _).trans (hb9.mono (by rw [size_setCell]; exact HB3.size)); obtain ⟨vr, hrow, hvr, -, -⟩ := hrr; obtain ⟨rc0, rc1⟩ := cells2' hrow; obtain ⟨aor, capr, rfl, -, -⟩ := hvr.shape (n := b2.length) rfl))
      all_goals refine bodyPost_ret (v := .tuple #[.agg _, .bool _]) (by rw [results_cell_tmp rfl]; go_simp; exact ⟨rfl, rfl⟩) rfl ?_
      all_goals
        refine none_qpost ?_
        iterate 9 (refine Below.setCell ?_ (by first | exact Nat.le_refl _ | (dsimp only; omega)) _)
        exact HB9
  · rw [hn (fun h => he h.1)]
    have heb : ((e2 : Int) != 0) = true := by simp; omega
    clear hs hn
    go_enter Try.func98, Try.ntmps98
    go_wp2_with (first | (go_at_call 84; refine (qnumber_spec _ (w.heap.size + 1 + 1) _ b1 e1 1099511627776 (hr2.put _ (by omega) (by omega))).mono ?_; rintro e w3 ⟨rfl, hr3, hc3⟩; rw [Hx2.out] at hr3 ⊢; dsimp only at hr3 ⊢; replace hT := hc3.keeps hT (by omega); obtain ⟨q0, q1, q2, q3, q4, q5, q6, q7, q8⟩ := cells9 hT; have f1 := unfrozen hT; replace hT := show _ = some (Obj.cells #[.int .u8 1, .int .i64 n1, .int .i64 n2, .int .i64 0, .int .i64 0, .string ⟨#[]⟩, .int .i64 0, .int .u64 0, .int .u64 0] 104 (0, 0)) from heap_setCell_same _ _ 2 _ _ (.int .i64 n2) hT; replace HS := hc3.keeps ((isR.chg0 (r := w.heap.size + 1) 1 _).keeps HS (by omega)) (by omega); have HB3 : Below w.heap.size w w3 := (HB2.setCell (p := ⟨w.heap.size + 1, 1, none⟩) (by dsimp only; omega) _).trans (hc3.below (by rw [size_setCell]; exact HB2.size) (fun k hk => by omega)); have hz3 := HB3.size) | (guard_target =~ Calls _ 84 _ (World.alloc (World.alloc (World.alloc w _) _) _) _; have HST : Hid (QSt w _ 1 r) := (by first | exact Hca.out (by assumption) | exact Hcb.out (by assumption)); generalize World.alloc (World.alloc (World.alloc w _) _) _ = W at HST ⊢; have hWs := HST.out.size; go_at_call 84; refine (qnumber_spec _ (w.heap.size + 1 + 1) _ r 0 1099511627776 HST.out.rd).mono ?_; rintro e w2 ⟨rfl, hr2, hc2⟩; rw [Hx1.out] at hr2 ⊢; dsimp only at hr2 ⊢; have hT := hc2.keeps HST.out.rec_ (by omega); obtain ⟨q0, q1, q2, q3, q4, q5, q6, q7, q8⟩ := cells9 hT; have f1 := unfrozen hT; replace hT := show _ = some (Obj.cells #[.int .u8 1, .int .i64 n1, .int .i64 0, .int .i64 0, .int .i64 0, .string ⟨#[]⟩, .int .i64 0, .int .u64 0, .int .u64 0] 104 (0, 0)) from heap_setCell_same _ _ 1 _ _ (.int .i64 n1) hT; have HS := hc2.keeps HST.out.res (by omega); have HB2 : Below w.heap.size w w2 := HST.out.below.trans (hc2.below (by omega) (fun k hk => by omega)); have hz2 := HB2.size) | (go_at_call 49; refine (right_spec _ (⟨1, n1, n2, 0, 0, [], 0, 0, 0⟩ : Rec) Hin.out).mono ?_; rintro e w9 ⟨⟨bb, rfl, hbb⟩, hb9⟩; clear hbb; have hrr : isQ w9 (w.heap.size + 1 + 1) _ b2 _ := (hr3.put _ (by omega) (by omega)).below hb9; replace hT := below_keeps hb9 hT; obtain ⟨q0, q1, q2, q3, q4, q5, q6, q7, q8⟩ := cells9 hT; have f1 := unfrozen hT; replace HS := below_keeps hb9 ((isR.chg0 (r := w.heap.size + 1) 2 _).keeps HS (by omega)); obtain ⟨s0, s1, s2, s3, s4, s5, s6, s7, s8⟩ := cells9 HS; have f3 := unfrozen HS; have HB9 : Below w.heap.size w w9 := (HB3.setCell (p := ⟨w.heap.size + 1, 2, none⟩) (by dsimp only; omega) _).trans (hb9.mono (by rw [size_setCell]; exact HB3.size)); obtain ⟨vr, hrow, hvr, -, -⟩ := hrr; obtain ⟨rc0, rc1⟩ := cells2' hrow; obtain ⟨aor, capr, rfl, -, -⟩ := hvr.shape (n := b2.length) rfl))
    all_goals refine bodyPost_ret (v := .tuple #[.agg _, .bool _]) (by rw [results_cell_tmp rfl]; go_simp; exact ⟨rfl, rfl⟩) rfl ?_
    all_goals
      refine none_qpost ?_
      iterate 9 (refine Below.setCell ?_ (by first | exact Nat.le_refl _ | (dsimp only; omega)) _)
      exact HB9

end Go.Proofs.Ytobpjldpkgioaaa
