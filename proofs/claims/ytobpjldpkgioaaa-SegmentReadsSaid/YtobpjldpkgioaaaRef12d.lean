/- ref12: parse, of blocks, and of what is no record -/
import Derived.Test.YtobpjldpkgioaaaRef12
set_option linter.unusedVariables false
set_option linter.unusedSimpArgs false
namespace Go.Proofs.Ytobpjldpkgioaaa
open Go.RowKit

theorem rnum_left (M : Nat) (bs : List UInt8) (e : Nat) : (rnum M bs e).2.1.length ≤ bs.length := by
  unfold rnum
  split
  · simp
  · split
    · simp
    · split
      · simp
      · simp

abbrev rec2 (n1 : Nat) (b1 : List UInt8) : Rec := ⟨2, 0, 0, n1, (n1 : Int) + (b1.length : Int) / 32, b1, 0, 0, 0⟩

set_option maxHeartbeats 4000000 in
set_option maxRecDepth 100000 in
theorem qwalk_2 (w : World) (v : Value) (r : List UInt8) (hb : isB w v (2 :: r)) (hl : r.length ≤ 100000) (n1 : Nat) (b1 : List UInt8) (e1 : Nat) (hx1 : rnum 255 r 0 = (n1, b1, e1)) (R : Option Rec)
    (hs : e1 = 0 → right (rec2 n1 b1) → R = some (rec2 n1 b1)) (hn : ¬ (e1 = 0 ∧ right (rec2 n1 b1)) → R = none) :
    Calls Try.prog 98 #[v] w (QparsePost w R) := by
  obtain ⟨ao, cap, rfl, hcap, -⟩ := hb.shape (n := r.length + 1) rfl
  obtain ⟨b, off, rfl, hk, hc2⟩ := hb.rest
  have Hca : Hid (cap = 1 → QSt w (((w.alloc (.cells nilQ 104 (0, 0))).alloc (.cells #[.int .u8 2, .int .i64 0, .int .i64 0, .int .i64 0, .int .i64 0, .string ⟨#[]⟩, .int .i64 0, .int .u64 0, .int .u64 0] 104 (0, 0))).alloc (.cells #[.slice (some ⟨b, off, none⟩) r.length 0, .int .i64 0] 119 (0, 0))) 2 r) := fun h => by
    subst h; exact QSt.mk' (k := 2) (by rw [if_pos rfl] at hc2; exact hc2)
  have Hcb : Hid (¬ cap = 1 → QSt w (((w.alloc (.cells nilQ 104 (0, 0))).alloc (.cells #[.int .u8 2, .int .i64 0, .int .i64 0, .int .i64 0, .int .i64 0, .string ⟨#[]⟩, .int .i64 0, .int .u64 0, .int .u64 0] 104 (0, 0))).alloc (.cells #[.slice (some ⟨b, off + 1, none⟩) r.length (cap - 1), .int .i64 0] 119 (0, 0))) 2 r) := fun h => by
    rw [if_neg h] at hc2; exact QSt.mk' (k := 2) hc2
  have hk0 := cell_keep hk (below_alloc w (.cells nilQ 104 (0, 0)))
  dsimp only [nilQ] at hk0
  clear hb hc2
  have hn1 := rnum_lt 255 r 0
  have hl1 := rnum_left 255 r 0
  rw [hx1] at hn1 hl1
  dsimp only at hn1 hl1
  have Hx1 := Lib.hid hx1
  clear hx1
  have hin : RecIn (rec2 n1 b1) := ⟨by constructor <;> dsimp only <;> omega, by constructor <;> dsimp only <;> omega, by constructor <;> dsimp only <;> omega, by constructor <;> dsimp only <;> omega, by constructor <;> dsimp only <;> omega, by dsimp only; omega, by dsimp only; omega, by dsimp only; omega⟩
  have Hin := Lib.hid hin
  clear hin
  go_enter Try.func98, Try.ntmps98
  go_wp2_with (first | (guard_target =~ Calls _ 84 _ (World.alloc (World.alloc (World.alloc w _) _) _) _; have HST : Hid (QSt w _ 2 r) := (by first | exact Hca.out (by assumption) | exact Hcb.out (by first | assumption | omega)); generalize World.alloc (World.alloc (World.alloc w _) _) _ = W at HST ⊢; have hWs := HST.out.size; go_at_call 84; refine (qnumber_spec _ (w.heap.size + 1 + 1) _ r 0 255 HST.out.rd).mono ?_; rintro e w2 ⟨rfl, hr2, hc2⟩; rw [Hx1.out] at hr2 ⊢; dsimp only at hr2 ⊢; have hT := hc2.keeps HST.out.rec_ (by omega); obtain ⟨q0, q1, q2, q3, q4, q5, q6, q7, q8⟩ := cells9 hT; have f1 := unfrozen hT; have HS := hc2.keeps HST.out.res (by omega); have HB2 : Below w.heap.size w w2 := HST.out.below.trans (hc2.below (by omega) (fun k hk => by omega)); have hz2 := HB2.size; obtain ⟨vr, hrow, hvr, hgr, -⟩ := hr2; obtain ⟨rc0, rc1⟩ := cells2' hrow; have f9 := unfrozen hrow; obtain ⟨aor, capr, rfl, -, -⟩ := hvr.shape (n := b1.length) rfl; have Hvr := Lib.hid hvr; have Hgr := Lib.hid hgr; clear hvr hgr hc2))
  all_goals
    have q1 := fun u1 u2 => run_string (P := Try.prog) (w := ((w2.setCell ⟨w.heap.size + 1, 3, none⟩ u1).setCell ⟨w.heap.size + 1, 4, none⟩ u2).drew) ((Hvr.out.chgL (S := (· = w.heap.size + 1)) ((isR.chg0 3 u1).trans (isR.chg0 4 u2) (fun _ _ h => h)) (Hgr.out.imp fun k hk e => by omega)).drew) 40 5 Try.underlying40 Try.underlying5 9 Try.underlying9
    have hTf : (((((w2.setCell ⟨w.heap.size + 1, 3, none⟩ (.int .i64 n1)).setCell ⟨w.heap.size + 1, 4, none⟩ (.int .i64 ((n1 : Int) + (b1.length : Int) / 32))).setCell ⟨w.heap.size + 1, 5, none⟩ (.string (str b1))).setCell ⟨w.heap.size + 1 + 1, 0, none⟩ (.slice none 0 0)).drew).heap[w.heap.size + 1]? = some (.cells #[.int .u8 2, .int .i64 0, .int .i64 0, .int .i64 n1, .int .i64 ((n1 : Int) + (b1.length : Int) / 32), .string (str b1), .int .i64 0, .int .u64 0, .int .u64 0] 104 (0, 0)) :=
      (isR.chg0 (r := w.heap.size + 1 + 1) 0 _).keeps (heap_setCell_same _ _ 5 _ _ (.string (str b1)) (heap_setCell_same _ _ 4 _ _ (.int .i64 ((n1 : Int) + (b1.length : Int) / 32)) (heap_setCell_same _ _ 3 _ _ (.int .i64 n1) hT))) (by omega)
    have hRf : (((((w2.setCell ⟨w.heap.size + 1, 3, none⟩ (.int .i64 n1)).setCell ⟨w.heap.size + 1, 4, none⟩ (.int .i64 ((n1 : Int) + (b1.length : Int) / 32))).setCell ⟨w.heap.size + 1, 5, none⟩ (.string (str b1))).setCell ⟨w.heap.size + 1 + 1, 0, none⟩ (.slice none 0 0)).drew).heap[w.heap.size + 1 + 1]? = some (.cells #[.slice none 0 0, .int .i64 e1] 119 (0, 0)) :=
      heap_setCell_same _ _ 0 _ _ (.slice none 0 0) ((isR.chg0 (r := w.heap.size + 1) 5 _).keeps ((isR.chg0 (r := w.heap.size + 1) 4 _).keeps ((isR.chg0 (r := w.heap.size + 1) 3 _).keeps hrow (by omega)) (by omega)) (by omega))
    have hSf : (((((w2.setCell ⟨w.heap.size + 1, 3, none⟩ (.int .i64 n1)).setCell ⟨w.heap.size + 1, 4, none⟩ (.int .i64 ((n1 : Int) + (b1.length : Int) / 32))).setCell ⟨w.heap.size + 1, 5, none⟩ (.string (str b1))).setCell ⟨w.heap.size + 1 + 1, 0, none⟩ (.slice none 0 0)).drew).heap[w.heap.size]? = some (.cells nilQ 104 (0, 0)) :=
      (isR.chg0 (r := w.heap.size + 1 + 1) 0 _).keeps ((isR.chg0 (r := w.heap.size + 1) 5 _).keeps ((isR.chg0 (r := w.heap.size + 1) 4 _).keeps ((isR.chg0 (r := w.heap.size + 1) 3 _).keeps HS (by omega)) (by omega)) (by omega)) (by omega)
    have hBf : Below w.heap.size w (((((w2.setCell ⟨w.heap.size + 1, 3, none⟩ (.int .i64 n1)).setCell ⟨w.heap.size + 1, 4, none⟩ (.int .i64 ((n1 : Int) + (b1.length : Int) / 32))).setCell ⟨w.heap.size + 1, 5, none⟩ (.string (str b1))).setCell ⟨w.heap.size + 1 + 1, 0, none⟩ (.slice none 0 0)).drew) := by
      refine Below.drew ?_
      iterate 4 (refine Below.setCell ?_ (by first | exact Nat.le_refl _ | (dsimp only; omega)) _)
      exact HB2
    replace hTf := Lib.hid hTf
    replace hRf := Lib.hid hRf
    replace hSf := Lib.hid hSf
    replace hBf := Lib.hid hBf
    clear HB2 hrow
  all_goals go_region
  all_goals
    by_cases he : e1 = 0
    · subst he
      by_cases hrt : right (rec2 n1 b1)
      · have HRR : Hid (R = some (rec2 n1 b1)) := hs rfl hrt
        clear hs hn
        all_goals go_wp2_with (first | (go_at_call 49; refine (right_spec _ (rec2 n1 b1) Hin.out).mono ?_; rintro e w9 ⟨⟨bb, rfl, hbb⟩, hb9⟩; obtain rfl : bb = true := hbb.2 hrt; clear hbb; replace hT := below_keeps hb9 hTf.out; obtain ⟨q0, q1, q2, q3, q4, q5, q6, q7, q8⟩ := cells9 hT; have f1 := unfrozen hT; replace HS := below_keeps hb9 hSf.out; obtain ⟨s0, s1, s2, s3, s4, s5, s6, s7, s8⟩ := cells9 HS; have f3 := unfrozen HS; have HB9 : Below w.heap.size w w9 := hBf.out.trans (hb9.mono hBf.out.size); obtain ⟨rc0, rc1⟩ := cells2' (below_keeps hb9 hRf.out)))
        all_goals refine bodyPost_ret (v := .tuple #[.agg _, .bool _]) (by rw [results_cell_tmp rfl]; go_simp; exact ⟨rfl, rfl⟩) rfl ?_
        all_goals
          rw [HRR.out]; refine some_qpost ?_
          iterate 9 (refine Below.setCell ?_ (by first | exact Nat.le_refl _ | (dsimp only; omega)) _)
          exact HB9
      · have HRR : Hid (R = none) := hn (fun h => hrt h.2)
        clear hs hn
        all_goals go_wp2_with (first | (go_at_call 49; refine (right_spec _ (rec2 n1 b1) Hin.out).mono ?_; rintro e w9 ⟨⟨bb, rfl, hbb⟩, hb9⟩; obtain rfl : bb = false := (by cases bb; rfl; exact absurd (hbb.1 rfl) hrt); clear hbb; replace hT := below_keeps hb9 hTf.out; obtain ⟨q0, q1, q2, q3, q4, q5, q6, q7, q8⟩ := cells9 hT; have f1 := unfrozen hT; replace HS := below_keeps hb9 hSf.out; obtain ⟨s0, s1, s2, s3, s4, s5, s6, s7, s8⟩ := cells9 HS; have f3 := unfrozen HS; have HB9 : Below w.heap.size w w9 := hBf.out.trans (hb9.mono hBf.out.size); obtain ⟨rc0, rc1⟩ := cells2' (below_keeps hb9 hRf.out)))
        all_goals refine bodyPost_ret (v := .tuple #[.agg _, .bool _]) (by rw [results_cell_tmp rfl]; go_simp; exact ⟨rfl, rfl⟩) rfl ?_
        all_goals
          rw [HRR.out]; refine none_qpost ?_
          iterate 9 (refine Below.setCell ?_ (by first | exact Nat.le_refl _ | (dsimp only; omega)) _)
          exact HB9
    · have HRR : Hid (R = none) := hn (fun h => he h.1)
      have heb : ((e1 : Int) != 0) = true := by simp; omega
      clear hs hn
      all_goals go_wp2_with (first | (go_at_call 49; refine (right_spec _ (rec2 n1 b1) Hin.out).mono ?_; rintro e w9 ⟨⟨bb, rfl, hbb⟩, hb9⟩; clear hbb; replace hT := below_keeps hb9 hTf.out; obtain ⟨q0, q1, q2, q3, q4, q5, q6, q7, q8⟩ := cells9 hT; have f1 := unfrozen hT; replace HS := below_keeps hb9 hSf.out; obtain ⟨s0, s1, s2, s3, s4, s5, s6, s7, s8⟩ := cells9 HS; have f3 := unfrozen HS; have HB9 : Below w.heap.size w w9 := hBf.out.trans (hb9.mono hBf.out.size); obtain ⟨rc0, rc1⟩ := cells2' (below_keeps hb9 hRf.out)))
      all_goals refine bodyPost_ret (v := .tuple #[.agg _, .bool _]) (by rw [results_cell_tmp rfl]; go_simp; exact ⟨rfl, rfl⟩) rfl ?_
      all_goals
        rw [HRR.out]; refine none_qpost ?_
        iterate 9 (refine Below.setCell ?_ (by first | exact Nat.le_refl _ | (dsimp only; omega)) _)
        exact HB9


set_option maxHeartbeats 4000000 in
set_option maxRecDepth 100000 in
theorem qwalk_e (w : World) (v : Value) (hb : isB w v []) :
    Calls Try.prog 98 #[v] w (QparsePost w none) := by
  obtain ⟨ao, cap, rfl, -, -⟩ := hb.shape (n := 0) rfl
  clear hb
  go_enter Try.func98, Try.ntmps98
  go_wp2
  refine bodyPost_ret (v := .tuple #[.agg _, .bool _]) (by rw [results_cell_tmp rfl]; go_simp; exact ⟨rfl, rfl⟩) rfl ?_
  exact none_qpost (below_alloc _ _)

set_option maxHeartbeats 4000000 in
set_option maxRecDepth 100000 in
theorem qwalk_0c (w : World) (v : Value) (k : UInt8) (r : List UInt8) (hb : isB w v (k :: r)) (hz : (0 : Int) < r.length) (h1 : ¬ k = 1) (h2 : ¬ k = 2) (h3 : ¬ k = 3) (h4 : ¬ k = 4) :
    Calls Try.prog 98 #[v] w (QparsePost w none) := by
  obtain ⟨ao, cap, rfl, hcap, -⟩ := hb.shape (n := r.length + 1) rfl
  obtain ⟨b, off, rfl, hk, hc2⟩ := hb.rest
  have Hca : Hid (cap = 1 → QSt w (((w.alloc (.cells nilQ 104 (0, 0))).alloc (.cells #[.int .u8 k.toNat, .int .i64 0, .int .i64 0, .int .i64 0, .int .i64 0, .string ⟨#[]⟩, .int .i64 0, .int .u64 0, .int .u64 0] 104 (0, 0))).alloc (.cells #[.slice (some ⟨b, off, none⟩) r.length 0, .int .i64 0] 119 (0, 0))) k r) := fun h => by
    subst h; exact QSt.mk' (k := k) (by rw [if_pos rfl] at hc2; exact hc2)
  have Hcb : Hid (¬ cap = 1 → QSt w (((w.alloc (.cells nilQ 104 (0, 0))).alloc (.cells #[.int .u8 k.toNat, .int .i64 0, .int .i64 0, .int .i64 0, .int .i64 0, .string ⟨#[]⟩, .int .i64 0, .int .u64 0, .int .u64 0] 104 (0, 0))).alloc (.cells #[.slice (some ⟨b, off + 1, none⟩) r.length (cap - 1), .int .i64 0] 119 (0, 0))) k r) := fun h => by
    rw [if_neg h] at hc2; exact QSt.mk' (k := k) hc2
  have hk0 := cell_keep hk (below_alloc w (.cells nilQ 104 (0, 0)))
  dsimp only [nilQ] at hk0
  have k1 : ((k.toNat : Int) == 1) = false := by simp; intro h; exact h1 (UInt8.toNat_inj.1 (by simpa using (by exact_mod_cast h : k.toNat = 1)))
  have k2 : ((k.toNat : Int) == 2) = false := by simp; intro h; exact h2 (UInt8.toNat_inj.1 (by simpa using (by exact_mod_cast h : k.toNat = 2)))
  have k3 : ((k.toNat : Int) == 3) = false := by simp; intro h; exact h3 (UInt8.toNat_inj.1 (by simpa using (by exact_mod_cast h : k.toNat = 3)))
  have k4 : ((k.toNat : Int) == 4) = false := by simp; intro h; exact h4 (UInt8.toNat_inj.1 (by simpa using (by exact_mod_cast h : k.toNat = 4)))
  have hin : RecIn (⟨k, 0, 0, 0, 0, [], 0, 0, 0⟩ : Rec) := ⟨by constructor <;> dsimp only <;> omega, by constructor <;> dsimp only <;> omega, by constructor <;> dsimp only <;> omega, by constructor <;> dsimp only <;> omega, by constructor <;> dsimp only <;> omega, by dsimp only; omega, by dsimp only; omega, by simp⟩
  have hrt : ¬ right (⟨k, 0, 0, 0, 0, [], 0, 0, 0⟩ : Rec) := by unfold right; simp [h1, h2, h3, h4]
  have Hin := Lib.hid hin
  have Hrt := Lib.hid hrt
  clear hb hc2 hin hrt h1 h2 h3 h4
  go_enter Try.func98, Try.ntmps98
  go_wp2_with (first | (guard_target =~ Calls _ 49 _ (World.alloc (World.alloc (World.alloc w _) _) _) _; have HST : Hid (QSt w _ k r) := (by first | exact Hca.out (by assumption) | exact Hcb.out (by first | assumption | omega)); generalize World.alloc (World.alloc (World.alloc w _) _) _ = W at HST ⊢; have hWs := HST.out.size; go_at_call 49; refine (right_spec _ (⟨k, 0, 0, 0, 0, [], 0, 0, 0⟩ : Rec) Hin.out).mono ?_; rintro e w9 ⟨⟨bb, rfl, hbb⟩, hb9⟩; obtain rfl : bb = false := (by cases bb; rfl; exact absurd (hbb.1 rfl) Hrt.out); clear hbb; have HS := below_keeps hb9 HST.out.res; obtain ⟨s0, s1, s2, s3, s4, s5, s6, s7, s8⟩ := cells9 HS; have f3 := unfrozen HS; have HB9 : Below w.heap.size w w9 := HST.out.below.trans (hb9.mono (by omega)); obtain ⟨vr, hrow, hvr, -, -⟩ := HST.out.rd.below hb9; obtain ⟨rc0, rc1⟩ := cells2' hrow; obtain ⟨aor, capr, rfl, -, -⟩ := hvr.shape (n := r.length) rfl))
  all_goals refine bodyPost_ret (v := .tuple #[.agg _, .bool _]) (by rw [results_cell_tmp rfl]; go_simp; exact ⟨rfl, rfl⟩) rfl ?_
  all_goals
    refine none_qpost ?_
    iterate 9 (refine Below.setCell ?_ (by first | exact Nat.le_refl _ | (dsimp only; omega)) _)
    exact HB9

set_option maxHeartbeats 4000000 in
set_option maxRecDepth 100000 in
theorem qwalk_0n (w : World) (v : Value) (k : UInt8) (hb : isB w v (k :: [])) (h1 : ¬ k = 1) (h2 : ¬ k = 2) (h3 : ¬ k = 3) (h4 : ¬ k = 4) :
    Calls Try.prog 98 #[v] w (QparsePost w none) := by
  obtain ⟨ao, cap, rfl, hcap, -⟩ := hb.shape (n := 1) rfl
  obtain ⟨b, off, rfl, hk, hc2⟩ := hb.rest
  have Hca : Hid (cap = 1 → QSt w (((w.alloc (.cells nilQ 104 (0, 0))).alloc (.cells #[.int .u8 k.toNat, .int .i64 0, .int .i64 0, .int .i64 0, .int .i64 0, .string ⟨#[]⟩, .int .i64 0, .int .u64 0, .int .u64 0] 104 (0, 0))).alloc (.cells #[.slice (some ⟨b, off, none⟩) 0 0, .int .i64 0] 119 (0, 0))) k []) := fun h => by
    subst h; exact QSt.mk' (k := k) (by rw [if_pos rfl] at hc2; exact hc2)
  have Hcb : Hid (¬ cap = 1 → QSt w (((w.alloc (.cells nilQ 104 (0, 0))).alloc (.cells #[.int .u8 k.toNat, .int .i64 0, .int .i64 0, .int .i64 0, .int .i64 0, .string ⟨#[]⟩, .int .i64 0, .int .u64 0, .int .u64 0] 104 (0, 0))).alloc (.cells #[.slice (some ⟨b, off + 1, none⟩) 0 (cap - 1), .int .i64 0] 119 (0, 0))) k []) := fun h => by
    rw [if_neg h] at hc2; exact QSt.mk' (k := k) hc2
  have hk0 := cell_keep hk (below_alloc w (.cells nilQ 104 (0, 0)))
  dsimp only [nilQ] at hk0
  have k1 : ((k.toNat : Int) == 1) = false := by simp; intro h; exact h1 (UInt8.toNat_inj.1 (by simpa using (by exact_mod_cast h : k.toNat = 1)))
  have k2 : ((k.toNat : Int) == 2) = false := by simp; intro h; exact h2 (UInt8.toNat_inj.1 (by simpa using (by exact_mod_cast h : k.toNat = 2)))
  have k3 : ((k.toNat : Int) == 3) = false := by simp; intro h; exact h3 (UInt8.toNat_inj.1 (by simpa using (by exact_mod_cast h : k.toNat = 3)))
  have k4 : ((k.toNat : Int) == 4) = false := by simp; intro h; exact h4 (UInt8.toNat_inj.1 (by simpa using (by exact_mod_cast h : k.toNat = 4)))
  have hin : RecIn (⟨k, 0, 0, 0, 0, [], 0, 0, 0⟩ : Rec) := ⟨by constructor <;> dsimp only <;> omega, by constructor <;> dsimp only <;> omega, by constructor <;> dsimp only <;> omega, by constructor <;> dsimp only <;> omega, by constructor <;> dsimp only <;> omega, by dsimp only; omega, by dsimp only; omega, by simp⟩
  have hrt : ¬ right (⟨k, 0, 0, 0, 0, [], 0, 0, 0⟩ : Rec) := by unfold right; simp [h1, h2, h3, h4]
  have Hin := Lib.hid hin
  have Hrt := Lib.hid hrt
  clear hb hc2 hin hrt h1 h2 h3 h4
  go_enter Try.func98, Try.ntmps98
  go_wp2_with (first | (guard_target =~ Calls _ 49 _ (World.alloc (World.alloc (World.alloc w _) _) _) _; have HST : Hid (QSt w _ k []) := (by first | exact Hca.out (by assumption) | exact Hcb.out (by first | assumption | omega)); generalize World.alloc (World.alloc (World.alloc w _) _) _ = W at HST ⊢; have hWs := HST.out.size; go_at_call 49; refine (right_spec _ (⟨k, 0, 0, 0, 0, [], 0, 0, 0⟩ : Rec) Hin.out).mono ?_; rintro e w9 ⟨⟨bb, rfl, hbb⟩, hb9⟩; obtain rfl : bb = false := (by cases bb; rfl; exact absurd (hbb.1 rfl) Hrt.out); clear hbb; have HS := below_keeps hb9 HST.out.res; obtain ⟨s0, s1, s2, s3, s4, s5, s6, s7, s8⟩ := cells9 HS; have f3 := unfrozen HS; have HB9 : Below w.heap.size w w9 := HST.out.below.trans (hb9.mono (by omega)); obtain ⟨vr, hrow, hvr, -, -⟩ := HST.out.rd.below hb9; obtain ⟨rc0, rc1⟩ := cells2' hrow; obtain ⟨aor, capr, rfl, -, -⟩ := hvr.shape (n := 0) rfl))
  all_goals refine bodyPost_ret (v := .tuple #[.agg _, .bool _]) (by rw [results_cell_tmp rfl]; go_simp; exact ⟨rfl, rfl⟩) rfl ?_
  all_goals
    refine none_qpost ?_
    iterate 9 (refine Below.setCell ?_ (by first | exact Nat.le_refl _ | (dsimp only; omega)) _)
    exact HB9

theorem qwalk_0 (w : World) (v : Value) (k : UInt8) (r : List UInt8) (hb : isB w v (k :: r)) (h1 : ¬ k = 1) (h2 : ¬ k = 2) (h3 : ¬ k = 3) (h4 : ¬ k = 4) :
    Calls Try.prog 98 #[v] w (QparsePost w none) := by
  cases r with
  | nil => exact qwalk_0n w v k hb h1 h2 h3 h4
  | cons c r => exact qwalk_0c w v k (c :: r) hb (by simp) h1 h2 h3 h4
end Go.Proofs.Ytobpjldpkgioaaa
