/- ref14: ReadBlock of numbers -/
import Derived.Test.YtobpjldpkgioaaaSeg7
set_option linter.unusedVariables false
set_option linter.unusedSimpArgs false
namespace Go.Proofs.Ytobpjldpkgioaaa
open Go.RowKit


theorem right_nums {k : UInt8} {l : List Nat} (hl : ∀ n ∈ l, n ≤ 1073741824) (h5 : l.length = 5) : right14 (numsB k l) ↔ (k = 72 ∨ k = 84) := by
  obtain ⟨n0, n1, n2, n3, n4, rfl⟩ := five_row h5
  simp only [List.mem_cons, List.not_mem_nil, or_false, forall_eq_or_imp, forall_eq] at hl
  unfold right14 numsB okN
  simp only [List.getD_cons_zero, List.getD_cons_succ, List.length_nil]
  constructor
  · rintro ⟨-, ⟨h, -⟩ | ⟨-, -, h, -⟩⟩
    · exact h
    · omega
  · intro h; exact ⟨by omega, .inl ⟨h, trivial⟩⟩

set_option maxHeartbeats 4000000 in
set_option maxRecDepth 100000 in
theorem rb_nums (w : World) (v : Value) (y r : List UInt8) (k : UInt8) (h68 : ¬ k = 68) (hv : isB w v y) (hl : y.length ≤ 100000) (h : opened y = some (k :: r)) (R : B14 × Nat) (hR : R = if (k = 72 ∨ k = 84) ∧ rend (rst r 5).2.1 (rst r 5).2.2 = 0 then (numsB k (rst r 5).1, 0) else (zeroB, 3)) :
    Calls Try.prog 36 #[v] w (RbPost w R) := by
  obtain ⟨ao, cap, rfl, hcy, -⟩ := hv.shape (n := y.length) rfl; have hbt := opened_take h; have hol := opened_len h; simp only [List.length_cons] at hol; have hvt := hv.take (k := r.length + 1) (by omega); rw [show r.length + 1 = y.length - 4 by omega, ← hbt, show y.length - 4 = r.length + 1 by omega] at hvt; obtain ⟨b, off, rfl, hk, hc2⟩ := hvt.rest; rw [if_neg (by omega)] at hc2; have hcap : r.length + 5 ≤ cap := (by omega); have hrl : r.length ≤ 100000 := (by omega); have HV := Lib.hid hv; have Ho := Lib.hid h; have Hc2 := Lib.hid hc2; clear hv h hbt hol hvt hc2 hcy
  have HR := Bx.mk hR
  clear hR
  have k68 : ((k.toNat : Int) == 68) = false := by simp; intro h; exact h68 (UInt8.toNat_inj.1 (by simpa using (by exact_mod_cast h : k.toNat = 68)))
  clear h68
  go_enter Try.func36, Try.ntmps36
  go_wp2_with (first | (go_at_call 83; refine (open14' (o := some (k :: r)) _ (some ⟨b, off, none⟩) cap y (HV.out.alloc _) (by omega) Ho.out).mono ?_; rintro e w1 ⟨hb1, rfl⟩; have HS := below_keeps hb1 (heap_alloc_new w (.cells zeroC 74)); have hs1 := hb1.size; simp only [size_alloc] at hs1; have HB1 : Below w.heap.size w w1 := (below_alloc w _).trans (hb1.mono (by simp)); have hkw := cell_keep (cell_keep hk (below_alloc w (.cells zeroC 74))) hb1; have Hc3 := Lib.hid (Hc2.out.below HB1); have HSh := Lib.hid HS; simp only [List.length_cons]))
  have HST0 := BSt.mk' (k := k) Hc3.out HB1 hs1 HSh.out
  have HST := Lib.hid HST0
  clear HST0
  generalize World.alloc (World.alloc w1 _) _ = W at HST ⊢
  have hWs := HST.out.size
  go_loopw [8] (fun vi wr => ∃ i : Nat, i ≤ 5 ∧ vi = .int .i64 i ∧ isQ wr (w1.heap.size + 1) (fun j => j < w1.heap.size) (rst r i).2.1 (rst r i).2.2 ∧ wr.heap[w1.heap.size]? = some (.cells (row7 k (rst r i).1 (.string ⟨#[]⟩)) 74 (0, 0)) ∧ Chg (fun j => j = w1.heap.size ∨ j = w1.heap.size + 1) W wr) (fun vi _ => 5 - (intOf vi).toNat)
  case atStart => exact ⟨0, by omega, rfl, HST.out.rd, HST.out.rec_, Chg.refl _ _⟩
  case round =>
    obtain ⟨i, hi, rfl, hr, hT, hc⟩ := hrel
    obtain ⟨l, b', e', hst⟩ : ∃ l b' e', rst r i = (l, b', e') := ⟨_, _, _, rfl⟩
    have hll := rst_len r i
    have hle := rst_le r i
    rw [hst] at hr hT hll hle
    dsimp only at hr hT hll hle
    have Hst := Bx.mk hst
    have HRd := Lib.hid hr
    have HT := Lib.hid hT
    have HC := Lib.hid hc
    clear hst hr hT hc
    by_cases hin : i < 5
    · obtain ⟨n, b2, e2, hx⟩ : ∃ n b2 e2, rnum 1073741824 b' e' = (n, b2, e2) := ⟨_, _, _, rfl⟩
      have hn := rnum_lt 1073741824 b' e'
      rw [hx] at hn
      dsimp only at hn
      have Hx := Bx.mk hx
      clear hx
      go_wp2_with (first | (go_at_call 84; refine (qnumber_spec _ (w1.heap.size + 1) _ b' e' 1073741824 HRd.out).mono ?_; rintro e w3 ⟨rfl, hr3, hc3⟩; rw [Hx.out] at hr3 ⊢; dsimp only at hr3 ⊢; have hT3 := hc3.keeps HT.out (by omega); have hce := row7_get hT3 hin; have fz := unfrozen hT3 (1 + i)))
      go_roundw
      case rel =>
        have hst1 : rst r (i + 1) = (l ++ [n], b2, e2) := by rw [rst, Hst.out]; dsimp only; rw [Hx.out]
        refine ⟨i + 1, by omega, by go_num, ?_, ?_, ?_⟩
        · rw [hst1]; exact hr3.put _ (by omega) (by omega)
        · rw [hst1]
          have := heap_setCell_same _ _ (1 + i) _ _ (.int .i64 n) hT3
          rw [this, row7_set hll hin]
        · exact (HC.out.trans hc3 (fun k _ h => .inr h)).setCell (p := ⟨w1.heap.size, 1 + i, none⟩) (.inr (.inl rfl)) _
      case measure => simp [intOf]; omega
    · obtain rfl : i = 5 := by omega
      have hri := right_nums (k := k) hle hll
      obtain ⟨n0, n1, n2, n3, n4, rfl⟩ := five_row hll
      have hT : wr.heap[w1.heap.size]? = some (.cells #[.int .u8 k.toNat, .int .i64 n0, .int .i64 n1, .int .i64 n2, .int .i64 n3, .int .i64 n4, .string ⟨#[]⟩] 74 (0, 0)) := HT.out
      obtain ⟨q0, q1, q2, q3, q4, q5, q6⟩ := cells7 hT
      have HTr := Lib.hid hT
      have hBr : Below w.heap.size w wr := HST.out.below.trans (HC.out.below HST.out.below.size (by rintro k (h | h) <;> omega))
      have HBr := Lib.hid hBr
      have hSr := HC.out.keeps HST.out.res (by rintro (h | h) <;> omega)
      have HSr := Lib.hid hSr
      have hRR : R = if (k = 72 ∨ k = 84) ∧ rend b' e' = 0 then (numsB k [n0, n1, n2, n3, n4], 0) else (zeroB, 3) := by rw [HR.out, Hst.out]
      have HRR := Bx.mk hRR
      clear hT hBr hSr hRR
      by_cases he : e' = 0
      · by_cases hbe : b' = []
        · subst he
          have hbl : b'.length = 0 := by rw [hbe]; rfl
          have hbl2 : ¬ (0 : Int) < b'.length := by omega
          by_cases hrt : right14 (numsB k [n0, n1, n2, n3, n4])
          · have hRe : R = (numsB k [n0, n1, n2, n3, n4], 0) := by rw [HRR.out, if_pos ⟨hri.1 hrt, rend_zero.2 ⟨rfl, hbe⟩⟩]
            have HRe := Bx.mk hRe
            have Hrt := Bx.mk hrt
            clear hRe hrt hri hbe
            go_wp2_with (first | (go_at_call 85; refine (rightb_spec _ (numsB k [n0, n1, n2, n3, n4])).mono ?_; rintro e w9 ⟨⟨bb, rfl, hbb⟩, hb9⟩; obtain rfl : bb = true := hbb.2 Hrt.out; clear hbb; have hTT := below_keeps hb9 HTr.out; obtain ⟨q0, q1, q2, q3, q4, q5, q6⟩ := cells7 hTT; have f1 := unfrozen hTT; have HS := below_keeps hb9 HSr.out; obtain ⟨s0, s1, s2, s3, s4, s5, s6⟩ := cells7 HS; have f3 := unfrozen HS; obtain ⟨vr, hrow, hvr, -, -⟩ := HRd.out.below hb9; obtain ⟨rc0, rc1⟩ := cells2' hrow; obtain ⟨aor, capr, rfl, -, -⟩ := hvr.shape (n := b'.length) rfl; have HB9 : Below w.heap.size w w9 := HBr.out.trans (hb9.mono HBr.out.size)))
            refine bodyPost_ret (v := .tuple #[.agg _, .int .i64 _]) (by rw [results_cell_tmp rfl]; go_simp; exact ⟨rfl, rfl⟩) rfl ?_
            rw [HRe.out]
            refine ⟨rfl, ?_⟩
            iterate 7 (refine Below.setCell ?_ (by first | exact Nat.le_refl _ | (dsimp only; omega)) _)
            exact HB9
          · have hRe : R = (zeroB, 3) := by rw [HRR.out, if_neg (fun h => hrt (hri.2 h.1))]
            have HRe := Bx.mk hRe
            have Hrt := Bx.mk hrt
            clear hRe hrt hri hbe
            go_wp2_with (first | (go_at_call 85; refine (rightb_spec _ (numsB k [n0, n1, n2, n3, n4])).mono ?_; rintro e w9 ⟨⟨bb, rfl, hbb⟩, hb9⟩; obtain rfl : bb = false := (by cases bb; rfl; exact absurd (hbb.1 rfl) Hrt.out); clear hbb; have hTT := below_keeps hb9 HTr.out; obtain ⟨q0, q1, q2, q3, q4, q5, q6⟩ := cells7 hTT; have f1 := unfrozen hTT; have HS := below_keeps hb9 HSr.out; obtain ⟨s0, s1, s2, s3, s4, s5, s6⟩ := cells7 HS; have f3 := unfrozen HS; obtain ⟨vr, hrow, hvr, -, -⟩ := HRd.out.below hb9; obtain ⟨rc0, rc1⟩ := cells2' hrow; obtain ⟨aor, capr, rfl, -, -⟩ := hvr.shape (n := b'.length) rfl; have HB9 : Below w.heap.size w w9 := HBr.out.trans (hb9.mono HBr.out.size)))
            refine bodyPost_ret (v := .tuple #[.agg _, .int .i64 _]) (by rw [results_cell_tmp rfl]; go_simp; exact ⟨rfl, rfl⟩) rfl ?_
            rw [HRe.out]
            refine zero_rb ?_
            iterate 7 (refine Below.setCell ?_ (by first | exact Nat.le_refl _ | (dsimp only; omega)) _)
            exact HB9
        · subst he
          have hRe : R = (zeroB, 3) := by rw [HRR.out, if_neg (fun h => hbe (rend_zero.1 h.2).2)]
          have HRe := Bx.mk hRe
          have hbl : 0 < b'.length := List.length_pos_iff.2 hbe
          have hbl2 : (0 : Int) < b'.length := by omega
          clear hRe hri hbe
          go_wp2_with (first | (go_at_call 85; refine (rightb_spec _ (numsB k [n0, n1, n2, n3, n4])).mono ?_; rintro e w9 ⟨⟨bb, rfl, hbb⟩, hb9⟩; clear hbb; have hTT := below_keeps hb9 HTr.out; obtain ⟨q0, q1, q2, q3, q4, q5, q6⟩ := cells7 hTT; have f1 := unfrozen hTT; have HS := below_keeps hb9 HSr.out; obtain ⟨s0, s1, s2, s3, s4, s5, s6⟩ := cells7 HS; have f3 := unfrozen HS; obtain ⟨vr, hrow, hvr, -, -⟩ := HRd.out.below hb9; obtain ⟨rc0, rc1⟩ := cells2' hrow; obtain ⟨aor, capr, rfl, -, -⟩ := hvr.shape (n := b'.length) rfl; have HB9 : Below w.heap.size w w9 := HBr.out.trans (hb9.mono HBr.out.size)))
          all_goals refine bodyPost_ret (v := .tuple #[.agg _, .int .i64 _]) (by rw [results_cell_tmp rfl]; go_simp; exact ⟨rfl, rfl⟩) rfl ?_
          all_goals
            rw [HRe.out]
            refine zero_rb ?_
            iterate 7 (refine Below.setCell ?_ (by first | exact Nat.le_refl _ | (dsimp only; omega)) _)
            exact HB9
      · have hRe : R = (zeroB, 3) := by rw [HRR.out, if_neg (fun h => he (rend_zero.1 h.2).1)]
        have HRe := Bx.mk hRe
        have heb : ((e' : Int) != 0) = true := by simp; omega
        clear hRe hri
        go_wp2_with (first | (go_at_call 85; refine (rightb_spec _ (numsB k [n0, n1, n2, n3, n4])).mono ?_; rintro e w9 ⟨⟨bb, rfl, hbb⟩, hb9⟩; clear hbb; have hTT := below_keeps hb9 HTr.out; obtain ⟨q0, q1, q2, q3, q4, q5, q6⟩ := cells7 hTT; have f1 := unfrozen hTT; have HS := below_keeps hb9 HSr.out; obtain ⟨s0, s1, s2, s3, s4, s5, s6⟩ := cells7 HS; have f3 := unfrozen HS; obtain ⟨vr, hrow, hvr, -, -⟩ := HRd.out.below hb9; obtain ⟨rc0, rc1⟩ := cells2' hrow; obtain ⟨aor, capr, rfl, -, -⟩ := hvr.shape (n := b'.length) rfl; have HB9 : Below w.heap.size w w9 := HBr.out.trans (hb9.mono HBr.out.size)))
        all_goals refine bodyPost_ret (v := .tuple #[.agg _, .int .i64 _]) (by rw [results_cell_tmp rfl]; go_simp; exact ⟨rfl, rfl⟩) rfl ?_
        all_goals
          rw [HRe.out]
          refine zero_rb ?_
          iterate 7 (refine Below.setCell ?_ (by first | exact Nat.le_refl _ | (dsimp only; omega)) _)
          exact HB9

/-- ref14.ReadBlock, whatever the bytes -/
theorem rb_spec (w : World) (v : Value) (y : List UInt8) (hv : isB w v y) (hl : y.length ≤ 100000) :
    Calls Try.prog 36 #[v] w (RbPost w (rb14 (p14 y))) := by
  unfold p14
  cases h : opened y with
  | none => exact rb_none w v y hv hl h
  | some body =>
    cases body with
    | nil => exact rb_nil w v y hv hl h
    | cons k r =>
      by_cases h68 : k = 68
      · simp only [h68, if_true]
        refine rb_data w v y r k h68 hv hl h _ ?_
        split <;> rfl
      · simp only [h68, if_false]
        refine rb_nums w v y r k h68 hv hl h _ ?_
        split <;> rfl
end Go.Proofs.Ytobpjldpkgioaaa
