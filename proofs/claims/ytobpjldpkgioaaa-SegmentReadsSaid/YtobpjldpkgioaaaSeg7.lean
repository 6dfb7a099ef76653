/- ref14: ReadBlock of bytes, and of numbers -/
import Derived.Test.YtobpjldpkgioaaaSeg6
set_option linter.unusedVariables false
set_option linter.unusedSimpArgs false
namespace Go.Proofs.Ytobpjldpkgioaaa
open Go.RowKit

/-- the world behind ReadBlock's first steps: the blocks, the reader -/
structure BSt (w w1 W : World) (k : UInt8) (r : List UInt8) : Prop where
  size : W.heap.size = w1.heap.size + 2
  below : Below w.heap.size w W
  res : W.heap[w.heap.size]? = some (.cells zeroC 74 (0, 0))
  rec_ : W.heap[w1.heap.size]? = some (.cells #[.int .u8 k.toNat, .int .i64 0, .int .i64 0, .int .i64 0, .int .i64 0, .int .i64 0, .string ⟨#[]⟩] 74 (0, 0))
  rd : isQ W (w1.heap.size + 1) (fun j => j < w1.heap.size) r 0

theorem BSt.mk' {w w1 : World} {v : Value} {r : List UInt8} {k : UInt8} (hv : isB w1 v r) (hb : Below w.heap.size w w1) (hs : w.heap.size + 1 ≤ w1.heap.size) (hr : w1.heap[w.heap.size]? = some (.cells zeroC 74 (0, 0))) :
    BSt w w1 ((w1.alloc (.cells #[.int .u8 k.toNat, .int .i64 0, .int .i64 0, .int .i64 0, .int .i64 0, .int .i64 0, .string ⟨#[]⟩] 74 (0, 0))).alloc (.cells #[v, .int .i64 0] 119 (0, 0))) k r := by
  refine ⟨by simp, (hb.alloc (by omega) _).alloc (by simp; omega) _, below_keeps ((below_alloc w1 _).trans ((below_alloc _ _).mono (by simp))) hr, (Below.heap_alloc _ _ _ (by simp)).trans (heap_alloc_new _ _), v, heap_new _ _ (by simp), (hv.alloc _).alloc _, hv.inL, by omega⟩

theorem alloc2 (w : World) (A B : Obj) : (w.alloc A).alloc B = (w.alloc A).alloc B ∧ ((w.alloc A).alloc B).heap[w.heap.size]? = some A ∧ ((w.alloc A).alloc B).heap[w.heap.size + 1]? = some B ∧ ((w.alloc A).alloc B).heap.size = w.heap.size + 2 ∧ Below w.heap.size w ((w.alloc A).alloc B) :=
  ⟨rfl, (Below.heap_alloc _ _ _ (by simp)).trans (heap_alloc_new _ _), heap_new _ _ (by simp), by simp, (below_alloc w _).alloc (by simp) _⟩

set_option maxHeartbeats 4000000 in
set_option maxRecDepth 100000 in
theorem rb_data (w : World) (v : Value) (y r : List UInt8) (k : UInt8) (hk68 : k = 68) (hv : isB w v y) (hl : y.length ≤ 100000) (h : opened y = some (k :: r)) (R : B14 × Nat) (hR : R = if 1 ≤ r.length ∧ r.length ≤ 160 then (⟨68, 0, 0, 0, 0, 0, r⟩, 0) else (zeroB, 3)) :
    Calls Try.prog 36 #[v] w (RbPost w R) := by
  obtain ⟨ao, cap, rfl, hcy, -⟩ := hv.shape (n := y.length) rfl; have hbt := opened_take h; have hol := opened_len h; simp only [List.length_cons] at hol; have hvt := hv.take (k := r.length + 1) (by omega); rw [show r.length + 1 = y.length - 4 by omega, ← hbt, show y.length - 4 = r.length + 1 by omega] at hvt; obtain ⟨b, off, rfl, hk, hc2⟩ := hvt.rest; rw [if_neg (by omega)] at hc2; have hcap : r.length + 5 ≤ cap := (by omega); have hrl : r.length ≤ 100000 := (by omega); have HV := Lib.hid hv; have Ho := Lib.hid h; have Hc2 := Lib.hid hc2; clear hv h hbt hol hvt hc2 hcy
  have HR := Bx.mk hR
  clear hR
  have k68 : ((k.toNat : Int) == 68) = true := by rw [hk68]; rfl
  have Hk := Lib.hid hk68
  clear hk68
  by_cases hrt : right14 (⟨k, 0, 0, 0, 0, 0, r⟩ : B14)
  · have hlr : 1 ≤ r.length ∧ r.length ≤ 160 := by
      rcases hrt.2 with ⟨h, -⟩ | ⟨-, -, h⟩
      · dsimp only at h; rw [Hk.out] at h; rcases h with h | h <;> simp at h
      · exact h
    have hRR : R = (⟨68, 0, 0, 0, 0, 0, r⟩, 0) := by rw [HR.out, if_pos hlr]
    rw [hRR, ← Hk.out]
    clear hRR HR hlr
    have Hrt := Bx.mk hrt
    clear hrt
    go_enter Try.func36, Try.ntmps36
    go_wp2_with (first | ((go_at_call 83; refine (open14' (o := some (k :: r)) _ (some ⟨b, off, none⟩) cap y (HV.out.alloc _) (by omega) Ho.out).mono ?_; rintro e w1 ⟨hb1, rfl⟩; have HS := below_keeps hb1 (heap_alloc_new w (.cells zeroC 74)); have hs1 := hb1.size; simp only [size_alloc] at hs1; have HB1 : Below w.heap.size w w1 := (below_alloc w _).trans (hb1.mono (by simp)); have hkw := cell_keep (cell_keep hk (below_alloc w (.cells zeroC 74))) hb1; have Hc3 := Lib.hid (Hc2.out.below HB1); have HSh := Lib.hid HS; simp only [List.length_cons]); have q1 := fun o1 o2 => run_string (P := Try.prog) ((Hc3.out.alloc o1).alloc o2) 40 5 Try.underlying40 Try.underlying5 9 Try.underlying9) | (guard_target =~ Calls _ 85 _ _ _; have HA := alloc2 w1 (.cells #[.int .u8 k.toNat, .int .i64 0, .int .i64 0, .int .i64 0, .int .i64 0, .int .i64 0, .string (str r)] 74) (.cells #[.slice none 0 0, .int .i64 0] 119); obtain ⟨-, hT0, hR0, hsz, hb0⟩ := HA; have hS0 := below_keeps hb0 HSh.out; have hB0 : Below w.heap.size w _ := HB1.trans (hb0.mono HB1.size); generalize World.alloc (World.alloc w1 _) _ = W at hT0 hR0 hsz hb0 hS0 hB0 ⊢; go_at_call 85; refine (rightb_spec _ (⟨k, 0, 0, 0, 0, 0, r⟩ : B14)).mono ?_; rintro e w9 ⟨⟨bb, rfl, hbb⟩, hb9⟩; obtain rfl : bb = true := hbb.2 Hrt.out; clear hbb; have hT := below_keeps hb9 hT0; obtain ⟨q0, q1, q2, q3, q4, q5, q6⟩ := cells7 hT; have f1 := unfrozen hT; have HS := below_keeps hb9 hS0; obtain ⟨s0, s1, s2, s3, s4, s5, s6⟩ := cells7 HS; have f3 := unfrozen HS; obtain ⟨rc0, rc1⟩ := cells2' (below_keeps hb9 hR0); have HB9 : Below w.heap.size w w9 := hB0.trans (hb9.mono hB0.size); clear hT0 hR0 hS0 hB0 hb0))
    refine bodyPost_ret (v := .tuple #[.agg _, .int .i64 _]) (by rw [results_cell_tmp rfl]; go_simp; exact ⟨rfl, rfl⟩) rfl ?_
    refine ⟨rfl, ?_⟩
    iterate 7 (refine Below.setCell ?_ (by first | exact Nat.le_refl _ | (dsimp only; omega)) _)
    exact HB9
  · have hlr : ¬ (1 ≤ r.length ∧ r.length ≤ 160) := fun h => hrt ⟨by unfold okN; dsimp only; omega, .inr ⟨Hk.out, ⟨rfl, rfl, rfl, rfl, rfl⟩, h⟩⟩
    have hRR : R = (zeroB, 3) := by rw [HR.out, if_neg hlr]
    rw [hRR]
    clear hRR HR hlr
    have Hrt := Bx.mk hrt
    clear hrt
    go_enter Try.func36, Try.ntmps36
    go_wp2_with (first | ((go_at_call 83; refine (open14' (o := some (k :: r)) _ (some ⟨b, off, none⟩) cap y (HV.out.alloc _) (by omega) Ho.out).mono ?_; rintro e w1 ⟨hb1, rfl⟩; have HS := below_keeps hb1 (heap_alloc_new w (.cells zeroC 74)); have hs1 := hb1.size; simp only [size_alloc] at hs1; have HB1 : Below w.heap.size w w1 := (below_alloc w _).trans (hb1.mono (by simp)); have hkw := cell_keep (cell_keep hk (below_alloc w (.cells zeroC 74))) hb1; have Hc3 := Lib.hid (Hc2.out.below HB1); have HSh := Lib.hid HS; simp only [List.length_cons]); have q1 := fun o1 o2 => run_string (P := Try.prog) ((Hc3.out.alloc o1).alloc o2) 40 5 Try.underlying40 Try.underlying5 9 Try.underlying9) | (guard_target =~ Calls _ 85 _ _ _; have HA := alloc2 w1 (.cells #[.int .u8 k.toNat, .int .i64 0, .int .i64 0, .int .i64 0, .int .i64 0, .int .i64 0, .string (str r)] 74) (.cells #[.slice none 0 0, .int .i64 0] 119); obtain ⟨-, hT0, hR0, hsz, hb0⟩ := HA; have hS0 := below_keeps hb0 HSh.out; have hB0 : Below w.heap.size w _ := HB1.trans (hb0.mono HB1.size); generalize World.alloc (World.alloc w1 _) _ = W at hT0 hR0 hsz hb0 hS0 hB0 ⊢; go_at_call 85; refine (rightb_spec _ (⟨k, 0, 0, 0, 0, 0, r⟩ : B14)).mono ?_; rintro e w9 ⟨⟨bb, rfl, hbb⟩, hb9⟩; obtain rfl : bb = false := (by cases bb; rfl; exact absurd (hbb.1 rfl) Hrt.out); clear hbb; have hT := below_keeps hb9 hT0; obtain ⟨q0, q1, q2, q3, q4, q5, q6⟩ := cells7 hT; have f1 := unfrozen hT; have HS := below_keeps hb9 hS0; obtain ⟨s0, s1, s2, s3, s4, s5, s6⟩ := cells7 HS; have f3 := unfrozen HS; obtain ⟨rc0, rc1⟩ := cells2' (below_keeps hb9 hR0); have HB9 : Below w.heap.size w w9 := hB0.trans (hb9.mono hB0.size); clear hT0 hR0 hS0 hB0 hb0))
    refine bodyPost_ret (v := .tuple #[.agg _, .int .i64 _]) (by rw [results_cell_tmp rfl]; go_simp; exact ⟨rfl, rfl⟩) rfl ?_
    refine zero_rb ?_
    iterate 7 (refine Below.setCell ?_ (by first | exact Nat.le_refl _ | (dsimp only; omega)) _)
    exact HB9
end Go.Proofs.Ytobpjldpkgioaaa
