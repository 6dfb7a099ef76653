/- record: parse, of the other kinds -/
import Derived.Test.YtobpjldpkgioaaaRecord2
set_option linter.unusedVariables false
set_option linter.unusedSimpArgs false
namespace Go.Proofs.Ytobpjldpkgioaaa
open Go.RowKit
set_option maxHeartbeats 1000000 in
set_option maxRecDepth 100000 in
theorem parse_4 (w : World) (p : Nat → Prop) (v : Value) (r : List UInt8) (hb : isB w v (4 :: r)) (hl : r.length ≤ 100000) :
    Calls Try.prog 92 #[v] w (RparsePost w p (rparse (4 :: r))) := by
  obtain ⟨ao, cap, rfl, hcap, -⟩ := hb.shape (n := r.length + 1) rfl
  obtain ⟨b, off, rfl, hk, hc2⟩ := hb.rest
  have Hc2 := Lib.hid hc2
  clear hb hc2
  rw [rparse, if_neg (by decide), if_neg (by decide), if_neg (by decide), if_pos rfl]
  obtain ⟨n1, b1, e1, hx⟩ : ∃ n b1 e1, rnum 1099511627776 r 0 = (n, b1, e1) := ⟨_, _, _, rfl⟩
  have hn1 := rnum_lt 1099511627776 r 0
  rw [hx] at hn1 ⊢
  dsimp only at hn1 ⊢
  obtain ⟨n2, b2, e2, hy⟩ : ∃ n b2 e2, rnum 1099511627776 b1 e1 = (n, b2, e2) := ⟨_, _, _, rfl⟩
  have hn2 := rnum_lt 1099511627776 b1 e1
  rw [hy] at hn2 ⊢
  dsimp only at hn2 ⊢
  obtain ⟨n3, b3, e3, hy3⟩ : ∃ n b3 e3, rnum 2305843009213693950 b2 e2 = (n, b3, e3) := ⟨_, _, _, rfl⟩
  have hn3 := rnum_lt 2305843009213693950 b2 e2
  rw [hy3] at hn3 ⊢
  dsimp only at hn3 ⊢
  have Hx := Lib.hid hx
  have Hy := Lib.hid hy
  have Hy3 := Lib.hid hy3
  clear hx hy hy3
  obtain ⟨z, hz⟩ : ∃ z, rend b3 e3 = z := ⟨_, rfl⟩
  rw [hz]
  have Hz := Lib.hid hz
  clear hz
  generalize hR : (if z = 0 then some (⟨4, 0, 0, 0, 0, [], n1, n2, n3⟩ : Rec) else none) = R
  by_cases hz : z = 0
  · subst hz
    rw [if_pos rfl] at hR
    subst hR
    go_enter Try.func92, Try.ntmps92
    go_wp2_with (first | ((go_at_call 51; refine (ropen_spec _ _ r (Hc2.out.below (below_alloc _ _)) (by omega)).mono ?_; rintro e w1 ⟨rb, g, rfl, hr, hrb, hg, hb1⟩; have hk1 := cell_keep (cell_keep hk (below_alloc _ _)) hb1; generalize (if cap = 1 then some (⟨b, off, none⟩ : Addr) else some ⟨b, off + 1, none⟩) = q; have HR1 := below_keeps hb1 (heap_alloc_new w _); have hrw := lt_of_heap hr.choose_spec.1; have hgne := hr.choose_spec.2.2.2; simp only [size_alloc] at hrb hg; have hne1 : rb ≠ w1.heap.size := (by omega); have hne2 : ¬ g w1.heap.size := fun h => Nat.lt_irrefl _ (hg _ h).2; have hsz1 := hb1.size; simp only [size_alloc] at hsz1; have HB1 : Below w.heap.size w w1 := (below_alloc w _).trans (hb1.mono (by simp))); have hsz1' : w.heap.size ≤ w1.heap.size := Nat.le_of_succ_le hsz1) | (go_at_call 81; refine (number_spec _ rb g b2 e2 2305843009213693950 hr3).mono ?_; rintro e w4 ⟨rfl, hr4, hc4⟩; rw [Hy3.out] at hr4 ⊢; dsimp only at hr4 ⊢; replace hT := hc4.keeps hT (by omega); obtain ⟨q0, q1, q2, q3, q4, q5, q6, q7, q8⟩ := cells9 hT; have f1 := unfrozen hT; replace HS := hc4.keeps HS (by omega); obtain ⟨s0, s1, s2, s3, s4, s5, s6, s7, s8⟩ := cells9 HS; have f3 := unfrozen HS; have HB4 : Below w.heap.size w w4 := HB3.trans (hc4.below HB3.size (fun k hk => by omega))) | (go_at_call 81; refine (number_spec _ rb g b1 e1 1099511627776 (hr2.put _ hne1 hne2)).mono ?_; rintro e w3 ⟨rfl, hr3, hc3⟩; rw [Hy.out] at hr3 ⊢; dsimp only at hr3 ⊢; replace hT := hc3.keeps hT (by omega); have HS := hc3.keeps ((isR.chg0 (r := w1.heap.size) 6 _).keeps (hc2.keeps (below_keeps (below_alloc _ _) HR1) (by omega)) (by omega)) (by omega); have HB2 : Below w.heap.size w w2 := (HB1.alloc (by omega) _).trans (hc2.below (by simp; omega) (fun k hk => by omega)); have HB3 : Below w.heap.size w w3 := (HB2.setCell (p := ⟨w1.heap.size, 6, none⟩) hsz1' _).trans (hc3.below (by rw [size_setCell]; exact HB2.size) (fun k hk => by omega))) | (go_at_call 81; refine (number_spec _ rb g r 0 1099511627776 (hr.below (below_alloc _ _))).mono ?_; rintro e w2 ⟨rfl, hr2, hc2⟩; rw [Hx.out] at hr2 ⊢; dsimp only at hr2 ⊢; have hT := hc2.keeps (heap_alloc_new w1 _) (by omega); obtain ⟨q0, q1, q2, q3, q4, q5, q6, q7, q8⟩ := cells9 hT; have f1 := unfrozen hT; replace hT := heap_setCell_same _ _ 6 _ _ (.int .i64 n1) hT) | (go_at_call 82; refine (rend_spec _ rb g b3 _ ((hr4.put _ hne1 hne2).put _ hne1 hne2)).mono ?_; rintro e w5 ⟨rfl, rfl⟩; rw [Hz.out]))
    refine bodyPost_ret (v := .tuple #[.agg _, .int .i64 _]) (by rw [results_cell_tmp rfl]; go_simp; exact ⟨rfl, rfl⟩) rfl ?_
    refine ⟨?_, _, rfl, isB.nil _, trivial⟩
    iterate 11 (refine Below.setCell ?_ (by first | exact Nat.le_refl _ | (dsimp only; omega)) _)
    exact HB4
  · have hz1 : ((z : Int) != 0) = true := by simp; omega
    rw [if_neg hz] at hR
    subst hR
    go_enter Try.func92, Try.ntmps92
    go_wp2_with (first | ((go_at_call 51; refine (ropen_spec _ _ r (Hc2.out.below (below_alloc _ _)) (by omega)).mono ?_; rintro e w1 ⟨rb, g, rfl, hr, hrb, hg, hb1⟩; have hk1 := cell_keep (cell_keep hk (below_alloc _ _)) hb1; generalize (if cap = 1 then some (⟨b, off, none⟩ : Addr) else some ⟨b, off + 1, none⟩) = q; have HR1 := below_keeps hb1 (heap_alloc_new w _); have hrw := lt_of_heap hr.choose_spec.1; have hgne := hr.choose_spec.2.2.2; simp only [size_alloc] at hrb hg; have hne1 : rb ≠ w1.heap.size := (by omega); have hne2 : ¬ g w1.heap.size := fun h => Nat.lt_irrefl _ (hg _ h).2; have hsz1 := hb1.size; simp only [size_alloc] at hsz1; have HB1 : Below w.heap.size w w1 := (below_alloc w _).trans (hb1.mono (by simp))); have hsz1' : w.heap.size ≤ w1.heap.size := Nat.le_of_succ_le hsz1) | (go_at_call 81; refine (number_spec _ rb g b2 e2 2305843009213693950 hr3).mono ?_; rintro e w4 ⟨rfl, hr4, hc4⟩; rw [Hy3.out] at hr4 ⊢; dsimp only at hr4 ⊢; replace hT := hc4.keeps hT (by omega); obtain ⟨q0, q1, q2, q3, q4, q5, q6, q7, q8⟩ := cells9 hT; have f1 := unfrozen hT; replace HS := hc4.keeps HS (by omega); obtain ⟨s0, s1, s2, s3, s4, s5, s6, s7, s8⟩ := cells9 HS; have f3 := unfrozen HS; have HB4 : Below w.heap.size w w4 := HB3.trans (hc4.below HB3.size (fun k hk => by omega))) | (go_at_call 81; refine (number_spec _ rb g b1 e1 1099511627776 (hr2.put _ hne1 hne2)).mono ?_; rintro e w3 ⟨rfl, hr3, hc3⟩; rw [Hy.out] at hr3 ⊢; dsimp only at hr3 ⊢; replace hT := hc3.keeps hT (by omega); have HS := hc3.keeps ((isR.chg0 (r := w1.heap.size) 6 _).keeps (hc2.keeps (below_keeps (below_alloc _ _) HR1) (by omega)) (by omega)) (by omega); have HB2 : Below w.heap.size w w2 := (HB1.alloc (by omega) _).trans (hc2.below (by simp; omega) (fun k hk => by omega)); have HB3 : Below w.heap.size w w3 := (HB2.setCell (p := ⟨w1.heap.size, 6, none⟩) hsz1' _).trans (hc3.below (by rw [size_setCell]; exact HB2.size) (fun k hk => by omega))) | (go_at_call 81; refine (number_spec _ rb g r 0 1099511627776 (hr.below (below_alloc _ _))).mono ?_; rintro e w2 ⟨rfl, hr2, hc2⟩; rw [Hx.out] at hr2 ⊢; dsimp only at hr2 ⊢; have hT := hc2.keeps (heap_alloc_new w1 _) (by omega); obtain ⟨q0, q1, q2, q3, q4, q5, q6, q7, q8⟩ := cells9 hT; have f1 := unfrozen hT; replace hT := heap_setCell_same _ _ 6 _ _ (.int .i64 n1) hT) | (go_at_call 82; refine (rend_spec _ rb g b3 _ ((hr4.put _ hne1 hne2).put _ hne1 hne2)).mono ?_; rintro e w5 ⟨rfl, rfl⟩; rw [Hz.out]))
    refine bodyPost_ret (v := .tuple #[.agg _, .int .i64 _]) (by rw [results_cell_tmp rfl]; go_simp; exact ⟨rfl, rfl⟩) rfl ?_
    refine nil_post ?_
    iterate 11 (refine Below.setCell ?_ (by first | exact Nat.le_refl _ | (dsimp only; omega)) _)
    exact HB4

set_option maxHeartbeats 1000000 in
set_option maxRecDepth 100000 in
theorem parse_0 (w : World) (p : Nat → Prop) (v : Value) (k : UInt8) (r : List UInt8) (hb : isB w v (k :: r)) (hl : r.length ≤ 100000) (h1 : ¬ k = 1) (h2 : ¬ k = 2) (h3 : ¬ k = 3) (h4 : ¬ k = 4) :
    Calls Try.prog 92 #[v] w (RparsePost w p (rparse (k :: r))) := by
  obtain ⟨ao, cap, rfl, hcap, -⟩ := hb.shape (n := r.length + 1) rfl
  obtain ⟨b, off, rfl, hk, hc2⟩ := hb.rest
  have Hc2 := Lib.hid hc2
  clear hb hc2
  rw [rparse, if_neg h1, if_neg h2, if_neg h3, if_neg h4]
  have k1 : ((k.toNat : Int) == 1) = false := by simp; intro h; exact h1 (UInt8.toNat_inj.1 (by simpa using (by exact_mod_cast h : k.toNat = 1)))
  have k2 : ((k.toNat : Int) == 2) = false := by simp; intro h; exact h2 (UInt8.toNat_inj.1 (by simpa using (by exact_mod_cast h : k.toNat = 2)))
  have k3 : ((k.toNat : Int) == 3) = false := by simp; intro h; exact h3 (UInt8.toNat_inj.1 (by simpa using (by exact_mod_cast h : k.toNat = 3)))
  have k4 : ((k.toNat : Int) == 4) = false := by simp; intro h; exact h4 (UInt8.toNat_inj.1 (by simpa using (by exact_mod_cast h : k.toNat = 4)))
  go_enter Try.func92, Try.ntmps92
  go_wp2_with (first | ((go_at_call 51; refine (ropen_spec _ _ r (Hc2.out.below (below_alloc _ _)) (by omega)).mono ?_; rintro e w1 ⟨rb, g, rfl, hr, hrb, hg, hb1⟩; have hk1 := cell_keep (cell_keep hk (below_alloc _ _)) hb1; generalize (if cap = 1 then some (⟨b, off, none⟩ : Addr) else some ⟨b, off + 1, none⟩) = q; have HR1 := below_keeps hb1 (heap_alloc_new w _); have hrw := lt_of_heap hr.choose_spec.1; have hgne := hr.choose_spec.2.2.2; simp only [size_alloc] at hrb hg; have hne1 : rb ≠ w1.heap.size := (by omega); have hne2 : ¬ g w1.heap.size := fun h => Nat.lt_irrefl _ (hg _ h).2; have hsz1 := hb1.size; simp only [size_alloc] at hsz1; have HB1 : Below w.heap.size w w1 := (below_alloc w _).trans (hb1.mono (by simp))); have HS := below_keeps (below_alloc w1 (.cells #[.int .u8 k.toNat, .int .i64 0, .int .i64 0, .int .i64 0, .int .i64 0, .slice none 0 0, .int .i64 0, .int .u64 0, .int .u64 0] 102)) HR1; obtain ⟨s0, s1, s2, s3, s4, s5, s6, s7, s8⟩ := cells9 HS; have f3 := unfrozen HS))
  refine bodyPost_ret (v := .tuple #[.agg _, .int .i64 _]) (by rw [results_cell_tmp rfl]; go_simp; exact ⟨rfl, rfl⟩) rfl ?_
  refine nil_post ?_
  iterate 9 (refine Below.setCell ?_ (by first | exact Nat.le_refl _ | (dsimp only; omega)) _)
  exact HB1.alloc (by omega) _

set_option maxHeartbeats 1000000 in
set_option maxRecDepth 100000 in
theorem parse_e (w : World) (p : Nat → Prop) (v : Value) (hb : isB w v []) :
    Calls Try.prog 92 #[v] w (RparsePost w p (rparse [])) := by
  obtain ⟨ao, cap, rfl, -, -⟩ := hb.shape (n := 0) rfl
  clear hb
  rw [rparse]
  go_enter Try.func92, Try.ntmps92
  go_wp2
  refine bodyPost_ret (v := .tuple #[.agg _, .int .i64 _]) (by rw [results_cell_tmp rfl]; go_simp; exact ⟨rfl, rfl⟩) rfl ?_
  refine nil_post ?_
  exact below_alloc _ _
end Go.Proofs.Ytobpjldpkgioaaa
