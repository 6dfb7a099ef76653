/- segment: Read of numbers -/
import Derived.Test.YtobpjldpkgioaaaSeg2
set_option linter.unusedVariables false
set_option linter.unusedSimpArgs false
namespace Go.Proofs.Ytobpjldpkgioaaa
open Go.RowKit

/-- a fact that no tactic looks into -/
structure Bx (p : Prop) : Prop where
  out : p

def snum (k : UInt8) (r : List UInt8) : P14 := if (k = 72 ∨ k = 84) ∧ rend (rst r 5).2.1 (rst r 5).2.2 = 0 then .nums k (rst r 5).1 else .err 3

set_option maxHeartbeats 4000000 in
set_option maxRecDepth 100000 in
theorem sread_nums (w : World) (v : Value) (bs : List UInt8) (k : UInt8) (r : List UInt8) (hv : isB w v bs) (hl : bs.length ≤ 100000) (h : opened bs = some (k :: r)) (h68 : ¬ k = 68) :
    Calls Try.prog 35 #[v] w (SegPost w (snum k r)) := by
  obtain ⟨ao, cap, rfl, -, -⟩ := hv.shape (n := bs.length) rfl
  have hln := opened_len h
  simp only [List.length_cons] at hln
  have hrl : r.length ≤ 100000 := by omega
  clear hln
  have HV := Lib.hid hv
  have Ho := Lib.hid h
  have hk68 : ((k.toNat : Int) == 68) = false := by simp; intro h; exact h68 (UInt8.toNat_inj.1 (by simpa using (by exact_mod_cast h : k.toNat = 68)))
  clear hv h
  generalize hS : snum k r = S
  have HSn := Bx.mk hS
  clear hS
  go_enter Try.func35, Try.ntmps35
  go_wp2_with (first | (go_at_call 80; refine (open_some _ _ bs (k :: r) HV.out (by omega) Ho.out).mono ?_; rintro e w1 ⟨⟨rv, rfl, ho1⟩, hb1⟩; have hob := ho1.isB; obtain ⟨ao1, cap1, rfl, hca, -⟩ := hob.shape (n := r.length + 1) rfl; obtain ⟨b, off, rfl, hk, hc2⟩ := hob.rest; have Hc2 := Lib.hid hc2; have hkb := World.block_lt_of_cell? w1 _ hk; have hs1 := hb1.size; clear hc2 ho1 hob) | (go_at_call 51; refine (ropen_spec _ _ r (Hc2.out.alloc _) (by omega)).mono ?_; rintro e w2 ⟨rb, g, rfl, hr2, hrb, hg2, hb2⟩; generalize (if cap1 = 1 then some (⟨b, off, none⟩ : Addr) else some ⟨b, off + 1, none⟩) = q; have hkq := cell_keep (cell_keep hk (below_alloc w1 _)) hb2; have hT2 := below_keeps hb2 (heap_alloc_new w1 (.cells #[.int .i64 0, .int .i64 0, .int .i64 0, .int .i64 0, .int .i64 0] 72)); have hs2 := hb2.size; simp only [size_alloc] at hrb hg2 hs2; have HB2 : Below w.heap.size w w2 := (hb1.alloc hs1 _).trans (hb2.mono (by simp; omega))))
  have hrw := lt_of_heap hr2.choose_spec.1
  have hgt : ¬ g w1.heap.size := fun h => by have := (hg2 _ h).1; omega
  have hgr : ¬ g rb := hr2.choose_spec.2.2.2
  have Hr2 := Lib.hid hr2
  have HT2 := Lib.hid hT2
  have Hb2 := Lib.hid HB2
  clear hr2 hT2 hb1 hb2 HB2
  go_loopw [42, 8] (fun vi v8 wr => ∃ i : Nat, i ≤ 5 ∧ vi = .int .i64 i ∧ isR wr rb g (rst r i).2.1 (rst r i).2.2 ∧ wr.heap[w1.heap.size]? = some (.cells (five (rst r i).1).toArray 72 (0, 0)) ∧ Chg (fun k => k = rb ∨ k = w1.heap.size) w2 wr) (fun vi _ _ => 5 - (intOf vi).toNat)
  case atStart => exact ⟨0, by omega, rfl, Hr2.out, HT2.out, Chg.refl _ _⟩
  case round =>
    obtain ⟨i, hi, rfl, hr, hT, hc⟩ := hrel
    obtain ⟨l, b', e', hst⟩ : ∃ l b' e', rst r i = (l, b', e') := ⟨_, _, _, rfl⟩
    have hll := rst_len r i
    have hle := rst_le r i
    rw [hst] at hr hT hll hle
    dsimp only at hr hT hll hle
    have Hst := Bx.mk hst
    have HR := Lib.hid hr
    have HT := Lib.hid hT
    have HC := Lib.hid hc
    clear hst hr hT hc
    by_cases hin : i < 5
    · obtain ⟨n, b2, e2, hx⟩ : ∃ n b2 e2, rnum 1073741824 b' e' = (n, b2, e2) := ⟨_, _, _, rfl⟩
      have hn := rnum_lt 1073741824 b' e'
      rw [hx] at hn
      dsimp only at hn
      have Hx := Bx.mk hx
      clear hx
      go_wp2_with (first | (go_at_call 81; refine (number_spec _ rb g b' e' 1073741824 HR.out).mono ?_; rintro e w3 ⟨rfl, hr3, hc3⟩; rw [Hx.out] at hr3 ⊢; dsimp only at hr3 ⊢; have hT3 := hc3.keeps HT.out (by omega); have hce := (cell_of_row w3 _ i _ _ _ hT3).trans (by simpa using five_get hin); have fz := unfrozen hT3 i))
      go_roundw
      case rel =>
        have hst1 : rst r (i + 1) = (l ++ [n], b2, e2) := by rw [rst, Hst.out]; dsimp only; rw [Hx.out]
        refine ⟨i + 1, by omega, by go_num, ?_, ?_, ?_⟩
        · rw [hst1]; exact hr3.put _ (by omega) hgt
        · rw [hst1]
          have := heap_setCell_same _ _ i _ _ (.int .i64 n) hT3
          rw [this]
          simp only [List.setIfInBounds_toArray]
          rw [five_set hll hin]
        · exact (HC.out.trans hc3 (fun k _ h => .inl h)).setCell (p := ⟨w1.heap.size, i, none⟩) (.inr (.inr rfl)) _
      case measure => simp [intOf]; omega
    · obtain rfl : i = 5 := by omega
      obtain ⟨n0, n1, n2, n3, n4, rfl⟩ := five_row hll
      have hT := HT.out
      obtain ⟨q0, q1, q2, q3, q4⟩ := cells5 (show wr.heap[w1.heap.size]? = some (.cells #[.int .i64 n0, .int .i64 n1, .int .i64 n2, .int .i64 n3, .int .i64 n4] 72 (0, 0)) from hT)
      have hkr : wr.cell? ⟨b, off, none⟩ = some (.int .u8 k.toNat) := by
        have hb2s := World.block_lt_of_cell? w2 _ hkq
        rw [World.cell?_of_block (w := w2) (a := ⟨b, off, none⟩) (HC.out.block b hb2s (by rintro (h | h) <;> omega))]; exact hkq
      have hBr : Below w.heap.size w wr := Hb2.out.trans (HC.out.below Hb2.out.size (by rintro k (h | h) <;> omega))
      have HBr := Lib.hid hBr
      clear hT hBr
      have hSS : S = if (k = 72 ∨ k = 84) ∧ rend b' e' = 0 then .nums k [n0, n1, n2, n3, n4] else .err 3 := by rw [← HSn.out, snum, Hst.out]
      obtain ⟨z, hz⟩ : ∃ z, rend b' e' = z := ⟨_, rfl⟩
      rw [hz] at hSS
      have HSS := Bx.mk hSS
      have Hz := Lib.hid hz
      clear hSS hz
      by_cases hz0 : z = 0
      · subst hz0
        by_cases h72 : k = 72
        · have k72 : ((k.toNat : Int) == 72) = true := by rw [h72]; rfl
          have hS : S = .nums k [n0, n1, n2, n3, n4] := by rw [HSS.out, if_pos ⟨.inl h72, rfl⟩]
          have HS := Bx.mk hS
          have H72 := Lib.hid h72
          clear hS h72
          go_wp2_with (first | (go_at_call 82; refine (rend_spec _ rb g b' e' HR.out).mono ?_; rintro e w4 ⟨rfl, rfl⟩; rw [Hz.out]))
          go_ret2
          rw [HS.out]
          exact ⟨_, by rw [errOf, if_pos H72.out]; rfl, by rw [isBlk, if_pos H72.out]; rfl, HBr.out⟩
        · have k72 : ((k.toNat : Int) == 72) = false := by simp; intro h; exact h72 (UInt8.toNat_inj.1 (by simpa using (by exact_mod_cast h : k.toNat = 72)))
          by_cases h84 : k = 84
          · have k84 : ((k.toNat : Int) == 84) = true := by rw [h84]; rfl
            have hS : S = .nums k [n0, n1, n2, n3, n4] := by rw [HSS.out, if_pos ⟨.inr h84, rfl⟩]
            have HS := Bx.mk hS
            have H72 := Lib.hid h72
            clear hS h72 h84
            by_cases h1 : n4 ≤ 1
            · have h1i : (n4 : Int) ≤ 1 := by omega
              go_wp2_with (first | (go_at_call 82; refine (rend_spec _ rb g b' e' HR.out).mono ?_; rintro e w4 ⟨rfl, rfl⟩; rw [Hz.out]))
              go_ret2
              rw [HS.out]
              have hlast : decide (n4 = 1) = ((n4 : Int) == 1) := by by_cases h : n4 = 1 <;> simp [h]; omega
              exact ⟨_, by rw [errOf, if_neg H72.out]; rw [if_pos (by exact h1)]; rfl, by rw [isBlk, if_neg H72.out]; rw [if_pos (by exact h1)]; show _ = Value.iface _ (.agg #[_, _, _, _, .bool (decide (n4 = 1))]); rw [hlast]; rfl, HBr.out⟩
            · have h1i : ¬ (n4 : Int) ≤ 1 := by omega
              go_wp2_with (first | (go_at_call 82; refine (rend_spec _ rb g b' e' HR.out).mono ?_; rintro e w4 ⟨rfl, rfl⟩; rw [Hz.out]))
              go_ret2
              rw [HS.out]
              exact ⟨_, by rw [errOf, if_neg H72.out]; rw [if_neg (by exact h1)]; rfl, by rw [isBlk, if_neg H72.out]; rw [if_neg (by exact h1)]; rfl, HBr.out⟩
          · have k84 : ((k.toNat : Int) == 84) = false := by simp; intro h; exact h84 (UInt8.toNat_inj.1 (by simpa using (by exact_mod_cast h : k.toNat = 84)))
            have hS : S = .err 3 := by rw [HSS.out, if_neg (fun h => h.1.elim h72 h84)]
            have HS := Bx.mk hS
            clear hS
            go_wp2_with (first | (go_at_call 82; refine (rend_spec _ rb g b' e' HR.out).mono ?_; rintro e w4 ⟨rfl, rfl⟩; rw [Hz.out]))
            go_ret2
            rw [HS.out]
            exact seg_err HBr.out
      · have hz1 : ((z : Int) != 0) = true := by simp; omega
        have hS : S = .err 3 := by rw [HSS.out, if_neg (fun h => hz0 h.2)]
        have HS := Bx.mk hS
        clear hS
        go_wp2_with (first | (go_at_call 82; refine (rend_spec _ rb g b' e' HR.out).mono ?_; rintro e w4 ⟨rfl, rfl⟩; rw [Hz.out]))
        go_ret2
        rw [HS.out]
        exact seg_err HBr.out
end Go.Proofs.Ytobpjldpkgioaaa
