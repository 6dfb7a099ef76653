/- RecordReads, the walk -/
import Derived.Test.YtobpjldpkgioaaaLaw12l
import Derived.Test.YtobpjldpkgioaaaRef12f
set_option linter.unusedVariables false
set_option linter.unusedSimpArgs false
namespace Go.Proofs.Ytobpjldpkgioaaa
open Go.RowKit

theorem xor255 (c : UInt8) : ∃ d : UInt8, bits .xor .u8 (c.toNat : Int) 255 = (d.toNat : Int) := by
  have hc := c.toNat_lt
  refine ⟨UInt8.ofNat (c.toNat ^^^ 255), ?_⟩
  have e := u8_xor_nat c.toNat 255 (by omega) (by decide)
  have hl : c.toNat ^^^ 255 < 256 := Nat.xor_lt_two_pow (n := 8) (by omega) (by decide)
  rw [show (255 : Int) = ((255 : Nat) : Int) from rfl, e]
  simp [Nat.mod_eq_of_lt hl]

set_option maxHeartbeats 4000000 in
set_option maxRecDepth 100000 in
theorem law_reads_long (w : World) (v : Value) (b : List UInt8) (hb : isB w v b) (hl : 1000 < b.length) :
    Calls Try.prog 8 #[v] w fun e w' => e = .returned (.bool true) ∧ Below w.heap.size w w' := by
  obtain ⟨ao, cap, rfl, -, -⟩ := hb.shape (n := b.length) rfl
  have hl2 : (1000 : Int) < b.length := by omega
  clear hb
  go_enter Try.func8, Try.ntmps8
  go_wp2_with (first | (go_at_call 46; refine (lives12 w).mono ?_; rintro e w1 ⟨rfl, hb1⟩) | (go_at_call 46; refine (lives12 w1).mono ?_; rintro e w2 ⟨rfl, hb2⟩))
  go_ret
  exact ⟨rfl, hb1.trans (hb2.mono hb1.size)⟩

set_option maxHeartbeats 4000000 in
set_option maxRecDepth 100000 in
theorem law_reads_short (w : World) (v : Value) (b : List UInt8) (hb : isB w v b) (hl : b.length ≤ 1000) :
    Calls Try.prog 8 #[v] w fun e w' => e = .returned (.bool true) ∧ Below w.heap.size w w' := by
  obtain ⟨ao, cap, rfl, -, -⟩ := hb.shape (n := b.length) rfl
  have hl2 : ¬ (1000 : Int) < b.length := by omega
  have HB := Lib.hid hb
  clear hb
  go_enter Try.func8, Try.ntmps8
  go_wp2_with (first | (go_at_call 46; refine (lives12 w).mono ?_; rintro e w1 ⟨rfl, hb1⟩) | (at_builtin; refine stop_in ?_))
  have hs1 := hb1.size
  refine stop_out ?_; refine wpList_append_bytes (o := ⟨some 19, _, _, _, _, _⟩) rfl (.tmp 17) (.tmp 18) 40 rfl w1.heap.size 5 Try.underlying40 Try.infoU8 _ _ rfl (ownB.lit (bs := []) (cs := []) (heap_alloc_new _ _) rfl (by simp) (Nat.le_refl _) rfl rfl) _ _ rfl ((HB.out.below hb1).alloc _) (by simp; omega) (by simp) ?_
  intro v1 w2 ho1 hc1
  have hb2 : Below w1.heap.size w1 w2 := (below_alloc w1 _).trans (hc1.below (by simp) (fun k hk => hk.1))
  have hs2 := hb2.size
  clear hc1
  rw [List.nil_append] at ho1
  obtain ⟨ao1, cap1, rfl, -, -⟩ := ho1.isB.shape (n := b.length) rfl
  obtain ⟨x, er, hr⟩ : ∃ x er, rread b = (x, er) := ⟨_, _, rfl⟩
  have HR := Lib.hid hr
  clear hr
  have Ho1 := Lib.hid ho1
  go_wp2_with (first | (go_at_call 51; refine (ropen_spec _ _ b Ho1.out.isB (by omega)).mono ?_; rintro e w3 ⟨rb, g, rfl, hr3, hrb, hg3, hb3⟩; have hs3 := hb3.size) | (go_at_call 50; refine (read_spec _ rb g b hr3).mono ?_; rintro e w4 ⟨v4, rfl, hv4, hp4, hc4⟩; rw [HR.out] at hv4 ⊢; dsimp only [recC] at hv4 ⊢; have hs4 := hc4.size; have HB4 : Below w2.heap.size w2 w4 := hb3.trans (hc4.below (by omega) (fun k hk => by omega)); obtain ⟨ao4, cap4, rfl, -, -⟩ := hv4.shape (n := x.blocks.length) rfl) | (go_at_call 54; refine (qread_spec _ (w4.heap.size + 1) (fun k => k < w4.heap.size) b ⟨_, heap_new _ _ (by simp), ((((HB.out.below hb1).below hb2).below HB4).alloc _).alloc _, ((((HB.out.below hb1).below hb2).below HB4).inL).imp fun k hk => hk, by omega⟩).mono ?_; rintro e w5 ⟨rfl, hc5⟩; rw [HR.out]; dsimp only [refC]; have hs5 := hc5.size; simp only [size_alloc] at hs5; have HT4 := hc5.keeps ((Below.heap_alloc (w4.alloc (.cells (recC x (.slice ao4 x.blocks.length cap4)) 102)) (.cells #[.slice ao b.length cap, .int .i64 0] 119) w4.heap.size (by simp)).trans (heap_alloc_new w4 _)) (by omega); have HC5 : Chg (· = w4.heap.size + 1) w4 w5 := ((Chg.refl _ _).alloc _).alloc _ |>.trans hc5 (fun _ _ h => h)))
  have Hv4 := Lib.hid hv4
  have Hp4 := Lib.hid hp4
  have HT4b := Lib.hid HT4
  have HB5 : Hid (Below w.heap.size w (w5.alloc (.cells (refC x) 104))) := (((hb1.trans (hb2.mono hs1)).trans (HB4.mono (by omega))).trans (HC5.below (by omega) (fun k hk => by omega))).alloc (by omega) _
  have Ho6 : Hid (ownB (w5.alloc (.cells (refC x) 104)) 5 w1.heap.size (.slice ao1 b.length cap1) b) := ((ho1.below (HB4.trans (HC5.below (by omega) (fun k hk => by omega)))).alloc _)
  have ho1lt := ho1.lt
  clear hv4 hp4 HT4 hr3 hb3 hc4 hc5 hb1 hb2 ho1
  have hlen : b.length < 9223372036854775808 := by omega
  go_loopw [35, 8] (fun vi v8 wr => ∃ (i : Nat) (l : List UInt8), i ≤ b.length ∧ vi = .int .i64 i ∧ l.length = b.length ∧ ownB wr 5 w1.heap.size (.slice ao1 b.length cap1) l ∧ Chg (fun k => w1.heap.size ≤ k ∧ k < w2.heap.size) (w5.alloc (.cells (refC x) 104)) wr) (fun vi _ _ => b.length - (intOf vi).toNat)
  case atStart => exact ⟨0, b, by omega, rfl, rfl, Ho6.out, Chg.refl _ _⟩
  case round =>
    obtain ⟨i, l, hi, rfl, hl1, ho, hc⟩ := hrel
    by_cases hin : i < b.length
    · have hlt := ho.lt
      have Hlt0 := ho1lt
      obtain ⟨gb, cb, heq, hgB, hcb1, hcb2, hfz, hce⟩ := ho.at hl1 (by omega)
      simp only [Value.slice.injEq] at heq
      obtain ⟨rfl, -, rfl⟩ := heq
      obtain ⟨d, hd⟩ : ∃ d, l[i]? = some d := ⟨_, List.getElem?_eq_getElem (by omega)⟩
      have hcc := hce i d hd
      have fz := hfz i
      obtain ⟨d', hd'⟩ := xor255 d
      have hst := ho.store hl1 i d'
      have Hst := Lib.hid hst
      have Hc := Lib.hid hc
      have hgb2 := (Hlt0 gb rfl).2
      clear hce hfz hst ho hc hd hlt Hlt0
      go_wp2
      go_roundw
      case rel => exact ⟨i + 1, _, by omega, by go_num, by rw [List.length_set]; exact hl1, Hst.out, Hc.out.setCell (p := ⟨gb, i, none⟩) (.inr ⟨hgB, hgb2⟩) _⟩
      case measure => simp [intOf]; omega
    · obtain rfl : i = b.length := by omega
      have Hc := Lib.hid hc
      clear ho hc
      go_wp2
      have hw4 := HT4b.out
      have hw3 : w2.heap.size ≤ w4.heap.size := by omega
      have hT4 : wr.heap[w4.heap.size]? = _ := Hc.out.keeps ((below_keeps (below_alloc w5 _) HT4b.out)) (by rintro ⟨-, h⟩; omega)
      have hT6 : wr.heap[w5.heap.size]? = _ := Hc.out.keeps (heap_alloc_new w5 _) (by rintro ⟨-, h⟩; omega)
      have hBl := (Hv4.out.below (HC5.below (B := w4.heap.size) (by omega) (fun k hk => by omega))).alloc (.cells (refC x) 104)
      have hBl2 := hBl.chgL Hc.out (Hp4.out.imp fun k hk h => by omega)
      have HBr : Hid (Below w.heap.size w wr) := HB5.out.trans (Hc.out.below (by have := HB5.out.size; exact this) (fun k hk => by omega))
      dsimp only [recC, refC] at hT4 hT6
      obtain ⟨a0, a1, a2, a3, a4, a5, a6, a7, a8⟩ := cells9 hT4
      obtain ⟨b0, b1, b2, b3, b4, b5, b6, b7, b8⟩ := cells9 hT6
      have keepc := fun (a : Addr) (u : Value) (q : wr.cell? a = some u) wx (h : Below wr.heap.size wr wx) => (h.cell (World.block_lt_of_cell? wr _ q)).trans q
      replace a0 := keepc _ _ a0
      replace a1 := keepc _ _ a1
      replace a2 := keepc _ _ a2
      replace a3 := keepc _ _ a3
      replace a4 := keepc _ _ a4
      replace a5 := keepc _ _ a5
      replace a6 := keepc _ _ a6
      replace a7 := keepc _ _ a7
      replace a8 := keepc _ _ a8
      replace b0 := keepc _ _ b0
      replace b1 := keepc _ _ b1
      replace b2 := keepc _ _ b2
      replace b3 := keepc _ _ b3
      replace b4 := keepc _ _ b4
      replace b5 := keepc _ _ b5
      replace b6 := keepc _ _ b6
      replace b7 := keepc _ _ b7
      replace b8 := keepc _ _ b8
      have HBL := Lib.hid hBl2
      clear hT4 hT6 hBl hBl2 keepc hw4
      refine wp_region_seq (fun wx => Below wr.heap.size wr wx) [(0, true), (1, true), (2, true), (3, true), (4, true), (6, true), (5, false), (7, true), (8, true), (9, true)] (by kernel_rfl) (by kernel_rfl) (fun c a d v w h => by cases d <;> exact h) ((Below.refl wr.heap.size wr).drew) ?_
      simp only [pickSeq, List.map_cons, List.map_nil, List.getD_cons_zero, List.getD_cons_succ]
      have hHeld := ((Below.refl wr.heap.size wr).drew)
      refine seq_take (v := ?_) (by rfl) (fun wx hSw => ?_) ?_; rotate_left; (go_simp <;> try with_reducible rfl); (try simp only [Act.put, List.setIfInBounds_toArray, List.set_cons_zero, List.set_cons_succ])
      refine seq_take (v := ?_) (by rfl) (fun wx hSw => ?_) ?_; rotate_left; (go_simp <;> try with_reducible rfl); (try simp only [Act.put, List.setIfInBounds_toArray, List.set_cons_zero, List.set_cons_succ])
      refine seq_take (v := ?_) (by rfl) (fun wx hSw => ?_) ?_; rotate_left; (go_simp <;> try with_reducible rfl); (try simp only [Act.put, List.setIfInBounds_toArray, List.set_cons_zero, List.set_cons_succ])
      refine seq_take (v := ?_) (by rfl) (fun wx hSw => ?_) ?_; rotate_left; (go_simp <;> try with_reducible rfl); (try simp only [Act.put, List.setIfInBounds_toArray, List.set_cons_zero, List.set_cons_succ])
      refine seq_take (v := ?_) (by rfl) (fun wx hSw => ?_) ?_; rotate_left; (go_simp <;> try with_reducible rfl); (try simp only [Act.put, List.setIfInBounds_toArray, List.set_cons_zero, List.set_cons_succ])
      refine seq_take (v := ?_) (by rfl) (fun wx hSw => ?_) ?_; rotate_left; (go_simp <;> try with_reducible rfl); (try simp only [Act.put, List.setIfInBounds_toArray, List.set_cons_zero, List.set_cons_succ])
      refine seq_run (fun K hK => ?_); go_simp; go_at_call 47; refine (plain_spec _ x _ (HBL.out.below hHeld)).mono ?_; rintro e w7 ⟨rfl, hb7⟩; refine hK.out _ _ ((hHeld.trans (hb7.mono hHeld.size))) (fun hHeld => ?_); clear hK K; (try simp only [Act.put, List.setIfInBounds_toArray, List.set_cons_zero, List.set_cons_succ])
      refine seq_take (v := .bool true) (by rfl) (fun wx hSw => by (dsimp only [refC]; go_simp)) ?_; (try simp only [Act.put, List.setIfInBounds_toArray, List.set_cons_zero, List.set_cons_succ])
      refine seq_take (v := ?_) (by rfl) (fun wx hSw => ?_) ?_; rotate_left; (go_simp <;> try with_reducible rfl); (try simp only [Act.put, List.setIfInBounds_toArray, List.set_cons_zero, List.set_cons_succ])
      refine seq_take (v := ?_) (by rfl) (fun wx hSw => ?_) ?_; rotate_left; (go_simp <;> try with_reducible rfl); (try simp only [Act.put, List.setIfInBounds_toArray, List.set_cons_zero, List.set_cons_succ])
      refine seq_nil ?_
      have Hb := Lib.hid hHeld
      clear hHeld hb7 a0 a1 a2 a3 a4 a5 a6 a7 a8 b0 b1 b2 b3 b4 b5 b6 b7 b8
      go_wp2
      go_ret
      exact ⟨rfl, HBr.out.trans (Hb.out.mono HBr.out.size)⟩

theorem law_reads (w : World) (v : Value) (b : List UInt8) (hb : isB w v b) :
    Calls Try.prog 8 #[v] w fun e w' => e = .returned (.bool true) ∧ Below w.heap.size w w' := by
  by_cases h : 1000 < b.length
  · exact law_reads_long w v b hb h
  · exact law_reads_short w v b hb (by omega)
end Go.Proofs.Ytobpjldpkgioaaa
