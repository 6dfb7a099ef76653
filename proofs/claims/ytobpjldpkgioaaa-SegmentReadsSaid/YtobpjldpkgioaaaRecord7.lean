/- record: Bytes -/
import Derived.Test.YtobpjldpkgioaaaRecord6
set_option linter.unusedVariables false
set_option linter.unusedSimpArgs false
namespace Go.Proofs.Ytobpjldpkgioaaa
open Go.RowKit

/-- a record as bytes -/
def rbytesP (x : Rec) : List UInt8 := vtexts [sealed (rbody x)]

theorem isBs_one {w : World} {g : Nat} {u : Value} {bs : List UInt8} {T : TypeId} {fz : Nat × Nat} (h : w.heap[g]? = some (.cells #[u] T fz)) (hu : isB w u bs) : isBs w (.slice (some ⟨g, 0, none⟩) 1 1) [bs] := by
  refine ⟨_, 1, rfl, Nat.le_refl _, by simp [maxLen], nofun, ?_⟩
  rintro a ha
  obtain rfl := Option.some.inj ha
  refine ⟨fun _ => rfl, fun i x hx => ?_⟩
  match i, hx with
  | 0, hx => obtain rfl := Option.some.inj hx; exact ⟨_, by rw [cell_of_row _ _ _ _ _ _ h]; rfl, hu⟩
  | i + 1, hx => simp at hx

theorem rbody_len (x : Rec) : (rbody x).length ≤ 31 + x.blocks.length := by
  have h1 := vnums_len [u64n x.id, u64n x.base]
  have h2 := vnums_len [u64n x.from_]
  have h3 := vnums_len [u64n x.from_, u64n x.to]
  have h4 := vnums_len [u64n x.count, x.len, x.sum]
  simp only [List.length_cons, List.length_nil] at h1 h2 h3 h4
  unfold rbody
  rw [List.length_cons]
  split
  · omega
  · split
    · rw [List.length_append]; omega
    · split <;> omega

def RBPost (w : World) (bs : List UInt8) (ok : Prop) (e : Ending) (w' : World) : Prop :=
  Below w.heap.size w w' ∧ (ok → ∃ r, e = .returned (.tuple #[r, .int .i64 0]) ∧ ownB w' 5 w.heap.size r bs) ∧ (¬ ok → e = .returned (.tuple #[.slice none 0 0, .int .i64 1]))

set_option maxHeartbeats 1000000 in
set_option maxRecDepth 100000 in
theorem rec_bytes (w : World) (x : Rec) (v : Value) (hb : isB w v x.blocks) (hx : RecOK x) :
    Calls Try.prog 48 #[.agg (recC x v)] w (RBPost w (rbytesP x) (rread (rbytesP x) = (x, 0))) := by
  have hbl := rbody_len x
  have hx3 := hx.blocks
  have hsl := length_sealed (rbody x)
  obtain ⟨ao, cap, rfl, -, -⟩ := hb.shape (n := x.blocks.length) rfl
  have HB := Lib.hid hb
  have HX := Lib.hid hx
  clear hb hx
  obtain ⟨s, er, hr⟩ : ∃ s er, rread (rbytesP x) = (s, er) := ⟨_, _, rfl⟩
  rw [hr]
  have HR := Lib.hid hr
  have hsp : rbytesP x = [] ++ vtexts [sealed (rbody x)] := rfl
  have HSP := Lib.hid hsp
  clear hr hsp
  generalize hQ : rbytesP x = Q at *
  have hbx := heap_alloc_new w (.cells (recC x (.slice ao x.blocks.length cap)) 102)
  obtain ⟨q0, q1, q2, q3, q4, q5, q6, q7, q8⟩ := cells9 hbx
  have HBX := Lib.hid hbx
  clear hbx
  dsimp only [recC] at *
  have hQl : Q.length ≤ 1000000 := by
    rw [HSP.out, List.nil_append]
    have h1 := vtexts_len [sealed (rbody x)]
    simp only [total, List.map_cons, List.map_nil, List.sum_cons, List.sum_nil] at h1
    omega
  obtain ⟨ok, hok⟩ : ∃ ok : Prop, ok = ((s, er) = (x, 0)) := ⟨_, rfl⟩
  rw [← hok]
  have HOK := Lib.hid hok
  clear hok
  by_cases he : er = 0
  · subst he
    by_cases hs : s = x
    · have hk : ok := by rw [HOK.out, hs]
      have HSX := Lib.hid hs
      clear hs
      go_enter Try.func48, Try.ntmps48
      go_wp2_with (first | (go_at_call 89; refine (body_spec _ x _ (HB.out.alloc _) HX.out).mono ?_; rintro e w1 ⟨⟨r1, rfl, ho1⟩, hb1⟩) | (go_at_call 88; refine (seal_spec _ _ _ ho1.isB (by omega)).mono ?_; rintro e w2 ⟨⟨r2, rfl, ho2⟩, hb2⟩; obtain ⟨ao2, cap2, rfl, -, -⟩ := ho2.isB.shape hsl) | (go_at_call 87; refine (texts_spec _ _ _ [] [sealed (rbody x)] (isB.nil _) (isBs_one (heap_alloc_new _ _) (ho2.isB.alloc _)) (by simp) (by simp [total]; omega)).mono ?_; rintro e w3 ⟨⟨r3, rfl, ho3⟩, hb3⟩; rw [← HSP.out] at ho3; obtain ⟨ao3, cap3, rfl, -, -⟩ := ho3.isB.shape rfl; have hs1 := hb1.size; have hs2 := hb2.size; have hs3 := hb3.size; (try simp only [size_alloc] at hs1); (try simp only [size_alloc] at hs3); have HB13 : Below (w.heap.size + 1) (w.alloc (.cells (recC x (.slice ao x.blocks.length cap)) 102)) w3 := (hb1.mono (by rw [size_alloc]; exact Nat.le_refl _)).trans ((hb2.mono (by omega)).trans (((below_alloc w2 _).mono (by omega)).trans (hb3.mono (by rw [size_alloc]; omega)))); have HB3 : Below w.heap.size w w3 := (below_alloc w _).trans (HB13.mono (by omega)); have hq3 := below_keeps (show Below (w.alloc (.cells (recC x (.slice ao x.blocks.length cap)) 102)).heap.size _ w3 from HB13.mono (by rw [size_alloc]; exact Nat.le_refl _)) HBX.out) | (go_at_call 51; refine (ropen_spec _ _ Q ho3.isB (by omega)).mono ?_; rintro e w4 ⟨rb, g, rfl, hr4, hrb, hg4, hb4⟩; have hs4 := hb4.size) | (go_at_call 50; refine (read_spec _ rb g Q hr4).mono ?_; rintro e w5 ⟨v5, rfl, hv5, hp5, hc5⟩; rw [HR.out] at hv5 ⊢; dsimp only [recC] at hv5 ⊢; have hs5 := hc5.size; have HB5 : Below w3.heap.size w3 w5 := hb4.trans (hc5.below (by omega) (fun k hk => by omega)); have hq5 := below_keeps HB5 hq3; obtain ⟨ao5, cap5, rfl, -, -⟩ := hv5.shape (n := s.blocks.length) rfl; have hq6 := below_keeps (below_alloc w5 (.cells (recC s (.slice ao5 s.blocks.length cap5)) 102)) hq5; dsimp only [recC] at hq6; obtain ⟨u0, u1, u2, u3, u4, u5, u6, u7, u8⟩ := cells9 hq6) | (go_at_call 53; refine (same_rec _ x s _ _ ((HB.out.below (HB3.trans (HB5.mono HB3.size))).alloc _) (hv5.alloc _)).mono ?_; rintro e w6 ⟨⟨bb, rfl, hbb⟩, hb6⟩; obtain rfl : bb = true := hbb.2 HSX.out.symm))
      go_ret2
      have HBf : Below w.heap.size w w5 := HB3.trans (HB5.mono HB3.size)
      exact ⟨(HBf.alloc HBf.size _).trans (hb6.mono (by simp; have := HBf.size; omega)), fun _ => ⟨_, rfl, ((ho3.below HB5).below (below_alloc _ _) |>.below hb6).mono (by rw [size_alloc]; omega)⟩, fun h => absurd hk h⟩
    · have hk : ¬ ok := by rw [HOK.out]; simp [hs]
      go_enter Try.func48, Try.ntmps48
      go_wp2_with (first | (go_at_call 89; refine (body_spec _ x _ (HB.out.alloc _) HX.out).mono ?_; rintro e w1 ⟨⟨r1, rfl, ho1⟩, hb1⟩) | (go_at_call 88; refine (seal_spec _ _ _ ho1.isB (by omega)).mono ?_; rintro e w2 ⟨⟨r2, rfl, ho2⟩, hb2⟩; obtain ⟨ao2, cap2, rfl, -, -⟩ := ho2.isB.shape hsl) | (go_at_call 87; refine (texts_spec _ _ _ [] [sealed (rbody x)] (isB.nil _) (isBs_one (heap_alloc_new _ _) (ho2.isB.alloc _)) (by simp) (by simp [total]; omega)).mono ?_; rintro e w3 ⟨⟨r3, rfl, ho3⟩, hb3⟩; rw [← HSP.out] at ho3; obtain ⟨ao3, cap3, rfl, -, -⟩ := ho3.isB.shape rfl; have hs1 := hb1.size; have hs2 := hb2.size; have hs3 := hb3.size; (try simp only [size_alloc] at hs1); (try simp only [size_alloc] at hs3); have HB13 : Below (w.heap.size + 1) (w.alloc (.cells (recC x (.slice ao x.blocks.length cap)) 102)) w3 := (hb1.mono (by rw [size_alloc]; exact Nat.le_refl _)).trans ((hb2.mono (by omega)).trans (((below_alloc w2 _).mono (by omega)).trans (hb3.mono (by rw [size_alloc]; omega)))); have HB3 : Below w.heap.size w w3 := (below_alloc w _).trans (HB13.mono (by omega)); have hq3 := below_keeps (show Below (w.alloc (.cells (recC x (.slice ao x.blocks.length cap)) 102)).heap.size _ w3 from HB13.mono (by rw [size_alloc]; exact Nat.le_refl _)) HBX.out) | (go_at_call 51; refine (ropen_spec _ _ Q ho3.isB (by omega)).mono ?_; rintro e w4 ⟨rb, g, rfl, hr4, hrb, hg4, hb4⟩; have hs4 := hb4.size) | (go_at_call 50; refine (read_spec _ rb g Q hr4).mono ?_; rintro e w5 ⟨v5, rfl, hv5, hp5, hc5⟩; rw [HR.out] at hv5 ⊢; dsimp only [recC] at hv5 ⊢; have hs5 := hc5.size; have HB5 : Below w3.heap.size w3 w5 := hb4.trans (hc5.below (by omega) (fun k hk => by omega)); have hq5 := below_keeps HB5 hq3; obtain ⟨ao5, cap5, rfl, -, -⟩ := hv5.shape (n := s.blocks.length) rfl; have hq6 := below_keeps (below_alloc w5 (.cells (recC s (.slice ao5 s.blocks.length cap5)) 102)) hq5; dsimp only [recC] at hq6; obtain ⟨u0, u1, u2, u3, u4, u5, u6, u7, u8⟩ := cells9 hq6) | (go_at_call 53; refine (same_rec _ x s _ _ ((HB.out.below (HB3.trans (HB5.mono HB3.size))).alloc _) (hv5.alloc _)).mono ?_; rintro e w6 ⟨⟨bb, rfl, hbb⟩, hb6⟩; obtain rfl : bb = false := (by cases bb; rfl; exact absurd (hbb.1 rfl).symm hs)))
      go_ret2
      have HBf : Below w.heap.size w w5 := HB3.trans (HB5.mono HB3.size)
      exact ⟨(HBf.alloc HBf.size _).trans (hb6.mono (by simp; have := HBf.size; omega)), fun h => absurd h hk, fun _ => rfl⟩
  · have he1 : ((er : Int) != 0) = true := by simp; omega
    have hk : ¬ ok := by rw [HOK.out]; simp [he]
    go_enter Try.func48, Try.ntmps48
    go_wp2_with (first | (go_at_call 89; refine (body_spec _ x _ (HB.out.alloc _) HX.out).mono ?_; rintro e w1 ⟨⟨r1, rfl, ho1⟩, hb1⟩) | (go_at_call 88; refine (seal_spec _ _ _ ho1.isB (by omega)).mono ?_; rintro e w2 ⟨⟨r2, rfl, ho2⟩, hb2⟩; obtain ⟨ao2, cap2, rfl, -, -⟩ := ho2.isB.shape hsl) | (go_at_call 87; refine (texts_spec _ _ _ [] [sealed (rbody x)] (isB.nil _) (isBs_one (heap_alloc_new _ _) (ho2.isB.alloc _)) (by simp) (by simp [total]; omega)).mono ?_; rintro e w3 ⟨⟨r3, rfl, ho3⟩, hb3⟩; rw [← HSP.out] at ho3; obtain ⟨ao3, cap3, rfl, -, -⟩ := ho3.isB.shape rfl; have hs1 := hb1.size; have hs2 := hb2.size; have hs3 := hb3.size; (try simp only [size_alloc] at hs1); (try simp only [size_alloc] at hs3); have HB13 : Below (w.heap.size + 1) (w.alloc (.cells (recC x (.slice ao x.blocks.length cap)) 102)) w3 := (hb1.mono (by rw [size_alloc]; exact Nat.le_refl _)).trans ((hb2.mono (by omega)).trans (((below_alloc w2 _).mono (by omega)).trans (hb3.mono (by rw [size_alloc]; omega)))); have HB3 : Below w.heap.size w w3 := (below_alloc w _).trans (HB13.mono (by omega)); have hq3 := below_keeps (show Below (w.alloc (.cells (recC x (.slice ao x.blocks.length cap)) 102)).heap.size _ w3 from HB13.mono (by rw [size_alloc]; exact Nat.le_refl _)) HBX.out) | (go_at_call 51; refine (ropen_spec _ _ Q ho3.isB (by omega)).mono ?_; rintro e w4 ⟨rb, g, rfl, hr4, hrb, hg4, hb4⟩; have hs4 := hb4.size) | (go_at_call 50; refine (read_spec _ rb g Q hr4).mono ?_; rintro e w5 ⟨v5, rfl, hv5, hp5, hc5⟩; rw [HR.out] at hv5 ⊢; dsimp only [recC] at hv5 ⊢; have hs5 := hc5.size; have HB5 : Below w3.heap.size w3 w5 := hb4.trans (hc5.below (by omega) (fun k hk => by omega)); have hq5 := below_keeps HB5 hq3; obtain ⟨ao5, cap5, rfl, -, -⟩ := hv5.shape (n := s.blocks.length) rfl; have hq6 := below_keeps (below_alloc w5 (.cells (recC s (.slice ao5 s.blocks.length cap5)) 102)) hq5; dsimp only [recC] at hq6; obtain ⟨u0, u1, u2, u3, u4, u5, u6, u7, u8⟩ := cells9 hq6))
    go_ret2
    have HBf : Below w.heap.size w w5 := HB3.trans (HB5.mono HB3.size)
    exact ⟨HBf.alloc HBf.size _, fun h => absurd h hk, fun _ => rfl⟩
end Go.Proofs.Ytobpjldpkgioaaa
