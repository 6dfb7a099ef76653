/- record: body -/
import Derived.Test.YtobpjldpkgioaaaRecord5
import Derived.Test.YtobpjldpkgioaaaSeq2
set_option linter.unusedVariables false
set_option linter.unusedSimpArgs false
namespace Go.Proofs.Ytobpjldpkgioaaa
open Go.RowKit

/-- a number as uint64 has it -/
def u64n (x : Int) : Nat := (x % 18446744073709551616).toNat
theorem u64n_lt (x : Int) : u64n x < 18446744073709551616 := by unfold u64n; omega
theorem u64n_eq (x : Int) : IntKind.u64.wrap x = (u64n x : Int) := by
  rw [IntKind.wrap_u64]; unfold u64n; omega

/-- a record's bytes, without their sum -/
def rbody (x : Rec) : List UInt8 :=
  x.kind :: if x.kind = 1 then vnums [u64n x.id, u64n x.base] else if x.kind = 2 then vnums [u64n x.from_] ++ x.blocks
    else if x.kind = 3 then vnums [u64n x.from_, u64n x.to] else vnums [u64n x.count, x.len, x.sum]

theorem isU_row {w : World} {g : Nat} {T : TypeId} {fz : Nat × Nat} (ns : List Nat) (cs : Array Value) (h : w.heap[g]? = some (.cells cs T fz)) (hc : cs = (ns.map fun n : Nat => Value.int .u64 (n : Int)).toArray) (hn : ∀ n ∈ ns, n < 18446744073709551616) (hl : ns.length ≤ 10) {n c : Nat} (h1 : n = ns.length) (h2 : c = ns.length) :
    isS isU w (.slice (some ⟨g, 0, none⟩) n c) ns := by
  subst h1; subst h2; subst hc
  refine ⟨_, ns.length, rfl, Nat.le_refl _, by simp [maxLen]; omega, nofun, ?_⟩
  rintro a ha
  obtain rfl := Option.some.inj ha
  refine ⟨fun _ => rfl, fun i x hx => ⟨.int .u64 x, ?_, rfl, hn x (List.mem_of_getElem? hx)⟩⟩
  rw [cell_of_row _ _ _ _ _ _ h]
  obtain ⟨hi, rfl⟩ := List.getElem?_eq_some_iff.1 hx
  simp [hi]

theorem heap_new (w : World) (o : Obj) {n : Nat} (h : n = w.heap.size) : (w.alloc o).heap[n]? = some o := by subst h; exact heap_alloc_new _ _

def BodyPost (w : World) (bs : List UInt8) (e : Ending) (w' : World) : Prop := (∃ r, e = .returned r ∧ ownB w' 5 w.heap.size r bs) ∧ Below w.heap.size w w'

set_option maxHeartbeats 1000000 in
set_option maxRecDepth 100000 in
theorem body_1 (w : World) (x : Rec) (v : Value) (hb : isB w v x.blocks) (hk : x.kind = 1) :
    Calls Try.prog 89 #[.agg (recC x v)] w (BodyPost w (rbody x)) := by
  have hu1 := u64n_eq x.id
  have hu2 := u64n_eq x.base
  have l1 := u64n_lt x.id
  have l2 := u64n_lt x.base
  rw [rbody, if_pos hk]
  generalize u64n x.id = n1 at *
  generalize u64n x.base = n2 at *
  dsimp only [recC]
  rw [hk]
  obtain ⟨ao, cap, rfl, -, -⟩ := hb.shape (n := x.blocks.length) rfl
  clear hb
  go_enter Try.func89, Try.ntmps89
  go_wp2_with (go_at_call 106; refine (put_spec _ _ _ [1] [n1, n2] ((isB.one (c := 1) (heap_new _ _ (by simp)) rfl).alloc _) (isU_row [n1, n2] _ (heap_new _ _ (by simp)) rfl (by simp; omega) (by simp) rfl rfl) (by simp) (by simp)).mono ?_; rintro e w2 ⟨⟨r, rfl, ho⟩, hb2⟩)
  go_ret
  refine ⟨⟨_, rfl, ho.mono (by simp; omega)⟩, ?_⟩
  exact (((below_alloc w _).alloc (by simp) _).alloc (by simp; omega) _).trans (hb2.mono (by simp; omega))

set_option maxHeartbeats 1000000 in
set_option maxRecDepth 100000 in
theorem body_3 (w : World) (x : Rec) (v : Value) (hb : isB w v x.blocks) (hk : x.kind = 3) :
    Calls Try.prog 89 #[.agg (recC x v)] w (BodyPost w (rbody x)) := by
  have hu1 := u64n_eq x.from_
  have hu2 := u64n_eq x.to
  have l1 := u64n_lt x.from_
  have l2 := u64n_lt x.to
  rw [rbody, if_neg (by rw [hk]; decide), if_neg (by rw [hk]; decide), if_pos hk]
  generalize u64n x.from_ = n1 at *
  generalize u64n x.to = n2 at *
  dsimp only [recC]
  rw [hk]
  obtain ⟨ao, cap, rfl, -, -⟩ := hb.shape (n := x.blocks.length) rfl
  clear hb
  go_enter Try.func89, Try.ntmps89
  go_wp2_with (go_at_call 106; refine (put_spec _ _ _ [3] [n1, n2] ((isB.one (c := 3) (heap_new _ _ (by simp)) rfl).alloc _) (isU_row [n1, n2] _ (heap_new _ _ (by simp)) rfl (by simp; omega) (by simp) rfl rfl) (by simp) (by simp)).mono ?_; rintro e w2 ⟨⟨r, rfl, ho⟩, hb2⟩)
  go_ret
  refine ⟨⟨_, rfl, ho.mono (by simp; omega)⟩, ?_⟩
  exact (((below_alloc w _).alloc (by simp) _).alloc (by simp; omega) _).trans (hb2.mono (by simp; omega))

set_option maxHeartbeats 1000000 in
set_option maxRecDepth 100000 in
theorem body_4 (w : World) (x : Rec) (v : Value) (hb : isB w v x.blocks) (h1 : ¬ x.kind = 1) (h2 : ¬ x.kind = 2) (h3 : ¬ x.kind = 3) (hl : x.len < 18446744073709551616) (hs : x.sum < 18446744073709551616) :
    Calls Try.prog 89 #[.agg (recC x v)] w (BodyPost w (rbody x)) := by
  have hu1 := u64n_eq x.count
  have l1 := u64n_lt x.count
  rw [rbody, if_neg h1, if_neg h2, if_neg h3]
  generalize u64n x.count = n1 at *
  dsimp only [recC]
  have k1 : ((x.kind.toNat : Int) == 1) = false := by simp; intro h; exact h1 (UInt8.toNat_inj.1 (by simpa using (by exact_mod_cast h : x.kind.toNat = 1)))
  have k2 : ((x.kind.toNat : Int) == 2) = false := by simp; intro h; exact h2 (UInt8.toNat_inj.1 (by simpa using (by exact_mod_cast h : x.kind.toNat = 2)))
  have k3 : ((x.kind.toNat : Int) == 3) = false := by simp; intro h; exact h3 (UInt8.toNat_inj.1 (by simpa using (by exact_mod_cast h : x.kind.toNat = 3)))
  obtain ⟨ao, cap, rfl, -, -⟩ := hb.shape (n := x.blocks.length) rfl
  clear hb h1 h2 h3
  go_enter Try.func89, Try.ntmps89
  go_wp2_with (go_at_call 106; refine (put_spec _ _ _ [x.kind] [n1, x.len, x.sum] ((isB.one (c := x.kind) (heap_new _ _ (by simp)) rfl).alloc _) (isU_row [n1, x.len, x.sum] _ (heap_new _ _ (by simp)) rfl (by simp; omega) (by simp) rfl rfl) (by simp) (by simp)).mono ?_; rintro e w2 ⟨⟨r, rfl, ho⟩, hb2⟩)
  go_ret
  refine ⟨⟨_, rfl, ho.mono (by simp; omega)⟩, ?_⟩
  exact (((below_alloc w _).alloc (by simp) _).alloc (by simp; omega) _).trans (hb2.mono (by simp; omega))

set_option maxHeartbeats 1000000 in
set_option maxRecDepth 100000 in
theorem body_2 (w : World) (x : Rec) (v : Value) (hb : isB w v x.blocks) (hk : x.kind = 2) (hbl : x.blocks.length ≤ 100000) :
    Calls Try.prog 89 #[.agg (recC x v)] w (BodyPost w (rbody x)) := by
  have hu1 := u64n_eq x.from_
  have l1 := u64n_lt x.from_
  rw [rbody, if_neg (by rw [hk]; decide), if_pos hk]
  generalize u64n x.from_ = n1 at *
  dsimp only [recC]
  rw [hk]
  obtain ⟨ao, cap, rfl, -, -⟩ := hb.shape (n := x.blocks.length) rfl
  have HB := Lib.hid hb
  clear hb
  go_enter Try.func89, Try.ntmps89
  go_wp2
  have hbox := (Below.heap_alloc _ (.cells #[.int .u8 2] 5) w.heap.size (by simp)).trans (heap_alloc_new w (.cells #[.int .u8 2, .int .i64 x.id, .int .i64 x.base, .int .i64 x.from_, .int .i64 x.to, .slice ao x.blocks.length cap, .int .i64 x.count, .int .u64 x.len, .int .u64 x.sum] 102))
  have hrow := heap_new (w.alloc (.cells #[.int .u8 2, .int .i64 x.id, .int .i64 x.base, .int .i64 x.from_, .int .i64 x.to, .slice ao x.blocks.length cap, .int .i64 x.count, .int .u64 x.len, .int .u64 x.sum] 102)) (.cells #[.int .u8 2] 5) (n := w.heap.size + 1) (by simp)
  have hB0 : Below w.heap.size w ((w.alloc (.cells #[.int .u8 2, .int .i64 x.id, .int .i64 x.base, .int .i64 x.from_, .int .i64 x.to, .slice ao x.blocks.length cap, .int .i64 x.count, .int .u64 x.len, .int .u64 x.sum] 102)).alloc (.cells #[.int .u8 2] 5)) := (below_alloc w _).alloc (by simp) _
  have hs0 : w.heap.size + 2 = ((w.alloc (.cells #[.int .u8 2, .int .i64 x.id, .int .i64 x.base, .int .i64 x.from_, .int .i64 x.to, .slice ao x.blocks.length cap, .int .i64 x.count, .int .u64 x.len, .int .u64 x.sum] 102)).alloc (.cells #[.int .u8 2] 5)).heap.size := by simp
  generalize (World.alloc (World.alloc w _) _) = W at *
  obtain ⟨-, -, -, q3, -, q5, -, -, -⟩ := cells9 hbox
  have c3 := fun wx (h : Below W.heap.size W wx) => (h.cell (World.block_lt_of_cell? W _ q3)).trans q3
  have c5 := fun wx (h : Below W.heap.size W wx) => (h.cell (World.block_lt_of_cell? W _ q5)).trans q5
  clear hbox q3 q5
  have hvl := vnums_len [n1]
  simp only [List.length_cons, List.length_nil] at hvl
  have Hrow := Lib.hid hrow
  have HB0 := Lib.hid hB0
  clear hrow hB0
  refine wp_region_seq (fun wx => Below W.heap.size W wx) [(0, true), (1, true), (2, true), (3, true), (4, true), (7, true), (8, true), (5, false), (6, false), (9, false), (10, true)] (by kernel_rfl) (by kernel_rfl) (fun c a d v w h => by cases d <;> exact h) ((Below.refl W.heap.size W).drew) ?_
  simp only [pickSeq, List.map_cons, List.map_nil, List.getD_cons_zero, List.getD_cons_succ]
  have hHeld := ((Below.refl W.heap.size W).drew)
  refine seq_take (v := ?_) (by rfl) (fun wx hSw => ?_) ?_; rotate_left; (go_simp <;> try with_reducible rfl); (try simp only [Act.put, List.setIfInBounds_toArray, List.set_cons_zero, List.set_cons_succ])
  refine seq_take (v := ?_) (by rfl) (fun wx hSw => ?_) ?_; rotate_left; (go_simp <;> try with_reducible rfl); (try simp only [Act.put, List.setIfInBounds_toArray, List.set_cons_zero, List.set_cons_succ])
  refine seq_take (v := ?_) (by rfl) (fun wx hSw => ?_) ?_; rotate_left; (go_simp <;> try with_reducible rfl); (try simp only [Act.put, List.setIfInBounds_toArray, List.set_cons_zero, List.set_cons_succ])
  refine seq_take (v := ?_) (by rfl) (fun wx hSw => ?_) ?_; rotate_left; (go_simp <;> try with_reducible rfl); (try simp only [Act.put, List.setIfInBounds_toArray, List.set_cons_zero, List.set_cons_succ])
  refine seq_take (v := ?_) (by rfl) (fun wx hSw => ?_) ?_; rotate_left; (go_simp <;> try with_reducible rfl); (try simp only [Act.put, List.setIfInBounds_toArray, List.set_cons_zero, List.set_cons_succ])
  refine seq_take (v := ?_) (by rfl) (fun wx hSw => ?_) ?_; rotate_left; (go_simp <;> try with_reducible rfl); (try simp only [Act.put, List.setIfInBounds_toArray, List.set_cons_zero, List.set_cons_succ])
  refine seq_take (v := ?_) (by rfl) (fun wx hSw => ?_) ?_; rotate_left; (go_simp <;> try with_reducible rfl); (try simp only [Act.put, List.setIfInBounds_toArray, List.set_cons_zero, List.set_cons_succ])
  refine seq_run (fun K hK => ?_); go_simp; (have hHeld0 := hHeld); refine hK.out _ _ ((hHeld.alloc hHeld.size _)) (fun hHeld => ?_); clear hK K; (try simp only [Act.put, List.setIfInBounds_toArray, List.set_cons_zero, List.set_cons_succ])
  refine seq_run (fun K hK => ?_); go_simp; go_at_call 106; refine (put_spec _ _ _ [2] [n1] (((isB.one (c := 2) Hrow.out rfl).below hHeld0).alloc _) (isU_row [n1] _ (heap_new _ _ (by simp)) rfl (by simp; omega) (by simp) rfl rfl) (by simp) (by simp)).mono ?_; rintro e w2 ⟨⟨r, rfl, ho⟩, hb2⟩; refine hK.out _ _ ((hHeld.trans (hb2.mono hHeld.size))) (fun hHeld => ?_); clear hK K; (try simp only [Act.put, List.setIfInBounds_toArray, List.set_cons_zero, List.set_cons_succ])
  refine seq_run (fun K hK => ?_); rw [if_pos (by rfl)]; refine oper_of_list rfl (fun Q' hQ' => ?_); refine wpList_append_bytes (o := ⟨some 31, _, _, _, _, _⟩) rfl (.tmp 28) (.tmp 30) 40 rfl w.heap.size 5 Try.underlying40 Try.infoU8 _ _ rfl (ho.mono (B' := w.heap.size) (by have := hHeld0.size; simp; simp at this; omega)) _ _ rfl ((HB.out.below HB0.out).below hHeld) (by simp; omega) (by have := hHeld.size; omega) ?_; intro v3 w3 ho3 hc3; refine hQ' _ _ ?_; clear hQ' Q'; refine hK.out _ _ (hHeld.trans (hc3.below hHeld.size (fun k hk => by have := (ho.lt k hk.2).1; have := hHeld0.size; simp at *; omega))) (fun hHeld => ?_); clear hK K; (try simp only [Act.put, List.setIfInBounds_toArray, List.set_cons_zero, List.set_cons_succ])
  refine seq_take (v := ?_) (by rfl) (fun wx hSw => ?_) ?_; rotate_left; (go_simp <;> try with_reducible rfl); (try simp only [Act.put, List.setIfInBounds_toArray, List.set_cons_zero, List.set_cons_succ])
  refine seq_nil ?_
  have Hfin : Hid (Below w.heap.size w w3) := HB0.out.trans (hHeld.mono (by omega))
  clear hHeld hc3 c3 c5
  go_wp2
  go_ret
  exact ⟨⟨_, rfl, ho3.of_eq (by simp)⟩, Hfin.out⟩

/-- a record that is in memory: its numbers fit -/
structure RecOK (x : Rec) : Prop where
  len : x.len < 18446744073709551616
  sum : x.sum < 18446744073709551616
  blocks : x.blocks.length ≤ 100000

theorem body_spec (w : World) (x : Rec) (v : Value) (hb : isB w v x.blocks) (hx : RecOK x) :
    Calls Try.prog 89 #[.agg (recC x v)] w (BodyPost w (rbody x)) := by
  by_cases h1 : x.kind = 1
  · exact body_1 w x v hb h1
  · by_cases h2 : x.kind = 2
    · exact body_2 w x v hb h2 hx.blocks
    · by_cases h3 : x.kind = 3
      · exact body_3 w x v hb h3
      · exact body_4 w x v hb h1 h2 h3 hx.len hx.sum
end Go.Proofs.Ytobpjldpkgioaaa
