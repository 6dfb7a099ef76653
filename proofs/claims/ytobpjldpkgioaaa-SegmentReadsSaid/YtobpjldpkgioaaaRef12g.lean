/- ref12: Bytes -/
import Derived.Test.YtobpjldpkgioaaaRecordPlain
import Derived.Test.YtobpjldpkgioaaaRef02b
import Derived.Lib.AppendStr
set_option linter.unusedVariables false
set_option linter.unusedSimpArgs false
namespace Go.Proofs.Ytobpjldpkgioaaa
open Go.RowKit

theorem strCells_str (l : List UInt8) : Lib.strCells (str l) = bvals l := rfl
theorem size_str (l : List UInt8) : (str l).size = l.length := by simp [str, ByteArray.size]

/-- append of a string's bytes onto a row that the call made -/
theorem wpList_append_str {P : Program} {ops : Array Oper} {rest : List Oper} {o : Oper} {a : Act} {w : World} {Q : Exit → Act → World → Prop} (hgd : o.guard = none) (s x : Operand) (t u : TypeId)
    (ho : o.op = .call { callee := .builtin .append, args := #[s, x], argTypes := #[t, u] })
    (B : Nat) (e : TypeId) (ht : P.underlying t = some (.slice e)) (hu : P.underlying u = some .string) (hi : (P.info? e).map (fun i => (i.zero, i.size, i.bytes)) = some (some (.int .u8 0), 1, 1))
    (v : Value) (bs : List UInt8) (hs : a.eval s = v) (hown : ownB w e B v bs)
    (ns : List UInt8) (hx : a.eval x = .string (str ns)) (hlen : bs.length + ns.length ≤ 140737488355328) (hbase : B ≤ w.heap.size)
    (h : ∀ v' w', ownB w' e B v' (bs ++ ns) → Chg (fun k => B ≤ k ∧ v.ownBlock = some k) w w' → wpList P ops Q rest (a.put o.dst v') w') : wpList P ops Q (o :: rest) a w := by
  obtain ⟨i, hi1, hi2, hi3, hi4⟩ := info_parts hi
  refine Lib.wpList_append_own_string w hgd s x t u ho B e i ht hu hi1 hi2 hi3 hi4 v bs.length (bvals bs) hs hown (str ns) hx (by rw [size_str]; simp [maxLen]; omega) (by rw [size_str]; omega) hbase ?_
  intro v' w' h2 h3 _
  refine h v' w' ?_ (chg_grown h3 fun k hk => ⟨(hown.lt k hk).1, hk⟩)
  unfold ownB
  rw [bvals_append, List.length_append, ← strCells_str ns, ← size_str ns]
  exact h2

set_option maxHeartbeats 4000000 in
set_option maxRecDepth 100000 in
theorem qbytes_1 (w : World) (x : Rec) (hx : RecIn x) (hk : x.kind = 1) (hbl : x.blocks.length ≤ 200) :
    Calls Try.prog 52 #[.agg (refC x)] w (BodyPost w (rbytesP x)) := by
  have hlb := rbody_len x
  have hsl := length_sealed (rbody x)
  obtain ⟨n1, hn1⟩ : ∃ n, n = u64n x.id := ⟨_, rfl⟩
  have hu1 := u64n_eq x.id
  have l1 := u64n_lt x.id
  rw [← hn1] at hu1 l1
  have v1 : (vnum n1).length ≤ 10 := vnumF_len 10 n1
  obtain ⟨n2, hn2⟩ : ∃ n, n = u64n x.base := ⟨_, rfl⟩
  have hu2 := u64n_eq x.base
  have l2 := u64n_lt x.base
  rw [← hn2] at hu2 l2
  have v2 : (vnum n2).length ≤ 10 := vnumF_len 10 n2
  have hrb : rbody x = [1] ++ vnum n1 ++ vnum n2 := by
    rw [rbody, if_pos hk, hk]
    simp [vnums, ← hn1, ← hn2]
  have HRB := Lib.hid hrb
  clear hrb hx
  dsimp only [refC]
  rw [hk]
  clear hk hn1 hn2
  go_enter Try.func52, Try.ntmps52
  go_wp2_with (first | (go_at_call 94; refine (rnumber n1 _ l1).mono ?_; rintro e u1 ⟨⟨r1, rfl, hq1⟩, hbq1⟩) | (at_builtin; refine stop_in ?_))
  have hin1 : isB u1 (.slice (some ⟨w.heap.size + 1, 0, none⟩) 1 1) [1] := ((isB.one (c := 1) (heap_new _ _ (by simp)) rfl).below hbq1)
  have hx1 := below_keeps hbq1 ((Below.heap_alloc _ (.cells #[.int .u8 1] 5) w.heap.size (by simp)).trans (heap_alloc_new w (.cells #[.int .u8 1, .int .i64 x.id, .int .i64 x.base, .int .i64 x.from_, .int .i64 x.to, .string (str x.blocks), .int .i64 x.count, .int .u64 x.len, .int .u64 x.sum] 104)))
  have hrow1 : ownB u1 5 (w.heap.size + 1) (.slice (some ⟨w.heap.size + 1, 0, none⟩) 1 1) [1] := ownB.lit (cs := [.int .u8 1]) (below_keeps hbq1 (heap_new _ _ (by simp))) rfl (by simp [maxLen]) (Nat.le_refl _) rfl rfl
  have hB1 : Below w.heap.size w u1 := ((below_alloc w _).alloc (by simp) _).trans (hbq1.mono (by simp; omega))
  refine stop_out ?_; refine wpList_append_bytes (o := ⟨some 16, _, _, _, _, _⟩) rfl (.tmp 11) (.tmp 15) 40 rfl (w.heap.size + 1) 5 Try.underlying40 Try.infoU8 _ _ rfl (hrow1) _ _ rfl (hq1.isB) (by simp only [List.length_append, List.length_cons, List.length_nil]; omega) ((by have := lt_of_heap hx1; omega)) ?_
  intro a1 w1 ho1 hc1
  have hC1 : Below w.heap.size w w1 := hB1.trans (hc1.below hB1.size (fun k hk => by have := hk.1; omega))
  have hy1 := hc1.keeps hx1 (by rintro ⟨h, -⟩; omega)
  obtain ⟨p10, p11, p12, p13, p14, p15, p16, p17, p18⟩ := cells9 hy1
  clear hc1 hbq1 hq1
  go_wp2_with (first | (go_at_call 94; refine (rnumber n2 _ l2).mono ?_; rintro e u2 ⟨⟨r2, rfl, hq2⟩, hbq2⟩) | (at_builtin; refine stop_in ?_))
  have hx2 := below_keeps hbq2 hy1
  have hB2 : Below w.heap.size w u2 := hC1.trans (hbq2.mono hC1.size)
  refine stop_out ?_; refine wpList_append_bytes (o := ⟨some 22, _, _, _, _, _⟩) rfl (.tmp 17) (.tmp 21) 40 rfl (w.heap.size + 1) 5 Try.underlying40 Try.infoU8 _ _ rfl ((ho1.below hbq2)) _ _ rfl (hq2.isB) (by simp only [List.length_append, List.length_cons, List.length_nil]; omega) ((by have := lt_of_heap hx2; omega)) ?_
  intro a2 w2 ho2 hc2
  have hC2 : Below w.heap.size w w2 := hB2.trans (hc2.below hB2.size (fun k hk => by have := hk.1; omega))
  have hy2 := hc2.keeps hx2 (by rintro ⟨h, -⟩; omega)
  obtain ⟨p20, p21, p22, p23, p24, p25, p26, p27, p28⟩ := cells9 hy2
  clear hc2 hbq2 hq2
  rw [← HRB.out] at ho2
  have Hom := Lib.hid ho2
  clear ho2
  go_wp2_with (first | (go_at_call 96; refine (rseal_spec _ _ (rbody x) Hom.out.isB (by omega)).mono ?_; rintro e z1 ⟨⟨q1, rfl, hz1⟩, hbz1⟩) | (go_at_call 95; refine (rtext_spec _ _ (sealed (rbody x)) hz1.isB (by omega)).mono ?_; rintro e z2 ⟨⟨q2, rfl, hz2⟩, hbz2⟩))
  go_ret
  have hZ1 : Below w.heap.size w z1 := hC2.trans (hbz1.mono hC2.size)
  exact ⟨⟨_, rfl, (hz2.of_eq (by simp [rbytesP, vtexts])).mono hZ1.size⟩, hZ1.trans (hbz2.mono hZ1.size)⟩
set_option maxHeartbeats 4000000 in
set_option maxRecDepth 100000 in
theorem qbytes_2 (w : World) (x : Rec) (hx : RecIn x) (hk : x.kind = 2) (hbl : x.blocks.length ≤ 200) :
    Calls Try.prog 52 #[.agg (refC x)] w (BodyPost w (rbytesP x)) := by
  have hlb := rbody_len x
  have hsl := length_sealed (rbody x)
  obtain ⟨n1, hn1⟩ : ∃ n, n = u64n x.from_ := ⟨_, rfl⟩
  have hu1 := u64n_eq x.from_
  have l1 := u64n_lt x.from_
  rw [← hn1] at hu1 l1
  have v1 : (vnum n1).length ≤ 10 := vnumF_len 10 n1
  have hrb : rbody x = [2] ++ vnum n1 ++ x.blocks := by
    rw [rbody, if_neg (by rw [hk]; decide), if_pos hk, hk]
    simp [vnums, ← hn1]
  have HRB := Lib.hid hrb
  clear hrb hx
  dsimp only [refC]
  rw [hk]
  clear hk hn1
  go_enter Try.func52, Try.ntmps52
  go_wp2_with (first | (go_at_call 94; refine (rnumber n1 _ l1).mono ?_; rintro e u1 ⟨⟨r1, rfl, hq1⟩, hbq1⟩) | (at_builtin; refine stop_in ?_))
  have hin1 : isB u1 (.slice (some ⟨w.heap.size + 1, 0, none⟩) 1 1) [2] := ((isB.one (c := 2) (heap_new _ _ (by simp)) rfl).below hbq1)
  have hx1 := below_keeps hbq1 ((Below.heap_alloc _ (.cells #[.int .u8 2] 5) w.heap.size (by simp)).trans (heap_alloc_new w (.cells #[.int .u8 2, .int .i64 x.id, .int .i64 x.base, .int .i64 x.from_, .int .i64 x.to, .string (str x.blocks), .int .i64 x.count, .int .u64 x.len, .int .u64 x.sum] 104)))
  have hrow1 : ownB u1 5 (w.heap.size + 1) (.slice (some ⟨w.heap.size + 1, 0, none⟩) 1 1) [2] := ownB.lit (cs := [.int .u8 2]) (below_keeps hbq1 (heap_new _ _ (by simp))) rfl (by simp [maxLen]) (Nat.le_refl _) rfl rfl
  have hB1 : Below w.heap.size w u1 := ((below_alloc w _).alloc (by simp) _).trans (hbq1.mono (by simp; omega))
  refine stop_out ?_; refine wpList_append_bytes (o := ⟨some 30, _, _, _, _, _⟩) rfl (.tmp 25) (.tmp 29) 40 rfl (w.heap.size + 1) 5 Try.underlying40 Try.infoU8 _ _ rfl (hrow1) _ _ rfl (hq1.isB) (by simp only [List.length_append, List.length_cons, List.length_nil]; omega) ((by have := lt_of_heap hx1; omega)) ?_
  intro a1 w1 ho1 hc1
  have hC1 : Below w.heap.size w w1 := hB1.trans (hc1.below hB1.size (fun k hk => by have := hk.1; omega))
  have hy1 := hc1.keeps hx1 (by rintro ⟨h, -⟩; omega)
  obtain ⟨p10, p11, p12, p13, p14, p15, p16, p17, p18⟩ := cells9 hy1
  clear hc1 hbq1 hq1
  go_wp2_with (at_builtin; refine stop_in ?_)
  refine stop_out ?_; refine wpList_append_str (o := ⟨some 34, _, _, _, _, _⟩) rfl (.tmp 31) (.tmp 33) 40 9 rfl (w.heap.size + 1) 5 Try.underlying40 Try.underlying9 Try.infoU8 _ _ rfl ho1 x.blocks rfl (by simp only [List.length_append, List.length_cons, List.length_nil]; omega) (by have := lt_of_heap hy1; omega) ?_
  intro a2 w2 ho2 hc2
  have hC2 : Below w.heap.size w w2 := hC1.trans (hc2.below hC1.size (fun k hk => by have := hk.1; omega))
  rw [← HRB.out] at ho2
  have Hom := Lib.hid ho2
  clear ho2
  go_wp2_with (first | (go_at_call 96; refine (rseal_spec _ _ (rbody x) Hom.out.isB (by omega)).mono ?_; rintro e z1 ⟨⟨q1, rfl, hz1⟩, hbz1⟩) | (go_at_call 95; refine (rtext_spec _ _ (sealed (rbody x)) hz1.isB (by omega)).mono ?_; rintro e z2 ⟨⟨q2, rfl, hz2⟩, hbz2⟩))
  go_ret
  have hZ1 : Below w.heap.size w z1 := hC2.trans (hbz1.mono hC2.size)
  exact ⟨⟨_, rfl, (hz2.of_eq (by simp [rbytesP, vtexts])).mono hZ1.size⟩, hZ1.trans (hbz2.mono hZ1.size)⟩
set_option maxHeartbeats 4000000 in
set_option maxRecDepth 100000 in
theorem qbytes_3 (w : World) (x : Rec) (hx : RecIn x) (hk : x.kind = 3) (hbl : x.blocks.length ≤ 200) :
    Calls Try.prog 52 #[.agg (refC x)] w (BodyPost w (rbytesP x)) := by
  have hlb := rbody_len x
  have hsl := length_sealed (rbody x)
  obtain ⟨n1, hn1⟩ : ∃ n, n = u64n x.from_ := ⟨_, rfl⟩
  have hu1 := u64n_eq x.from_
  have l1 := u64n_lt x.from_
  rw [← hn1] at hu1 l1
  have v1 : (vnum n1).length ≤ 10 := vnumF_len 10 n1
  obtain ⟨n2, hn2⟩ : ∃ n, n = u64n x.to := ⟨_, rfl⟩
  have hu2 := u64n_eq x.to
  have l2 := u64n_lt x.to
  rw [← hn2] at hu2 l2
  have v2 : (vnum n2).length ≤ 10 := vnumF_len 10 n2
  have hrb : rbody x = [3] ++ vnum n1 ++ vnum n2 := by
    rw [rbody, if_neg (by rw [hk]; decide), if_neg (by rw [hk]; decide), if_pos hk, hk]
    simp [vnums, ← hn1, ← hn2]
  have HRB := Lib.hid hrb
  clear hrb hx
  dsimp only [refC]
  rw [hk]
  clear hk hn1 hn2
  go_enter Try.func52, Try.ntmps52
  go_wp2_with (first | (go_at_call 94; refine (rnumber n1 _ l1).mono ?_; rintro e u1 ⟨⟨r1, rfl, hq1⟩, hbq1⟩) | (at_builtin; refine stop_in ?_))
  have hin1 : isB u1 (.slice (some ⟨w.heap.size + 1, 0, none⟩) 1 1) [3] := ((isB.one (c := 3) (heap_new _ _ (by simp)) rfl).below hbq1)
  have hx1 := below_keeps hbq1 ((Below.heap_alloc _ (.cells #[.int .u8 3] 5) w.heap.size (by simp)).trans (heap_alloc_new w (.cells #[.int .u8 3, .int .i64 x.id, .int .i64 x.base, .int .i64 x.from_, .int .i64 x.to, .string (str x.blocks), .int .i64 x.count, .int .u64 x.len, .int .u64 x.sum] 104)))
  have hrow1 : ownB u1 5 (w.heap.size + 1) (.slice (some ⟨w.heap.size + 1, 0, none⟩) 1 1) [3] := ownB.lit (cs := [.int .u8 3]) (below_keeps hbq1 (heap_new _ _ (by simp))) rfl (by simp [maxLen]) (Nat.le_refl _) rfl rfl
  have hB1 : Below w.heap.size w u1 := ((below_alloc w _).alloc (by simp) _).trans (hbq1.mono (by simp; omega))
  refine stop_out ?_; refine wpList_append_bytes (o := ⟨some 42, _, _, _, _, _⟩) rfl (.tmp 37) (.tmp 41) 40 rfl (w.heap.size + 1) 5 Try.underlying40 Try.infoU8 _ _ rfl (hrow1) _ _ rfl (hq1.isB) (by simp only [List.length_append, List.length_cons, List.length_nil]; omega) ((by have := lt_of_heap hx1; omega)) ?_
  intro a1 w1 ho1 hc1
  have hC1 : Below w.heap.size w w1 := hB1.trans (hc1.below hB1.size (fun k hk => by have := hk.1; omega))
  have hy1 := hc1.keeps hx1 (by rintro ⟨h, -⟩; omega)
  obtain ⟨p10, p11, p12, p13, p14, p15, p16, p17, p18⟩ := cells9 hy1
  clear hc1 hbq1 hq1
  go_wp2_with (first | (go_at_call 94; refine (rnumber n2 _ l2).mono ?_; rintro e u2 ⟨⟨r2, rfl, hq2⟩, hbq2⟩) | (at_builtin; refine stop_in ?_))
  have hx2 := below_keeps hbq2 hy1
  have hB2 : Below w.heap.size w u2 := hC1.trans (hbq2.mono hC1.size)
  refine stop_out ?_; refine wpList_append_bytes (o := ⟨some 48, _, _, _, _, _⟩) rfl (.tmp 43) (.tmp 47) 40 rfl (w.heap.size + 1) 5 Try.underlying40 Try.infoU8 _ _ rfl ((ho1.below hbq2)) _ _ rfl (hq2.isB) (by simp only [List.length_append, List.length_cons, List.length_nil]; omega) ((by have := lt_of_heap hx2; omega)) ?_
  intro a2 w2 ho2 hc2
  have hC2 : Below w.heap.size w w2 := hB2.trans (hc2.below hB2.size (fun k hk => by have := hk.1; omega))
  have hy2 := hc2.keeps hx2 (by rintro ⟨h, -⟩; omega)
  obtain ⟨p20, p21, p22, p23, p24, p25, p26, p27, p28⟩ := cells9 hy2
  clear hc2 hbq2 hq2
  rw [← HRB.out] at ho2
  have Hom := Lib.hid ho2
  clear ho2
  go_wp2_with (first | (go_at_call 96; refine (rseal_spec _ _ (rbody x) Hom.out.isB (by omega)).mono ?_; rintro e z1 ⟨⟨q1, rfl, hz1⟩, hbz1⟩) | (go_at_call 95; refine (rtext_spec _ _ (sealed (rbody x)) hz1.isB (by omega)).mono ?_; rintro e z2 ⟨⟨q2, rfl, hz2⟩, hbz2⟩))
  go_ret
  have hZ1 : Below w.heap.size w z1 := hC2.trans (hbz1.mono hC2.size)
  exact ⟨⟨_, rfl, (hz2.of_eq (by simp [rbytesP, vtexts])).mono hZ1.size⟩, hZ1.trans (hbz2.mono hZ1.size)⟩
set_option maxHeartbeats 4000000 in
set_option maxRecDepth 100000 in
theorem qbytes_4 (w : World) (x : Rec) (hx : RecIn x) (hk : x.kind = 4) (hbl : x.blocks.length ≤ 200) :
    Calls Try.prog 52 #[.agg (refC x)] w (BodyPost w (rbytesP x)) := by
  have hlb := rbody_len x
  have hsl := length_sealed (rbody x)
  obtain ⟨n1, hn1⟩ : ∃ n, n = u64n x.count := ⟨_, rfl⟩
  have hu1 := u64n_eq x.count
  have l1 := u64n_lt x.count
  rw [← hn1] at hu1 l1
  have v1 : (vnum n1).length ≤ 10 := vnumF_len 10 n1
  obtain ⟨n2, hn2⟩ : ∃ n, n = x.len := ⟨_, rfl⟩
  have l2 := hx.ok.len
  rw [← hn2] at l2
  have v2 : (vnum n2).length ≤ 10 := vnumF_len 10 n2
  obtain ⟨n3, hn3⟩ : ∃ n, n = x.sum := ⟨_, rfl⟩
  have l3 := hx.ok.sum
  rw [← hn3] at l3
  have v3 : (vnum n3).length ≤ 10 := vnumF_len 10 n3
  have hrb : rbody x = [4] ++ vnum n1 ++ vnum n2 ++ vnum n3 := by
    rw [rbody, if_neg (by rw [hk]; decide), if_neg (by rw [hk]; decide), if_neg (by rw [hk]; decide), hk]
    simp [vnums, ← hn1, ← hn2, ← hn3]
  have HRB := Lib.hid hrb
  clear hrb hx


  dsimp only [refC]
  rw [hk, ← hn2, ← hn3]
  clear hk hn1 hn2 hn3
  go_enter Try.func52, Try.ntmps52
  go_wp2_with (first | (go_at_call 94; refine (rnumber n1 _ l1).mono ?_; rintro e u1 ⟨⟨r1, rfl, hq1⟩, hbq1⟩) | (at_builtin; refine stop_in ?_))
  have hin1 : isB u1 (.slice (some ⟨w.heap.size + 1, 0, none⟩) 1 1) [4] := ((isB.one (c := 4) (heap_new _ _ (by simp)) rfl).below hbq1)
  have hx1 := below_keeps hbq1 ((Below.heap_alloc _ (.cells #[.int .u8 4] 5) w.heap.size (by simp)).trans (heap_alloc_new w (.cells #[.int .u8 4, .int .i64 x.id, .int .i64 x.base, .int .i64 x.from_, .int .i64 x.to, .string (str x.blocks), .int .i64 x.count, .int .u64 n2, .int .u64 n3] 104)))
  have hrow1 : ownB u1 5 (w.heap.size + 1) (.slice (some ⟨w.heap.size + 1, 0, none⟩) 1 1) [4] := ownB.lit (cs := [.int .u8 4]) (below_keeps hbq1 (heap_new _ _ (by simp))) rfl (by simp [maxLen]) (Nat.le_refl _) rfl rfl
  have hB1 : Below w.heap.size w u1 := ((below_alloc w _).alloc (by simp) _).trans (hbq1.mono (by simp; omega))
  refine stop_out ?_; refine wpList_append_bytes (o := ⟨some 56, _, _, _, _, _⟩) rfl (.tmp 51) (.tmp 55) 40 rfl (w.heap.size + 1) 5 Try.underlying40 Try.infoU8 _ _ rfl (hrow1) _ _ rfl (hq1.isB) (by simp only [List.length_append, List.length_cons, List.length_nil]; omega) ((by have := lt_of_heap hx1; omega)) ?_
  intro a1 w1 ho1 hc1
  have hC1 : Below w.heap.size w w1 := hB1.trans (hc1.below hB1.size (fun k hk => by have := hk.1; omega))
  have hy1 := hc1.keeps hx1 (by rintro ⟨h, -⟩; omega)
  obtain ⟨p10, p11, p12, p13, p14, p15, p16, p17, p18⟩ := cells9 hy1
  clear hc1 hbq1 hq1
  go_wp2_with (first | (go_at_call 94; refine (rnumber n2 _ l2).mono ?_; rintro e u2 ⟨⟨r2, rfl, hq2⟩, hbq2⟩) | (at_builtin; refine stop_in ?_))
  have hx2 := below_keeps hbq2 hy1
  have hB2 : Below w.heap.size w u2 := hC1.trans (hbq2.mono hC1.size)
  refine stop_out ?_; refine wpList_append_bytes (o := ⟨some 61, _, _, _, _, _⟩) rfl (.tmp 57) (.tmp 60) 40 rfl (w.heap.size + 1) 5 Try.underlying40 Try.infoU8 _ _ rfl ((ho1.below hbq2)) _ _ rfl (hq2.isB) (by simp only [List.length_append, List.length_cons, List.length_nil]; omega) ((by have := lt_of_heap hx2; omega)) ?_
  intro a2 w2 ho2 hc2
  have hC2 : Below w.heap.size w w2 := hB2.trans (hc2.below hB2.size (fun k hk => by have := hk.1; omega))
  have hy2 := hc2.keeps hx2 (by rintro ⟨h, -⟩; omega)
  obtain ⟨p20, p21, p22, p23, p24, p25, p26, p27, p28⟩ := cells9 hy2
  clear hc2 hbq2 hq2
  go_wp2_with (first | (go_at_call 94; refine (rnumber n3 _ l3).mono ?_; rintro e u3 ⟨⟨r3, rfl, hq3⟩, hbq3⟩) | (at_builtin; refine stop_in ?_))
  have hx3 := below_keeps hbq3 hy2
  have hB3 : Below w.heap.size w u3 := hC2.trans (hbq3.mono hC2.size)
  refine stop_out ?_; refine wpList_append_bytes (o := ⟨some 66, _, _, _, _, _⟩) rfl (.tmp 62) (.tmp 65) 40 rfl (w.heap.size + 1) 5 Try.underlying40 Try.infoU8 _ _ rfl ((ho2.below hbq3)) _ _ rfl (hq3.isB) (by simp only [List.length_append, List.length_cons, List.length_nil]; omega) ((by have := lt_of_heap hx3; omega)) ?_
  intro a3 w3 ho3 hc3
  have hC3 : Below w.heap.size w w3 := hB3.trans (hc3.below hB3.size (fun k hk => by have := hk.1; omega))
  have hy3 := hc3.keeps hx3 (by rintro ⟨h, -⟩; omega)
  obtain ⟨p30, p31, p32, p33, p34, p35, p36, p37, p38⟩ := cells9 hy3
  clear hc3 hbq3 hq3
  rw [← HRB.out] at ho3
  have Hom := Lib.hid ho3
  clear ho3
  go_wp2_with (first | (go_at_call 96; refine (rseal_spec _ _ (rbody x) Hom.out.isB (by omega)).mono ?_; rintro e z1 ⟨⟨q1, rfl, hz1⟩, hbz1⟩) | (go_at_call 95; refine (rtext_spec _ _ (sealed (rbody x)) hz1.isB (by omega)).mono ?_; rintro e z2 ⟨⟨q2, rfl, hz2⟩, hbz2⟩))
  go_ret
  have hZ1 : Below w.heap.size w z1 := hC3.trans (hbz1.mono hC3.size)
  exact ⟨⟨_, rfl, (hz2.of_eq (by simp [rbytesP, vtexts])).mono hZ1.size⟩, hZ1.trans (hbz2.mono hZ1.size)⟩

theorem qbytes_right (w : World) (x : Rec) (hx : RecIn x) (hr : right x) : Calls Try.prog 52 #[.agg (refC x)] w (BodyPost w (rbytesP x)) := by
  have hbl := right_len hr
  by_cases h1 : x.kind = 1
  · exact qbytes_1 w x hx h1 (by omega)
  · by_cases h2 : x.kind = 2
    · exact qbytes_2 w x hx h2 (by omega)
    · by_cases h3 : x.kind = 3
      · exact qbytes_3 w x hx h3 (by omega)
      · by_cases h4 : x.kind = 4
        · exact qbytes_4 w x hx h4 (by omega)
        · unfold right at hr; rw [if_neg h1, if_neg h2, if_neg h3, if_neg h4] at hr; exact hr.elim
end Go.Proofs.Ytobpjldpkgioaaa
