/- append(b, make([]byte, m)...) onto a row of bytes that the call made -/
import Derived.Test.YtobpjldpkgioaaaBase
import Derived.Deep.MidRow
namespace Go.Proofs.Ytobpjldpkgioaaa
open Go.RowKit

def zeros (n : Nat) : List UInt8 := List.replicate n 0

theorem zeroCells_bytes (m : Nat) : Builtin.zeroCells (Value.int .u8 0).cells m = (bvals (zeros m)).toArray := by
  apply Array.ext'
  simp only [Builtin.zeroCells, bvals, zeros, List.map_replicate]
  apply List.ext_getElem
  · simp [Value.cells]
  · intro i h1 h2
    simp [Value.cells, Nat.mod_one, bval]

theorem run_append_zeros_bytes {P : Program} (w : World) (B : Nat) (t ti ty e : TypeId) (ht : P.underlying t = some (.slice e)) {k : IntKind} (hti : P.underlying ti = some (.int k))
    (hi : (P.info? e).map (fun i => (i.zero, i.size, i.bytes)) = some (some (.int .u8 0), 1, 1))
    (v : Value) (bs : List UInt8) (hown : ownB w e B v bs) (kx : IntKind) (m : Nat) (hlen : bs.length + m ≤ 140737488355328) (hbase : B ≤ w.heap.size) :
    ∃ v' w', (Builtin.append_ #[t, ti] ty #[v, .int kx m]).run P w = .ok v' w' ∧ ownB w' e B v' (bs ++ zeros m) ∧ Chg (fun k => B ≤ k ∧ v.ownBlock = some k) w w' := by
  obtain ⟨i, hi1, hi2, hi3, hi4⟩ := info_parts hi
  have hw : IntKind.i64.wrap (m : Int) = m := by rw [IntKind.wrap_i64]; omega
  have hw0 : IntKind.i64.wrap 0 = 0 := by rw [IntKind.wrap_i64]; rfl
  have hneg : ¬ ((m : Int) < 0) := by omega
  have hbig : ¬ (281474976710656 < (m : Int)) := by omega
  have h1 := bvals_oneCell (zeros m)
  have hlz : (bvals (zeros m)).length = m := by simp [bvals, zeros]
  have htot : (bvals (bs ++ zeros m)).length = (bs ++ zeros m).length * 1 := by simp [bvals]
  have hbm : (bs ++ zeros m).length = bs.length + m := by simp [zeros]
  have grown : ∀ (old : Nat),
      ownB (w.drew.alloc (.cells ((bvals bs).toArray ++ (bvals (zeros m)).toArray ++ Builtin.zeroCells (Value.int .u8 0).cells (grownCap w (bs.length + m) old e - (bs.length + m))) e)) e B
        (.slice (some ⟨w.heap.size, 0, none⟩) (bs.length + m) (grownCap w (bs.length + m) old e)) (bs ++ zeros m) ∧
      Chg (fun k => B ≤ k ∧ v.ownBlock = some k) w (w.drew.alloc (.cells ((bvals bs).toArray ++ (bvals (zeros m)).toArray ++ Builtin.zeroCells (Value.int .u8 0).cells (grownCap w (bs.length + m) old e - (bs.length + m))) e)) := by
    intro old
    have hge := grownCap_ge w (bs.length + m) old e
    have hcm : grownCap w (bs.length + m) old e ≤ maxLen := grownCap_le_maxLen w (bs.length + m) old e (by simp [maxLen]; omega)
    refine ⟨⟨htot, .inr ⟨w.heap.size, _, _, by rw [hbm], hbase, heap_alloc_new w.drew _, by rw [hbm]; exact hge, hcm, ?_, ?_⟩⟩, (Chg.refl _ w).drew.alloc _⟩
    · rw [zeroCells_bytes]; simp [length_bvals, zeros]; omega
    · rw [hbm, zeroCells_bytes, bvals_append]
      simp only [Array.toList_append, Nat.mul_one]
      rw [List.take_left' (by simp [length_bvals, zeros])]
  have runs : ∀ (A : Option Addr) (cap : Nat), cap < bs.length + m → (Builtin.firstCells 1 bs.length (.slice A bs.length cap)).run P w.drew = .ok (bvals bs).toArray w.drew → (Builtin.append_ #[t, ti] ty #[.slice A bs.length cap, .int kx m]).run P w =
      .ok (.slice (some ⟨w.heap.size, 0, none⟩) (bs.length + m) (grownCap w (bs.length + m) cap e)) (w.drew.alloc (.cells ((bvals bs).toArray ++ (bvals (zeros m)).toArray ++ Builtin.zeroCells (Value.int .u8 0).cells (grownCap w (bs.length + m) cap e - (bs.length + m))) e)) := by
    intro A cap hcap hfo
    have hn : ¬ (bs.length + m ≤ cap) := by omega
    have h63' : ¬ (9223372036854775807 < ((bs.length : Int) + (m : Int))) := by omega
    have hfit := growslice_fits (bytes := 1) hcap (by omega)
    have h48' : ¬ (281474976710656 < Builtin.nextslicecap (bs.length + m) cap) := by omega
    by_cases hm : m = 0
    · subst hm
      simp only [Nat.add_zero] at hn h63' h48' ⊢
      have h63'' : ¬ (9223372036854775807 < (bs.length : Int)) := by omega
      simp [Builtin.append_, run_underlying ht, run_underlying hti, sizeOf, typeInfo, zeroValue, hi1, hi2, hi3, hi4, asInt, asIntOf, hw0, hn, h63'', h48', Question.forced, hfo, newRow, grownCap, zeros, bvals]
    · have hzc := zeroCells_bytes m
      simp [Builtin.append_, run_underlying ht, run_underlying hti, sizeOf, typeInfo, zeroValue, hi1, hi2, hi3, hi4, asInt, asIntOf, hw, hneg, hbig, hn, h63', h48', Question.forced, hfo, newRow, grownCap, hm, hzc]
      congr 2
      apply Array.ext'
      simp [List.append_assoc]
  rcases hown.2 with ⟨rfl, h0⟩ | ⟨g, cap, cur, rfl, hbg, hg, hnc, hcm, hcs, htake⟩
  · have hx : bs = [] := List.eq_nil_of_length_eq_zero h0
    subst hx
    by_cases hm : m = 0
    · subst hm
      refine ⟨.slice none 0 0, w, ?_, World.ownsRow_nil w B e 1, Chg.refl _ _⟩
      simp [Builtin.append_, run_underlying ht, run_underlying hti, sizeOf, typeInfo, hi1, hi4, asInt, asIntOf, hw0]
    · have hgr := grown 0
      exact ⟨_, _, runs none 0 (by simp; omega) (by simp [Builtin.firstCells, bvals]), hgr.1, hgr.2⟩
  · by_cases hroom : bs.length + m ≤ cap
    · have hst := run_storeCells_at (P := P) g bs.length e (bvals (zeros m)) 0 cur w hg (by rw [hlz, hcs]; omega) h1
      simp only [Nat.add_zero, hlz] at hst
      refine ⟨.slice (some ⟨g, 0, none⟩) (bs.length + m) cap, w.setRow g (cur.toList.take bs.length ++ bvals (zeros m) ++ cur.toList.drop (bs.length + m)).toArray, ?_,
        ⟨htot, .inr ⟨g, cap, _, by rw [hbm], hbg, setRow_heap _ _ _ _ _ _ hg, by rw [hbm]; exact hroom, hcm, ?_, ?_⟩⟩, ⟨rfl, rfl, rfl, by simp [World.setRow], fun k _ hs => setRow_other _ _ _ _ (fun e => hs ⟨by omega, by rw [e]; rfl⟩)⟩⟩
      · by_cases hm : m = 0
        · subst hm
          simp only [Nat.add_zero] at hst hroom ⊢
          have hz : bvals (zeros 0) = [] := rfl
          rw [hz] at hst ⊢
          simp [Builtin.append_, run_underlying ht, run_underlying hti, sizeOf, typeInfo, hi1, hi3, hi4, asInt, asIntOf, hw0, hroom, Addr.add_mid, hst] at hst ⊢
        · have hzc := zeroCells_bytes m
          simp [Builtin.append_, run_underlying ht, run_underlying hti, sizeOf, typeInfo, zeroValue, hi1, hi2, hi3, hi4, asInt, asIntOf, hw, hneg, hbig, hroom, hm, hzc, Addr.add_mid] at hst ⊢
          simp [hst]
      · simp [hlz]; omega
      · rw [hbm, bvals_append]
        have h6 : cur.toList.take (bs.length * 1) = bvals bs := htake
        simp only [Nat.mul_one] at h6 ⊢
        rw [h6]
        simp only [List.append_assoc]
        rw [← List.append_assoc, List.take_left' (by simp [length_bvals, zeros])]
    · have holds : ∀ j u, (bvals bs)[j]? = some u → w.cell? ((⟨g, 0, none⟩ : Addr).add j) = some u := World.ownsRow.cells hown (g := g) rfl
      have hgr := grown cap
      exact ⟨_, _, runs (some ⟨g, 0, none⟩) cap (by omega) (run_firstCells_some (P := P) w.drew 1 bs.length _ bs.length cap (bvals bs) (by simp [bvals]) (by simpa using holds)), hgr.1, hgr.2⟩

theorem wpList_append_zeros {P : Program} {ops : Array Oper} {rest : List Oper} {o : Oper} {a : Act} {w : World} {Q : Exit → Act → World → Prop} (hgd : o.guard = none) (s x : Operand) (t ti : TypeId)
    (ho : o.op = .call { callee := .builtin .append, args := #[s, x], argTypes := #[t, ti] })
    (B : Nat) (e : TypeId) (ht : P.underlying t = some (.slice e)) {k : IntKind} (hti : P.underlying ti = some (.int k)) (hi : (P.info? e).map (fun i => (i.zero, i.size, i.bytes)) = some (some (.int .u8 0), 1, 1))
    (v : Value) (bs : List UInt8) (hs : a.eval s = v) (hown : ownB w e B v bs)
    (kx : IntKind) (m : Nat) (X : Int) (hx : a.eval x = .int kx X) (hX : X = (m : Int)) (hlen : bs.length + m ≤ 140737488355328) (hbase : B ≤ w.heap.size)
    (h : ∀ v' w', ownB w' e B v' (bs ++ zeros m) → Chg (fun k => B ≤ k ∧ v.ownBlock = some k) w w' → wpList P ops Q rest (a.put o.dst v') w') : wpList P ops Q (o :: rest) a w := by
  refine wpList_plain hgd fun K hK' => ?_
  obtain ⟨v', w', hrun, r1, r2⟩ := run_append_zeros_bytes (P := P) w B t ti o.type e ht hti hi v bs hown kx m hlen hbase
  subst hX
  unfold Oper.wp
  simp [execOp, ho, resolve, invoke, builtin, hs, hx, hrun, Result.andThen]
  exact hK' _ _ (h v' w' r1 r2)

end Go.Proofs.Ytobpjldpkgioaaa
