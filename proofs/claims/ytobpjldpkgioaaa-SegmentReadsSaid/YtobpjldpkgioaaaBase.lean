/- Words that the walks of this seat share: a change of the world outside some blocks, rows of bytes that can be read, rows of bytes that a call made. No program in sight. -/
import Derived.WalkKit
import Derived.WalkSpells
import Derived.WalkLawsBesides
import Derived.Lib.Hide
import Derived.Laws.CopyOwn
namespace Go.Proofs.Ytobpjldpkgioaaa
open Go.RowKit

/-- Outside the blocks of S the world is as it was. -/
structure Chg (S : Nat → Prop) (w w' : World) : Prop where
  os : w'.os = w.os
  tape : w'.tape = w.tape
  output : w'.output = w.output
  size : w.heap.size ≤ w'.heap.size
  block : ∀ k, k < w.heap.size → ¬ S k → w'.heap[k]? = w.heap[k]?

theorem Chg.refl (S : Nat → Prop) (w : World) : Chg S w w := ⟨rfl, rfl, rfl, Nat.le_refl _, fun _ _ _ => rfl⟩

theorem Chg.trans {S T : Nat → Prop} {a b c : World} (h : Chg S a b) (k : Chg T b c) (hT : ∀ i, i < a.heap.size → T i → S i) : Chg S a c :=
  ⟨k.os.trans h.os, k.tape.trans h.tape, k.output.trans h.output, Nat.le_trans h.size k.size,
   fun i hi hs => (k.block i (Nat.lt_of_lt_of_le hi h.size) (fun t => hs (hT i hi t))).trans (h.block i hi hs)⟩

theorem Chg.mono {S T : Nat → Prop} {a b : World} (h : Chg S a b) (hT : ∀ i, i < a.heap.size → S i → T i) : Chg T a b :=
  ⟨h.os, h.tape, h.output, h.size, fun i hi hs => h.block i hi (fun t => hs (hT i hi t))⟩

theorem Chg.setCell {S : Nat → Prop} {a w : World} (h : Chg S a w) {p : Addr} (hp : a.heap.size ≤ p.block ∨ S p.block) (u : Value) : Chg S a (w.setCell p u) :=
  ⟨h.os, h.tape, h.output, by simp [World.setCell]; exact h.size, fun k hk hs => by
    rw [Below.heap_setCell _ _ _ _ (by rcases hp with hp | hp; omega; intro e; exact hs (e ▸ hp))]; exact h.block k hk hs⟩

theorem Chg.alloc {S : Nat → Prop} {a w : World} (h : Chg S a w) (o : Obj) : Chg S a (w.alloc o) :=
  ⟨h.os, h.tape, h.output, by have := h.size; simp; omega, fun k hk hs => by
    rw [Below.heap_alloc _ _ _ (by have := h.size; omega)]; exact h.block k hk hs⟩

theorem Chg.drew {S : Nat → Prop} {a w : World} (h : Chg S a w) : Chg S a w.drew := ⟨h.os, h.tape, h.output, h.size, h.block⟩

theorem Chg.ofBelow {S : Nat → Prop} {w w' : World} (h : Below w.heap.size w w') : Chg S w w' := ⟨h.os, h.tape, h.output, h.size, fun k hk _ => h.block k hk⟩

theorem Chg.below {S : Nat → Prop} {w w' : World} (h : Chg S w w') {B : Nat} (hB : B ≤ w.heap.size) (hS : ∀ k, S k → B ≤ k) : Below B w w' :=
  ⟨h.os, h.tape, h.output, h.size, fun k hk => h.block k (by omega) (fun s => by have := hS k s; omega)⟩

theorem Chg.keeps {S : Nat → Prop} {w w' : World} (h : Chg S w w') {b : Nat} {o : Obj} (hb : w.heap[b]? = some o) (hS : ¬ S b) : w'.heap[b]? = some o :=
  (h.block b (Array.getElem?_eq_some_iff.1 hb).1 hS).trans hb

theorem Chg.grown {S : Nat → Prop} {a w w' : World} {row : Option Nat} (h : Chg S a w) (hg : w.grownBy w' row) (hr : ∀ k, row = some k → a.heap.size ≤ k ∨ S k) : Chg S a w' :=
  ⟨hg.os.trans h.os, hg.tape.trans h.tape, hg.output.trans h.output, Nat.le_trans h.size hg.size, fun k hk hs =>
    (hg.block k (Nat.lt_of_lt_of_le hk h.size) (fun e => by rcases hr k e.symm with r | r; omega; exact hs r)).trans (h.block k hk hs)⟩

theorem below_keeps {w w' : World} (h : Below w.heap.size w w') {b : Nat} {o : Obj} (hb : w.heap[b]? = some o) : w'.heap[b]? = some o :=
  (h.block b (Array.getElem?_eq_some_iff.1 hb).1).trans hb

/-- the walk stands still here -/
def Stop (p : Prop) : Prop := p
theorem stop_in {p : Prop} (h : Stop p) : p := h
theorem stop_out {p : Prop} (h : p) : Stop p := h

theorem lt_of_heap {w : World} {b : Nat} {o : Obj} (hb : w.heap[b]? = some o) : b < w.heap.size := (Array.getElem?_eq_some_iff.1 hb).1

theorem unfrozen {w : World} {b : Nat} {cs : Array Value} {T : TypeId} (h : w.heap[b]? = some (.cells cs T (0, 0))) (i : Nat) : w.frozen? ⟨b, i, none⟩ = false :=
  frozen_of_row w b i cs T h

theorem size_alloc (w : World) (o : Obj) : (w.alloc o).heap.size = w.heap.size + 1 := by simp
theorem size_setCell (w : World) (a : Addr) (v : Value) : (w.setCell a v).heap.size = w.heap.size := by simp [World.setCell]

/-! ### bytes -/

def bval (c : UInt8) : Value := .int .u8 (c.toNat : Int)
def bvals (l : List UInt8) : List Value := l.map bval
theorem u8n (n : Nat) : (n : Int) % 256 = ((UInt8.ofNat n).toNat : Int) := by simp
def str (l : List UInt8) : ByteArray := ⟨l.toArray⟩
/-- the greatest size of a row that the walks bear -/
abbrev big : Nat := 70368744177664

theorem length_bvals (l : List UInt8) : (bvals l).length = l.length := by simp [bvals]
theorem bvals_append (a b : List UInt8) : bvals (a ++ b) = bvals a ++ bvals b := by simp [bvals]
theorem bvals_oneCell (l : List UInt8) : ∀ u ∈ bvals l, u.oneCell' = true := by
  intro u hu; obtain ⟨c, _, rfl⟩ := List.mem_map.1 hu; rfl

/-- v reads in w as the bytes bs. -/
def isB (w : World) (v : Value) (bs : List UInt8) : Prop :=
  ∃ ao cap, v = .slice ao bs.length cap ∧ bs.length ≤ cap ∧ cap ≤ maxLen ∧ (ao = none → cap = 0) ∧
    ∀ a, ao = some a → (0 < cap → a.spot = none) ∧ ∀ i (h : i < bs.length), w.cell? ⟨a.block, a.off + i, none⟩ = some (bval bs[i])

theorem isB.nil (w : World) : isB w (.slice none 0 0) [] := ⟨none, 0, rfl, Nat.le_refl _, by simp [maxLen], fun _ => rfl, fun _ h => nomatch h⟩

theorem isB.of {w : World} {v : Value} {bs : List UInt8} (h : isB w v bs) {w' : World} (hw : ∀ a : Addr, ∀ v, w.cell? a = some v → (∀ n c, v = .slice (some a) n c → True) → w'.cell? a = some v) : isB w' v bs := by
  obtain ⟨ao, cap, rfl, h1, h2, h3, h4⟩ := h
  exact ⟨ao, cap, rfl, h1, h2, h3, fun a ha => ⟨(h4 a ha).1, fun i hi => hw _ _ ((h4 a ha).2 i hi) (fun _ _ _ => trivial)⟩⟩

theorem isB.below {w w' : World} {v : Value} {bs : List UInt8} (h : isB w v bs) (hb : Below w.heap.size w w') : isB w' v bs :=
  h.of fun a u hu _ => by rw [hb.cell (World.block_lt_of_cell? w a hu)]; exact hu

/-- the block in which a value lies fulfils p -/
def inBlk (p : Nat → Prop) : Value → Prop
  | .slice (some a) _ _ => p a.block
  | .pointer (some a) => p a.block
  | _ => True

theorem isB.chg {S : Nat → Prop} {w w' : World} {v : Value} {bs : List UInt8} (h : isB w v bs) (hc : Chg S w w') (hv : inBlk (fun k => ¬ S k) v) : isB w' v bs := by
  obtain ⟨ao, cap, rfl, h1, h2, h3, h4⟩ := h
  refine ⟨ao, cap, rfl, h1, h2, h3, fun a ha => ⟨(h4 a ha).1, fun i hi => ?_⟩⟩
  subst ha
  have hu := (h4 a rfl).2 i hi
  rw [World.cell?_of_block (w := w) (a := ⟨a.block, a.off + i, none⟩) (hc.block a.block (World.block_lt_of_cell? w ⟨a.block, a.off + i, none⟩ hu) hv)]; exact hu

theorem isB.len {w : World} {v : Value} {bs : List UInt8} (h : isB w v bs) : bs.length ≤ maxLen := by
  obtain ⟨ao, cap, rfl, h1, h2, h3, h4⟩ := h; omega

theorem isB.shape {w : World} {v : Value} {bs : List UInt8} (h : isB w v bs) {n : Nat} (hn : bs.length = n) : ∃ ao cap, v = .slice ao n cap ∧ n ≤ cap ∧ cap ≤ maxLen := by
  obtain ⟨ao, cap, rfl, h1, h2, -, -⟩ := h
  exact ⟨ao, cap, by rw [hn], by omega, h2⟩

/-- where there is a byte the row lies in memory: its cells -/
theorem isB.at {w : World} {ao : Option Addr} {n cap : Nat} {bs : List UInt8} (h : isB w (.slice ao n cap) bs) {j : Nat} (hj : j < bs.length) :
    ∃ b off, ao = some ⟨b, off, none⟩ ∧ ∀ i c, bs[i]? = some c → w.cell? ⟨b, off + i, none⟩ = some (.int .u8 (c.toNat : Int)) := by
  obtain ⟨ao', cap', e, g1, g2, g3, g4⟩ := h
  simp only [Value.slice.injEq] at e
  obtain ⟨rfl, rfl, rfl⟩ := e
  cases ao with
  | none => have := g3 rfl; omega
  | some a =>
    obtain ⟨h5, h6⟩ := g4 a rfl
    replace h5 := h5 (by omega)
    obtain ⟨b, off, sp⟩ := a
    simp only at h5 h6
    subst h5
    refine ⟨b, off, rfl, fun i c hc => ?_⟩
    obtain ⟨hi, rfl⟩ := List.getElem?_eq_some_iff.1 hc
    exact h6 i hi

/-- the cut v[l:h], cap is kept to m -/
theorem isB.cut {w : World} {ao : Option Addr} {n cap : Nat} {bs : List UInt8} (h : isB w (.slice ao n cap) bs) {l hh m : Nat} (h1 : l ≤ hh) (h2 : hh ≤ n) (h3 : hh ≤ m) (h4 : m ≤ cap) :
    isB w (sliced ao l hh m 1) ((bs.drop l).take (hh - l)) := by
  obtain ⟨ao', cap', e, g1, g2, g3, g4⟩ := h
  simp only [Value.slice.injEq] at e
  obtain ⟨rfl, rfl, rfl⟩ := e
  refine ⟨if m = l then ao else ao.map (·.add (l * 1)), m - l, ?_, ?_, by omega, ?_, ?_⟩
  · simp only [sliced, List.length_take, List.length_drop]; rw [show min (hh - l) (bs.length - l) = hh - l by omega]
  · simp only [List.length_take, List.length_drop]; omega
  · intro hn
    by_cases e : m = l
    · omega
    · rw [if_neg e] at hn
      have : ao = none := by cases ao <;> simp_all
      have := g3 this; omega
  · intro a ha
    by_cases e : m = l
    · rw [if_pos e] at ha
      refine ⟨fun h => by omega, fun i hi => ?_⟩
      simp only [List.length_take, List.length_drop] at hi; omega
    · rw [if_neg e] at ha
      cases ao with
      | none => simp at ha
      | some a0 =>
        simp only [Option.map_some, Option.some.injEq, Nat.mul_one] at ha
        obtain ⟨s0, c0⟩ := g4 a0 rfl
        subst ha
        have s1 := s0 (by omega)
        refine ⟨fun _ => by unfold Addr.add; split <;> simp_all, fun i hi => ?_⟩
        simp only [List.length_take, List.length_drop] at hi
        have := c0 (l + i) (by omega)
        have ea : (a0.add l).block = a0.block ∧ (a0.add l).off = a0.off + l := by unfold Addr.add; split <;> simp_all
        rw [ea.1, ea.2, Nat.add_assoc, this]
        simp

theorem isB.take {w : World} {ao : Option Addr} {n cap : Nat} {bs : List UInt8} (h : isB w (.slice ao n cap) bs) {k : Nat} (hk : k ≤ n) : isB w (.slice ao k cap) (bs.take k) := by
  obtain ⟨ao', cap', e, g1, g2, g3, g4⟩ := h
  simp only [Value.slice.injEq] at e
  obtain ⟨rfl, rfl, rfl⟩ := e
  refine ⟨ao, cap, by rw [List.length_take, Nat.min_eq_left hk], by rw [List.length_take]; omega, g2, g3, fun a ha => ⟨(g4 a ha).1, fun i hi => ?_⟩⟩
  rw [List.length_take] at hi
  rw [(g4 a ha).2 i (by omega)]; simp

/-- v is a row of bytes that was made behind block B (element type e). -/
def ownB (w : World) (e B : Nat) (v : Value) (bs : List UInt8) : Prop := w.ownsRow B e 1 v bs.length (bvals bs)

theorem ownB.isB {w : World} {e B : Nat} {v : Value} {bs : List UInt8} (h : ownB w e B v bs) : isB w v bs := by
  obtain ⟨hl, h⟩ := h
  rcases h with ⟨rfl, h0⟩ | ⟨g, cap, cur, rfl, hg, hh, h1, h2, h3, h4⟩
  · have : bs = [] := List.eq_nil_of_length_eq_zero h0
    subst this; exact isB.nil w
  · refine ⟨some ⟨g, 0, none⟩, cap, rfl, h1, h2, nofun, ?_⟩
    rintro a ha
    obtain rfl := Option.some.inj ha
    refine ⟨fun _ => rfl, fun i hi => ?_⟩
    rw [cell_of_row w g _ _ _ _ hh]
    have hx : (bvals bs)[i]? = some (bval bs[i]) := by simp [bvals, hi]
    rw [← h4, List.getElem?_take] at hx
    simp only [Nat.mul_one, hi, if_true] at hx
    simpa using hx

theorem ownB.of_eq {w : World} {e B : Nat} {v : Value} {bs bs' : List UInt8} (h : ownB w e B v bs) (he : bs = bs') : ownB w e B v bs' := he ▸ h

theorem ownB.nil (w : World) (e B : Nat) : ownB w e B (.slice none 0 0) [] := World.ownsRow_nil w B e 1

theorem ownsRow_below {w w' : World} {e B size n : Nat} {v : Value} {xs : List Value} (h : w.ownsRow B e size v n xs) (hb : Below w.heap.size w w') : w'.ownsRow B e size v n xs := by
  obtain ⟨hl, h⟩ := h
  refine ⟨hl, ?_⟩
  rcases h with h | ⟨g, cap, cur, rfl, hg, hh, r⟩
  · exact .inl h
  · exact .inr ⟨g, cap, cur, rfl, hg, below_keeps hb hh, r⟩

theorem ownB.below {w w' : World} {e B : Nat} {v : Value} {bs : List UInt8} (h : ownB w e B v bs) (hb : Below w.heap.size w w') : ownB w' e B v bs := ownsRow_below h hb

theorem ownB.mono {w : World} {e B B' : Nat} {v : Value} {bs : List UInt8} (h : ownB w e B v bs) (hb : B' ≤ B) : ownB w e B' v bs := by
  obtain ⟨hl, h⟩ := h
  refine ⟨hl, ?_⟩
  rcases h with h | ⟨g, cap, cur, rfl, hg, r⟩
  · exact .inl h
  · exact .inr ⟨g, cap, cur, rfl, by omega, r⟩

theorem isB.lit {w : World} {g : Nat} {cs : List Value} {T : TypeId} {fz : Nat × Nat} {bs : List UInt8} (h : w.heap[g]? = some (.cells cs.toArray T fz)) (hx : cs = bvals bs) (hm : bs.length ≤ maxLen) {n c : Nat} (hn : n = bs.length) (hc : c = bs.length) :
    isB w (.slice (some ⟨g, 0, none⟩) n c) bs := by
  subst hx; subst hn; subst hc
  refine ⟨_, _, rfl, Nat.le_refl _, hm, nofun, ?_⟩
  rintro a ha
  obtain rfl := Option.some.inj ha
  refine ⟨fun _ => rfl, fun i hi => ?_⟩
  rw [cell_of_row w g _ _ _ _ h]
  simp [bvals, hi]

theorem isB.one {w : World} {g : Nat} {x : Int} {T : TypeId} {fz : Nat × Nat} {c : UInt8} (h : w.heap[g]? = some (.cells #[.int .u8 x] T fz)) (hx : x = (c.toNat : Int)) : isB w (.slice (some ⟨g, 0, none⟩) 1 1) [c] :=
  isB.lit (cs := [.int .u8 x]) h (by subst hx; rfl) (by simp [maxLen]) rfl rfl

theorem ownB.lit {w : World} {g : Nat} {cs : List Value} {T B : TypeId} {bs : List UInt8} (h : w.heap[g]? = some (.cells cs.toArray T (0, 0))) (hx : cs = bvals bs) (hm : bs.length ≤ maxLen) (hB : B ≤ g) {n c : Nat} (hn : n = bs.length) (hc : c = bs.length) :
    ownB w T B (.slice (some ⟨g, 0, none⟩) n c) bs := by
  subst hx; subst hn; subst hc
  exact ⟨by simp [bvals], .inr ⟨g, _, _, rfl, hB, h, Nat.le_refl _, hm, by simp [bvals], List.take_of_length_le (by simp [bvals])⟩⟩

theorem add_at {a : Addr} (h : a.spot = none) {j : Nat} : a.add j = ⟨a.block, a.off + j, none⟩ := by
  unfold Addr.add; split
  · rename_i h0; subst h0; cases a; simp_all
  · rfl

/-! ### operations, the world behind them a new name -/
section
variable {P : Program} {ops : Array Oper} {rest : List Oper} {o : Oper} {a : Act} {w : World} {Q : Exit → Act → World → Prop}

theorem wpList_store_row' (hgd : o.guard = none) (ty : TypeId) (x y : Operand) (ho : o.op = .store ty x y)
    (g : Nat) (cells : Array Value) (hx : a.eval x = .pointer (some ⟨g, 0, none⟩)) (hy : a.eval y = .agg cells)
    (t : TypeId) (old : Array Value) (hg : w.heap[g]? = some (.cells old t (0, 0))) (hi : (P.info? ty).map (·.size) = some cells.size)
    (hold : old.size = cells.size) (h1 : cells.all (·.oneCell') = true)
    (h : ∀ w', Hid (w'.heap[g]? = some (.cells cells t (0, 0))) → Hid (w'.heap.size = w.heap.size) → Chg (· = g) w w' → wpList P ops Q rest (a.put o.dst undef) w') : wpList P ops Q (o :: rest) a w :=
  wpList_store_row hgd ty x y ho g cells hx hy t old hg hi hold h1
    (h _ (show _ = _ from setRow_heap _ _ _ _ _ _ hg) (show _ = _ by simp [World.setRow]) ⟨rfl, rfl, rfl, by simp [World.setRow], fun k _ hs => setRow_other _ _ _ _ hs⟩)

theorem chg_grown {S : Nat → Prop} {w w' : World} {row : Option Nat} (hg : w.grownBy w' row) (h : ∀ k, row = some k → S k) : Chg S w w' :=
  ⟨hg.os, hg.tape, hg.output, hg.size, fun k hk hs => hg.block k hk (fun e => hs (h k e.symm))⟩

/-- append onto a row of bytes that the call made, or onto one whose capacity is its length. -/
theorem wpList_append_bytes (hgd : o.guard = none) (s x : Operand) (t : TypeId)
    (ho : o.op = .call { callee := .builtin .append, args := #[s, x], argTypes := #[t, t] })
    (B : Nat) (e : TypeId) (ht : P.underlying t = some (.slice e)) (hi : (P.info? e).map (fun i => (i.zero, i.size, i.bytes)) = some (some (.int .u8 0), 1, 1))
    (v : Value) (bs : List UInt8) (hs : a.eval s = v) (hown : ownB w e B v bs)
    (xv : Value) (ns : List UInt8) (hx : a.eval x = xv) (hb : isB w xv ns) (hlen : bs.length + ns.length ≤ 140737488355328) (hbase : B ≤ w.heap.size)
    (h : ∀ v' w', ownB w' e B v' (bs ++ ns) → Chg (fun k => B ≤ k ∧ v.ownBlock = some k) w w' → wpList P ops Q rest (a.put o.dst v') w') : wpList P ops Q (o :: rest) a w := by
  obtain ⟨i, hi1, hi2, hi3, hi4⟩ := info_parts hi
  obtain ⟨ao, cap, rfl, h1, h2, h3, h4⟩ := hb
  cases ao with
  | none =>
    have hc := h3 rfl
    have : ns = [] := List.eq_nil_of_length_eq_zero (by omega)
    subst this
    subst hc
    refine wpList_plain hgd fun K hK' => ?_
    have hrun := run_append_owned_none (P := P) w B t o.type e i 1 ht hi1 v bs.length (bvals bs) hown
    unfold Oper.wp
    simp [execOp, ho, resolve, invoke, builtin, hs, hx, hrun, Result.andThen]
    exact hK' _ _ (h v w (by simpa using hown) (Chg.refl _ _))
  | some ad =>
    have h5 := h4 ad rfl
    refine wpList_append_own w hgd s x t ho B e i (.int .u8 0) 1 1 ht hi1 hi2 hi3 hi4 rfl (by decide) v bs.length (bvals bs) hs hown ad ns.length cap (bvals ns) hx (by simp [bvals]) ?_ (bvals_oneCell _) (by simp [maxLen]; omega) (by omega) hbase ?_
    · intro j u hu
      have hj : j < ns.length := by have := (List.getElem?_eq_some_iff.1 hu).1; simpa [bvals] using this
      have := h5.2 j hj
      have h6 := h5.1 (by omega)
      rw [add_at h6, this]
      simpa [bvals, hj] using hu
    · intro v' w' h2 h3 _
      exact h v' w' (by unfold ownB; rw [bvals_append, List.length_append]; exact h2) (chg_grown h3 fun k hk => ⟨(hown.lt k hk).1, hk⟩)

/-- a row that is made by the call, or one whose capacity is its length (an append makes a new one) -/
def appB (w : World) (e B : Nat) (v : Value) (bs : List UInt8) : Prop := ownB w e B v bs ∨ (isB w v bs ∧ ∃ ao, v = .slice ao bs.length bs.length)

theorem appB.below {w w' : World} {e B : Nat} {v : Value} {bs : List UInt8} (h : appB w e B v bs) (hb : Below w.heap.size w w') : appB w' e B v bs := by
  rcases h with h | ⟨h, h'⟩
  · exact .inl (h.below hb)
  · exact .inr ⟨h.below hb, h'⟩

theorem below_alloc (w : World) (o : Obj) : Below w.heap.size w (w.alloc o) := (Below.refl _ _).alloc (Nat.le_refl _) _

theorem appB.alloc {w : World} {e B : Nat} {v : Value} {bs : List UInt8} (h : appB w e B v bs) (o : Obj) : appB (w.alloc o) e B v bs := h.below (below_alloc w o)
theorem ownB.alloc {w : World} {e B : Nat} {v : Value} {bs : List UInt8} (h : ownB w e B v bs) (o : Obj) : ownB (w.alloc o) e B v bs := h.below (below_alloc w o)
theorem isB.alloc {w : World} {v : Value} {bs : List UInt8} (h : isB w v bs) (o : Obj) : isB (w.alloc o) v bs := h.below (below_alloc w o)

theorem isB.drew {w : World} {v : Value} {bs : List UInt8} (h : isB w v bs) : isB w.drew v bs := h

theorem wpList_append_app (hgd : o.guard = none) (s x : Operand) (t : TypeId)
    (ho : o.op = .call { callee := .builtin .append, args := #[s, x], argTypes := #[t, t] })
    (B : Nat) (e : TypeId) (ht : P.underlying t = some (.slice e)) (hi : (P.info? e).map (fun i => (i.zero, i.size, i.bytes)) = some (some (.int .u8 0), 1, 1))
    (v : Value) (bs : List UInt8) (hs : a.eval s = v) (hown : appB w e B v bs)
    (xv : Value) (ns : List UInt8) (hx : a.eval x = xv) (hb : isB w xv ns) (hn : 0 < ns.length) (hlen : bs.length + ns.length ≤ 140737488355328) (hbase : B ≤ w.heap.size)
    (h : ∀ v' w', ownB w' e B v' (bs ++ ns) → Chg (fun k => B ≤ k ∧ v.ownBlock = some k) w w' → wpList P ops Q rest (a.put o.dst v') w') : wpList P ops Q (o :: rest) a w := by
  rcases hown with hown | ⟨hv, aov, rfl⟩
  · exact wpList_append_bytes hgd s x t ho B e ht hi v bs hs hown xv ns hx hb hlen hbase h
  · obtain ⟨i, hi1, hi2, hi3, hi4⟩ := info_parts hi
    obtain ⟨ao, cap, rfl, h1, h2, h3, h4⟩ := hb
    obtain ⟨ao', cap', e', g1, g2, g3, g4⟩ := hv
    simp only [Value.slice.injEq] at e'
    obtain ⟨rfl, -, rfl⟩ := e'
    cases ao with
    | none => have := h3 rfl; omega
    | some ad =>
      have h5 := h4 ad rfl
      have at_ : ∀ (aa : Addr) (ll : List UInt8), (0 < ll.length → aa.spot = none) → (∀ i (h : i < ll.length), w.cell? ⟨aa.block, aa.off + i, none⟩ = some (bval ll[i])) → ∀ j u, (bvals ll)[j]? = some u → w.cell? (aa.add j) = some u := by
        intro aa ll h1 h2 j u hu
        have hj : j < ll.length := by have := (List.getElem?_eq_some_iff.1 hu).1; simpa [bvals] using this
        rw [add_at (h1 (by omega)), h2 j hj]
        simpa [bvals, hj] using hu
      refine wpList_append_grows w hgd s x t ho e i (.int .u8 0) 1 1 ht hi1 hi2 hi3 hi4 rfl (by decide) aov bs.length bs.length (bvals bs) hs (fun hn => ?_) (by simp [bvals]) (fun b hb => at_ b bs (fun h => (g4 b hb).1 (by omega)) (g4 b hb).2)
        ad ns.length cap (bvals ns) hx (by simp [bvals]) (at_ ad ns (fun h => h5.1 (by omega)) h5.2) (bvals_oneCell _) (by omega) (by simp [maxLen]; omega) (by omega) fun v' w' h6 h7 => ?_
      · have := g3 hn; omega
      · refine h v' w' (ownB.mono (B := w.heap.size) ?_ hbase) (chg_grown h7 nofun)
        unfold ownB; rw [bvals_append, List.length_append]; exact h6

theorem bvals_splice (cur bs : List UInt8) (off : Nat) : bvals (splice cur off bs) = splice (bvals cur) off (bvals bs) := by
  simp [splice, bvals, List.map_append, List.map_take, List.map_drop]

/-- copy(d, s) of bytes that all fit. -/
theorem wpList_copy_bytes (hgd : o.guard = none) (d s : Operand) (dT sT : TypeId)
    (ho : o.op = .call { callee := .builtin .copy, args := #[d, s], argTypes := #[dT, sT] }) (elem : TypeId) (hu : P.underlying dT = some (.slice elem)) (hsz : (P.info? elem).map (·.size) = some 1)
    (g off dLen dCap : Nat) (hd : a.eval d = .slice (some ⟨g, off, none⟩) dLen dCap) (sv : Value) (bs : List UInt8) (hs : a.eval s = sv) (hb : isB w sv bs)
    (cur : List UInt8) (t : TypeId) (hg : w.heap[g]? = some (.cells (bvals cur).toArray t (0, 0))) (hn : bs.length ≤ dLen) (hfit : off + bs.length ≤ cur.length)
    (h : ∀ w', Hid (w'.heap[g]? = some (.cells (bvals (splice cur off bs)).toArray t (0, 0))) → Hid (w'.heap.size = w.heap.size) → Chg (· = g) w w' → wpList P ops Q rest (a.put o.dst (goInt bs.length)) w') :
    wpList P ops Q (o :: rest) a w := by
  obtain ⟨ao, cap, rfl, h1, h2, h3, h4⟩ := hb
  by_cases h0 : bs.length = 0
  · obtain rfl : bs = [] := List.eq_nil_of_length_eq_zero h0
    refine wpList_copy_nothing hgd d s dT sT ho elem hu hsz _ _ dLen dCap _ _ hd hs (by simp) ?_
    exact h w (show _ = _ by simpa [splice] using hg) (show _ = _ from rfl) (Chg.refl _ _)
  · cases ao with
    | none => have := h3 rfl; omega
    | some ad =>
      obtain ⟨h5, h6⟩ := h4 ad rfl
      refine wpList_copy_own hgd d s dT sT ho elem hu hsz g off dLen dCap ad bs.length cap hd hs _ t hg (bvals bs) (by rw [length_bvals]; exact (Nat.min_eq_left hn).symm) ?_ (by simpa [length_bvals] using hfit) (bvals_oneCell _) ?_
      · intro j u hj
        have hlt : j < bs.length := by have := (List.getElem?_eq_some_iff.1 hj).1; simpa [bvals] using this
        rw [add_at (h5 (by omega)), h6 j hlt]
        simpa [bvals, hlt] using hj
      · have := h (w.setRow g (splice (bvals cur) off (bvals bs)).toArray) (show _ = _ by rw [bvals_splice]; exact setRow_heap _ _ _ _ _ _ hg) (show _ = _ by simp [World.setRow]) ⟨rfl, rfl, rfl, by simp [World.setRow], fun k _ hs => setRow_other _ _ _ _ hs⟩
        simpa [splice, length_bvals] using this

end

theorem str_of_nums (l : List UInt8) : strOfNums (l.map fun c => (c.toNat : Int)) = str l := by
  simp [strOfNums, str, Function.comp_def]

theorem str_toList (l : List UInt8) : (str l).toList = l := by rw [ByteArray.toList_eq]; simp [str]
theorem str_beq_false {a b : List UInt8} (h : ¬ a = b) : ((str a).toList == (str b).toList) = false := by rw [str_toList, str_toList]; simpa using h
theorem str_beq_true {a b : List UInt8} (h : a = b) : ((str a).toList == (str b).toList) = true := by rw [h]; simp

theorem getD_nums (l : List UInt8) (i : Nat) (h : i < l.length) : (l.map fun c => (c.toNat : Int)).getD i 0 = (l[i].toNat : Int) := by simp [List.getD, h]

/-- string(v) of bytes that can be read -/
theorem run_string {P : Program} {w : World} {v : Value} {bs : List UInt8} (h : isB w v bs) (src e : TypeId) (hs : P.underlying src = some (.slice e)) (he : P.underlying e = some (.int .u8)) (dst : TypeId) (hd : P.underlying dst = some .string) :
    (convert src dst v).run P w = .ok (.string (str bs)) w := by
  obtain ⟨ao, cap, rfl, h1, h2, h3, h4⟩ := h
  cases ao with
  | none =>
    have hc := h3 rfl
    have : bs = [] := List.eq_nil_of_length_eq_zero (by omega)
    subst this
    exact run_convert_bytes_nil w src e hs he _ _ dst hd
  | some ad =>
    obtain ⟨h5, h6⟩ := h4 ad rfl
    by_cases h0 : bs.length = 0
    · obtain rfl : bs = [] := List.eq_nil_of_length_eq_zero h0
      have hl := run_loadCells_list (P := P) w ad [] (fun j v hj => by simp at hj)
      rw [run_convert_bytes_string w src dst e _ _ cap hs he hd]
      exact run_bytesToString (P := P) w ad 0 cap [] hl
    replace h5 := h5 (by omega)
    obtain ⟨b, off, sp⟩ := ad
    simp only at h5 h6
    subst h5
    have := run_convert_bytes_arg (P := P) w src e hs he b off bs.length cap (bs.map fun c => (c.toNat : Int)) (by simp) (fun i hi => by rw [h6 i hi, getD_nums _ _ hi]; rfl) dst hd
    rw [this, str_of_nums]

theorem ownsRow_full {w : World} {B e size g n : Nat} {xs : List Value} (h : w.ownsRow B e size (.slice (some ⟨g, 0, none⟩) n n) n xs) :
    w.heap[g]? = some (.cells xs.toArray e (0, 0)) ∧ B ≤ g := by
  obtain ⟨hl, h⟩ := h
  rcases h with ⟨h, -⟩ | ⟨g', cap, cur, hv, hg, hh, h1, h2, h3, h4⟩
  · simp at h
  · simp only [Value.slice.injEq, Option.some.injEq, Addr.mk.injEq] at hv
    obtain ⟨⟨rfl, -, -⟩, -, rfl⟩ := hv
    refine ⟨?_, hg⟩
    rw [hh, ← h4, List.take_of_length_le (by simp [h3])]

/-- a byte of a row that the call made: it is there, it may be written -/
theorem ownB.at {w : World} {e B : Nat} {v : Value} {bs : List UInt8} (h : ownB w e B v bs) {n : Nat} (hn : bs.length = n) (hpos : 0 < n) :
    ∃ g cap, v = .slice (some ⟨g, 0, none⟩) n cap ∧ B ≤ g ∧ n ≤ cap ∧ cap ≤ maxLen ∧ (∀ i, w.frozen? ⟨g, i, none⟩ = false) ∧ ∀ i c, bs[i]? = some c → w.cell? ⟨g, i, none⟩ = some (.int .u8 (c.toNat : Int)) := by
  have hb := h.isB
  obtain ⟨hl, h⟩ := h
  rcases h with ⟨rfl, h0⟩ | ⟨g, cap, cur, rfl, hg, hh, h1, h2, h3, h4⟩
  · omega
  · refine ⟨g, cap, by rw [hn], hg, by omega, h2, unfrozen hh, fun i c hc => ?_⟩
    obtain ⟨b, off, e1, e2⟩ := hb.at (j := 0) (by omega)
    simp only [Option.some.injEq, Addr.mk.injEq] at e1
    obtain ⟨rfl, rfl, -⟩ := e1
    have := e2 i c hc
    rwa [Nat.zero_add] at this

theorem ownB.store {w : World} {e B g n cap : Nat} {bs : List UInt8} (h : ownB w e B (.slice (some ⟨g, 0, none⟩) n cap) bs) (hn : bs.length = n) (j : Nat) (c : UInt8) :
    ownB (w.setCell ⟨g, j, none⟩ (.int .u8 (c.toNat : Int))) e B (.slice (some ⟨g, 0, none⟩) n cap) (bs.set j c) := by
  obtain ⟨hl, h⟩ := h
  refine ⟨by simp [bvals], ?_⟩
  rcases h with ⟨h, -⟩ | ⟨g', cap', cur, hv, hg, hh, h1, h2, h3, h4⟩
  · simp at h
  · simp only [Value.slice.injEq, Option.some.injEq, Addr.mk.injEq] at hv
    obtain ⟨⟨rfl, -, -⟩, -, rfl⟩ := hv
    refine .inr ⟨g, cap, _, by simp [hn], hg, heap_setCell_same _ _ _ _ _ _ hh, by simpa using h1, h2, by simpa using h3, ?_⟩
    rw [Array.toList_setIfInBounds, List.take_set]
    simp only [List.length_set]
    rw [h4]
    simp [bvals, bval, List.map_set]

end Go.Proofs.Ytobpjldpkgioaaa
