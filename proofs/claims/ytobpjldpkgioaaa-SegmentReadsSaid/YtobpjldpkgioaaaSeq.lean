/- A region that draws its order, walked once: operations that only read are taken first, the others come one by one. One check by the kernel for the whole region. -/
import Derived.Test.YtobpjldpkgioaaaBase
import Derived.Deep.RegionHeld
namespace Go.Proofs.Ytobpjldpkgioaaa

section
variable {P : Program} {ops : Array Oper} {Q : Exit → Act → World → Prop} {S : World → Prop}

/-- May the operations come up so? (true: it only reads, and may be taken first; false: no other one may come up) -/
def okSeq (ops : Array Oper) : List (Nat × Bool) → Array Bool → Bool
  | [], listed => (Region.ready .any ops listed).isEmpty
  | (i, true) :: r, listed => Region.free .any ops listed i && (Region.ready .any ops listed).contains i && okSeq ops r (listed.setIfInBounds i true)
  | (i, false) :: r, listed => (Region.ready .any ops listed == [i]) && okSeq ops r (listed.setIfInBounds i true)

def wpSeq (P : Program) (ops : Array Oper) (Q : Exit → Act → World → Prop) (S : World → Prop) : List (Oper × Bool) → Act → World → Prop
  | [], a, w => Q .normal a w
  | (o, true) :: rest, a, w => ∃ v, YieldsIf P ops S o v a ∧ wpSeq P ops Q S rest (a.put o.dst v) w
  | (o, false) :: rest, a, w => ∀ K : Act → World → Prop, Shut (∀ a' w', S w' → (S w' → wpSeq P ops Q S rest a' w') → K a' w') →
      if Region.wanted o (yielded ops a.tmps) = true then Oper.wp P o a w K Q else K (a.put o.dst undef) w

def pickSeq (l : List Oper) (s : List (Nat × Bool)) : List (Oper × Bool) := s.map fun x => (l.getD x.1 default, x.2)

theorem seq_sound (hs : Region.noSelect ops = true) (hQ : ∀ c a d v w, Q (.panic c) (Act.put a d v) w → Q (.panic c) a w) :
    ∀ (s : List (Nat × Bool)) (listed : Array Bool) (a : Act) (w : World), okSeq ops s listed = true → (∀ x ∈ s, x.1 < ops.size) → S w →
      wpSeq P ops Q S (pickSeq ops.toList s) a w → wpAnyH P .any ops Q S s.length listed a w := by
  intro s
  induction s with
  | nil =>
    intro listed a w hk _ _ h
    exact wpAnyH_done (by simpa [okSeq] using hk) h _
  | cons x s ih =>
    obtain ⟨i, b⟩ := x
    intro listed a w hk hlt hS h
    have hi : i < ops.size := hlt (i, b) (by simp)
    have hoi : ops[i]? = some (ops.toList.getD i default) := by simp [hi]
    have hlt' : ∀ x ∈ s, x.1 < ops.size := fun x hx => hlt x (by simp [hx])
    cases b with
    | true =>
      simp only [okSeq, Bool.and_eq_true] at hk
      obtain ⟨⟨h1, h2⟩, h3⟩ := hk
      obtain ⟨v, hy, h⟩ := h
      exact wpAnyH_take hoi hs h1 h2 (fun c a w => hQ c a _ _ w) hy hS (ih _ _ _ h3 hlt' hS h)
    | false =>
      simp only [okSeq, Bool.and_eq_true, beq_iff_eq] at hk
      obtain ⟨h1, h3⟩ := hk
      refine wpAnyH_ready h1 (by simp) (AllReadyH.cons hoi (fun K hK => h K ?_) AllReadyH.nil)
      exact fun a' w' hS' hw => hK.out a' w' hS' (fun hS'' => ih _ _ _ h3 hlt' hS'' (hw hS''))

theorem wp_region_seq {id : Nat} {l : List Oper} {a : Act} {w : World} (S : World → Prop) (s : List (Nat × Bool)) (hm : P.follows .mixedOrders = true)
    (hc : (Region.noSelect l.toArray && okSeq l.toArray s (Array.replicate l.length false) && (s.length == l.length) && s.all fun x => decide (x.1 < l.length)) = true)
    (hQ : ∀ c a d v w, Q (.panic c) (Act.put a d v) w → Q (.panic c) a w) (hS : S w.drew)
    (h : wpSeq P l.toArray Q S (pickSeq l s) a w.drew) : (Code.region id l.toArray true).wp P Q a w := by
  simp only [Bool.and_eq_true, beq_iff_eq, List.all_eq_true, decide_eq_true_eq] at hc
  obtain ⟨⟨⟨h1, h2⟩, h3⟩, h4⟩ := hc
  refine wp_region_held_drew hm hS fun hS => ?_
  have := seq_sound (P := P) h1 hQ s (Array.replicate l.length false) a w.drew h2 (fun x hx => by simpa using h4 x hx) hS (by simpa using h)
  rw [h3] at this
  simpa using this

variable {o : Oper} {rest : List (Oper × Bool)} {a : Act} {w : World}

theorem seq_nil (h : Q .normal a w) : wpSeq P ops Q S [] a w := h

theorem seq_take {v : Value} (hw : Region.wanted o (yielded ops a.tmps) = true) (hv : ∀ wx, S wx → (execOp a.eval o).run P wx = .ok (.value v) wx)
    (h : wpSeq P ops Q S rest (a.put o.dst v) w) : wpSeq P ops Q S ((o, true) :: rest) a w := ⟨v, .inl ⟨hw, hv⟩, h⟩

theorem seq_skip (hw : Region.wanted o (yielded ops a.tmps) = false) (h : wpSeq P ops Q S rest (a.put o.dst undef) w) : wpSeq P ops Q S ((o, true) :: rest) a w :=
  ⟨undef, .inr ⟨hw, rfl⟩, h⟩

theorem seq_run (h : ∀ K : Act → World → Prop, Shut (∀ a' w', S w' → (S w' → wpSeq P ops Q S rest a' w') → K a' w') →
      if Region.wanted o (yielded ops a.tmps) = true then Oper.wp P o a w K Q else K (a.put o.dst undef) w) : wpSeq P ops Q S ((o, false) :: rest) a w := h

end
end Go.Proofs.Ytobpjldpkgioaaa
