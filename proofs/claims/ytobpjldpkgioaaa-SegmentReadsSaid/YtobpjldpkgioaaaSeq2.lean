/- An operation in a drawn region by a law that is said of a row of operations. -/
import Derived.Test.YtobpjldpkgioaaaSeq
namespace Go.Proofs.Ytobpjldpkgioaaa

theorem oper_mono {P : Program} {o : Oper} {a : Act} {w : World} {K K' : Act → World → Prop} {Q Q' : Exit → Act → World → Prop} (hK : ∀ a w, K a w → K' a w)
    (hQ : ∀ c a w, Q (.panic c) a w → Q' (.panic c) a w) (hL : LetsOut Q → LetsOut Q') (h : Oper.wp P o a w K Q) : Oper.wp P o a w K' Q' := by
  unfold Oper.wp at *
  generalize (execOp a.eval o).run P w = r at *
  unfold Oper.upon at *
  split at h
  · exact hK _ _ h
  · exact hK _ _ h
  · exact hK _ _ h
  · refine h.mono fun e w' he => ?_
    cases e with
    | returned v => exact hK _ _ he
    | panicked c => exact hQ _ _ _ he
    | outgrown => exact hL he
  · exact h.mono fun v w' he => hK _ _ he
  · exact hQ _ _ _ h
  · exact h.elim

theorem oper_of_list {P : Program} {o : Oper} {a : Act} {w : World} {K : Act → World → Prop} {Q : Exit → Act → World → Prop} (hg : o.guard = none)
    (h : ∀ Q' : Exit → Act → World → Prop, (∀ a w, K a w → Q' .normal a w) → wpList P #[] Q' [o] a w) : Oper.wp P o a w K Q := by
  have h1 := h (fun e a w => e = .normal ∧ K a w) (fun a w hk => ⟨rfl, hk⟩)
  unfold wpList at h1
  rw [if_pos (by simp [Region.wanted, hg])] at h1
  rcases h1 with h1 | ⟨-, a', w', h2, -⟩
  · exact oper_mono (fun a w (hk : _ ∧ _) => hk.2) (fun c a w (hk : _ ∧ _) => nomatch hk.1) (fun ⟨a', w', hk⟩ => by have := hk.1; cases this) h1
  · exact nomatch h2
end Go.Proofs.Ytobpjldpkgioaaa
