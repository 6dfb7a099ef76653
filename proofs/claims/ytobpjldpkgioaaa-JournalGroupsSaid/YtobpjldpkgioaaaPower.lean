/- power: what its methods do -/
import Derived.Test.YtobpjldpkgioaaaProg
import Derived.Test.YtobpjldpkgioaaaBase
namespace Go.Proofs.Ytobpjldpkgioaaa
open Go.RowKit

structure Pw where
  plan : Bool
  after : Int
  torn : Int
  off : Bool

def Pw.wf (s : Pw) : Prop := -9223372036854775808 ≤ s.after ∧ s.after < 9223372036854775808

def Pw.write (s : Pw) (n : Int) : Int × Int × Pw :=
  if s.off then (0, 11, s) else
  if !s.plan then (n, 0, s) else if 0 < s.after then (n, 0, {s with after := s.after - 1}) else (min (max s.torn 0) n, 11, {s with off := true, plan := false})

/-- power lies in block b and is so -/
def isP (w : World) (b : Nat) (s : Pw) : Prop :=
  ∃ count : Int, w.heap[b]? = some (.cells #[.bool s.plan, .int .i64 s.after, .int .i64 s.torn, .bool s.off, .int .i64 count] 138 (0, 0))

theorem isP.chg {S : Nat → Prop} {w w' : World} {b : Nat} {s : Pw} (h : isP w b s) (hc : Chg S w w') (hS : ¬ S b) : isP w' b s :=
  let ⟨c, h⟩ := h; ⟨c, hc.keeps h hS⟩
theorem isP.below {w w' : World} {b : Nat} {s : Pw} (h : isP w b s) (hb : Below w.heap.size w w') : isP w' b s :=
  let ⟨c, h⟩ := h; ⟨c, below_keeps hb h⟩
theorem isP.lt {w : World} {b : Nat} {s : Pw} (h : isP w b s) : b < w.heap.size := let ⟨_, h⟩ := h; lt_of_heap h

theorem cells5 {w : World} {b : Nat} {c0 c1 c2 c3 c4 : Value} {T : TypeId} (h : w.heap[b]? = some (.cells #[c0, c1, c2, c3, c4] T (0, 0))) :
  w.cell? ⟨b, 0, none⟩ = some c0 ∧ w.cell? ⟨b, 1, none⟩ = some c1 ∧ w.cell? ⟨b, 2, none⟩ = some c2 ∧ w.cell? ⟨b, 3, none⟩ = some c3 ∧ w.cell? ⟨b, 4, none⟩ = some c4 := by
  refine ⟨?_, ?_, ?_, ?_, ?_⟩ <;> simp [cell_of_row w b _ _ T _ h]

theorem power_new (w : World) :
    Calls Try.prog 15 #[] w fun e w' => e = .returned (.pointer (some ⟨w.heap.size, 0, none⟩)) ∧ isP w' w.heap.size ⟨false, 0, 0, false⟩ ∧ Below w.heap.size w w' := by
  go_enter Try.func15, Try.ntmps15
  go_wp2
  go_ret
  exact ⟨rfl, ⟨0, heap_alloc_new _ _⟩, below_alloc _ _⟩

theorem power_on (b : Nat) (w : World) (s : Pw) (h : isP w b s) :
    Calls Try.prog 33 #[.pointer (some ⟨b, 0, none⟩)] w fun e w' => e = .returned (.bool (!s.off)) ∧ w = w' := by
  obtain ⟨count, h⟩ := h
  obtain ⟨h0, h1, h2, h3, h4⟩ := cells5 h
  clear h
  go_enter Try.func33, Try.ntmps33
  go_wp2
  go_ret
  exact ⟨rfl, rfl⟩

def PwWrote (b : Nat) (s : Pw) (n : Int) (w : World) (e : Ending) (w' : World) : Prop :=
  e = .returned (.tuple #[.int .i64 (s.write n).1, .int .i64 (s.write n).2.1]) ∧ isP w' b (s.write n).2.2 ∧ w'.heap.size = w.heap.size ∧ Chg (· = b) w w'

set_option maxHeartbeats 400000 in
theorem power_write (b : Nat) (w : World) (s : Pw) (n : Int) (h : isP w b s) (hn : 0 ≤ n) (hw : s.wf) :
    Calls Try.prog 111 #[.pointer (some ⟨b, 0, none⟩), .int .i64 n] w (PwWrote b s n w) := by
  have hP := h
  obtain ⟨plan, after, torn, off⟩ := s
  obtain ⟨ha, ha'⟩ := hw
  obtain ⟨count, h⟩ := h
  dsimp only at *
  obtain ⟨h0, h1, h2, h3, h4⟩ := cells5 h
  have f := unfrozen h
  have f0 := f 0
  have f1 := f 1
  have f2 := f 2
  have f3 := f 3
  have f4 := f 4
  have H := Lib.hid h
  clear h f
  go_enter Try.func111, Try.ntmps111
  go_wp2_with (go_at_call 33; refine (power_on _ _ _ hP).mono ?_; rintro e w' ⟨rfl, rfl⟩)
  all_goals (go_ret2; go_tidy; have h := H.out; clear H h0 h1 h2 h3 h4 f0 f1 f2 f3 f4; show PwWrote _ _ _ _ (.returned (.tuple #[.int .i64 _, .int .i64 _])) _)
  all_goals refine ⟨?_, ?_, by simp, ?_⟩
  all_goals first | (repeat (refine Chg.setCell ?_ (by simp) _)); exact Chg.refl _ _ | skip
  all_goals (unfold Pw.write; simp_all [isP, World.setCell, Array.getElem?_modify])
  all_goals try (rw [if_neg (by omega)]; simp; try omega)

def PwPlanned (b : Nat) (s : Pw) (w : World) (e : Ending) (w' : World) : Prop :=
  e = .returned (.tuple #[]) ∧ isP w' b s ∧ w'.heap.size = w.heap.size ∧ Chg (· = b) w w'

theorem power_plan (b : Nat) (w : World) (s : Pw) (a t : Int) (h : isP w b s) :
    Calls Try.prog 77 #[.pointer (some ⟨b, 0, none⟩), .int .i64 a, .int .i64 t] w (PwPlanned b ⟨decide (0 ≤ a), a, t, s.off⟩ w) := by
  obtain ⟨plan, after, torn, off⟩ := s
  obtain ⟨count, h⟩ := h
  dsimp only at *
  obtain ⟨h0, h1, h2, h3, h4⟩ := cells5 h
  have f := unfrozen h
  have f0 := f 0
  have f1 := f 1
  have f2 := f 2
  have H := Lib.hid h
  clear h f
  go_enter Try.func77, Try.ntmps77
  go_wp2
  go_end0
  have h := H.out
  refine ⟨rfl, ⟨count, ?_⟩, by simp, ?_⟩
  · simp [World.setCell, Array.getElem?_modify, h]
  · (repeat (refine Chg.setCell ?_ (by simp) _)); exact Chg.refl _ _

theorem power_up (b : Nat) (w : World) (s : Pw) (h : isP w b s) :
    Calls Try.prog 78 #[.pointer (some ⟨b, 0, none⟩)] w (PwPlanned b ⟨false, s.after, s.torn, false⟩ w) := by
  obtain ⟨plan, after, torn, off⟩ := s
  obtain ⟨count, h⟩ := h
  dsimp only at *
  obtain ⟨h0, h1, h2, h3, h4⟩ := cells5 h
  have f := unfrozen h
  have f0 := f 0
  have f3 := f 3
  have H := Lib.hid h
  clear h f
  go_enter Try.func78, Try.ntmps78
  go_wp2
  go_end0
  have h := H.out
  refine ⟨rfl, ⟨count, ?_⟩, by simp, ?_⟩
  · simp [World.setCell, Array.getElem?_modify, h]
  · (repeat (refine Chg.setCell ?_ (by simp) _)); exact Chg.refl _ _

end Go.Proofs.Ytobpjldpkgioaaa
