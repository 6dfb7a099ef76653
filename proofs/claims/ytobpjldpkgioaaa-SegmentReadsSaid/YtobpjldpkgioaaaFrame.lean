/- from a reading of an argument to what the walks are told of it -/
import Derived.Test.YtobpjldpkgioaaaLists
import Derived.Test.YtobpjldpkgioaaaRows
import Derived.ProofKit
import Derived.OpenShut
import Derived.ShutString
import Derived.ChangeOld
import Derived.Deep.Slices
namespace Go.Proofs.Ytobpjldpkgioaaa
open Go.ChangeShapes Go.WideShapes Go.ChangeAt Go.RowKit

theorem own : ownKnob Try.prog.godebug = none := by kernel_rfl
theorem laidOut : laidOutB Try.prog = true := by kernel_rfl

section
variable {H : Type} {enc : TypeId × Value → H} {w : World} {base : Nat}

theorem byte_of_wf {n : Int} (h : (Lit.int .u8 n).wf = true) : ∃ c : UInt8, n = (c.toNat : Int) := by
  obtain ⟨h1, h2⟩ : 0 ≤ n ∧ n ≤ 255 := by simpa [Lit.wf, IntKind.has, IntKind.min, IntKind.max, IntKind.signed, IntKind.bits] using h
  exact ⟨UInt8.ofNat n.toNat, by simp; omega⟩

theorem choose_list {α β : Type} (n : Nat) (V : Nat → β) (R : β → α → Prop) (hy : ∀ i, i < n → ∃ y, R (V i) y) : ∃ ys : List α, ys.length = n ∧ ∀ (i : Nat) (y : α), ys[i]? = some y → R (V i) y := by
  induction n with
  | zero => exact ⟨[], rfl, fun i y h => by simp at h⟩
  | succ k ih =>
    obtain ⟨ys, h1, h2⟩ := ih (fun i hi => hy i (by omega))
    obtain ⟨y, h3⟩ := hy k (by omega)
    refine ⟨ys ++ [y], by simp [h1], fun i z hz => ?_⟩
    by_cases hik : i < k
    · rw [List.getElem?_append_left (by omega)] at hz; exact h2 i z hz
    · have hi : i = k := by have := (List.getElem?_eq_some_iff.1 hz).1; simp [h1] at this; omega
      subst hi
      rw [List.getElem?_append_right (by omega), h1] at hz
      simp at hz; subst hz; exact h3

/-- a slice of one-cell elements, each of which reads as something -/
theorem isS_of_trod {α : Type} (R : World → Value → α → Prop) {t e : TypeId} (ht : Try.prog.underlying t = some (.slice e)) (hc : Try.prog.cellsOf e = 1)
    (hR : ∀ fuel v x, DataW.trod enc Try.prog w base (fun _ => true) true fuel e [v] = some x → ∃ y, R w v y)
    (fuel : Nat) (v : Value) (x : DataW H × List MemPlace) (h : DataW.trod enc Try.prog w base (fun _ => true) true fuel t [v] = some x) : ∃ ys, isS R w v ys := by
  rcases Deep.open_slice1 ht hc h with ⟨hcs, _⟩ | ⟨a, len, cap, m, n, V, D, Pl, hcs, _, hl, hm, hmm, _, hV⟩
  · obtain rfl : v = .slice none 0 0 := by simpa using hcs
    exact ⟨[], isS.nil R w⟩
  · obtain rfl : v = .slice (some a) len cap := by simpa using hcs
    simp only [if_true] at hmm
    subst hmm
    have hy : ∀ i, i < len → ∃ y, R w (V i) y := fun i hi => hR _ _ _ (hV i (by omega)).2
    obtain ⟨ys, hys⟩ := choose_list len V (R w) hy
    refine ⟨ys, some a, m, by rw [hys.1], by omega, hm, nofun, ?_⟩
    rintro b hb
    obtain rfl := Option.some.inj hb
    have hsp : 0 < m → a.spot = none := fun h => by
      have := (hV 0 h).1
      simpa [Addr.add] using World.cell?_spot this
    refine ⟨hsp, fun i y hi => ?_⟩
    have hil : i < ys.length := (List.getElem?_eq_some_iff.1 hi).1
    have hc := (hV i (by omega)).1
    rw [add_at (hsp (by omega))] at hc
    exact ⟨V i, hc, hys.2 i y hi⟩

theorem isB_of_isS {v : Value} {ys : List UInt8} (h : isS (fun _ u c => u = bval c) w v ys) : isB w v ys := by
  obtain ⟨ao, cap, rfl, h1, h2, h3, h4⟩ := h
  refine ⟨ao, cap, rfl, h1, h2, h3, fun a ha => ⟨(h4 a ha).1, fun i hi => ?_⟩⟩
  obtain ⟨u, hu, rfl⟩ := (h4 a ha).2 i ys[i] (by simp)
  exact hu

theorem isB_of_trod (fuel : Nat) (v : Value) (x : DataW H × List MemPlace) (h : DataW.trod enc Try.prog w base (fun _ => true) true fuel 40 [v] = some x) : ∃ ys, isB w v ys := by
  obtain ⟨ys, hy⟩ := isS_of_trod (fun _ u c => u = bval c) Try.underlying40 (by kernel_rfl) (fun fuel v x hx => by
    obtain ⟨n, hv, -, hw⟩ := DataW.trod_int Try.underlying5 hx
    obtain ⟨c, rfl⟩ := byte_of_wf hw
    exact ⟨c, by simpa [bval] using hv⟩) fuel v x h
  exact ⟨ys, isB_of_isS hy⟩

theorem isBs_of_trod (fuel : Nat) (v : Value) (x : DataW H × List MemPlace) (h : DataW.trod enc Try.prog w base (fun _ => true) true fuel 37 [v] = some x) : ∃ ys, isBs w v ys :=
  isS_of_trod isB Try.underlying37 (by kernel_rfl) isB_of_trod fuel v x h

theorem isBss_of_trod (fuel : Nat) (v : Value) (x : DataW H × List MemPlace) (h : DataW.trod enc Try.prog w base (fun _ => true) true fuel 23 [v] = some x) : ∃ ys, isBss w v ys :=
  isS_of_trod isBs Try.underlying23 (by kernel_rfl) isBs_of_trod fuel v x h
end
end Go.Proofs.Ytobpjldpkgioaaa
