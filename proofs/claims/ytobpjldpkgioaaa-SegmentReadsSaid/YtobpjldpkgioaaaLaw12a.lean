/- law12: Plain; ref12: Right -/
import Derived.Test.YtobpjldpkgioaaaRecord7
set_option linter.unusedVariables false
set_option linter.unusedSimpArgs false
namespace Go.Proofs.Ytobpjldpkgioaaa
open Go.RowKit

/-- the reference's record: its nine cells -/
def refC (x : Rec) : Array Value := #[.int .u8 x.kind.toNat, .int .i64 x.id, .int .i64 x.base, .int .i64 x.from_, .int .i64 x.to, .string (str x.blocks), .int .i64 x.count, .int .u64 x.len, .int .u64 x.sum]

set_option maxHeartbeats 1000000 in
set_option maxRecDepth 100000 in
theorem plain_spec (w : World) (x : Rec) (v : Value) (hb : isB w v x.blocks) :
    Calls Try.prog 47 #[.agg (recC x v)] w fun e w' => e = .returned (.agg (refC x)) ∧ Below w.heap.size w w' := by
  dsimp only [recC, refC]
  obtain ⟨ao, cap, rfl, -, -⟩ := hb.shape (n := x.blocks.length) rfl
  have q1 := fun o1 o2 => run_string ((hb.alloc o1).alloc o2) 40 5 Try.underlying40 Try.underlying5 9 Try.underlying9
  clear hb
  go_enter Try.func47, Try.ntmps47
  go_wp2
  refine bodyPost_ret (results_cell_row rfl _ _ (w.heap.size + 1) 104 _ (0, 0) _ rfl (heap_new _ _ (by simp)) Try.underlying104 rfl (by kernel_rfl)) rfl ?_
  exact ⟨rfl, (below_alloc w _).alloc (by simp) _⟩

/-- may a record be? -/
def right (x : Rec) : Prop :=
  if x.kind = 1 then x = ⟨x.kind, x.id, x.base, 0, 0, [], 0, 0, 0⟩ ∧ 0 ≤ x.id ∧ x.id ≤ 1099511627776 ∧ 0 ≤ x.base ∧ x.base ≤ 1099511627776
  else if x.kind = 2 then x = ⟨x.kind, 0, 0, x.from_, x.to, x.blocks, 0, 0, 0⟩ ∧ 0 ≤ x.from_ ∧ x.from_ < 256 ∧ 1 ≤ x.to - x.from_ ∧ x.to - x.from_ ≤ 4 ∧ x.to ≤ 256 ∧ (x.blocks.length : Int) = 32 * (x.to - x.from_)
  else if x.kind = 3 then x = ⟨x.kind, 0, 0, x.from_, x.to, [], 0, 0, 0⟩ ∧ 0 ≤ x.from_ ∧ x.from_ < x.to ∧ x.to ≤ 256
  else if x.kind = 4 then x = ⟨x.kind, 0, 0, 0, 0, [], x.count, x.len, x.sum⟩ ∧ 0 ≤ x.count ∧ x.count ≤ 1099511627776 ∧ x.len ≤ 1099511627776 ∧ x.sum < 2305843009213693951
  else False

/-- the numbers are of their kinds -/
structure RecIn (x : Rec) : Prop where
  id : -9223372036854775808 ≤ x.id ∧ x.id ≤ 9223372036854775807
  base : -9223372036854775808 ≤ x.base ∧ x.base ≤ 9223372036854775807
  from_ : -9223372036854775808 ≤ x.from_ ∧ x.from_ ≤ 9223372036854775807
  to : -9223372036854775808 ≤ x.to ∧ x.to ≤ 9223372036854775807
  count : -9223372036854775808 ≤ x.count ∧ x.count ≤ 9223372036854775807
  ok : RecOK x

set_option maxHeartbeats 1000000 in
set_option maxRecDepth 100000 in
theorem right_1 (w : World) (x : Rec) (hx : RecIn x) (hk : x.kind = 1) :
    Calls Try.prog 49 #[.agg (refC x)] w fun e w' => IsB (right x) e ∧ Below w.heap.size w w' := by
  rw [right, if_pos hk]
  obtain ⟨k, i, b, f, t, bl, c, l, s⟩ := x
  dsimp only at hk
  subst hk
  generalize hP : ((⟨1, i, b, f, t, bl, c, l, s⟩ : Rec) = ⟨1, i, b, 0, 0, [], 0, 0, 0⟩ ∧ _) = P
  have HP := Lib.hid hP
  clear hP hx
  dsimp only [refC]
  go_enter Try.func49, Try.ntmps49
  go_wp2
  all_goals go_ret
  all_goals
    refine ⟨⟨_, rfl, ?_⟩, ?_⟩
    · (rw [← HP.out]; clear HP; simp only [str_toList, Rec.mk.injEq, true_and, and_true, decide_eq_true_eq, Bool.false_eq_true, false_iff, true_iff] at *; first | (simp_all; done) | (simp_all; omega) | omega)
    · (repeat (first | exact Below.refl _ _ | exact below_alloc _ _ | refine Below.setCell ?_ (by first | exact Nat.le_refl _ | (simp; done) | (simp; omega)) _ | refine Below.alloc ?_ (by first | exact Nat.le_refl _ | (simp; done) | (simp; omega)) _))

set_option maxHeartbeats 4000000 in
set_option maxRecDepth 100000 in
theorem right_3 (w : World) (x : Rec) (hx : RecIn x) (hk : x.kind = 3) :
    Calls Try.prog 49 #[.agg (refC x)] w fun e w' => IsB (right x) e ∧ Below w.heap.size w w' := by
  rw [right, if_neg (by rw [hk]; decide), if_neg (by rw [hk]; decide), if_pos hk]
  obtain ⟨k, i, b, f, t, bl, c, l, s⟩ := x
  dsimp only at hk
  subst hk
  generalize hP : ((⟨3, i, b, f, t, bl, c, l, s⟩ : Rec) = ⟨3, 0, 0, f, t, [], 0, 0, 0⟩ ∧ _) = P
  have HP := Lib.hid hP
  have hf := hx.from_
  have ht := hx.to
  have hbl := hx.ok.blocks
  dsimp only at hf ht hbl
  clear hP hx
  dsimp only [refC]
  go_enter Try.func49, Try.ntmps49
  go_wp2
  all_goals go_ret
  all_goals
    refine ⟨⟨_, rfl, ?_⟩, ?_⟩
    · (rw [← HP.out]; clear HP; simp only [str_toList, Rec.mk.injEq, true_and, and_true, decide_eq_true_eq, Bool.false_eq_true, false_iff, true_iff] at *; first | (simp_all; done) | (simp_all; omega) | omega)
    · (repeat (first | exact Below.refl _ _ | exact below_alloc _ _ | refine Below.setCell ?_ (by first | exact Nat.le_refl _ | (simp; done) | (simp; omega)) _ | refine Below.alloc ?_ (by first | exact Nat.le_refl _ | (simp; done) | (simp; omega)) _))

set_option maxHeartbeats 4000000 in
set_option maxRecDepth 100000 in
theorem right_4 (w : World) (x : Rec) (hx : RecIn x) (hk : x.kind = 4) :
    Calls Try.prog 49 #[.agg (refC x)] w fun e w' => IsB (right x) e ∧ Below w.heap.size w w' := by
  rw [right, if_neg (by rw [hk]; decide), if_neg (by rw [hk]; decide), if_neg (by rw [hk]; decide), if_pos hk]
  obtain ⟨k, i, b, f, t, bl, c, l, s⟩ := x
  dsimp only at hk
  subst hk
  generalize hP : ((⟨4, i, b, f, t, bl, c, l, s⟩ : Rec) = ⟨4, 0, 0, 0, 0, [], c, l, s⟩ ∧ _) = P
  have HP := Lib.hid hP
  have hf := hx.from_
  have ht := hx.to
  have hbl := hx.ok.blocks
  dsimp only at hf ht hbl
  clear hP hx
  dsimp only [refC]
  go_enter Try.func49, Try.ntmps49
  go_wp2
  all_goals go_ret
  all_goals
    refine ⟨⟨_, rfl, ?_⟩, ?_⟩
    · (rw [← HP.out]; clear HP; simp only [str_toList, Rec.mk.injEq, true_and, and_true, decide_eq_true_eq, Bool.false_eq_true, false_iff, true_iff] at *; first | (simp_all; done) | (simp_all; omega) | omega)
    · (repeat (first | exact Below.refl _ _ | exact below_alloc _ _ | refine Below.setCell ?_ (by first | exact Nat.le_refl _ | (simp; done) | (simp; omega)) _ | refine Below.alloc ?_ (by first | exact Nat.le_refl _ | (simp; done) | (simp; omega)) _))

set_option maxHeartbeats 4000000 in
set_option maxRecDepth 100000 in
theorem right_0 (w : World) (x : Rec) (h1 : ¬ x.kind = 1) (h2 : ¬ x.kind = 2) (h3 : ¬ x.kind = 3) (h4 : ¬ x.kind = 4) :
    Calls Try.prog 49 #[.agg (refC x)] w fun e w' => IsB (right x) e ∧ Below w.heap.size w w' := by
  rw [right, if_neg h1, if_neg h2, if_neg h3, if_neg h4]
  have k1 : ((x.kind.toNat : Int) == 1) = false := by simp; intro h; exact h1 (UInt8.toNat_inj.1 (by simpa using (by exact_mod_cast h : x.kind.toNat = 1)))
  have k2 : ((x.kind.toNat : Int) == 2) = false := by simp; intro h; exact h2 (UInt8.toNat_inj.1 (by simpa using (by exact_mod_cast h : x.kind.toNat = 2)))
  have k3 : ((x.kind.toNat : Int) == 3) = false := by simp; intro h; exact h3 (UInt8.toNat_inj.1 (by simpa using (by exact_mod_cast h : x.kind.toNat = 3)))
  have k4 : ((x.kind.toNat : Int) == 4) = false := by simp; intro h; exact h4 (UInt8.toNat_inj.1 (by simpa using (by exact_mod_cast h : x.kind.toNat = 4)))
  clear h1 h2 h3 h4
  dsimp only [refC]
  go_enter Try.func49, Try.ntmps49
  go_wp2
  go_ret
  refine ⟨⟨_, rfl, by simp⟩, ?_⟩
  (repeat (first | exact Below.refl _ _ | exact below_alloc _ _ | refine Below.setCell ?_ (by first | exact Nat.le_refl _ | (simp; done) | (simp; omega)) _ | refine Below.alloc ?_ (by first | exact Nat.le_refl _ | (simp; done) | (simp; omega)) _))
end Go.Proofs.Ytobpjldpkgioaaa
