/- record: Same -/
import Derived.Test.YtobpjldpkgioaaaRef01b
import Derived.Laws.ResultCell
set_option linter.unusedVariables false
set_option linter.unusedSimpArgs false
namespace Go.Proofs.Ytobpjldpkgioaaa
open Go.RowKit

/-- a record -/
structure Rec where
  kind : UInt8
  id : Int
  base : Int
  from_ : Int
  to : Int
  blocks : List UInt8
  count : Int
  len : Nat
  sum : Nat
deriving DecidableEq

/-- its nine cells, v its blocks -/
def recC (x : Rec) (v : Value) : Array Value := #[.int .u8 x.kind.toNat, .int .i64 x.id, .int .i64 x.base, .int .i64 x.from_, .int .i64 x.to, v, .int .i64 x.count, .int .u64 x.len, .int .u64 x.sum]

/-- the bool that says whether p -/
def IsB (p : Prop) (e : Ending) : Prop := ∃ b, e = .returned (.bool b) ∧ (b = true ↔ p)

set_option maxHeartbeats 1000000 in
set_option maxRecDepth 100000 in
theorem same_rec (w : World) (x y : Rec) (v1 v2 : Value) (h1 : isB w v1 x.blocks) (h2 : isB w v2 y.blocks) :
    Calls Try.prog 53 #[.agg (recC x v1), .agg (recC y v2)] w fun e w' => IsB (x = y) e ∧ Below w.heap.size w w' := by
  obtain ⟨k1, i1, b1, f1, t1, l1, c1, n1, s1⟩ := x
  obtain ⟨k2, i2, b2, f2, t2, l2, c2, n2, s2⟩ := y
  dsimp only [recC] at *
  obtain ⟨ao1, cap1, rfl, -, -⟩ := h1.shape rfl
  obtain ⟨ao2, cap2, rfl, -, -⟩ := h2.shape rfl
  have q1 := fun o1 o2 => run_string ((h1.alloc o1).alloc o2) 40 5 Try.underlying40 Try.underlying5 9 Try.underlying9
  have q2 := fun o1 o2 => run_string ((h2.alloc o1).alloc o2) 40 5 Try.underlying40 Try.underlying5 9 Try.underlying9
  clear h1 h2
  go_enter Try.func53, Try.ntmps53
  go_wp2
  all_goals go_ret
  all_goals refine ⟨⟨_, rfl, ?_⟩, (below_alloc w _).alloc (by simp) _⟩
  all_goals clear q1 q2
  all_goals simp only [Rec.mk.injEq, str_toList, Int.natCast_inj, UInt8.toNat_inj] at *
  all_goals simp only [*, and_self, and_true, true_and, false_and, and_false, iff_true, iff_false, not_false_eq_true, reduceCtorEq]

def RdataPost (w : World) (from_ : Int) (bs : List UInt8) (v : Value) (e : Ending) (w' : World) : Prop :=
  Below w.heap.size w w' ∧ if bs.length / 32 < 1 ∨ 4 < bs.length / 32 ∨ bs.length % 32 ≠ 0 ∨ 256 < from_ + (bs.length / 32 : Nat) then e = .returned (.tuple #[.agg (recC ⟨0, 0, 0, 0, 0, [], 0, 0, 0⟩ (.slice none 0 0)), .int .i64 3])
    else e = .returned (.tuple #[.agg (recC ⟨2, 0, 0, from_, from_ + (bs.length / 32 : Nat), bs, 0, 0, 0⟩ v), .int .i64 0])

set_option maxHeartbeats 1000000 in
set_option maxRecDepth 100000 in
theorem rdata_spec (w : World) (f : Nat) (v : Value) (bs : List UInt8) (hf : f < 256) (hb : isB w v bs) :
    Calls Try.prog 122 #[.int .i64 f, v] w (RdataPost w f bs v) := by
  obtain ⟨ao, cap, rfl, -, -⟩ := hb.shape rfl
  have hlen := hb.len
  simp only [maxLen] at hlen
  clear hb
  go_enter Try.func122, Try.ntmps122
  go_wp2
  all_goals refine bodyPost_ret (v := .tuple #[.agg _, .int .i64 _]) (by rw [results_cell_tmp rfl]; go_simp; exact ⟨rfl, rfl⟩) rfl ?_
  all_goals refine ⟨below_alloc w _, ?_⟩
  all_goals first
    | (rw [if_pos (by omega)]; rfl)
    | (rw [if_neg (by omega)]; simp [recC])
end Go.Proofs.Ytobpjldpkgioaaa
