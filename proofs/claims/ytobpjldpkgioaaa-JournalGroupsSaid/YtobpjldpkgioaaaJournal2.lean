/- journal: read, Open, Append and the small ones -/
import Derived.Test.YtobpjldpkgioaaaJournal
import Derived.Deep.RegionHeld3
import Derived.Test.YtobpjldpkgioaaaSeq
namespace Go.Proofs.Ytobpjldpkgioaaa
open Go.RowKit

/-- the entry of a sector of a number; whether it is a group's last -/
def jread (b : List UInt8) (n : Nat) : Option (List UInt8 × Bool) :=
  if b.take 8 = leb 8 n ∧ b.drop 56 = leb 8 n then
    if 1 < (b.getD 8 0).toNat ∨ (b.getD 9 0).toNat < 1 ∨ 46 < (b.getD 9 0).toNat then none
    else some ((b.drop 10).take (b.getD 9 0).toNat, decide ((b.getD 8 0).toNat = 1))
  else none

set_option maxHeartbeats 1000000 in
set_option maxRecDepth 100000 in
theorem read_no1 (w : World) (g : Nat) (b : List UInt8) (n : Nat) (hb : isB w (.slice (some ⟨g, 0, none⟩) 64 64) b) (hl : b.length = 64) (h1 : ¬ b.take 8 = leb 8 n) :
    Calls Try.prog 65 #[.slice (some ⟨g, 0, none⟩) 64 64, .int .u64 n] w fun e w' => e = .returned (.tuple #[.slice none 0 0, .bool false, .bool false]) ∧ Below w.heap.size w w' := by
  have HB := Lib.hid hb
  have q8 : ∀ wx, isB wx (.slice (some ⟨g, 0, none⟩) 64 64) b → (convert 40 9 (.slice (some ⟨g, 0, none⟩) 8 64)).run Try.prog wx = .ok (.string (str (b.take 8))) wx := fun wx h =>
    run_string (h.take (by decide)) _ _ Try.underlying40 Try.underlying5 _ Try.underlying9
  have q56 : ∀ wx, isB wx (.slice (some ⟨g, 0, none⟩) 64 64) b → (convert 40 9 (.slice (some ⟨g, 56, none⟩) 8 8)).run Try.prog wx = .ok (.string (str (b.drop 56))) wx := fun wx h => by
    have := h.cut (l := 56) (hh := 64) (m := 64) (by decide) (by decide) (by decide) (by decide)
    rw [List.take_of_length_le (by simp [hl])] at this
    have e : sliced (some ⟨g, 0, none⟩) 56 64 64 1 = .slice (some ⟨g, 56, none⟩) 8 8 := rfl
    rw [e] at this
    exact run_string this _ _ Try.underlying40 Try.underlying5 _ Try.underlying9
  have hne := str_beq_false h1
  clear h1
  go_enter Try.func65, Try.ntmps65
  go_wp2
  refine wp_region_seq (fun wx => isB wx (.slice (some ⟨g, 0, none⟩) 64 64) b) [(0, true), (1, true), (2, true), (3, true), (4, true), (5, true), (6, true), (7, true), (8, false), (9, false), (10, true), (11, true), (12, true), (13, true), (14, true), (15, true), (16, true), (17, true), (18, true), (19, true), (20, true)] (by kernel_rfl) (by kernel_rfl) (fun c a d v w h => by cases d <;> exact h) (HB.out.drew) ?_
  simp only [pickSeq, List.map_cons, List.map_nil, List.getD_cons_zero, List.getD_cons_succ]
  have hHeld := (HB.out.drew)
  refine seq_take (v := ?_) (by rfl) (fun wx hSw => ?_) ?_; rotate_left; (go_simp <;> try with_reducible rfl); (try simp only [Act.put, List.setIfInBounds_toArray, List.set_cons_zero, List.set_cons_succ])
  refine seq_take (v := ?_) (by rfl) (fun wx hSw => ?_) ?_; rotate_left; (go_simp <;> try with_reducible rfl); (try simp only [Act.put, List.setIfInBounds_toArray, List.set_cons_zero, List.set_cons_succ])
  refine seq_take (v := ?_) (by rfl) (fun wx hSw => ?_) ?_; rotate_left; (go_simp <;> try with_reducible rfl); (try simp only [Act.put, List.setIfInBounds_toArray, List.set_cons_zero, List.set_cons_succ])
  refine seq_take (v := ?_) (by rfl) (fun wx hSw => ?_) ?_; rotate_left; (go_simp <;> try with_reducible rfl); (try simp only [Act.put, List.setIfInBounds_toArray, List.set_cons_zero, List.set_cons_succ])
  refine seq_take (v := ?_) (by rfl) (fun wx hSw => ?_) ?_; rotate_left; (go_simp <;> try with_reducible rfl); (try simp only [Act.put, List.setIfInBounds_toArray, List.set_cons_zero, List.set_cons_succ])
  refine seq_take (v := ?_) (by rfl) (fun wx hSw => ?_) ?_; rotate_left; (go_simp <;> try with_reducible rfl); (try simp only [Act.put, List.setIfInBounds_toArray, List.set_cons_zero, List.set_cons_succ])
  refine seq_take (v := ?_) (by rfl) (fun wx hSw => ?_) ?_; rotate_left; (go_simp <;> try with_reducible rfl); (try simp only [Act.put, List.setIfInBounds_toArray, List.set_cons_zero, List.set_cons_succ])
  refine seq_take (v := ?_) (by rfl) (fun wx hSw => ?_) ?_; rotate_left; (go_simp <;> try with_reducible rfl); (try simp only [Act.put, List.setIfInBounds_toArray, List.set_cons_zero, List.set_cons_succ])
  refine seq_run (fun K hK => ?_); go_simp; go_at_call 110; refine (number8_spec _ n).mono ?_; rintro e w1 ⟨⟨rfl, hr1⟩, hb1⟩; have q9w1 : (convert 40 9 (.slice (some ⟨w.heap.size, 0, none⟩) 8 8)).run Try.prog w1 = .ok (.string (str (leb 8 n))) w1 := run_string (leb8_isB hr1) 40 5 Try.underlying40 Try.underlying5 9 Try.underlying9; refine hK.out _ _ (hHeld.below hb1) (fun hHeld => ?_); clear hK K; (try simp only [Act.put, List.setIfInBounds_toArray, List.set_cons_zero, List.set_cons_succ])
  refine seq_run (fun K hK => ?_); go_simp; skip; refine hK.out _ _ (hHeld) (fun hHeld => ?_); clear hK K; (try simp only [Act.put, List.setIfInBounds_toArray, List.set_cons_zero, List.set_cons_succ])
  refine seq_take (v := ?_) (by rfl) (fun wx hSw => ?_) ?_; rotate_left; (go_simp <;> try with_reducible rfl); (try simp only [Act.put, List.setIfInBounds_toArray, List.set_cons_zero, List.set_cons_succ])
  refine seq_take (v := ?_) (by rfl) (fun wx hSw => ?_) ?_; rotate_left; (go_simp <;> try with_reducible rfl); (try simp only [Act.put, List.setIfInBounds_toArray, List.set_cons_zero, List.set_cons_succ])
  refine seq_take (v := ?_) (by rfl) (fun wx hSw => ?_) ?_; rotate_left; (go_simp <;> try with_reducible rfl); (try simp only [Act.put, List.setIfInBounds_toArray, List.set_cons_zero, List.set_cons_succ])
  refine seq_skip (by rfl) ?_; (try simp only [Act.put, List.setIfInBounds_toArray, List.set_cons_zero, List.set_cons_succ])
  refine seq_skip (by rfl) ?_; (try simp only [Act.put, List.setIfInBounds_toArray, List.set_cons_zero, List.set_cons_succ])
  refine seq_skip (by rfl) ?_; (try simp only [Act.put, List.setIfInBounds_toArray, List.set_cons_zero, List.set_cons_succ])
  refine seq_skip (by rfl) ?_; (try simp only [Act.put, List.setIfInBounds_toArray, List.set_cons_zero, List.set_cons_succ])
  refine seq_skip (by rfl) ?_; (try simp only [Act.put, List.setIfInBounds_toArray, List.set_cons_zero, List.set_cons_succ])
  refine seq_skip (by rfl) ?_; (try simp only [Act.put, List.setIfInBounds_toArray, List.set_cons_zero, List.set_cons_succ])
  refine seq_skip (by rfl) ?_; (try simp only [Act.put, List.setIfInBounds_toArray, List.set_cons_zero, List.set_cons_succ])
  refine seq_take (v := ?_) (by rfl) (fun wx hSw => ?_) ?_; rotate_left; (go_simp <;> try with_reducible rfl); (try simp only [Act.put, List.setIfInBounds_toArray, List.set_cons_zero, List.set_cons_succ])
  refine seq_nil ?_
  go_wp2
  go_ret3
  exact ⟨rfl, ((Below.refl _ w).drew).trans hb1⟩

set_option maxHeartbeats 1000000 in
set_option maxRecDepth 100000 in
theorem read_no2 (w : World) (g : Nat) (b : List UInt8) (n : Nat) (hb : isB w (.slice (some ⟨g, 0, none⟩) 64 64) b) (hl : b.length = 64) (h1 : b.take 8 = leb 8 n) (h2 : ¬ b.drop 56 = leb 8 n) :
    Calls Try.prog 65 #[.slice (some ⟨g, 0, none⟩) 64 64, .int .u64 n] w fun e w' => e = .returned (.tuple #[.slice none 0 0, .bool false, .bool false]) ∧ Below w.heap.size w w' := by
  have HB := Lib.hid hb
  have q8 : ∀ wx, isB wx (.slice (some ⟨g, 0, none⟩) 64 64) b → (convert 40 9 (.slice (some ⟨g, 0, none⟩) 8 64)).run Try.prog wx = .ok (.string (str (b.take 8))) wx := fun wx h =>
    run_string (h.take (by decide)) _ _ Try.underlying40 Try.underlying5 _ Try.underlying9
  have q56 : ∀ wx, isB wx (.slice (some ⟨g, 0, none⟩) 64 64) b → (convert 40 9 (.slice (some ⟨g, 56, none⟩) 8 8)).run Try.prog wx = .ok (.string (str (b.drop 56))) wx := fun wx h => by
    have := h.cut (l := 56) (hh := 64) (m := 64) (by decide) (by decide) (by decide) (by decide)
    rw [List.take_of_length_le (by simp [hl])] at this
    have e : sliced (some ⟨g, 0, none⟩) 56 64 64 1 = .slice (some ⟨g, 56, none⟩) 8 8 := rfl
    rw [e] at this
    exact run_string this _ _ Try.underlying40 Try.underlying5 _ Try.underlying9
  have heq := str_beq_true h1
  have hne := str_beq_false h2
  clear h1 h2
  go_enter Try.func65, Try.ntmps65
  go_wp2
  refine wp_region_seq (fun wx => isB wx (.slice (some ⟨g, 0, none⟩) 64 64) b) [(0, true), (1, true), (2, true), (3, true), (4, true), (5, true), (6, true), (7, true), (8, false), (9, false), (10, true), (11, true), (12, true), (13, true), (14, true), (15, true), (16, true), (17, false), (18, false), (19, true), (20, true)] (by kernel_rfl) (by kernel_rfl) (fun c a d v w h => by cases d <;> exact h) (HB.out.drew) ?_
  simp only [pickSeq, List.map_cons, List.map_nil, List.getD_cons_zero, List.getD_cons_succ]
  have hHeld := (HB.out.drew)
  refine seq_take (v := ?_) (by rfl) (fun wx hSw => ?_) ?_; rotate_left; (go_simp <;> try with_reducible rfl); (try simp only [Act.put, List.setIfInBounds_toArray, List.set_cons_zero, List.set_cons_succ])
  refine seq_take (v := ?_) (by rfl) (fun wx hSw => ?_) ?_; rotate_left; (go_simp <;> try with_reducible rfl); (try simp only [Act.put, List.setIfInBounds_toArray, List.set_cons_zero, List.set_cons_succ])
  refine seq_take (v := ?_) (by rfl) (fun wx hSw => ?_) ?_; rotate_left; (go_simp <;> try with_reducible rfl); (try simp only [Act.put, List.setIfInBounds_toArray, List.set_cons_zero, List.set_cons_succ])
  refine seq_take (v := ?_) (by rfl) (fun wx hSw => ?_) ?_; rotate_left; (go_simp <;> try with_reducible rfl); (try simp only [Act.put, List.setIfInBounds_toArray, List.set_cons_zero, List.set_cons_succ])
  refine seq_take (v := ?_) (by rfl) (fun wx hSw => ?_) ?_; rotate_left; (go_simp <;> try with_reducible rfl); (try simp only [Act.put, List.setIfInBounds_toArray, List.set_cons_zero, List.set_cons_succ])
  refine seq_take (v := ?_) (by rfl) (fun wx hSw => ?_) ?_; rotate_left; (go_simp <;> try with_reducible rfl); (try simp only [Act.put, List.setIfInBounds_toArray, List.set_cons_zero, List.set_cons_succ])
  refine seq_take (v := ?_) (by rfl) (fun wx hSw => ?_) ?_; rotate_left; (go_simp <;> try with_reducible rfl); (try simp only [Act.put, List.setIfInBounds_toArray, List.set_cons_zero, List.set_cons_succ])
  refine seq_take (v := ?_) (by rfl) (fun wx hSw => ?_) ?_; rotate_left; (go_simp <;> try with_reducible rfl); (try simp only [Act.put, List.setIfInBounds_toArray, List.set_cons_zero, List.set_cons_succ])
  refine seq_run (fun K hK => ?_); go_simp; go_at_call 110; refine (number8_spec _ n).mono ?_; rintro e w1 ⟨⟨rfl, hr1⟩, hb1⟩; have q9w1 : (convert 40 9 (.slice (some ⟨w.heap.size, 0, none⟩) 8 8)).run Try.prog w1 = .ok (.string (str (leb 8 n))) w1 := run_string (leb8_isB hr1) 40 5 Try.underlying40 Try.underlying5 9 Try.underlying9; refine hK.out _ _ (hHeld.below hb1) (fun hHeld => ?_); clear hK K; (try simp only [Act.put, List.setIfInBounds_toArray, List.set_cons_zero, List.set_cons_succ])
  refine seq_run (fun K hK => ?_); go_simp; skip; refine hK.out _ _ (hHeld) (fun hHeld => ?_); clear hK K; (try simp only [Act.put, List.setIfInBounds_toArray, List.set_cons_zero, List.set_cons_succ])
  refine seq_take (v := ?_) (by rfl) (fun wx hSw => ?_) ?_; rotate_left; (go_simp <;> try with_reducible rfl); (try simp only [Act.put, List.setIfInBounds_toArray, List.set_cons_zero, List.set_cons_succ])
  refine seq_take (v := ?_) (by rfl) (fun wx hSw => ?_) ?_; rotate_left; (go_simp <;> try with_reducible rfl); (try simp only [Act.put, List.setIfInBounds_toArray, List.set_cons_zero, List.set_cons_succ])
  refine seq_take (v := ?_) (by rfl) (fun wx hSw => ?_) ?_; rotate_left; (go_simp <;> try with_reducible rfl); (try simp only [Act.put, List.setIfInBounds_toArray, List.set_cons_zero, List.set_cons_succ])
  refine seq_take (v := ?_) (by rfl) (fun wx hSw => ?_) ?_; rotate_left; (go_simp <;> try with_reducible rfl); (try simp only [Act.put, List.setIfInBounds_toArray, List.set_cons_zero, List.set_cons_succ])
  refine seq_take (v := ?_) (by rfl) (fun wx hSw => ?_) ?_; rotate_left; (go_simp <;> try with_reducible rfl); (try simp only [Act.put, List.setIfInBounds_toArray, List.set_cons_zero, List.set_cons_succ])
  refine seq_take (v := ?_) (by rfl) (fun wx hSw => ?_) ?_; rotate_left; (go_simp <;> try with_reducible rfl); (try simp only [Act.put, List.setIfInBounds_toArray, List.set_cons_zero, List.set_cons_succ])
  refine seq_take (v := ?_) (by rfl) (fun wx hSw => ?_) ?_; rotate_left; (go_simp <;> try with_reducible rfl); (try simp only [Act.put, List.setIfInBounds_toArray, List.set_cons_zero, List.set_cons_succ])
  refine seq_run (fun K hK => ?_); go_simp; go_at_call 110; refine (number8_spec _ n).mono ?_; rintro e w2 ⟨⟨rfl, hr2⟩, hb2⟩; have q9w2 : (convert 40 9 (.slice (some ⟨w1.heap.size, 0, none⟩) 8 8)).run Try.prog w2 = .ok (.string (str (leb 8 n))) w2 := run_string (leb8_isB hr2) 40 5 Try.underlying40 Try.underlying5 9 Try.underlying9; refine hK.out _ _ (hHeld.below hb2) (fun hHeld => ?_); clear hK K; (try simp only [Act.put, List.setIfInBounds_toArray, List.set_cons_zero, List.set_cons_succ])
  refine seq_run (fun K hK => ?_); go_simp; skip; refine hK.out _ _ (hHeld) (fun hHeld => ?_); clear hK K; (try simp only [Act.put, List.setIfInBounds_toArray, List.set_cons_zero, List.set_cons_succ])
  refine seq_take (v := ?_) (by rfl) (fun wx hSw => ?_) ?_; rotate_left; (go_simp <;> try with_reducible rfl); (try simp only [Act.put, List.setIfInBounds_toArray, List.set_cons_zero, List.set_cons_succ])
  refine seq_take (v := ?_) (by rfl) (fun wx hSw => ?_) ?_; rotate_left; (go_simp <;> try with_reducible rfl); (try simp only [Act.put, List.setIfInBounds_toArray, List.set_cons_zero, List.set_cons_succ])
  refine seq_nil ?_
  go_wp2
  go_ret3
  exact ⟨rfl, (((Below.refl _ w).drew).trans hb1).trans (hb2.mono hb1.size)⟩

def ReadYes (w : World) (g : Nat) (b : List UInt8) (e : Ending) (w' : World) : Prop :=
  Below w.heap.size w w' ∧ if 1 < (b.getD 8 0).toNat ∨ (b.getD 9 0).toNat < 1 ∨ 46 < (b.getD 9 0).toNat then e = .returned (.tuple #[.slice none 0 0, .bool false, .bool false])
    else e = .returned (.tuple #[.slice (some ⟨g, 10, none⟩) (b.getD 9 0).toNat 54, .bool (decide ((b.getD 8 0).toNat = 1)), .bool true])

set_option maxHeartbeats 1000000 in
set_option maxRecDepth 100000 in
theorem read_yes (w : World) (g : Nat) (b : List UInt8) (n : Nat) (hb : isB w (.slice (some ⟨g, 0, none⟩) 64 64) b) (hl : b.length = 64) (h1 : b.take 8 = leb 8 n) (h2 : b.drop 56 = leb 8 n) :
    Calls Try.prog 65 #[.slice (some ⟨g, 0, none⟩) 64 64, .int .u64 n] w (ReadYes w g b) := by
  have HB := Lib.hid hb
  have q8 : ∀ wx, isB wx (.slice (some ⟨g, 0, none⟩) 64 64) b → (convert 40 9 (.slice (some ⟨g, 0, none⟩) 8 64)).run Try.prog wx = .ok (.string (str (b.take 8))) wx := fun wx h =>
    run_string (h.take (by decide)) _ _ Try.underlying40 Try.underlying5 _ Try.underlying9
  have q56 : ∀ wx, isB wx (.slice (some ⟨g, 0, none⟩) 64 64) b → (convert 40 9 (.slice (some ⟨g, 56, none⟩) 8 8)).run Try.prog wx = .ok (.string (str (b.drop 56))) wx := fun wx h => by
    have := h.cut (l := 56) (hh := 64) (m := 64) (by decide) (by decide) (by decide) (by decide)
    rw [List.take_of_length_le (by simp [hl])] at this
    have e : sliced (some ⟨g, 0, none⟩) 56 64 64 1 = .slice (some ⟨g, 56, none⟩) 8 8 := rfl
    rw [e] at this
    exact run_string this _ _ Try.underlying40 Try.underlying5 _ Try.underlying9
  have heq := str_beq_true h1
  have heq2 := str_beq_true h2
  clear h1 h2
  obtain ⟨x8, hx8⟩ : ∃ c, b[8]? = some c := ⟨_, List.getElem?_eq_getElem (by omega)⟩
  obtain ⟨x9, hx9⟩ : ∃ c, b[9]? = some c := ⟨_, List.getElem?_eq_getElem (by omega)⟩
  have g8 : b.getD 8 0 = x8 := by simp [List.getD, hx8]
  have g9 : b.getD 9 0 = x9 := by simp [List.getD, hx9]
  have cell : ∀ wx, isB wx (.slice (some ⟨g, 0, none⟩) 64 64) b → wx.cell? ⟨g, 8, none⟩ = some (.int .u8 (x8.toNat : Int)) ∧ wx.cell? ⟨g, 9, none⟩ = some (.int .u8 (x9.toNat : Int)) := fun wx h => by
    obtain ⟨b', off, e1, e2⟩ := h.at (j := 8) (by omega)
    simp only [Option.some.injEq, Addr.mk.injEq] at e1
    obtain ⟨rfl, rfl, -⟩ := e1
    have a := e2 8 x8 hx8
    have c := e2 9 x9 hx9
    simp only [Nat.zero_add] at a c
    exact ⟨a, c⟩
  have b8 := x8.toNat_lt
  have b9 := x9.toNat_lt
  have HC := Lib.hid cell
  clear cell hx8 hx9
  have HG8 := Lib.hid g8
  have HG9 := Lib.hid g9
  clear g8 g9
  go_enter Try.func65, Try.ntmps65
  go_wp2
  refine wp_region_seq (fun wx => isB wx (.slice (some ⟨g, 0, none⟩) 64 64) b) [(0, true), (1, true), (2, true), (3, true), (4, true), (5, true), (6, true), (7, true), (8, false), (9, false), (10, true), (11, true), (12, true), (13, true), (14, true), (15, true), (16, true), (17, false), (18, false), (19, true), (20, true)] (by kernel_rfl) (by kernel_rfl) (fun c a d v w h => by cases d <;> exact h) (HB.out.drew) ?_
  simp only [pickSeq, List.map_cons, List.map_nil, List.getD_cons_zero, List.getD_cons_succ]
  have hHeld := (HB.out.drew)
  refine seq_take (v := ?_) (by rfl) (fun wx hSw => ?_) ?_; rotate_left; (go_simp <;> try with_reducible rfl); (try simp only [Act.put, List.setIfInBounds_toArray, List.set_cons_zero, List.set_cons_succ])
  refine seq_take (v := ?_) (by rfl) (fun wx hSw => ?_) ?_; rotate_left; (go_simp <;> try with_reducible rfl); (try simp only [Act.put, List.setIfInBounds_toArray, List.set_cons_zero, List.set_cons_succ])
  refine seq_take (v := ?_) (by rfl) (fun wx hSw => ?_) ?_; rotate_left; (go_simp <;> try with_reducible rfl); (try simp only [Act.put, List.setIfInBounds_toArray, List.set_cons_zero, List.set_cons_succ])
  refine seq_take (v := ?_) (by rfl) (fun wx hSw => ?_) ?_; rotate_left; (go_simp <;> try with_reducible rfl); (try simp only [Act.put, List.setIfInBounds_toArray, List.set_cons_zero, List.set_cons_succ])
  refine seq_take (v := ?_) (by rfl) (fun wx hSw => ?_) ?_; rotate_left; (go_simp <;> try with_reducible rfl); (try simp only [Act.put, List.setIfInBounds_toArray, List.set_cons_zero, List.set_cons_succ])
  refine seq_take (v := ?_) (by rfl) (fun wx hSw => ?_) ?_; rotate_left; (go_simp <;> try with_reducible rfl); (try simp only [Act.put, List.setIfInBounds_toArray, List.set_cons_zero, List.set_cons_succ])
  refine seq_take (v := ?_) (by rfl) (fun wx hSw => ?_) ?_; rotate_left; (go_simp <;> try with_reducible rfl); (try simp only [Act.put, List.setIfInBounds_toArray, List.set_cons_zero, List.set_cons_succ])
  refine seq_take (v := ?_) (by rfl) (fun wx hSw => ?_) ?_; rotate_left; (go_simp <;> try with_reducible rfl); (try simp only [Act.put, List.setIfInBounds_toArray, List.set_cons_zero, List.set_cons_succ])
  refine seq_run (fun K hK => ?_); go_simp; go_at_call 110; refine (number8_spec _ n).mono ?_; rintro e w1 ⟨⟨rfl, hr1⟩, hb1⟩; have q9w1 : (convert 40 9 (.slice (some ⟨w.heap.size, 0, none⟩) 8 8)).run Try.prog w1 = .ok (.string (str (leb 8 n))) w1 := run_string (leb8_isB hr1) 40 5 Try.underlying40 Try.underlying5 9 Try.underlying9; refine hK.out _ _ (hHeld.below hb1) (fun hHeld => ?_); clear hK K; (try simp only [Act.put, List.setIfInBounds_toArray, List.set_cons_zero, List.set_cons_succ])
  refine seq_run (fun K hK => ?_); go_simp; skip; refine hK.out _ _ (hHeld) (fun hHeld => ?_); clear hK K; (try simp only [Act.put, List.setIfInBounds_toArray, List.set_cons_zero, List.set_cons_succ])
  refine seq_take (v := ?_) (by rfl) (fun wx hSw => ?_) ?_; rotate_left; (go_simp <;> try with_reducible rfl); (try simp only [Act.put, List.setIfInBounds_toArray, List.set_cons_zero, List.set_cons_succ])
  refine seq_take (v := ?_) (by rfl) (fun wx hSw => ?_) ?_; rotate_left; (go_simp <;> try with_reducible rfl); (try simp only [Act.put, List.setIfInBounds_toArray, List.set_cons_zero, List.set_cons_succ])
  refine seq_take (v := ?_) (by rfl) (fun wx hSw => ?_) ?_; rotate_left; (go_simp <;> try with_reducible rfl); (try simp only [Act.put, List.setIfInBounds_toArray, List.set_cons_zero, List.set_cons_succ])
  refine seq_take (v := ?_) (by rfl) (fun wx hSw => ?_) ?_; rotate_left; (go_simp <;> try with_reducible rfl); (try simp only [Act.put, List.setIfInBounds_toArray, List.set_cons_zero, List.set_cons_succ])
  refine seq_take (v := ?_) (by rfl) (fun wx hSw => ?_) ?_; rotate_left; (go_simp <;> try with_reducible rfl); (try simp only [Act.put, List.setIfInBounds_toArray, List.set_cons_zero, List.set_cons_succ])
  refine seq_take (v := ?_) (by rfl) (fun wx hSw => ?_) ?_; rotate_left; (go_simp <;> try with_reducible rfl); (try simp only [Act.put, List.setIfInBounds_toArray, List.set_cons_zero, List.set_cons_succ])
  refine seq_take (v := ?_) (by rfl) (fun wx hSw => ?_) ?_; rotate_left; (go_simp <;> try with_reducible rfl); (try simp only [Act.put, List.setIfInBounds_toArray, List.set_cons_zero, List.set_cons_succ])
  refine seq_run (fun K hK => ?_); go_simp; go_at_call 110; refine (number8_spec _ n).mono ?_; rintro e w2 ⟨⟨rfl, hr2⟩, hb2⟩; have q9w2 : (convert 40 9 (.slice (some ⟨w1.heap.size, 0, none⟩) 8 8)).run Try.prog w2 = .ok (.string (str (leb 8 n))) w2 := run_string (leb8_isB hr2) 40 5 Try.underlying40 Try.underlying5 9 Try.underlying9; refine hK.out _ _ (hHeld.below hb2) (fun hHeld => ?_); clear hK K; (try simp only [Act.put, List.setIfInBounds_toArray, List.set_cons_zero, List.set_cons_succ])
  refine seq_run (fun K hK => ?_); go_simp; skip; refine hK.out _ _ (hHeld) (fun hHeld => ?_); clear hK K; (try simp only [Act.put, List.setIfInBounds_toArray, List.set_cons_zero, List.set_cons_succ])
  refine seq_take (v := ?_) (by rfl) (fun wx hSw => ?_) ?_; rotate_left; (go_simp <;> try with_reducible rfl); (try simp only [Act.put, List.setIfInBounds_toArray, List.set_cons_zero, List.set_cons_succ])
  refine seq_take (v := ?_) (by rfl) (fun wx hSw => ?_) ?_; rotate_left; (go_simp <;> try with_reducible rfl); (try simp only [Act.put, List.setIfInBounds_toArray, List.set_cons_zero, List.set_cons_succ])
  refine seq_nil ?_
  have Hheld := Lib.hid hHeld
  obtain ⟨c8, c9⟩ := HC.out w2 hHeld
  have HB2 : Hid (Below w.heap.size w w2) := (((Below.refl _ w).drew).trans hb1).trans (hb2.mono hb1.size)
  clear hHeld hr1 hr2 q9w1 q9w2 hb1 hb2 heq heq2
  go_wp2
  go_quiet (fail)
  go_wp2
  all_goals (go_ret3; refine ⟨below_drewN HB2.out _, ?_⟩; rw [HG8.out, HG9.out])
  all_goals first
    | (rw [if_pos (by omega)]; rfl)
    | (rw [if_neg (by omega)]
       show Ending.returned (.tuple #[.slice (some ⟨g, 10, none⟩) (10 + x9.toNat - 10) 54, .bool ((x8.toNat : Int) == 1), .bool true]) = _
       rw [show 10 + x9.toNat - 10 = x9.toNat by omega, show (((x8.toNat : Nat) : Int) == 1) = decide (x8.toNat = 1) by by_cases h : x8.toNat = 1 <;> simp [h] <;> omega])

def NoEntry : Ending := .returned (.tuple #[.slice none 0 0, .bool false, .bool false])

def ReadPost (w : World) (g : Nat) (b : List UInt8) (n : Nat) (e : Ending) (w' : World) : Prop :=
  Below w.heap.size w w' ∧ match jread b n with
    | none => e = NoEntry
    | some x => e = .returned (.tuple #[.slice (some ⟨g, 10, none⟩) x.1.length 54, .bool x.2, .bool true])

theorem read_spec (w : World) (g : Nat) (b : List UInt8) (n : Nat) (hb : isB w (.slice (some ⟨g, 0, none⟩) 64 64) b) (hl : b.length = 64) :
    Calls Try.prog 65 #[.slice (some ⟨g, 0, none⟩) 64 64, .int .u64 n] w (ReadPost w g b n) := by
  by_cases h1 : b.take 8 = leb 8 n
  · by_cases h2 : b.drop 56 = leb 8 n
    · refine (read_yes w g b n hb hl h1 h2).mono fun e w' ⟨hw, he⟩ => ⟨hw, ?_⟩
      unfold jread
      rw [if_pos ⟨h1, h2⟩]
      split at he
      · rename_i h; rw [if_pos h]; exact he
      · rename_i h
        rw [if_neg h]
        simp only [List.length_take, List.length_drop, hl]
        rw [show min (b.getD 9 0).toNat (64 - 10) = (b.getD 9 0).toNat by omega, he]
    · refine (read_no2 w g b n hb hl h1 h2).mono fun e w' ⟨he, hw⟩ => ⟨hw, ?_⟩
      unfold jread; rw [if_neg (fun h => h2 h.2)]; exact he
  · refine (read_no1 w g b n hb hl h1).mono fun e w' ⟨he, hw⟩ => ⟨hw, ?_⟩
    unfold jread; rw [if_neg (fun h => h1 h.1)]; exact he

end Go.Proofs.Ytobpjldpkgioaaa
