/- journal: Used, Room, Len, Next, Append -/
import Derived.Test.YtobpjldpkgioaaaJournal3
namespace Go.Proofs.Ytobpjldpkgioaaa
open Go.RowKit

/-- a journal in block j on a disk, n of its sectors used -/
structure isJD (w : World) (j : Nat) (k : Dk) (data : List UInt8) (base n : Nat) : Prop where
  disk : isD w k data
  head : isJ w j k.d base n

theorem isJD.chg {S : Nat → Prop} {w w' : World} {j : Nat} {k : Dk} {data : List UInt8} {b n : Nat} (h : isJD w j k data b n) (hc : Chg S w w') (hp : ¬ S k.p) (hd : ¬ S k.d) (hs : ¬ S k.s) (hj : ¬ S j) : isJD w' j k data b n :=
  ⟨h.disk.chg hc hp hd hs, h.head.chg hc hj⟩
theorem isJD.below {w w' : World} {j : Nat} {k : Dk} {data : List UInt8} {b n : Nat} (h : isJD w j k data b n) (hb : Below w.heap.size w w') : isJD w' j k data b n := ⟨h.disk.below hb, h.head.below hb⟩

theorem isJD.ne {w : World} {j : Nat} {k : Dk} {data : List UInt8} {b n : Nat} (h : isJD w j k data b n) : j ≠ k.p ∧ j ≠ k.d ∧ j ≠ k.s := by
  obtain ⟨a, t, ⟨c, hP⟩, -⟩ := h.disk.up
  have hJ := h.head
  unfold isJ at hJ
  refine ⟨fun e => ?_, fun e => ?_, fun e => ?_⟩
  · rw [e, hP] at hJ; simp at hJ
  · rw [e, h.disk.head] at hJ; simp at hJ
  · rw [e, h.disk.rows] at hJ; simp at hJ

theorem j_len (w : World) (j : Nat) (k : Dk) (data : List UInt8) (b n : Nat) (h : isJD w j k data b n) :
    Calls Try.prog 25 #[ptr j] w fun e w' => e = .returned (.int .i64 k.n) ∧ w = w' := by
  have H := Lib.hid h
  obtain ⟨h0, h1, h2⟩ := cells3 h.head
  clear h
  go_enter Try.func25, Try.ntmps25
  go_wp2_with (go_at_call 63; refine (disk_len _ _ _ H.out.disk).mono ?_; rintro e w' ⟨rfl, rfl⟩)
  go_ret
  exact ⟨rfl, rfl⟩

theorem j_used (w : World) (j : Nat) (k : Dk) (data : List UInt8) (b n : Nat) (h : isJD w j k data b n) :
    Calls Try.prog 23 #[ptr j] w fun e w' => e = .returned (.int .i64 n) ∧ w = w' := by
  obtain ⟨h0, h1, h2⟩ := cells3 h.head
  clear h
  go_enter Try.func23, Try.ntmps23
  go_wp2
  go_ret
  exact ⟨rfl, rfl⟩

theorem j_room (w : World) (j : Nat) (k : Dk) (data : List UInt8) (b n : Nat) (h : isJD w j k data b n) (hn : n ≤ k.n) :
    Calls Try.prog 24 #[ptr j] w fun e w' => e = .returned (.int .i64 ((k.n : Int) - n)) ∧ w = w' := by
  have H := Lib.hid h
  have hsm := h.disk.small
  clear h
  go_enter Try.func24, Try.ntmps24
  go_wp2_with (first | (go_at_call 25; refine (j_len _ _ _ _ _ _ H.out).mono ?_; rintro e w' ⟨rfl, rfl⟩) | (go_at_call 23; refine (j_used _ _ _ _ _ _ H.out).mono ?_; rintro e w' ⟨rfl, rfl⟩))
  go_ret
  exact ⟨rfl, rfl⟩

set_option maxHeartbeats 400000 in
set_option maxRecDepth 100000 in
theorem j_next (w : World) (j : Nat) (k : Dk) (data : List UInt8) (b n : Nat) (h : isJD w j k data b n) (hb : b ≤ 4611686018427387904) :
    Calls Try.prog 17 #[ptr j] w fun e w' => e = .returned (.int .u64 ((b + k.n : Nat) : Int)) ∧ Below w.heap.size w w' := by
  have H := Lib.hid h
  have hsm := h.disk.small
  have q : ∀ wx, isJD wx j k data b n → wx.cell? ⟨j, 1, none⟩ = some (.int .u64 b) := fun wx h => (cells3 h.head).2.1
  clear h
  go_enter Try.func17, Try.ntmps17
  go_wp2
  refine wp_region_seq (fun wx => isJD wx j k data b n) [(0, true), (1, true), (2, true), (3, true), (4, true), (5, false), (6, true), (7, true), (8, true)] (by kernel_rfl) (by kernel_rfl) (fun c a d v w h => by cases d <;> exact h) (H.out.below (Below.refl _ w).drew) ?_
  simp only [pickSeq, List.map_cons, List.map_nil, List.getD_cons_zero, List.getD_cons_succ]
  have hHeld := (H.out.below (Below.refl _ w).drew)
  refine seq_take (v := ?_) (by rfl) (fun wx hSw => ?_) ?_; rotate_left; (go_simp <;> try with_reducible rfl); (try simp only [Act.put, List.setIfInBounds_toArray, List.set_cons_zero, List.set_cons_succ])
  refine seq_take (v := ?_) (by rfl) (fun wx hSw => ?_) ?_; rotate_left; (go_simp <;> try with_reducible rfl); (try simp only [Act.put, List.setIfInBounds_toArray, List.set_cons_zero, List.set_cons_succ])
  refine seq_take (v := ?_) (by rfl) (fun wx hSw => ?_) ?_; rotate_left; (go_simp <;> try with_reducible rfl); (try simp only [Act.put, List.setIfInBounds_toArray, List.set_cons_zero, List.set_cons_succ])
  refine seq_take (v := ?_) (by rfl) (fun wx hSw => ?_) ?_; rotate_left; (go_simp <;> try with_reducible rfl); (try simp only [Act.put, List.setIfInBounds_toArray, List.set_cons_zero, List.set_cons_succ])
  refine seq_take (v := ?_) (by rfl) (fun wx hSw => ?_) ?_; rotate_left; (go_simp <;> try with_reducible rfl); (try simp only [Act.put, List.setIfInBounds_toArray, List.set_cons_zero, List.set_cons_succ])
  refine seq_run (fun K hK => ?_); go_simp; go_at_call 25; refine (j_len _ _ _ _ _ _ hHeld).mono ?_; rintro e w1 ⟨rfl, rfl⟩; refine hK.out _ _ (hHeld) (fun hHeld => ?_); clear hK K; (try simp only [Act.put, List.setIfInBounds_toArray, List.set_cons_zero, List.set_cons_succ])
  refine seq_take (v := ?_) (by rfl) (fun wx hSw => ?_) ?_; rotate_left; (go_simp <;> try with_reducible rfl); (try simp only [Act.put, List.setIfInBounds_toArray, List.set_cons_zero, List.set_cons_succ])
  refine seq_take (v := ?_) (by rfl) (fun wx hSw => ?_) ?_; rotate_left; (go_simp <;> try with_reducible rfl); (try simp only [Act.put, List.setIfInBounds_toArray, List.set_cons_zero, List.set_cons_succ])
  refine seq_take (v := ?_) (by rfl) (fun wx hSw => ?_) ?_; rotate_left; (go_simp <;> try with_reducible rfl); (try simp only [Act.put, List.setIfInBounds_toArray, List.set_cons_zero, List.set_cons_succ])
  refine seq_nil ?_
  go_wp2
  go_ret
  dsimp only
  rw [IntWalk.u64_in (k.n : Int) (by omega), IntWalk.u64_in _ (by omega)]
  exact ⟨by go_num, (Below.refl _ w).drew⟩

/-- R holds here, and wherever the world is as it was outside S -/
def Held {α : Type} (S : Nat → Prop) (R : World → Value → α → Prop) (w : World) (v : Value) (x : α) : Prop := ∀ w', Chg S w w' → R w' v x
theorem Held.here {α : Type} {S : Nat → Prop} {R : World → Value → α → Prop} {w : World} {v : Value} {x : α} (h : Held S R w v x) : R w v x := h w (Chg.refl _ _)
theorem Held.next {α : Type} {S : Nat → Prop} {R : World → Value → α → Prop} {w w' : World} {v : Value} {x : α} (h : Held S R w v x) (hc : Chg S w w') : Held S R w' v x := fun w2 h2 => h w2 (hc.trans h2 (fun _ _ h => h))

/-- the disk's bytes behind the sectors of a group: n of its sectors were used, i entries are written, l is all there are -/
def jput (base n l : Nat) : Nat → List (List UInt8) → List UInt8 → List UInt8
  | _, [], data => data
  | i, e :: r, data => jput base n l (i + 1) r (putS data (n + i) (jsector (base + (n + i)) (decide (i + 1 = l)) e))

def jbad (g : List (List UInt8)) : Prop := ∃ e ∈ g, e.length < 1 ∨ 46 < e.length

/-- the blocks of a journal, but its disk's head -/
def jS (j : Nat) (k : Dk) : Nat → Prop := fun b => b = k.p ∨ b = k.s ∨ b = j

theorem bad_here (g : List (List UInt8)) (i : Nat) (e : List UInt8) (h : g[i]? = some e) (hb : e.length < 1 ∨ 46 < e.length) : jbad g := ⟨e, List.mem_of_getElem? h, hb⟩
theorem good_all (g : List (List UInt8)) (h : ∀ (i : Nat) (e : List UInt8), g[i]? = some e → ¬ (e.length < 1 ∨ 46 < e.length)) : ¬ jbad g := by
  rintro ⟨e, hm, hb⟩
  obtain ⟨i, hi⟩ := List.mem_iff_getElem?.1 hm
  exact h i e hi hb

theorem isS.elem {α : Type} {R : World → Value → α → Prop} {w : World} {ao : Option Addr} {n cap : Nat} {xs : List α} (h : isS R w (.slice ao n cap) xs) {j : Nat} {x : α} (hj : xs[j]? = some x) :
    ∃ b off u, ao = some ⟨b, off, none⟩ ∧ w.cell? ⟨b, off + j, none⟩ = some u ∧ R w u x := by
  obtain ⟨b, off, e, h⟩ := h.at (List.getElem?_eq_some_iff.1 hj).1
  obtain ⟨u, h1, h2⟩ := h j x hj
  exact ⟨b, off, u, e, h1, h2⟩

theorem isB.shape' {w : World} {v : Value} {bs : List UInt8} (h : isB w v bs) : ∃ ao cap, v = .slice ao bs.length cap := let ⟨ao, cap, e, _⟩ := h; ⟨ao, cap, e⟩

set_option maxHeartbeats 400000 in
set_option maxRecDepth 100000 in
/-- Append, the first part: some entry is too short or too long -/
theorem append_bad (w : World) (p v : Value) (g : List (List UInt8)) (hg : isBs w v g) (hb : jbad g) :
    Calls Try.prog 18 #[p, v] w fun e w' => e = .returned (.int .i64 1) ∧ w = w' := by
  obtain ⟨ao, cap, rfl, -, -⟩ := hg.shape rfl
  have hlen := hg.len
  simp only [maxLen] at hlen
  have Hg := Lib.hid hg
  clear hg
  go_enter Try.func18, Try.ntmps18
  go_wp2
  go_loop [12] (fun x => ∃ i : Nat, i ≤ g.length ∧ x = .int .i64 i ∧ ∀ k e, k < i → g[k]? = some e → ¬ (e.length < 1 ∨ 46 < e.length)) (fun x => g.length - (intOf x).toNat)
  case atStart => exact ⟨0, by omega, rfl, by omega⟩
  case round =>
    obtain ⟨i, hi, rfl, hall⟩ := hrel
    have Hall := Lib.hid hall
    clear hall
    by_cases hin : i < g.length
    · obtain ⟨e, he⟩ : ∃ e, g[i]? = some e := ⟨_, List.getElem?_eq_getElem hin⟩
      obtain ⟨b, off, u, rfl, hu, hr⟩ := Hg.out.elem he
      obtain ⟨ao2, cap2, rfl⟩ := hr.shape'
      have hl := hr.len
      simp only [maxLen] at hl
      clear hr
      by_cases h1 : e.length < 1
      · go_wp2
        all_goals (go_ret; exact ⟨rfl, rfl⟩)
      · by_cases h2 : 46 < e.length
        · go_wp2
          all_goals (go_ret; exact ⟨rfl, rfl⟩)
        · go_wp2
          go_round
          case rel => exact ⟨i + 1, by omega, by go_num, fun k e' hk he' => by
              by_cases hk2 : k < i
              · exact Hall.out k e' hk2 he'
              · obtain rfl : k = i := by omega
                rw [he] at he'; obtain rfl := Option.some.inj he'; omega⟩
          case measure => simp [intOf]; omega
    · exact absurd hb (good_all g fun k e he => Hall.out k e (by have := (List.getElem?_eq_some_iff.1 he).1; omega) he)

def AppPost (w : World) (j : Nat) (k : Dk) (data : List UInt8) (base n : Nat) (g : List (List UInt8)) (e : Ending) (w' : World) : Prop :=
  if g.length = 0 then e = .returned (.int .i64 1) ∧ w = w' else if k.n < n + g.length then e = .returned (.int .i64 7) ∧ w = w'
  else e = .returned (.int .i64 0) ∧ isJD w' j k (jput base n g.length 0 g data) base (n + g.length) ∧ Chg (jS j k) w w'

set_option maxHeartbeats 1000000 in
set_option maxRecDepth 100000 in
theorem append_good (w : World) (j : Nat) (k : Dk) (data : List UInt8) (base n : Nat) (v : Value) (g : List (List UInt8)) (h : isJD w j k data base n) (hn : n ≤ k.n) (hg : Held (jS j k) isBs w v g) (hb : ¬ jbad g) (hbase : base ≤ 4611686018427387904) :
    Calls Try.prog 18 #[ptr j, v] w (AppPost w j k data base n g) := by
  obtain ⟨ao, cap, rfl, -, -⟩ := hg.here.shape rfl
  have hlen := hg.here.len
  simp only [maxLen] at hlen
  have Hg := Lib.hid hg
  have H := Lib.hid h
  have hsm := h.disk.small
  clear hg h
  have hgood : ∀ (i : Nat) (e : List UInt8), g[i]? = some e → 1 ≤ e.length ∧ e.length ≤ 46 := fun i e he => ⟨Nat.le_of_not_lt fun h => hb (bad_here g i e he (.inl h)), Nat.le_of_not_lt fun h => hb (bad_here g i e he (.inr h))⟩
  have Hgood := Lib.hid hgood
  clear hgood hb
  go_enter Try.func18, Try.ntmps18
  go_wp2
  go_loop [12] (fun x => ∃ i : Nat, i ≤ g.length ∧ x = .int .i64 i) (fun x => g.length - (intOf x).toNat)
  case atStart => exact ⟨0, by omega, rfl⟩
  case round =>
    obtain ⟨i, hi, rfl⟩ := hrel
    by_cases hin : i < g.length
    · obtain ⟨e, he⟩ : ∃ e, g[i]? = some e := ⟨_, List.getElem?_eq_getElem hin⟩
      obtain ⟨b, off, u, rfl, hu, hr⟩ := Hg.out.here.elem he
      obtain ⟨ao2, cap2, rfl⟩ := hr.shape'
      obtain ⟨h1, h2⟩ := Hgood.out i e he
      clear hr
      go_wp2
      go_round
      case rel => exact ⟨i + 1, by omega, by go_num⟩
      case measure => simp [intOf]; omega
    · obtain rfl : i = g.length := by omega
      by_cases h0 : g.length = 0
      · go_wp2
        go_ret
        rw [AppPost, if_pos h0]; exact ⟨rfl, rfl⟩
      · by_cases hroom : k.n < n + g.length
        · have : (k.n : Int) - n < g.length := by omega
          go_wp2_with (go_at_call 24; refine (j_room _ _ _ _ _ _ H.out hn).mono ?_; rintro e w' ⟨rfl, rfl⟩)
          go_ret
          rw [AppPost, if_neg h0, if_pos hroom]; exact ⟨rfl, rfl⟩
        · have : (g.length : Int) ≤ (k.n : Int) - n := by omega
          go_wp2_with (go_at_call 24; refine (j_room _ _ _ _ _ _ H.out hn).mono ?_; rintro e w' ⟨rfl, rfl⟩)
          generalize hR : jput base n g.length 0 g data = R
          go_loopw [41] (fun x wr => ∃ (i : Nat) (d : List UInt8), i ≤ g.length ∧ x = .int .i64 i ∧ isJD wr j k d base n ∧ jput base n g.length i (g.drop i) d = R ∧ Chg (jS j k) w wr) (fun x _ => g.length - (intOf x).toNat)
          case atStart => exact ⟨0, data, by omega, rfl, H.out, hR, Chg.refl _ _⟩
          case round =>
            obtain ⟨i, d, hi, rfl, hJ, hj, hc⟩ := hrel
            by_cases hin : i < g.length
            · obtain ⟨e, he⟩ : ∃ e, g[i]? = some e := ⟨_, List.getElem?_eq_getElem hin⟩
              have hG := Hg.out.next hc
              obtain ⟨b, off, u, rfl, hu, hr⟩ := hG.here.elem he
              obtain ⟨ao2, cap2, rfl⟩ := hr.shape'
              obtain ⟨h1, h2⟩ := Hgood.out i e he
              have Hr := Lib.hid hr
              have HJ := Lib.hid hJ
              have Hc := Lib.hid hc
              have q : ∀ wx, isJ wx j k.d base n → wx.cell? ⟨j, 0, none⟩ = some (ptr k.d) ∧ wx.cell? ⟨j, 1, none⟩ = some (.int .u64 base) ∧ wx.cell? ⟨j, 2, none⟩ = some (.int .i64 n) := fun wx h => cells3 h
              have q0 := fun wx h => (q wx h).1
              have q1 := fun wx h => (q wx h).2.1
              have q2 := fun wx h => (q wx h).2.2
              have hJE : (g.drop i) = e :: g.drop (i + 1) := by
                obtain ⟨hlt', he'⟩ := List.getElem?_eq_some_iff.1 he
                rw [List.drop_eq_getElem_cons hlt', he']
              rw [hJE, jput] at hj
              have Hj := Lib.hid hj
              clear hJE hj hr hJ hc hG q
              have ew0 : IntKind.i64.wrap ((n : Int) + i) = n + i := IntWalk.i64_in _ (by omega)
              have ew1 : IntKind.u64.wrap ((n : Int) + i) = n + i := IntWalk.u64_in _ (by omega)
              have ew4 : IntKind.u64.wrap ((base : Int) + (n + i)) = base + (n + i) := IntWalk.u64_in _ (by omega)
              have ec1 : (base : Int) + (n + i) = ((base + (n + i) : Nat) : Int) := by omega
              have ec2 : (n : Int) + i = ((n + i : Nat) : Int) := by omega
              replace ec1 := Lib.hid ec1
              replace ec2 := Lib.hid ec2
              have ew2 : ((i : Int) == IntKind.i64.wrap ((g.length : Int) - 1)) = decide (i + 1 = g.length) := by
                rw [IntWalk.i64_in _ (by omega)]; by_cases h : i + 1 = g.length <;> simp [h] <;> omega
              go_wp2
              refine wp_region_seq (fun wx => isJ wx j k.d base n) [(0, true), (1, true), (2, true), (3, true), (4, true), (5, true), (6, true), (7, true), (8, true), (9, true), (10, true), (11, true), (12, true), (13, true), (14, true), (15, true), (16, true), (17, true), (18, true), (19, true), (20, true), (21, true), (22, true), (23, true), (24, true), (25, true), (26, true), (27, true), (28, false), (29, false), (30, true)] (by kernel_rfl) (by kernel_rfl) (fun c a d v w h => by cases d <;> exact h) (HJ.out.head.below (Below.refl _ wr).drew) ?_
              simp only [pickSeq, List.map_cons, List.map_nil, List.getD_cons_zero, List.getD_cons_succ]
              have hHeld := (HJ.out.head.below (Below.refl _ wr).drew)
              refine seq_take (v := ?_) (by rfl) (fun wx hSw => ?_) ?_; rotate_left; (go_simp <;> try with_reducible rfl); (try simp only [Act.put, List.setIfInBounds_toArray, List.set_cons_zero, List.set_cons_succ])
              refine seq_take (v := ?_) (by rfl) (fun wx hSw => ?_) ?_; rotate_left; (go_simp <;> try with_reducible rfl); (try simp only [Act.put, List.setIfInBounds_toArray, List.set_cons_zero, List.set_cons_succ])
              refine seq_take (v := ?_) (by rfl) (fun wx hSw => ?_) ?_; rotate_left; (go_simp <;> try with_reducible rfl); (try simp only [Act.put, List.setIfInBounds_toArray, List.set_cons_zero, List.set_cons_succ])
              refine seq_take (v := ?_) (by rfl) (fun wx hSw => ?_) ?_; rotate_left; (go_simp <;> try with_reducible rfl); (try simp only [Act.put, List.setIfInBounds_toArray, List.set_cons_zero, List.set_cons_succ])
              refine seq_take (v := ?_) (by rfl) (fun wx hSw => ?_) ?_; rotate_left; (go_simp <;> try with_reducible rfl); (try simp only [Act.put, List.setIfInBounds_toArray, List.set_cons_zero, List.set_cons_succ])
              refine seq_take (v := ?_) (by rfl) (fun wx hSw => ?_) ?_; rotate_left; (go_simp <;> try with_reducible rfl); (try simp only [Act.put, List.setIfInBounds_toArray, List.set_cons_zero, List.set_cons_succ])
              refine seq_take (v := ?_) (by rfl) (fun wx hSw => ?_) ?_; rotate_left; (go_simp <;> try with_reducible rfl); (try simp only [Act.put, List.setIfInBounds_toArray, List.set_cons_zero, List.set_cons_succ])
              refine seq_take (v := ?_) (by rfl) (fun wx hSw => ?_) ?_; rotate_left; (go_simp <;> try with_reducible rfl); (try simp only [Act.put, List.setIfInBounds_toArray, List.set_cons_zero, List.set_cons_succ])
              refine seq_take (v := ?_) (by rfl) (fun wx hSw => ?_) ?_; rotate_left; (go_simp <;> try with_reducible rfl); (try simp only [Act.put, List.setIfInBounds_toArray, List.set_cons_zero, List.set_cons_succ])
              refine seq_take (v := ?_) (by rfl) (fun wx hSw => ?_) ?_; rotate_left; (go_simp <;> try with_reducible rfl); (try simp only [Act.put, List.setIfInBounds_toArray, List.set_cons_zero, List.set_cons_succ])
              refine seq_take (v := ?_) (by rfl) (fun wx hSw => ?_) ?_; rotate_left; (go_simp <;> try with_reducible rfl); (try simp only [Act.put, List.setIfInBounds_toArray, List.set_cons_zero, List.set_cons_succ])
              refine seq_take (v := ?_) (by rfl) (fun wx hSw => ?_) ?_; rotate_left; (go_simp <;> try with_reducible rfl); (try simp only [Act.put, List.setIfInBounds_toArray, List.set_cons_zero, List.set_cons_succ])
              refine seq_take (v := ?_) (by rfl) (fun wx hSw => ?_) ?_; rotate_left; (go_simp <;> try with_reducible rfl); (try simp only [Act.put, List.setIfInBounds_toArray, List.set_cons_zero, List.set_cons_succ])
              refine seq_take (v := ?_) (by rfl) (fun wx hSw => ?_) ?_; rotate_left; (go_simp <;> try with_reducible rfl); (try simp only [Act.put, List.setIfInBounds_toArray, List.set_cons_zero, List.set_cons_succ])
              refine seq_take (v := ?_) (by rfl) (fun wx hSw => ?_) ?_; rotate_left; (go_simp <;> try with_reducible rfl); (try simp only [Act.put, List.setIfInBounds_toArray, List.set_cons_zero, List.set_cons_succ])
              refine seq_take (v := ?_) (by rfl) (fun wx hSw => ?_) ?_; rotate_left; (go_simp <;> try with_reducible rfl); (try simp only [Act.put, List.setIfInBounds_toArray, List.set_cons_zero, List.set_cons_succ])
              refine seq_take (v := ?_) (by rfl) (fun wx hSw => ?_) ?_; rotate_left; (go_simp <;> try with_reducible rfl); (try simp only [Act.put, List.setIfInBounds_toArray, List.set_cons_zero, List.set_cons_succ])
              refine seq_take (v := ?_) (by rfl) (fun wx hSw => ?_) ?_; rotate_left; (go_simp <;> try with_reducible rfl); (try simp only [Act.put, List.setIfInBounds_toArray, List.set_cons_zero, List.set_cons_succ])
              refine seq_take (v := ?_) (by rfl) (fun wx hSw => ?_) ?_; rotate_left; (go_simp <;> try with_reducible rfl); (try simp only [Act.put, List.setIfInBounds_toArray, List.set_cons_zero, List.set_cons_succ])
              refine seq_take (v := ?_) (by rfl) (fun wx hSw => ?_) ?_; rotate_left; (go_simp <;> try with_reducible rfl); (try simp only [Act.put, List.setIfInBounds_toArray, List.set_cons_zero, List.set_cons_succ])
              refine seq_take (v := ?_) (by rfl) (fun wx hSw => ?_) ?_; rotate_left; (go_simp <;> try with_reducible rfl); (try simp only [Act.put, List.setIfInBounds_toArray, List.set_cons_zero, List.set_cons_succ])
              refine seq_take (v := ?_) (by rfl) (fun wx hSw => ?_) ?_; rotate_left; (go_simp <;> try with_reducible rfl); (try simp only [Act.put, List.setIfInBounds_toArray, List.set_cons_zero, List.set_cons_succ])
              refine seq_take (v := ?_) (by rfl) (fun wx hSw => ?_) ?_; rotate_left; (go_simp <;> try with_reducible rfl); (try simp only [Act.put, List.setIfInBounds_toArray, List.set_cons_zero, List.set_cons_succ])
              refine seq_take (v := ?_) (by rfl) (fun wx hSw => ?_) ?_; rotate_left; (go_simp <;> try with_reducible rfl); (try simp only [Act.put, List.setIfInBounds_toArray, List.set_cons_zero, List.set_cons_succ])
              refine seq_take (v := ?_) (by rfl) (fun wx hSw => ?_) ?_; rotate_left; (go_simp <;> try with_reducible rfl); (try simp only [Act.put, List.setIfInBounds_toArray, List.set_cons_zero, List.set_cons_succ])
              refine seq_take (v := ?_) (by rfl) (fun wx hSw => ?_) ?_; rotate_left; (go_simp <;> try with_reducible rfl); (try simp only [Act.put, List.setIfInBounds_toArray, List.set_cons_zero, List.set_cons_succ])
              refine seq_take (v := ?_) (by rfl) (fun wx hSw => ?_) ?_; rotate_left; (go_simp <;> try with_reducible rfl); (try simp only [Act.put, List.setIfInBounds_toArray, List.set_cons_zero, List.set_cons_succ])
              refine seq_take (v := ?_) (by rfl) (fun wx hSw => ?_) ?_; rotate_left; (go_simp <;> try with_reducible rfl); (try simp only [Act.put, List.setIfInBounds_toArray, List.set_cons_zero, List.set_cons_succ])
              refine seq_run (fun K hK => ?_); go_simp; rw [ec1.out]; refine (sector_spec _ (base + (n + i)) (decide (i + 1 = g.length)) _ e Hr.out.drew h2).mono ?_; rintro e1 w1 ⟨⟨r, rfl, hor⟩, hb1⟩; refine hK.out _ _ (hHeld.below hb1) (fun hHeld => ?_); clear hK K; (try simp only [Act.put, List.setIfInBounds_toArray, List.set_cons_zero, List.set_cons_succ])
              refine seq_run (fun K hK => ?_); go_simp; rw [ec2.out]; refine (disk_put w1 k d (n + i) r _ ((HJ.out.below (Below.refl _ wr).drew).disk.below hb1) (by omega) hor.isB (by rw [jsector_len _ _ _ h2]; exact Nat.le_refl _)).mono ?_; rintro e2 w2 ⟨rfl, hd2, hc2⟩; refine hK.out _ _ (hHeld.chg hc2 (by simp only [HJ.out.ne.1, HJ.out.ne.2.2, or_self, not_false_eq_true])) (fun hHeld => ?_); clear hK K; (try simp only [Act.put, List.setIfInBounds_toArray, List.set_cons_zero, List.set_cons_succ])
              refine seq_take (v := ?_) (by rfl) (fun wx hSw => ?_) ?_; rotate_left; (go_simp <;> try with_reducible rfl); (try simp only [Act.put, List.setIfInBounds_toArray, List.set_cons_zero, List.set_cons_succ])
              refine seq_nil ?_
              have hJ2 : isJD w2 j k _ base n := ⟨hd2, hHeld⟩
              have hC2 : Chg (jS j k) w w2 := Hc.out.drew.trans ((Chg.ofBelow hb1).trans hc2 (fun _ _ h => h)) (fun b _ h => h.elim .inl (fun h => .inr (.inl h)))
              clear hd2 hHeld hb1 hc2 hor
              go_wp2
              go_roundw
              case rel => exact ⟨i + 1, _, by omega, by go_num, hJ2, Hj.out, hC2⟩
              case measure => simp [intOf]; omega
            · obtain rfl : i = g.length := by omega
              rw [List.drop_length] at hj
              have hj2 : d = R := hj
              subst hj2
              have HJ := Lib.hid hJ
              have Hc := Lib.hid hc
              obtain ⟨k0, k1, k2⟩ := cells3 hJ.head
              have f2 := unfrozen hJ.head 2
              clear hJ hc hj
              go_wp2
              go_ret
              rw [AppPost, if_neg h0, if_neg hroom, hR]
              have hJ0 : isJ wr j k.d base n := HJ.out.head
              refine ⟨rfl, ⟨HJ.out.disk.chg (S := (· = j)) (Chg.setCell (p := ⟨j, 2, none⟩) (Chg.refl (· = j) wr) (.inr rfl) _) HJ.out.ne.1.symm HJ.out.ne.2.1.symm HJ.out.ne.2.2.symm, ?_⟩, Hc.out.setCell (.inr (.inr (.inr rfl))) _⟩
              exact heap_setCell_same _ _ _ _ _ _ hJ0
end Go.Proofs.Ytobpjldpkgioaaa
