/- the law's own functions -/
import Derived.Test.YtobpjldpkgioaaaJournal4
namespace Go.Proofs.Ytobpjldpkgioaaa
open Go.RowKit

/-- some bool; if it is true the groups are short -/
def SmallBool (l : List (List (List UInt8))) (e : Ending) : Prop := ∃ b, e = .returned (.bool b) ∧ (b = true → ∀ g ∈ l, g.length ≤ 20)
/-- the bool that says whether p -/
def IsBool (p : Prop) (e : Ending) : Prop := ∃ b, e = .returned (.bool b) ∧ (b = true ↔ p)

set_option maxHeartbeats 400000 in
set_option maxRecDepth 100000 in
theorem small_spec (w : World) (v : Value) (l : List (List (List UInt8))) (hl : isBss w v l) :
    Calls Try.prog 13 #[v] w fun e w' => SmallBool l e ∧ w = w' := by
  obtain ⟨ao, cap, rfl, -, -⟩ := hl.shape rfl
  have hlen := hl.len
  simp only [maxLen] at hlen
  have Hl := Lib.hid hl
  clear hl
  go_enter Try.func13, Try.ntmps13
  go_wp2
  go_loop [9] (fun x => ∃ i : Nat, i ≤ l.length ∧ x = .int .i64 i ∧ ∀ k g, k < i → l[k]? = some g → g.length ≤ 20) (fun x => l.length - (intOf x).toNat)
  case atStart => exact ⟨0, by omega, rfl, by omega⟩
  case round =>
    obtain ⟨i, hi, rfl, hall⟩ := hrel
    have Hall := Lib.hid hall
    clear hall
    by_cases hin : i < l.length
    · obtain ⟨g, hg⟩ : ∃ e, l[i]? = some e := ⟨_, List.getElem?_eq_getElem hin⟩
      obtain ⟨b, off, u, rfl, hu, hr⟩ := Hl.out.elem hg
      obtain ⟨ao2, cap2, rfl, -, -⟩ := hr.shape rfl
      have hgl := hr.len
      simp only [maxLen] at hgl
      have Hg := Lib.hid hr
      clear hr
      go_wp2
      go_loop [15] (fun x => ∃ i : Nat, i ≤ g.length ∧ x = .int .i64 i) (fun x => g.length - (intOf x).toNat)
      case atStart => exact ⟨0, by omega, rfl⟩
      case round =>
        obtain ⟨i2, hi2, rfl⟩ := hrel
        by_cases hin2 : i2 < g.length
        · obtain ⟨e, he⟩ : ∃ e, g[i2]? = some e := ⟨_, List.getElem?_eq_getElem hin2⟩
          obtain ⟨b2, off2, u2, rfl, hu2, hr2⟩ := Hg.out.elem he
          obtain ⟨ao3, cap3, rfl⟩ := hr2.shape'
          have hel := hr2.len
          simp only [maxLen] at hel
          clear hr2
          by_cases h2 : 200 < e.length
          · go_wp2
            go_ret
            exact ⟨⟨_, rfl, nofun⟩, rfl⟩
          · go_wp2
            go_round
            case rel => exact ⟨i2 + 1, by omega, by go_num⟩
            case measure => simp [intOf]; omega
        · obtain rfl : i2 = g.length := by omega
          by_cases h2 : 20 < g.length
          · go_wp2
            go_ret
            exact ⟨⟨_, rfl, nofun⟩, rfl⟩
          · go_wp2
            go_round
            case rel => exact ⟨i + 1, by omega, by go_num, fun k g' hk hg' => by
                by_cases hk2 : k < i
                · exact Hall.out k g' hk2 hg'
                · obtain rfl : k = i := by omega
                  rw [hg] at hg'; obtain rfl := Option.some.inj hg'; omega⟩
            case measure => simp [intOf]; omega
    · obtain rfl : i = l.length := by omega
      go_wp2
      go_ret
      refine ⟨⟨_, rfl, fun _ g hg => ?_⟩, rfl⟩
      obtain ⟨k, hk⟩ := List.mem_iff_getElem?.1 hg
      exact Hall.out k g (List.getElem?_eq_some_iff.1 hk).1 hk

set_option maxHeartbeats 400000 in
set_option maxRecDepth 100000 in
theorem right_spec (w : World) (v : Value) (g : List (List UInt8)) (hg : isBs w v g) :
    Calls Try.prog 19 #[v] w fun e w' => IsBool (¬ jbad g ∧ 0 < g.length) e ∧ w = w' := by
  obtain ⟨ao, cap, rfl, -, -⟩ := hg.shape rfl
  have hlen := hg.len
  simp only [maxLen] at hlen
  have Hg := Lib.hid hg
  clear hg
  go_enter Try.func19, Try.ntmps19
  go_wp2
  go_loop [7] (fun x => ∃ i : Nat, i ≤ g.length ∧ x = .int .i64 i ∧ ∀ k e, k < i → g[k]? = some e → ¬ (e.length < 1 ∨ 46 < e.length)) (fun x => g.length - (intOf x).toNat)
  case atStart => exact ⟨0, by omega, rfl, by omega⟩
  case round =>
    obtain ⟨i, hi, rfl, hall⟩ := hrel
    have Hall := Lib.hid hall
    clear hall
    by_cases hin : i < g.length
    · obtain ⟨e, he⟩ : ∃ e, g[i]? = some e := ⟨_, List.getElem?_eq_getElem hin⟩
      obtain ⟨b, off, u, rfl, hu, hr⟩ := Hg.out.elem he
      obtain ⟨ao2, cap2, rfl⟩ := hr.shape'
      have hl := hr.len
      simp only [maxLen] at hl
      clear hr
      by_cases h1 : e.length < 1
      · go_wp2
        all_goals (go_ret; exact ⟨⟨_, rfl, ⟨nofun, fun h => absurd (bad_here g i e he (.inl h1)) h.1⟩⟩, rfl⟩)
      · by_cases h2 : 46 < e.length
        · go_wp2
          all_goals (go_ret; exact ⟨⟨_, rfl, ⟨nofun, fun h => absurd (bad_here g i e he (.inr h2)) h.1⟩⟩, rfl⟩)
        · go_wp2
          go_round
          case rel => exact ⟨i + 1, by omega, by go_num, fun k e' hk he' => by
              by_cases hk2 : k < i
              · exact Hall.out k e' hk2 he'
              · obtain rfl : k = i := by omega
                rw [he] at he'; obtain rfl := Option.some.inj he'; omega⟩
          case measure => simp [intOf]; omega
    · obtain rfl : i = g.length := by omega
      go_wp2
      go_ret
      refine ⟨⟨_, rfl, ?_⟩, rfl⟩
      have := good_all g fun k e he => Hall.out k e (List.getElem?_eq_some_iff.1 he).1 he
      simp [this]

theorem leb_succ (n k : Nat) : leb (k + 1) n = leb k n ++ [UInt8.ofNat (n / 256 ^ k)] := rfl

set_option maxHeartbeats 1000000 in
set_option maxRecDepth 100000 in
theorem lsector_spec (w : World) (n : Nat) (last : Bool) (v : Value) (en : List UInt8) (hv : isB w v en) (hl : en.length ≤ 46) :
    Calls Try.prog 20 #[.int .u64 n, .bool last, v] w fun e w' => e = .returned (.string (str (jsector n last en))) ∧ Below w.heap.size w w' := by
  have HV := Lib.hid hv
  obtain ⟨ao, cap, rfl⟩ := hv.shape'
  clear hv
  go_enter Try.func20, Try.ntmps20
  go_wp2
  go_loopw [7, 10] (fun vx x wr => ∃ k : Nat, k ≤ 8 ∧ x = .int .i64 k ∧ ownB wr 5 w.heap.size vx (leb k n) ∧ Below w.heap.size w wr) (fun _ x _ => 8 - (intOf x).toNat)
  case atStart => exact ⟨0, by omega, rfl, ownB.nil _ _ _, Below.refl _ _⟩
  case round =>
    obtain ⟨k, hk, rfl, ho, hb⟩ := hrel
    obtain ⟨aox, capx, rfl, -, -⟩ := ho.isB.shape (n := k) (length_leb _ _)
    have Ho := Lib.hid ho
    have Hb := Lib.hid hb
    have hsz := hb.size
    clear ho hb
    by_cases hlt : k < 8
    · go_wp2_with (at_builtin; refine stop_in ?_)
      refine stop_out ?_; refine wpList_append_bytes (o := ⟨some 20, _, _, _, _, _⟩) rfl (.tmp 13) (.tmp 19) 40 rfl w.heap.size 5 Try.underlying40 Try.infoU8 _ _ rfl (Ho.out.alloc _) _ _ rfl (isB.one (heap_alloc_new _ _) (byte_shift n k)) (by simp [length_leb]; omega) (by simp; omega) ?_
      intro v1 w2 ho1 hc1
      have hb2 : Below w.heap.size w w2 := (Hb.out.alloc hsz _).trans (hc1.below (by simp; omega) (fun k hk => hk.1))
      clear hc1
      go_wp2
      go_roundw
      case rel => exact ⟨k + 1, by omega, by go_num, ho1, hb2⟩
      case measure => simp [intOf]; omega
    · obtain rfl : k = 8 := by omega
      go_wp2_with (at_builtin; refine stop_in ?_)
      refine stop_out ?_; refine wpList_append_bytes (o := ⟨some 24, _, _, _, _, _⟩) rfl (.tmp 22) (.tmp 23) 40 rfl wr.heap.size 5 Try.underlying40 Try.infoU8 _ _ rfl (ownB.lit (bs := []) (heap_alloc_new _ _) rfl (by simp [maxLen]) (Nat.le_refl _) rfl rfl) _ _ rfl (Ho.out.isB.alloc _) (by simp [length_leb]) (by simp) ?_
      intro v1 w2 ho1 hc1
      have hb2 : Below wr.heap.size wr w2 := (below_alloc wr _).trans (hc1.below (by simp) (fun k hk => hk.1))
      have hs2 := hb2.size
      clear hc1
      rw [List.nil_append] at ho1
      go_wp2_with (at_builtin; refine stop_in ?_)
      refine stop_out ?_; refine wpList_append_bytes (o := ⟨some 29, _, _, _, _, _⟩) rfl (.tmp 24) (.tmp 28) 40 rfl wr.heap.size 5 Try.underlying40 Try.infoU8 _ _ rfl (ho1.alloc _) _ _ rfl (isB.lit (heap_alloc_new _ _) (two_bytes _ (by omega)) (by simp [maxLen]) rfl rfl) (by simp [length_leb]) (by simp; omega) ?_
      intro v3 w3 ho3 hc3
      have hb3 : Below wr.heap.size wr w3 := (hb2.alloc hs2 _).trans (hc3.below (by simp; omega) (fun k hk => hk.1))
      clear hc3 hb2 ho1 hs2
      cases last with
      | false =>
        go_wp2_with (at_builtin; refine stop_in ?_)
        refine stop_out ?_; refine wpList_append_bytes (o := ⟨some 35, _, _, _, _, _⟩) rfl (.tmp 33) (.tmp 34) 40 rfl wr.heap.size 5 Try.underlying40 Try.infoU8 _ _ rfl (ho3) _ _ rfl (HV.out.below (Hb.out.trans (hb3.mono hsz))) (by simp [length_leb]; omega) (hb3.size) ?_
        intro v4 w4 ho4 hc4
        have hb4 : Below wr.heap.size wr w4 := hb3.trans (hc4.below hb3.size (fun k hk => hk.1))
        clear hc4 ho3 hb3
        obtain ⟨ao2, cap2, rfl, -, -⟩ := ho4.isB.shape (n := 10 + en.length) (by simp [length_leb]; omega)
        go_wp2_with (at_builtin; refine stop_in ?_)
        refine stop_out ?_
        refine wpList_append_zeros (o := ⟨some 40, _, _, _, _, _⟩) rfl (.tmp 36) (.tmp 39) 40 3 rfl wr.heap.size 5 Try.underlying40 Try.underlying3 Try.infoU8 _ _ rfl ho4 .i64 (46 - en.length) _ rfl (by omega) (by simp [length_leb]; omega) hb4.size ?_
        intro v5 w5 ho5 hc5
        have hb5 : Below wr.heap.size wr w5 := hb4.trans (hc5.below hb4.size (fun k hk => hk.1))
        clear hc5 ho4 hb4
        go_wp2_with (at_builtin; refine stop_in ?_)
        refine stop_out ?_; refine wpList_append_bytes (o := ⟨some 42, _, _, _, _, _⟩) rfl (.tmp 40) (.tmp 41) 40 rfl wr.heap.size 5 Try.underlying40 Try.infoU8 _ _ rfl (ho5) _ _ rfl (Ho.out.isB.below hb5) (by simp [length_leb, zeros]; omega) (hb5.size) ?_
        intro v6 w6 ho6 hc6
        have hb6 : Below wr.heap.size wr w6 := hb5.trans (hc6.below hb5.size (fun k hk => hk.1))
        have q := run_string ho6.isB 40 5 Try.underlying40 Try.underlying5 9 Try.underlying9
        clear hc6 ho5 hb5 ho6
        go_wp2
        go_ret
        exact ⟨by simp [jsector, List.append_assoc], Hb.out.trans (hb6.mono hsz)⟩
      | true =>
        obtain ⟨g, cap1, rfl, hg, hcap1, -, hfz, hce⟩ := ho3.at (n := 10) (by simp [length_leb]) (by decide)
        have fz8 := hfz 8
        have ce8 := hce 8 0 (by rw [List.getElem?_append_right (by rw [length_leb]; exact Nat.le_refl _), length_leb]; rfl)
        have ho3' := ho3.store (by simp [length_leb]) 8 1
        have hb3' : Below wr.heap.size wr (w3.setCell ⟨g, 8, none⟩ (.int .u8 1)) := hb3.setCell hg _
        clear hfz hce
        go_wp2_with (at_builtin; refine stop_in ?_)
        refine stop_out ?_; refine wpList_append_bytes (o := ⟨some 35, _, _, _, _, _⟩) rfl (.tmp 33) (.tmp 34) 40 rfl wr.heap.size 5 Try.underlying40 Try.infoU8 _ _ rfl (ho3') _ _ rfl (HV.out.below (Hb.out.trans (hb3'.mono hsz))) (by simp [length_leb]; omega) (hb3'.size) ?_
        intro v4 w4 ho4 hc4
        have hb4 : Below wr.heap.size wr w4 := hb3'.trans (hc4.below hb3'.size (fun k hk => hk.1))
        clear hc4 ho3 hb3 ho3' hb3'
        obtain ⟨ao2, cap2, rfl, -, -⟩ := ho4.isB.shape (n := 10 + en.length) (by simp [length_leb]; omega)
        go_wp2_with (at_builtin; refine stop_in ?_)
        refine stop_out ?_
        refine wpList_append_zeros (o := ⟨some 40, _, _, _, _, _⟩) rfl (.tmp 36) (.tmp 39) 40 3 rfl wr.heap.size 5 Try.underlying40 Try.underlying3 Try.infoU8 _ _ rfl ho4 .i64 (46 - en.length) _ rfl (by omega) (by simp [length_leb]; omega) hb4.size ?_
        intro v5 w5 ho5 hc5
        have hb5 : Below wr.heap.size wr w5 := hb4.trans (hc5.below hb4.size (fun k hk => hk.1))
        clear hc5 ho4 hb4
        go_wp2_with (at_builtin; refine stop_in ?_)
        refine stop_out ?_; refine wpList_append_bytes (o := ⟨some 42, _, _, _, _, _⟩) rfl (.tmp 40) (.tmp 41) 40 rfl wr.heap.size 5 Try.underlying40 Try.infoU8 _ _ rfl (ho5) _ _ rfl (Ho.out.isB.below hb5) (by simp [length_leb, zeros]; omega) (hb5.size) ?_
        intro v6 w6 ho6 hc6
        have hb6 : Below wr.heap.size wr w6 := hb5.trans (hc6.below hb5.size (fun k hk => hk.1))
        have q := run_string ho6.isB 40 5 Try.underlying40 Try.underlying5 9 Try.underlying9
        clear hc6 ho5 hb5 ho6
        go_wp2
        go_ret
        exact ⟨by rw [jhead]; simp [jsector, List.append_assoc], Hb.out.trans (hb6.mono hsz)⟩

theorem ext_upto {α : Type} {x y : List α} (hl : x.length = y.length) (h : ∀ k, k < x.length → x[k]? = y[k]?) : x = y := by
  refine List.ext_getElem? fun k => ?_
  by_cases hk : k < x.length
  · exact h k hk
  · rw [List.getElem?_eq_none (by omega), List.getElem?_eq_none (by omega)]

theorem isBss.below {w w' : World} {v : Value} {x : List (List (List UInt8))} (h : isBss w v x) (hb : Below w.heap.size w w') : isBss w' v x := isS.below grows_Bs h hb
theorem isBs.below {w w' : World} {v : Value} {x : List (List UInt8)} (h : isBs w v x) (hb : Below w.heap.size w w') : isBs w' v x := isS.below grows_B h hb

set_option maxHeartbeats 1000000 in
set_option maxRecDepth 100000 in
theorem same_spec (w : World) (v1 v2 : Value) (x y : List (List (List UInt8))) (h1 : isBss w v1 x) (h2 : isBss w v2 y) :
    Calls Try.prog 22 #[v1, v2] w fun e w' => IsBool (x = y) e ∧ Below w.heap.size w w' := by
  obtain ⟨ao1, cap1, rfl, -, -⟩ := h1.shape rfl
  obtain ⟨ao2, cap2, rfl, -, -⟩ := h2.shape rfl
  have l1 := h1.len
  have l2 := h2.len
  simp only [maxLen] at l1 l2
  have H1 := Lib.hid h1
  have H2 := Lib.hid h2
  clear h1 h2
  go_enter Try.func22, Try.ntmps22
  by_cases hl : x.length = y.length
  · go_wp2
    go_loopw [14] (fun n wr => ∃ i : Nat, i ≤ x.length ∧ n = .int .i64 i ∧ (∀ k, k < i → x[k]? = y[k]?) ∧ Below w.heap.size w wr) (fun n _ => x.length - (intOf n).toNat)
    case atStart => exact ⟨0, by omega, rfl, by omega, Below.refl _ _⟩
    case round =>
      obtain ⟨i, hi, rfl, hall, hb⟩ := hrel
      have Hall := Lib.hid hall
      have Hb := Lib.hid hb
      clear hall hb
      by_cases hin : i < x.length
      · obtain ⟨g, hg⟩ : ∃ e, x[i]? = some e := ⟨_, List.getElem?_eq_getElem hin⟩
        obtain ⟨g', hg'⟩ : ∃ e, y[i]? = some e := ⟨_, List.getElem?_eq_getElem (by omega)⟩
        obtain ⟨b, off, u, rfl, hu, hr⟩ := (H1.out.below Hb.out).elem hg
        obtain ⟨b', off', u', rfl, hu', hr'⟩ := (H2.out.below Hb.out).elem hg'
        obtain ⟨ao3, cap3, rfl, -, -⟩ := hr.shape rfl
        obtain ⟨ao4, cap4, rfl, -, -⟩ := hr'.shape rfl
        have gl := hr.len
        have gl' := hr'.len
        simp only [maxLen] at gl gl'
        have Hr := Lib.hid hr
        have Hr' := Lib.hid hr'
        clear hr hr'
        by_cases hlg : g.length = g'.length
        · go_wp2
          go_quiet (fail)
          go_wp2
          have Hw : Hid (Below wr.heap.size wr (wr.drewN nq)) := below_drewN (Below.refl _ _) _
          go_loopw [33] (fun n w3 => ∃ i2 : Nat, i2 ≤ g'.length ∧ n = .int .i64 i2 ∧ (∀ k, k < i2 → g[k]? = g'[k]?) ∧ Below wr.heap.size wr w3) (fun n _ => g'.length - (intOf n).toNat)
          case atStart => exact ⟨0, by omega, rfl, by omega, Hw.out⟩
          case round =>
            obtain ⟨i2, hi2, rfl, hall2, hb2⟩ := hrel
            have Hall2 := Lib.hid hall2
            have Hb2 := Lib.hid hb2
            clear hall2
            by_cases hin2 : i2 < g'.length
            · obtain ⟨e, he⟩ : ∃ e, g[i2]? = some e := ⟨_, List.getElem?_eq_getElem (by omega)⟩
              obtain ⟨e', he'⟩ : ∃ e, g'[i2]? = some e := ⟨_, List.getElem?_eq_getElem (by omega)⟩
              obtain ⟨b3, off3, u3, rfl, hu3, hr3⟩ := (Hr.out.below hb2).elem he
              obtain ⟨b4, off4, u4, rfl, hu4, hr4⟩ := (Hr'.out.below hb2).elem he'
              have hu5 := (hb2.cell (World.block_lt_of_cell? _ _ hu)).trans hu
              have hu6 := (hb2.cell (World.block_lt_of_cell? _ _ hu')).trans hu'
              have c1 := fun wx (h : Below wr.heap.size wr wx) => (h.cell (World.block_lt_of_cell? wr _ hu5)).trans hu5
              have c2 := fun wx (h : Below wr.heap.size wr wx) => (h.cell (World.block_lt_of_cell? wr _ hu6)).trans hu6
              have c3 := fun wx (h : Below wr.heap.size wr wx) => (h.cell (World.block_lt_of_cell? wr _ hu3)).trans hu3
              have c4 := fun wx (h : Below wr.heap.size wr wx) => (h.cell (World.block_lt_of_cell? wr _ hu4)).trans hu4
              have q3 := fun wx (h : Below wr.heap.size wr wx) => run_string (hr3.below h) 40 5 Try.underlying40 Try.underlying5 9 Try.underlying9
              have q4 := fun wx (h : Below wr.heap.size wr wx) => run_string (hr4.below h) 40 5 Try.underlying40 Try.underlying5 9 Try.underlying9
              clear hr3 hr4 hb2 hu hu' hu5 hu6 hu3 hu4
              go_wp2
              refine wp_region_seq (fun wx => Below wr.heap.size wr wx) [(0, true), (1, true), (2, true), (3, true), (4, true), (5, true), (6, true), (7, true), (8, true), (9, true), (10, true), (11, true), (12, true), (13, true), (14, true), (15, true), (16, true)] (by kernel_rfl) (by kernel_rfl) (fun c a d v w h => by cases d <;> exact h) ((Below.refl wr.heap.size wr).drew) ?_
              simp only [pickSeq, List.map_cons, List.map_nil, List.getD_cons_zero, List.getD_cons_succ]
              have hHeld := ((Below.refl wr.heap.size wr).drew)
              refine seq_take (v := ?_) (by rfl) (fun wx hSw => ?_) ?_; rotate_left; (go_simp <;> try with_reducible rfl); (try simp only [Act.put, List.setIfInBounds_toArray, List.set_cons_zero, List.set_cons_succ])
              refine seq_take (v := ?_) (by rfl) (fun wx hSw => ?_) ?_; rotate_left; (go_simp <;> try with_reducible rfl); (try simp only [Act.put, List.setIfInBounds_toArray, List.set_cons_zero, List.set_cons_succ])
              refine seq_take (v := ?_) (by rfl) (fun wx hSw => ?_) ?_; rotate_left; (go_simp <;> try with_reducible rfl); (try simp only [Act.put, List.setIfInBounds_toArray, List.set_cons_zero, List.set_cons_succ])
              refine seq_take (v := ?_) (by rfl) (fun wx hSw => ?_) ?_; rotate_left; (go_simp <;> try with_reducible rfl); (try simp only [Act.put, List.setIfInBounds_toArray, List.set_cons_zero, List.set_cons_succ])
              refine seq_take (v := ?_) (by rfl) (fun wx hSw => ?_) ?_; rotate_left; (go_simp <;> try with_reducible rfl); (try simp only [Act.put, List.setIfInBounds_toArray, List.set_cons_zero, List.set_cons_succ])
              refine seq_take (v := ?_) (by rfl) (fun wx hSw => ?_) ?_; rotate_left; (go_simp <;> try with_reducible rfl); (try simp only [Act.put, List.setIfInBounds_toArray, List.set_cons_zero, List.set_cons_succ])
              refine seq_take (v := ?_) (by rfl) (fun wx hSw => ?_) ?_; rotate_left; (go_simp <;> try with_reducible rfl); (try simp only [Act.put, List.setIfInBounds_toArray, List.set_cons_zero, List.set_cons_succ])
              refine seq_take (v := ?_) (by rfl) (fun wx hSw => ?_) ?_; rotate_left; (go_simp <;> try with_reducible rfl); (try simp only [Act.put, List.setIfInBounds_toArray, List.set_cons_zero, List.set_cons_succ])
              refine seq_take (v := ?_) (by rfl) (fun wx hSw => ?_) ?_; rotate_left; (go_simp <;> try with_reducible rfl); (try simp only [Act.put, List.setIfInBounds_toArray, List.set_cons_zero, List.set_cons_succ])
              refine seq_take (v := ?_) (by rfl) (fun wx hSw => ?_) ?_; rotate_left; (go_simp <;> try with_reducible rfl); (try simp only [Act.put, List.setIfInBounds_toArray, List.set_cons_zero, List.set_cons_succ])
              refine seq_take (v := ?_) (by rfl) (fun wx hSw => ?_) ?_; rotate_left; (go_simp <;> try with_reducible rfl); (try simp only [Act.put, List.setIfInBounds_toArray, List.set_cons_zero, List.set_cons_succ])
              refine seq_take (v := ?_) (by rfl) (fun wx hSw => ?_) ?_; rotate_left; (go_simp <;> try with_reducible rfl); (try simp only [Act.put, List.setIfInBounds_toArray, List.set_cons_zero, List.set_cons_succ])
              refine seq_take (v := ?_) (by rfl) (fun wx hSw => ?_) ?_; rotate_left; (go_simp <;> try with_reducible rfl); (try simp only [Act.put, List.setIfInBounds_toArray, List.set_cons_zero, List.set_cons_succ])
              refine seq_take (v := ?_) (by rfl) (fun wx hSw => ?_) ?_; rotate_left; (go_simp <;> try with_reducible rfl); (try simp only [Act.put, List.setIfInBounds_toArray, List.set_cons_zero, List.set_cons_succ])
              refine seq_take (v := ?_) (by rfl) (fun wx hSw => ?_) ?_; rotate_left; (go_simp <;> try with_reducible rfl); (try simp only [Act.put, List.setIfInBounds_toArray, List.set_cons_zero, List.set_cons_succ])
              refine seq_take (v := ?_) (by rfl) (fun wx hSw => ?_) ?_; rotate_left; (go_simp <;> try with_reducible rfl); (try simp only [Act.put, List.setIfInBounds_toArray, List.set_cons_zero, List.set_cons_succ])
              refine seq_take (v := ?_) (by rfl) (fun wx hSw => ?_) ?_; rotate_left; (go_simp <;> try with_reducible rfl); (try simp only [Act.put, List.setIfInBounds_toArray, List.set_cons_zero, List.set_cons_succ])
              refine seq_nil ?_
              clear c1 c2 c3 c4 q3 q4
              go_wp2
              · rename_i hq
                have hee : ¬ e = e' := fun h => by rw [str_beq_true h] at hq; exact absurd hq (by decide)
                go_ret
                refine ⟨⟨_, rfl, ⟨nofun, fun h => ?_⟩⟩, Hb.out.trans ((Hb2.out.trans (hHeld.mono Hb2.out.size)).mono Hb.out.size)⟩
                subst h
                rw [hg] at hg'
                obtain rfl := Option.some.inj hg'
                rw [he] at he'
                exact absurd (Option.some.inj he') hee
              · rename_i hq
                have hee : e = e' := Decidable.byContradiction fun h => by rw [str_beq_false h] at hq; exact absurd hq (by decide)
                go_roundw
                case rel => exact ⟨i2 + 1, by omega, by go_num, fun k hk => by
                    by_cases hk2 : k < i2
                    · exact Hall2.out k hk2
                    · obtain rfl : k = i2 := by omega
                      rw [he, he', hee], Hb2.out.trans (hHeld.mono Hb2.out.size)⟩
                case measure => simp [intOf]; omega
            · obtain rfl : i2 = g'.length := by omega
              go_wp2
              go_roundw
              case rel => exact ⟨i + 1, by omega, by go_num, fun k hk => by
                  by_cases hk2 : k < i
                  · exact Hall.out k hk2
                  · obtain rfl : k = i := by omega
                    rw [hg, hg', ext_upto hlg (fun k hk => Hall2.out k (by omega))], Hb.out.trans (Hb2.out.mono Hb.out.size)⟩
              case measure => simp [intOf]; omega
        · go_wp2
          go_quiet (fail)
          go_wp2
          go_ret
          refine ⟨⟨_, rfl, ⟨nofun, fun h => ?_⟩⟩, Hb.out.trans ((below_drewN (Below.refl wr.heap.size wr) _).mono Hb.out.size)⟩
          subst h
          rw [hg] at hg'
          obtain rfl := Option.some.inj hg'
          exact absurd rfl hlg
      · obtain rfl : i = x.length := by omega
        go_wp2
        go_ret
        exact ⟨⟨_, rfl, by simp [ext_upto hl Hall.out]⟩, Hb.out⟩
  · have : ¬ (x.length : Int) = y.length := by omega
    go_wp2
    go_ret
    exact ⟨⟨_, rfl, ⟨nofun, fun h => absurd (congrArg _ h) hl⟩⟩, Below.refl _ _⟩
end Go.Proofs.Ytobpjldpkgioaaa
