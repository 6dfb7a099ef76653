/- ref01: Number, Text, Next, the reader -/
import Derived.Test.YtobpjldpkgioaaaVput
set_option linter.unusedVariables false
namespace Go.Proofs.Ytobpjldpkgioaaa
open Go.RowKit

set_option maxHeartbeats 400000 in
set_option maxRecDepth 100000 in
theorem rnumber_spec : ∀ (f n : Nat) (w : World), n < 128 ^ f → 1 ≤ f → f ≤ 10 → n < 18446744073709551616 →
    Calls Try.prog 94 #[.int .u64 n] w fun e w' => (∃ r, e = .returned r ∧ ownB w' 5 w.heap.size r (vnumF f n)) ∧ Below w.heap.size w w' := by
  intro f
  induction f with
  | zero => intro n w _ h; omega
  | succ f ih =>
    intro n w hn _ hf hn64
    by_cases h128 : n < 128
    · rw [vnumF, if_pos h128]
      clear ih hn
      go_enter Try.func94, Try.ntmps94
      go_wp2
      go_ret
      exact ⟨⟨_, rfl, ownB.lit (cs := [.int .u8 n]) (heap_alloc_new _ _) (by simp [bvals, bval]; omega) (by simp [maxLen]) (Nat.le_refl _) rfl rfl⟩, below_alloc _ _⟩
    · rw [vnumF, if_neg h128]
      have hf0 : 1 ≤ f := by
        rcases Nat.eq_zero_or_pos f with h | h
        · subst h; simp only [Nat.zero_add, Nat.pow_one] at hn; omega
        · exact h
      have hmf2 : n / 128 < 128 ^ f := by rw [Nat.div_lt_iff_lt_mul (by decide), ← Nat.pow_succ]; exact hn
      have IH := Lib.hid ih
      have Hm := Lib.hid hmf2
      clear ih hn hmf2
      go_enter Try.func94, Try.ntmps94
      go_wp2_with (first | (go_at_call 94; refine (IH.out (n / 128) _ Hm.out hf0 (by omega) (by omega)).mono ?_; rintro e w2 ⟨⟨r, rfl, ho⟩, hb2⟩) | (at_builtin; refine stop_in ?_))
      have hkeep := below_keeps hb2 (heap_alloc_new w (.cells #[.int .u8 ((n : Int) % 128 + 128)] 5))
      have hs2 := hb2.size
      have hvl := vnumF_len f (n / 128)
      simp only [size_alloc] at hs2
      refine stop_out ?_; refine wpList_append_bytes (o := ⟨some 16, _, _, _, _, _⟩) rfl (.tmp 12) (.tmp 15) 40 rfl w.heap.size 5 Try.underlying40 Try.infoU8 _ _ rfl (ownB.lit (bs := [UInt8.ofNat (n % 128 + 128)]) (cs := [.int .u8 ((n : Int) % 128 + 128)]) hkeep (by simp [bvals, bval]; omega) (by simp [maxLen]) (Nat.le_refl _) rfl rfl) _ _ rfl (ho.isB) (by simp; omega) (by omega) ?_
      intro v3 w3 ho3 hc3
      go_wp2
      go_ret
      exact ⟨⟨_, rfl, ho3⟩, ((below_alloc w _).trans (hb2.mono (by simp))).trans (hc3.below (by omega) (fun k hk => hk.1))⟩

theorem rnumber (n : Nat) (w : World) (h : n < 18446744073709551616) :
    Calls Try.prog 94 #[.int .u64 n] w fun e w' => (∃ r, e = .returned r ∧ ownB w' 5 w.heap.size r (vnum n)) ∧ Below w.heap.size w w' :=
  rnumber_spec 10 n w (by simp only [Nat.reducePow]; omega) (by decide) (by decide) h

set_option maxHeartbeats 400000 in
theorem rtext_spec (w : World) (v : Value) (bs : List UInt8) (hb : isB w v bs) (hl : bs.length ≤ 140737488355000) :
    Calls Try.prog 95 #[v] w fun e w' => (∃ r, e = .returned r ∧ ownB w' 5 w.heap.size r (vnum bs.length ++ bs)) ∧ Below w.heap.size w w' := by
  have HB := Lib.hid hb
  obtain ⟨ao, cap, rfl, -, -⟩ := hb.shape rfl
  clear hb
  go_enter Try.func95, Try.ntmps95
  go_wp2_with (first | (go_at_call 94; refine (rnumber bs.length _ (by omega)).mono ?_; rintro e w2 ⟨⟨r, rfl, ho⟩, hb2⟩) | (at_builtin; refine stop_in ?_))
  have hvl : (vnum bs.length).length ≤ 10 := vnumF_len 10 bs.length
  refine stop_out ?_; refine wpList_append_bytes (o := ⟨some 8, _, _, _, _, _⟩) rfl (.tmp 6) (.tmp 7) 40 rfl w.heap.size 5 Try.underlying40 Try.infoU8 _ _ rfl (ho) _ _ rfl (HB.out.below hb2) (by omega) (hb2.size) ?_
  intro v3 w3 ho3 hc3
  go_wp2
  go_ret
  exact ⟨⟨_, rfl, ho3⟩, hb2.trans (hc3.below hb2.size (fun k hk => hk.1))⟩

/-- the number of the first k bytes -/
def vacc (b : List UInt8) : Nat → Nat
  | 0 => 0
  | k + 1 => vacc b k + (b.getD k 0).toNat % 128 * 128 ^ k

theorem vacc_lt (b : List UInt8) : ∀ k, vacc b k < 128 ^ k
  | 0 => by simp [vacc]
  | k + 1 => acc_next _ k _ (vacc_lt b k)

set_option maxHeartbeats 1000000 in
set_option maxRecDepth 100000 in
theorem rnext_spec (w : World) (v : Value) (b : List UInt8) (hb : isB w v b) :
    Calls Try.prog 120 #[v] w fun e w' => e = .returned (.tuple #[.int .u64 (vnext b).1, .int .i64 (vnext b).2.1, .int .i64 (vnext b).2.2]) ∧ w = w' := by
  obtain ⟨ao, cap, rfl, -, -⟩ := hb.shape rfl
  have hlen := hb.len
  simp only [maxLen] at hlen
  have HB := Lib.hid hb
  clear hb
  go_enter Try.func120, Try.ntmps120
  go_wp2
  generalize hR : vnext b = R
  go_loop [5] (fun x => ∃ i : Nat, i ≤ b.length ∧ i ≤ 9 ∧ x = .int .i64 i ∧ vgo i (vacc b i) (b.drop i) = R) (fun x => b.length - (intOf x).toNat)
  case atStart => exact ⟨0, by omega, by omega, rfl, hR⟩
  case round =>
    obtain ⟨i, hi, hi9, rfl, hv⟩ := hrel
    by_cases hin : i < b.length
    · obtain ⟨c, hc⟩ : ∃ e, b[i]? = some e := ⟨_, List.getElem?_eq_getElem hin⟩
      obtain ⟨bk, off, rfl, hcell⟩ := HB.out.at hin
      have hcc := hcell i c hc
      have hc8 := c.toNat_lt
      have Hcell := Lib.hid hcell
      clear hcell
      have hd : b.drop i = c :: b.drop (i + 1) := by
        obtain ⟨hlt', he'⟩ := List.getElem?_eq_some_iff.1 hc
        rw [List.drop_eq_getElem_cons hlt', he']
      have hgd : b.getD i 0 = c := by simp [List.getD, hc]
      have hva : vacc b (i + 1) = vacc b i + c.toNat % 128 * 128 ^ i := by rw [vacc, hgd]
      rw [hd, vgo, ← hva] at hv
      have Hv := Lib.hid hv
      have Hva := Lib.hid hva
      clear hd hv hgd hva
      by_cases hbad : (i = 9 ∧ 1 < c.toNat) ∨ (0 < i ∧ c.toNat = 0)
      · rw [if_pos hbad] at Hv
        obtain rfl := Hv.out
        rcases hbad with ⟨h9, h1⟩ | ⟨h0, hc0⟩
        · subst h9
          go_wp2
          all_goals (go_ret3; exact ⟨rfl, rfl⟩)
        · have hcb : ((c.toNat : Int) == 0) = true := by simp; omega
          by_cases h9 : i = 9
          · subst h9
            go_wp2
            all_goals (go_ret3; exact ⟨rfl, rfl⟩)
          · go_wp2
            all_goals (go_ret3; exact ⟨rfl, rfl⟩)
      · rw [if_neg hbad] at Hv
        have hacc := acc_lt (vacc b i) i c.toNat hi9 (vacc_lt b i) (by omega) (by omega)
        rw [← Hva.out] at hacc
        have hlt64 := hacc.2
        clear hacc
        by_cases h128 : c.toNat < 128
        · rw [if_pos h128] at Hv
          obtain rfl := Hv.out
          have Hbad := Lib.hid hbad
          clear hbad
          by_cases h9 : i = 9
          · have h9b : ((i : Int) == 9) = true := by simp; omega
            have h1b : ¬ (1 : Int) < c.toNat := by have := Hbad.out; omega
            have hcb : ((c.toNat : Int) == 0) = false := by have := Hbad.out; simp; omega
            have h0 : 0 < i := by omega
            have H9 := Lib.hid h9
            clear h9
            go_wp2
            go_loop [6, 7] (fun vn x => ∃ m acc : Nat, m ≤ i + 1 ∧ x = .int .i64 ((m : Int) - 1) ∧ vn = .int .u64 acc ∧ acc * 128 ^ m + vacc b m = vacc b (i + 1)) (fun _ x => (intOf x + 1).toNat)
            case atStart => exact ⟨i + 1, 0, by omega, by go_num, rfl, by omega⟩
            case round =>
              obtain ⟨m, acc, hm, rfl, rfl, ha⟩ := hrel
              rcases m with _ | k
              · simp only [Nat.pow_zero, Nat.mul_one, vacc, Nat.add_zero] at ha
                have Ha := Lib.hid ha
                clear ha
                go_wp2
                go_ret3
                rw [Ha.out]; exact ⟨rfl, rfl⟩
              · have hk : k < b.length := by omega
                obtain ⟨d, hd⟩ : ∃ e, b[k]? = some e := ⟨_, List.getElem?_eq_getElem hk⟩
                have hdd := Hcell.out k d hd
                have hd8 := d.toNat_lt
                have hgd : b.getD k 0 = d := by simp [List.getD, hd]
                have hstep : (128 * acc + d.toNat % 128) * 128 ^ k + vacc b k = vacc b (i + 1) := by
                  rw [← ha, vacc, hgd, Nat.pow_succ, Nat.add_mul, Nat.mul_comm 128 acc, Nat.mul_assoc, Nat.mul_comm 128 (128 ^ k)]; omega
                have hbig : 128 * acc + d.toNat % 128 < 18446744073709551616 := by
                  have h1 : (128 * acc + d.toNat % 128) * 1 ≤ (128 * acc + d.toNat % 128) * 128 ^ k := Nat.mul_le_mul_left _ (Nat.pow_pos (by decide))
                  omega
                have Hstep := Lib.hid hstep
                rw [show (((k + 1 : Nat) : Int) - 1) = (k : Int) by omega]
                clear ha hgd hstep
                go_wp2
                go_round
                case rel => exact ⟨k, 128 * acc + d.toNat % 128, by omega, by go_num, by go_num, Hstep.out⟩
                case measure => simp [intOf]
          · have h9b : ((i : Int) == 9) = false := by simp; omega
            by_cases h0 : 0 < i
            · have hcb : ((c.toNat : Int) == 0) = false := by have := Hbad.out; simp; omega
              go_wp2
              go_loop [6, 7] (fun vn x => ∃ m acc : Nat, m ≤ i + 1 ∧ x = .int .i64 ((m : Int) - 1) ∧ vn = .int .u64 acc ∧ acc * 128 ^ m + vacc b m = vacc b (i + 1)) (fun _ x => (intOf x + 1).toNat)
              case atStart => exact ⟨i + 1, 0, by omega, by go_num, rfl, by omega⟩
              case round =>
                obtain ⟨m, acc, hm, rfl, rfl, ha⟩ := hrel
                rcases m with _ | k
                · simp only [Nat.pow_zero, Nat.mul_one, vacc, Nat.add_zero] at ha
                  have Ha := Lib.hid ha
                  clear ha
                  go_wp2
                  go_ret3
                  rw [Ha.out]; exact ⟨rfl, rfl⟩
                · have hk : k < b.length := by omega
                  obtain ⟨d, hd⟩ : ∃ e, b[k]? = some e := ⟨_, List.getElem?_eq_getElem hk⟩
                  have hdd := Hcell.out k d hd
                  have hd8 := d.toNat_lt
                  have hgd : b.getD k 0 = d := by simp [List.getD, hd]
                  have hstep : (128 * acc + d.toNat % 128) * 128 ^ k + vacc b k = vacc b (i + 1) := by
                    rw [← ha, vacc, hgd, Nat.pow_succ, Nat.add_mul, Nat.mul_comm 128 acc, Nat.mul_assoc, Nat.mul_comm 128 (128 ^ k)]; omega
                  have hbig : 128 * acc + d.toNat % 128 < 18446744073709551616 := by
                    have h1 : (128 * acc + d.toNat % 128) * 1 ≤ (128 * acc + d.toNat % 128) * 128 ^ k := Nat.mul_le_mul_left _ (Nat.pow_pos (by decide))
                    omega
                  have Hstep := Lib.hid hstep
                  rw [show (((k + 1 : Nat) : Int) - 1) = (k : Int) by omega]
                  clear ha hgd hstep
                  go_wp2
                  go_round
                  case rel => exact ⟨k, 128 * acc + d.toNat % 128, by omega, by go_num, by go_num, Hstep.out⟩
                  case measure => simp [intOf]
            · go_wp2
              go_loop [6, 7] (fun vn x => ∃ m acc : Nat, m ≤ i + 1 ∧ x = .int .i64 ((m : Int) - 1) ∧ vn = .int .u64 acc ∧ acc * 128 ^ m + vacc b m = vacc b (i + 1)) (fun _ x => (intOf x + 1).toNat)
              case atStart => exact ⟨i + 1, 0, by omega, by go_num, rfl, by omega⟩
              case round =>
                obtain ⟨m, acc, hm, rfl, rfl, ha⟩ := hrel
                rcases m with _ | k
                · simp only [Nat.pow_zero, Nat.mul_one, vacc, Nat.add_zero] at ha
                  have Ha := Lib.hid ha
                  clear ha
                  go_wp2
                  go_ret3
                  rw [Ha.out]; exact ⟨rfl, rfl⟩
                · have hk : k < b.length := by omega
                  obtain ⟨d, hd⟩ : ∃ e, b[k]? = some e := ⟨_, List.getElem?_eq_getElem hk⟩
                  have hdd := Hcell.out k d hd
                  have hd8 := d.toNat_lt
                  have hgd : b.getD k 0 = d := by simp [List.getD, hd]
                  have hstep : (128 * acc + d.toNat % 128) * 128 ^ k + vacc b k = vacc b (i + 1) := by
                    rw [← ha, vacc, hgd, Nat.pow_succ, Nat.add_mul, Nat.mul_comm 128 acc, Nat.mul_assoc, Nat.mul_comm 128 (128 ^ k)]; omega
                  have hbig : 128 * acc + d.toNat % 128 < 18446744073709551616 := by
                    have h1 : (128 * acc + d.toNat % 128) * 1 ≤ (128 * acc + d.toNat % 128) * 128 ^ k := Nat.mul_le_mul_left _ (Nat.pow_pos (by decide))
                    omega
                  have Hstep := Lib.hid hstep
                  rw [show (((k + 1 : Nat) : Int) - 1) = (k : Int) by omega]
                  clear ha hgd hstep
                  go_wp2
                  go_round
                  case rel => exact ⟨k, 128 * acc + d.toNat % 128, by omega, by go_num, by go_num, Hstep.out⟩
                  case measure => simp [intOf]
        · rw [if_neg h128] at Hv
          have h9 : ¬ i = 9 := by omega
          have h9b : ((i : Int) == 9) = false := by simp; omega
          by_cases h0 : 0 < i
          · have hcb : ((c.toNat : Int) == 0) = false := by simp; omega
            go_wp2
            go_round
            case rel => exact ⟨i + 1, by omega, by omega, by go_num, Hv.out⟩
            case measure => simp [intOf]; omega
          · go_wp2
            go_round
            case rel => exact ⟨i + 1, by omega, by omega, by go_num, Hv.out⟩
            case measure => simp [intOf]; omega
    · obtain rfl : i = b.length := by omega
      rw [List.drop_length] at hv
      obtain rfl := hv
      go_wp2
      go_ret3
      exact ⟨rfl, rfl⟩

abbrev isQ : World → Nat → (Nat → Prop) → List UInt8 → Nat → Prop := isRT 119

def QNumPost (w : World) (r : Nat) (g : Nat → Prop) (x : Nat × List UInt8 × Nat) (e : Ending) (w' : World) : Prop := e = .returned (.int .u64 x.1) ∧ isQ w' r g x.2.1 x.2.2 ∧ Chg (· = r) w w'

set_option maxHeartbeats 400000 in
theorem qnumber_spec (w : World) (r : Nat) (g : Nat → Prop) (bs : List UInt8) (e0 most : Nat) (h : isQ w r g bs e0) :
    Calls Try.prog 84 #[.pointer (some ⟨r, 0, none⟩), .int .u64 most] w (QNumPost w r g (rnum most bs e0)) := by
  have H := Lib.hid h
  obtain ⟨v, h1, hv, hg, hne⟩ := h
  obtain ⟨c0, c1⟩ := cells2' h1
  have f0 := unfrozen h1 0
  have f1 := unfrozen h1 1
  obtain ⟨ao, cap, rfl, -, -⟩ := hv.shape rfl
  have hlen := hv.len
  have Hg := Lib.hid hg
  have HV := Lib.hid hv
  simp only [maxLen] at hlen
  clear h1 hg hv hne
  by_cases h0 : e0 = 0
  · subst h0
    obtain ⟨n, s, er, hx⟩ : ∃ n s er, vnext bs = (n, s, er) := ⟨_, _, _, rfl⟩
    have hs := vgo_size bs 0 0
    have hnl := vgo_lt bs 0 0 (by omega) (by decide)
    have Hx := Lib.hid hx
    rw [show vgo 0 0 bs = vnext bs from rfl, hx] at hs hnl
    clear hx
    dsimp only at hs hnl
    by_cases her : er = 0
    · subst her
      by_cases hm : most < n
      · have hR : rnum most bs 0 = (0, bs, 5) := by rw [rnum, if_neg (by simp), Hx.out, if_neg (by simp), if_pos hm]
        rw [hR]
        clear hR
        go_enter Try.func84, Try.ntmps84
        go_wp2_with (go_at_call 120; refine (rnext_spec _ _ bs HV.out).mono ?_; rintro e w1 ⟨rfl, rfl⟩; rw [Hx.out])
        go_ret
        exact ⟨rfl, H.out.set 5, isR.chg0 _ _⟩
      · have hR : rnum most bs 0 = (n, bs.drop s, 0) := by rw [rnum, if_neg (by simp), Hx.out, if_neg (by simp), if_neg hm]
        rw [hR]
        clear hR
        have hcap : s ≤ cap := by obtain ⟨ao', cap', e, g1, -⟩ := HV.out; simp only [Value.slice.injEq] at e; omega
        have hcl : bs.length ≤ cap := by obtain ⟨ao', cap', e, g1, -⟩ := HV.out; simp only [Value.slice.injEq] at e; omega
        have hsl : s ≤ bs.length := by omega
        go_enter Try.func84, Try.ntmps84
        go_wp2_with (go_at_call 120; refine (rnext_spec _ _ bs HV.out).mono ?_; rintro e w1 ⟨rfl, rfl⟩; rw [Hx.out])
        all_goals go_ret
        all_goals
          have hcut := HV.out.cut (l := s) (hh := bs.length) (m := cap) hsl (Nat.le_refl _) hcl (Nat.le_refl _)
          have hgc : inL g (sliced ao s bs.length cap 1) := inL_sliced Hg.out (Nat.le_refl _)
          rw [List.take_of_length_le (by simp)] at hcut
        · rw [show sliced ao s bs.length cap 1 = .slice ao (bs.length - s) 0 by simp [sliced, h]] at hcut hgc
          exact ⟨rfl, H.out.cutTo hcut hgc, isR.chg0 _ _⟩
        · rw [show sliced ao s bs.length cap 1 = .slice (ao.map fun x => x.add s) (bs.length - s) (cap - s) by simp [sliced, h]] at hcut hgc
          exact ⟨rfl, H.out.cutTo hcut hgc, isR.chg0 _ _⟩
    · have hR : rnum most bs 0 = (0, bs, er) := by rw [rnum, if_neg (by simp), Hx.out, if_pos (by simpa using her)]
      rw [hR]
      clear hR
      have heb : ((er : Int) == 0) = false := by simp; omega
      go_enter Try.func84, Try.ntmps84
      go_wp2_with (go_at_call 120; refine (rnext_spec _ _ bs HV.out).mono ?_; rintro e w1 ⟨rfl, rfl⟩; rw [Hx.out])
      go_ret
      exact ⟨rfl, H.out.set er, isR.chg0 _ _⟩
  · have hR : rnum most bs e0 = (0, bs, e0) := by rw [rnum, if_pos h0]
    rw [hR]
    have heb : ((e0 : Int) == 0) = false := by simp; omega
    go_enter Try.func84, Try.ntmps84
    go_wp2
    go_ret
    exact ⟨rfl, H.out, Chg.refl _ _⟩
end Go.Proofs.Ytobpjldpkgioaaa
