/- varint: Put, Bytes -/
import Derived.Test.YtobpjldpkgioaaaReader
import Derived.Test.YtobpjldpkgioaaaLists
set_option linter.unusedVariables false
namespace Go.Proofs.Ytobpjldpkgioaaa
open Go.RowKit

/-- a number's bytes (f: so many at most) -/
def vnumF : Nat → Nat → List UInt8
  | 0, _ => []
  | f + 1, n => if n < 128 then [UInt8.ofNat n] else UInt8.ofNat (n % 128 + 128) :: vnumF f (n / 128)
abbrev vnum (n : Nat) : List UInt8 := vnumF 10 n
def vnums (l : List Nat) : List UInt8 := l.flatMap vnum

theorem vnumF_len (f : Nat) : ∀ n, (vnumF f n).length ≤ f := by
  induction f with
  | zero => intro n; simp [vnumF]
  | succ f ih => intro n; unfold vnumF; split; simp; have := ih (n / 128); simp; omega

theorem or128 : ∀ c : Fin 256, (c.val ||| 128) = c.val % 128 + 128 := by decide +kernel

theorem byte_or128 (n : Nat) : bits .or .u8 ((n : Int) % 256) 128 = ((UInt8.ofNat (n % 128 + 128)).toNat : Int) := by
  rw [show (n : Int) % 256 = ((n % 256 : Nat) : Int) by omega, show (128 : Int) = ((128 : Nat) : Int) from rfl, u8_or_nat _ _ (Nat.mod_lt _ (by decide)) (by decide), or128 ⟨n % 256, Nat.mod_lt _ (by decide)⟩]
  simp; omega

abbrev isU : World → Value → Nat → Prop := fun _ u n => u = .int .u64 n ∧ n < 18446744073709551616

def PutPost (w : World) (bs : List UInt8) (ns : List Nat) (e : Ending) (w' : World) : Prop :=
  (∃ r, e = .returned r ∧ ownB w' 5 w.heap.size r (bs ++ vnums ns)) ∧ Below w.heap.size w w'

theorem isS.below_any {α : Type} {R : World → Value → α → Prop} (hR : Grows R) {B : Nat} {w w' : World} {v : Value} {xs : List α} (h : isS R w v xs) (hb : Below w.heap.size w w') : isS R w' v xs := h.below hR hb

theorem isS.el {α : Type} {R : World → Value → α → Prop} {w : World} {ao : Option Addr} {n cap : Nat} {xs : List α} (h : isS R w (.slice ao n cap) xs) {j : Nat} {x : α} (hj : xs[j]? = some x) :
    ∃ b off u, ao = some ⟨b, off, none⟩ ∧ w.cell? ⟨b, off + j, none⟩ = some u ∧ R w u x := by
  obtain ⟨b, off, e, h⟩ := h.at (List.getElem?_eq_some_iff.1 hj).1
  obtain ⟨u, h1, h2⟩ := h j x hj
  exact ⟨b, off, u, e, h1, h2⟩

theorem vnums_len (l : List Nat) : (vnums l).length ≤ 10 * l.length := by
  induction l with
  | nil => simp [vnums]
  | cons a l ih =>
    have := vnumF_len 10 a
    have e : vnums (a :: l) = vnumF 10 a ++ vnums l := rfl
    rw [e, List.length_append, List.length_cons]; omega

theorem vnums_take (l : List Nat) {i n : Nat} (h : l[i]? = some n) : vnums (l.take (i + 1)) = vnums (l.take i) ++ vnum n := by
  rw [List.take_add_one, h]; simp [vnums]

theorem grows_U : Grows isU := fun _ _ _ _ h _ => h

set_option maxHeartbeats 1000000 in
set_option maxRecDepth 100000 in
theorem put_spec (w : World) (v lv : Value) (bs : List UInt8) (ns : List Nat) (hb : isB w v bs) (hl : isS isU w lv ns) (h0 : 0 < ns.length) (hm : bs.length + 10 * ns.length ≤ 140737488355328) :
    Calls Try.prog 106 #[v, lv] w (PutPost w bs ns) := by
  have HB := Lib.hid hb
  obtain ⟨aol, capl, rfl, -, -⟩ := hl.shape rfl
  have HL := Lib.hid hl
  clear hb hl
  go_enter Try.func106, Try.ntmps106
  go_wp2_with (go_at_call 121; refine (clip_spec _ _ bs HB.out).mono ?_; rintro e w1 ⟨⟨ao, rfl, hcl⟩, rfl⟩)
  go_loopw [0, 11] (fun vb x wr => ∃ i : Nat, i ≤ ns.length ∧ x = .int .i64 i ∧ appB wr 5 w.heap.size vb (bs ++ vnums (ns.take i)) ∧ (0 < i → ownB wr 5 w.heap.size vb (bs ++ vnums (ns.take i))) ∧ Below w.heap.size w wr) (fun _ x _ => ns.length - (intOf x).toNat)
  case atStart => exact ⟨0, by omega, rfl, .inr ⟨by simpa [vnums] using hcl, ao, by simp [vnums]⟩, by omega, Below.refl _ _⟩
  case round =>
    obtain ⟨i, hi, rfl, happ, hown, hbw⟩ := hrel
    have Hown := Lib.hid hown
    have Hbw := Lib.hid hbw
    have Happ := Lib.hid happ
    clear happ hown
    by_cases hin : i < ns.length
    · obtain ⟨n, hn⟩ : ∃ e, ns[i]? = some e := ⟨_, List.getElem?_eq_getElem hin⟩
      obtain ⟨bl, off, u, rfl, hu, rfl, hn64⟩ := (HL.out.below grows_U hbw).el hn
      clear hbw
      have hpre : (bs ++ vnums (ns.take i)).length + 10 ≤ 140737488355328 := by
        have := vnums_len (ns.take i); rw [List.length_take] at this; rw [List.length_append]; omega
      go_wp2
      generalize hP : bs ++ vnums (ns.take i) = P at Happ hpre
      go_loopw [0, 6] (fun vb x w2 => ∃ (f m : Nat) (pre : List UInt8), 1 ≤ f ∧ f ≤ 10 ∧ m < 128 ^ f ∧ m < 18446744073709551616 ∧ x = .int .u64 m ∧ pre ++ vnumF f m = vnum n ∧ pre.length + f = 10 ∧ appB w2 5 w.heap.size vb (P ++ pre) ∧ Below w.heap.size w w2) (fun _ x _ => (intOf x).toNat)
      case atStart => exact ⟨10, n, [], by omega, by omega, by simp only [Nat.reducePow]; omega, hn64, rfl, rfl, rfl, by simpa using Happ.out, Hbw.out⟩
      case round =>
        obtain ⟨f, m, pre, hf1, hf2, hmf, hm64, rfl, hpm, hpl, happ, hb2⟩ := hrel
        have Happ2 := Lib.hid happ
        have Hpm := Lib.hid hpm
        have Hb2 := Lib.hid hb2
        have hs2 := hb2.size
        clear happ hpm hb2
        obtain ⟨f, rfl⟩ : ∃ k, f = k + 1 := ⟨f - 1, by omega⟩
        by_cases h128 : m < 128
        · go_wp2_with (at_builtin; refine stop_in ?_)
          refine stop_out ?_; refine wpList_append_app (o := ⟨some 29, _, _, _, _, _⟩) rfl (.tmp 25) (.tmp 28) 40 rfl w.heap.size 5 Try.underlying40 Try.infoU8 _ _ rfl (Happ2.out.alloc _) _ _ rfl (isB.one (c := UInt8.ofNat m) (heap_alloc_new _ _) (by simp; omega)) (by simp) (by simp; omega) (by simp; omega) ?_
          intro v1 w3 ho hc
          have hb3 : Below w.heap.size w w3 := (Hb2.out.alloc hs2 _).trans (hc.below (by simp; omega) (fun k hk => hk.1))
          have ho2 : ownB w3 5 w.heap.size v1 (bs ++ vnums (ns.take (i + 1))) := by
            have hp := Hpm.out
            rw [vnumF, if_pos h128] at hp
            rw [vnums_take ns hn, ← hp, ← List.append_assoc, hP, ← List.append_assoc]; exact ho
          clear hc ho
          go_wp2
          go_roundw
          case rel => exact ⟨i + 1, by omega, by go_num, .inl ho2, fun _ => ho2, hb3⟩
          case measure => simp [intOf]; omega
        · go_wp2_with (at_builtin; refine stop_in ?_)
          refine stop_out ?_; refine wpList_append_app (o := ⟨some 24, _, _, _, _, _⟩) rfl (.tmp 19) (.tmp 23) 40 rfl w.heap.size 5 Try.underlying40 Try.infoU8 _ _ rfl (Happ2.out.alloc _) _ _ rfl (isB.one (c := UInt8.ofNat (m % 128 + 128)) (heap_alloc_new _ _) (byte_or128 m)) (by simp) (by simp; omega) (by simp; omega) ?_
          intro v1 w3 ho hc
          have hb3 : Below w.heap.size w w3 := (Hb2.out.alloc hs2 _).trans (hc.below (by simp; omega) (fun k hk => hk.1))
          have hf0 : 1 ≤ f := by
            rcases Nat.eq_zero_or_pos f with h | h
            · subst h; simp only [Nat.zero_add, Nat.pow_one] at hmf; omega
            · exact h
          have hmf2 : m / 128 < 128 ^ f := by rw [Nat.div_lt_iff_lt_mul (by decide), ← Nat.pow_succ]; exact hmf
          have hp2 : (pre ++ [UInt8.ofNat (m % 128 + 128)]) ++ vnumF f (m / 128) = vnum n := by
            have hp := Hpm.out
            rw [vnumF, if_neg h128] at hp
            rw [List.append_assoc]; exact hp
          rw [List.append_assoc] at ho
          have Hp2 := Lib.hid hp2
          clear hc hp2
          go_wp2
          go_roundw
          case rel => exact ⟨f, m / 128, _, hf0, by omega, hmf2, by omega, by go_num, Hp2.out, by simp; omega, .inl ho, hb3⟩
          case measure => simp [intOf]; omega
    · obtain rfl : i = ns.length := by omega
      clear hbw
      go_wp2
      go_ret
      have := Hown.out h0
      rw [List.take_length] at this
      exact ⟨⟨_, rfl, this⟩, Hbw.out⟩

/-- each row's length, and it -/
def vtexts (l : List (List UInt8)) : List UInt8 := l.flatMap fun x => vnum x.length ++ x

theorem vtexts_take (l : List (List UInt8)) {i : Nat} {x : List UInt8} (h : l[i]? = some x) : vtexts (l.take (i + 1)) = vtexts (l.take i) ++ (vnum x.length ++ x) := by
  rw [List.take_add_one, h]; simp [vtexts]

def total (l : List (List UInt8)) : Nat := (l.map fun x => x.length + 10).sum

theorem vtexts_len (l : List (List UInt8)) : (vtexts l).length ≤ total l := by
  induction l with
  | nil => simp [vtexts, total]
  | cons a l ih =>
    have := vnumF_len 10 a.length
    have e : vtexts (a :: l) = (vnumF 10 a.length ++ a) ++ vtexts l := rfl
    have e2 : total (a :: l) = a.length + 10 + total l := by simp [total]
    rw [e, e2, List.length_append, List.length_append]; omega

theorem total_take (l : List (List UInt8)) {i : Nat} {x : List UInt8} (h : l[i]? = some x) : total (l.take i) + x.length + 10 ≤ total l := by
  obtain ⟨hi, hx⟩ := List.getElem?_eq_some_iff.1 h
  have e : l = l.take i ++ (x :: l.drop (i + 1)) := by rw [← hx, ← List.drop_eq_getElem_cons hi, List.take_append_drop]
  have e2 : total l = total (l.take i) + (x.length + 10 + total (l.drop (i + 1))) := by
    conv => lhs; rw [e]
    simp [total]
  omega

theorem isU_lit {w : World} {g : Nat} {n : Nat} {T : TypeId} {fz : Nat × Nat} (h : w.heap[g]? = some (.cells #[.int .u64 n] T fz)) (hn : n < 18446744073709551616) : isS isU w (.slice (some ⟨g, 0, none⟩) 1 1) [n] := by
  refine ⟨_, 1, rfl, Nat.le_refl _, by simp [maxLen], nofun, ?_⟩
  rintro a ha
  obtain rfl := Option.some.inj ha
  refine ⟨fun _ => rfl, fun i x hx => ?_⟩
  match i, hx with
  | 0, hx => obtain rfl := Option.some.inj hx; exact ⟨_, by rw [cell_of_row _ _ _ _ _ _ h]; rfl, rfl, hn⟩
  | i + 1, hx => simp at hx

set_option maxHeartbeats 1000000 in
set_option maxRecDepth 100000 in
theorem texts_spec (w : World) (v lv : Value) (bs : List UInt8) (l : List (List UInt8)) (hb : isB w v bs) (hl : isBs w lv l) (h0 : 0 < l.length) (hm : bs.length + total l ≤ 140737488355328) :
    Calls Try.prog 87 #[v, lv] w fun e w' => (∃ r, e = .returned r ∧ ownB w' 5 w.heap.size r (bs ++ vtexts l)) ∧ Below w.heap.size w w' := by
  have HB := Lib.hid hb
  obtain ⟨aol, capl, rfl, -, -⟩ := hl.shape rfl
  have hlen := hl.len
  simp only [maxLen] at hlen
  have HL := Lib.hid hl
  clear hb hl
  go_enter Try.func87, Try.ntmps87
  go_wp2
  go_loopw [0, 9] (fun vb x wr => ∃ i : Nat, i ≤ l.length ∧ x = .int .i64 i ∧ isB wr vb (bs ++ vtexts (l.take i)) ∧ (0 < i → ownB wr 5 w.heap.size vb (bs ++ vtexts (l.take i))) ∧ Below w.heap.size w wr) (fun _ x _ => l.length - (intOf x).toNat)
  case atStart => exact ⟨0, by omega, rfl, by simpa [vtexts] using HB.out, by omega, Below.refl _ _⟩
  case round =>
    obtain ⟨i, hi, rfl, hisb, hown, hbw⟩ := hrel
    have Hown := Lib.hid hown
    have Hbw := Lib.hid hbw
    have Hisb := Lib.hid hisb
    have hsz := hbw.size
    clear hisb hown
    by_cases hin : i < l.length
    · obtain ⟨x, hx⟩ : ∃ e, l[i]? = some e := ⟨_, List.getElem?_eq_getElem hin⟩
      obtain ⟨bl, off, u, rfl, hu, hr⟩ := (isS.below grows_B HL.out hbw).el hx
      obtain ⟨aox, capx, rfl, -, -⟩ := hr.shape rfl
      have Hr := Lib.hid hr
      have ht := total_take l hx
      have hv := vtexts_len (l.take i)
      have hx64 : x.length < 9223372036854775808 := by omega
      clear hbw hr
      go_wp2_with (first | (go_at_call 106; refine (put_spec _ _ _ (bs ++ vtexts (l.take i)) [x.length] (Hisb.out.alloc _) (isU_lit (heap_alloc_new _ _) (by omega)) (by simp) (by simp; omega)).mono ?_; rintro e w2 ⟨⟨r, rfl, ho⟩, hb2⟩) | (at_builtin; refine stop_in ?_))
      have hb12 : Below wr.heap.size wr w2 := (below_alloc wr _).trans (hb2.mono (by simp))
      have hs12 := hb12.size
      have hvl : (vnums [x.length]).length ≤ 10 := vnums_len [x.length]
      refine stop_out ?_; refine wpList_append_bytes (o := ⟨some 20, _, _, _, _, _⟩) rfl (.tmp 18) (.tmp 19) 40 rfl w.heap.size 5 Try.underlying40 Try.infoU8 _ _ rfl (ho.mono (B' := w.heap.size) (by simp; omega)) _ _ rfl (Hr.out.below hb12) (by simp only [List.length_append]; omega) (by omega) ?_
      intro v3 w3 ho3 hc3
      have hb3 : Below w.heap.size w w3 := (Hbw.out.trans (hb12.mono hsz)).trans (hc3.below (by omega) (fun k hk => hk.1))
      have hacc : bs ++ vtexts (l.take i) ++ vnums [x.length] ++ x = bs ++ vtexts (l.take (i + 1)) := by
        rw [vtexts_take l hx]; simp [vnums, List.append_assoc]
      rw [hacc] at ho3
      clear hc3 ho hacc
      go_wp2
      go_roundw
      case rel => exact ⟨i + 1, by omega, by go_num, ho3.isB, fun _ => ho3, hb3⟩
      case measure => simp [intOf]; omega
    · obtain rfl : i = l.length := by omega
      clear hbw
      go_wp2
      go_ret
      have := Hown.out h0
      rw [List.take_length] at this
      exact ⟨⟨_, rfl, this⟩, Hbw.out⟩
end Go.Proofs.Ytobpjldpkgioaaa
