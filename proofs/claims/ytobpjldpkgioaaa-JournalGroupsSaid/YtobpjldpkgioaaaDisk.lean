/- disk: New, Len, Get, Put, GetAll while the power is on and no fall of it is planned -/
import Derived.Test.YtobpjldpkgioaaaPower
import Derived.Test.YtobpjldpkgioaaaPrims
import Derived.Test.YtobpjldpkgioaaaZeros
import Derived.Deep.MidRow
import Derived.StillTailTactics
import Derived.Deep.QuietTactic
import Derived.BigQuiet
namespace Go.Proofs.Ytobpjldpkgioaaa
open Go.RowKit

/-- power lies in block b, it is on, and no fall is planned -/
def isUp (w : World) (b : Nat) : Prop := ∃ a t, isP w b ⟨false, a, t, false⟩ ∧ Pw.wf ⟨false, a, t, false⟩

theorem isUp.chg {S : Nat → Prop} {w w' : World} {b : Nat} (h : isUp w b) (hc : Chg S w w') (hS : ¬ S b) : isUp w' b := let ⟨a, t, h, g⟩ := h; ⟨a, t, h.chg hc hS, g⟩
theorem isUp.below {w w' : World} {b : Nat} (h : isUp w b) (hb : Below w.heap.size w w') : isUp w' b := let ⟨a, t, h, g⟩ := h; ⟨a, t, h.below hb, g⟩

/-- the blocks of a disk -/
structure Dk where
  p : Nat
  d : Nat
  s : Nat
  n : Nat

/-- a disk of n sectors (block d; its power: block p; its sectors: block s) that hold the bytes data -/
structure isD (w : World) (k : Dk) (data : List UInt8) : Prop where
  up : isUp w k.p
  head : w.heap[k.d]? = some (.cells #[.pointer (some ⟨k.p, 0, none⟩), .slice (some ⟨k.s, 0, none⟩) k.n k.n] 136 (0, 0))
  rows : w.heap[k.s]? = some (.cells (bvals data).toArray 147 (0, 0))
  len : data.length = 64 * k.n
  small : k.n ≤ 65536

theorem isD.chg {S : Nat → Prop} {w w' : World} {k : Dk} {data : List UInt8} (h : isD w k data) (hc : Chg S w w') (hp : ¬ S k.p) (hd : ¬ S k.d) (hs : ¬ S k.s) : isD w' k data :=
  ⟨h.up.chg hc hp, hc.keeps h.head hd, hc.keeps h.rows hs, h.len, h.small⟩
theorem isD.below {w w' : World} {k : Dk} {data : List UInt8} (h : isD w k data) (hb : Below w.heap.size w w') : isD w' k data :=
  ⟨h.up.below hb, below_keeps hb h.head, below_keeps hb h.rows, h.len, h.small⟩

theorem isD.ne {w : World} {k : Dk} {data : List UInt8} (h : isD w k data) : k.p ≠ k.d ∧ k.p ≠ k.s ∧ k.d ≠ k.s := by
  obtain ⟨a, t, ⟨c, hP⟩, -⟩ := h.up
  refine ⟨fun e => ?_, fun e => ?_, fun e => ?_⟩
  · have := h.head; rw [← e, hP] at this; simp at this
  · have := h.rows; rw [← e, hP] at this; simp at this
  · have := h.rows; rw [← e, h.head] at this; simp at this

theorem isD.lt {w : World} {k : Dk} {data : List UInt8} (h : isD w k data) : k.p < w.heap.size ∧ k.d < w.heap.size ∧ k.s < w.heap.size := by
  obtain ⟨a, t, hP, -⟩ := h.up
  exact ⟨hP.lt, lt_of_heap h.head, lt_of_heap h.rows⟩

theorem cells2 {w : World} {b : Nat} {c0 c1 : Value} {T : TypeId} (h : w.heap[b]? = some (.cells #[c0, c1] T (0, 0))) :
  w.cell? ⟨b, 0, none⟩ = some c0 ∧ w.cell? ⟨b, 1, none⟩ = some c1 := by
  refine ⟨?_, ?_⟩ <;> simp [cell_of_row w b _ _ T _ h]

theorem isD.wrote {w w' : World} {k : Dk} {data : List UInt8} (h : isD w k data) (hP : isUp w' k.p) (hc : Chg (· = k.p) w w') : isD w' k data :=
  ⟨hP, hc.keeps h.head h.ne.1.symm, hc.keeps h.rows h.ne.2.1.symm, h.len, h.small⟩

def Wrote64 (w : World) (b : Nat) (e : Ending) (w' : World) : Prop :=
  e = .returned (.tuple #[.int .i64 64, .int .i64 0]) ∧ isUp w' b ∧ Hid (w'.heap.size = w.heap.size) ∧ Chg (· = b) w w'

theorem power_write64 (w : World) (b : Nat) (h : isUp w b) : Calls Try.prog 111 #[.pointer (some ⟨b, 0, none⟩), .int .i64 64] w (Wrote64 w b) := by
  obtain ⟨a, t, hP, hw⟩ := h
  exact (power_write b w _ 64 hP (by decide) hw).mono fun e w' ⟨h1, h2, h3, h4⟩ => ⟨h1, ⟨a, t, h2, hw⟩, h3, h4⟩

abbrev ptr (b : Nat) : Value := .pointer (some ⟨b, 0, none⟩)

theorem disk_len (w : World) (k : Dk) (data : List UInt8) (h : isD w k data) :
    Calls Try.prog 63 #[ptr k.d] w fun e w' => e = .returned (.int .i64 k.n) ∧ w = w' := by
  obtain ⟨p, d, s, n⟩ := k
  obtain ⟨h0, h1⟩ := cells2 h.head
  have := h.small
  clear h
  dsimp only at *
  go_enter Try.func63, Try.ntmps63
  go_wp2
  go_ret
  exact ⟨rfl, rfl⟩

theorem Try.infoSector : (Try.prog.info? 147).map (fun i => (i.zero, i.size, i.bytes)) = some (some (.agg (bvals (zeros 64)).toArray), 64, 64) := by kernel_rfl

theorem made_zeros (n : Nat) : (madeCells (bvals (zeros 64)).toArray n).toList = bvals (zeros n) := by
  simp only [madeCells, Array.toList_map, bvals, zeros, List.map_replicate]
  apply List.ext_getElem
  · simp
  · intro i h1 h2
    simp only [List.getElem_map, List.getElem_replicate]
    rw [getElem!_pos _ _ (by simp only [List.size_toArray, List.length_replicate]; exact Nat.mod_lt _ (by decide))]
    simp only [List.getElem_toArray, List.getElem_replicate]

def DiskNewPost (w : World) (p n : Nat) (e : Ending) (w' : World) : Prop :=
  (∃ d s, e = .returned (.tuple #[ptr d, .int .i64 0]) ∧ isD w' ⟨p, d, s, n⟩ (zeros (64 * n)) ∧ w.heap.size ≤ d ∧ w.heap.size ≤ s ∧ d ≠ s) ∧ Below w.heap.size w w'

set_option maxHeartbeats 400000 in
theorem disk_new (w : World) (p n : Nat) (hp : isUp w p) (h1 : 1 ≤ n) (h2 : n ≤ 65536) :
    Calls Try.prog 14 #[.int .i64 n, ptr p] w (DiskNewPost w p n) := by
  have HP := Lib.hid hp
  clear hp
  have i1 : ¬ (n : Int) < 1 := by omega
  have i2 : ¬ (65536 : Int) < n := by omega
  obtain ⟨i, hi1, hi2, hi3, hi4⟩ := info_parts Try.infoSector
  go_enter Try.func14, Try.ntmps14
  go_wp2_with (at_make; refine wpList_make_full _ rfl _ _ 134 rfl w.heap.size 147 i _ 64 Try.underlying134 hi1 hi2 hi3 _ _ _ _ n rfl rfl rfl rfl (by rw [hi4]; omega) (by simp [maxLen]; omega) (Nat.le_refl _) ?_; intro w1 ho hg)
  go_ret2
  obtain ⟨hr, -⟩ := ownsRow_full ho
  have hlt := lt_of_heap hr
  have hz : (madeCells (Value.agg (bvals (zeros 64)).toArray).cells (n * 64)).toList = bvals (zeros (64 * n)) := by rw [Nat.mul_comm]; exact made_zeros _
  rw [hz] at hr
  have hb : Below w.heap.size w w1 := (chg_grown (S := fun _ => False) hg nofun).below (Nat.le_refl _) nofun
  refine ⟨⟨w1.heap.size, w.heap.size, rfl, ⟨(HP.out.below hb).below (below_alloc _ _), heap_alloc_new _ _, ?_, by simp [zeros], h2⟩, hb.size, Nat.le_refl _, by omega⟩, hb.alloc hb.size _⟩
  rw [Below.heap_alloc _ _ _ hlt]; exact hr

def sect (data : List UInt8) (i : Nat) : List UInt8 := (data.drop (64 * i)).take 64

theorem sect_len {data : List UInt8} {n i : Nat} (h : data.length = 64 * n) (hi : i < n) : (sect data i).length = 64 := by simp [sect]; omega

theorem sect_range {w : World} {s n i : Nat} {data : List UInt8} {T : TypeId} (h : w.heap[s]? = some (.cells (bvals data).toArray T (0, 0))) (hl : data.length = 64 * n) (hi : i < n) :
    w.rangeAt s (i * 64) (bvals (sect data i)) := by
  intro j v hj
  rw [cell_of_row _ _ _ _ _ _ h]
  have hlt : j < 64 := by have := (List.getElem?_eq_some_iff.1 hj).1; simpa [bvals, sect_len hl hi] using this
  rw [← hj]
  simp [bvals, sect, hlt, Nat.mul_comm]

set_option maxHeartbeats 400000 in
theorem disk_get (w : World) (k : Dk) (data : List UInt8) (i : Nat) (h : isD w k data) (hi : i < k.n) :
    Calls Try.prog 64 #[ptr k.d, .int .i64 i] w fun e w' => (e = .returned (.tuple #[.slice (some ⟨w.heap.size, 0, none⟩) 64 64, .int .i64 0]) ∧ w'.heap[w.heap.size]? = some (.cells (bvals (sect data i)).toArray 147 (0, 0))) ∧ Below w.heap.size w w' := by
  have H := Lib.hid h
  obtain ⟨p, d, s, n⟩ := k
  obtain ⟨h0, h1⟩ := cells2 h.head
  have hsm := h.small
  obtain ⟨pa, pt, hP, -⟩ := h.up
  have hr := sect_range h.rows h.len hi
  have hsl := sect_len h.len hi
  dsimp only at *
  generalize sect data i = sc at hr hsl ⊢
  have HR := Lib.hid hr
  have HSL := Lib.hid hsl
  have i1 : ¬ (i : Int) < 0 := by omega
  have i2 : ¬ (n : Int) ≤ i := by omega
  clear h hr hsl
  go_enter Try.func64, Try.ntmps64
  go_wp2_with (first | (go_at_call 63; refine (disk_len _ _ _ H.out).mono ?_; rintro e w' ⟨rfl, rfl⟩) | (go_at_call 33; refine (power_on _ _ _ hP).mono ?_; rintro e w' ⟨rfl, rfl⟩) | (refine wpList_load_mid rfl 147 _ rfl s (i * 64) rfl (bvals sc) _ HR.out Try.underlying147 rfl (by rw [length_bvals, HSL.out]; kernel_rfl) ?_) | (refine wpList_store_row' rfl 147 _ _ rfl _ _ rfl rfl 147 _ (heap_alloc_new _ _) (by rw [List.size_toArray, length_bvals, HSL.out]; kernel_rfl) (by simp [length_bvals, HSL.out]) (all_oneCell_toArray (bvals_oneCell _)) ?_; intro w2 H2 Hz2 Hc2))
  go_ret2
  have hz : w.heap.size + 1 ≤ w2.heap.size := by have := Hz2.out; simp at this; omega
  refine ⟨⟨rfl, H2.out⟩, (below_alloc w _).trans (Hc2.below (by simp) (by rintro k rfl; exact Nat.le_refl _))⟩

/-- bytes, and bytes 0 behind them -/
def pad (b : List UInt8) : List UInt8 := b ++ zeros (64 - b.length)

theorem pad_len {b : List UInt8} (h : b.length ≤ 64) : (pad b).length = 64 := by simp [pad, zeros]; omega

theorem pad_splice (b : List UInt8) : splice (zeros 64) 0 b = pad b := by
  simp only [splice, pad, zeros, List.take_zero, List.nil_append, Nat.zero_add, List.drop_replicate]

/-- the disk's bytes behind a Put -/
def putS (data : List UInt8) (i : Nat) (b : List UInt8) : List UInt8 := splice data (64 * i) (pad b)

theorem putS_len {data b : List UInt8} {n i : Nat} (h : data.length = 64 * n) (hi : i < n) (hb : b.length ≤ 64) : (putS data i b).length = 64 * n := by
  unfold putS; rw [length_splice _ _ _ (by rw [pad_len hb]; omega), h]

def DiskPutPost (w : World) (k : Dk) (data : List UInt8) (e : Ending) (w' : World) : Prop :=
  e = .returned (.int .i64 0) ∧ isD w' k data ∧ Chg (fun b => b = k.p ∨ b = k.s) w w'

set_option maxRecDepth 100000 in
set_option maxHeartbeats 400000 in
theorem disk_put (w : World) (k : Dk) (data : List UInt8) (i : Nat) (v : Value) (b : List UInt8) (h : isD w k data) (hi : i < k.n) (hv : isB w v b) (hb : b.length ≤ 64) :
    Calls Try.prog 66 #[ptr k.d, .int .i64 i, v] w (DiskPutPost w k (putS data i b)) := by
  have H := Lib.hid h
  have HV := Lib.hid hv
  obtain ⟨p, d, s, n⟩ := k
  obtain ⟨h0, h1⟩ := cells2 h.head
  have hsm := h.small
  have hlt := h.lt
  have hne := h.ne
  obtain ⟨pa, pt, hP, hPw⟩ := h.up
  obtain ⟨ao, cap, rfl, c1, c2, c3, c4⟩ := hv
  dsimp only at *
  have i1 : ¬ (i : Int) < 0 := by omega
  have i2 : ¬ (n : Int) ≤ i := by omega
  have i3 : ¬ (64 : Int) < b.length := by omega
  clear h c3 c4
  go_enter Try.func66, Try.ntmps66
  go_wp2_with (first | (go_at_call 63; refine (disk_len _ _ _ H.out).mono ?_; rintro e w' ⟨rfl, rfl⟩) | (go_at_call 111; refine (power_write64 _ _ D3.out.up).mono ?_; rintro e w4 ⟨rfl, hP4, hz4, hc4⟩; have D4 := D3.out.wrote hP4 hc4; obtain ⟨q0, q1⟩ := cells2 D4.head; replace D4 := Lib.hid D4) | (with_reducible refine wpList_copy_bytes (o := ⟨some 25, _, _, _, _, _⟩) rfl (.tmp 23) (.tmp 24) 40 40 rfl 5 Try.underlying40 (by kernel_rfl) w.heap.size 0 64 64 rfl _ b rfl (HV.out.alloc _) (zeros 64) 147 ((heap_alloc_new _ _).trans (by kernel_rfl)) hb (by simp [zeros]; omega) ?_; intro w3 H3 Hz3 Hc3; have D3 := (H.out.below (below_alloc w _)).chg Hc3 (by dsimp only; omega) (by dsimp only; omega) (by dsimp only; omega); obtain ⟨g0, g1⟩ := cells2 D3.head; replace D3 := Lib.hid D3))
  go_still_tail 10, (by kernel_rfl)
  change wpList _ _ _ _ _ w4.drew
  have HS4 : w4.drew.heap[w.heap.size]? = some (.cells (bvals (pad b)).toArray 147 (0, 0)) := by
    have := H3.out; rw [pad_splice] at this
    exact hc4.keeps this (show ¬ (_ = _) by omega)
  have HR4 : w4.drew.heap[s]? = some (.cells (bvals data).toArray 147 (0, 0)) := D4.out.rows
  have hdl : data.length = 64 * n := D4.out.len
  refine wpList_copy_bytes (o := ⟨some 44, _, _, _, _, _⟩) rfl (.tmp 41) (.tmp 43) 40 40 rfl 5 Try.underlying40 (by kernel_rfl) s (i * 64) 64 64 rfl _ (pad b) rfl (isB.lit HS4 rfl (by rw [pad_len hb]; simp [maxLen]) (by rw [pad_len hb]) (by rw [pad_len hb])) data 147 HR4 (by rw [pad_len hb]; exact Nat.le_refl _) (by rw [pad_len hb, hdl]; omega) ?_
  intro w5 H5 Hz5 Hc5
  clear HS4 HR4 hdl q0 q1
  go_wp2
  go_ret
  have hU : isUp w4.drew p := D4.out.up
  have hH : w4.drew.heap[d]? = _ := D4.out.head
  refine ⟨rfl, ⟨hU.chg Hc5 hne.2.1, Hc5.keeps hH hne.2.2, ?_, ?_, hsm⟩, ?_⟩
  · have := H5.out
    rw [putS, Nat.mul_comm 64 i]; exact this
  · exact putS_len D4.out.len hi hb
  · refine Chg.trans (Chg.drew (Chg.trans (Chg.trans ((Chg.refl _ w).alloc _) Hc3 ?_) hc4 ?_)) Hc5 ?_
    · intro j hj e; have : j = w.heap.size := e; omega
    · exact fun j hj e => .inl e
    · exact fun j hj e => .inr e

theorem sect_isB {w : World} {s c o m : Nat} {data : List UInt8} {T : TypeId} (h : w.heap[s]? = some (.cells (bvals data).toArray T (0, 0))) (hl : o + c ≤ data.length) (hc : c ≤ m) (hm : m ≤ maxLen) :
    isB w (.slice (some ⟨s, o, none⟩) c m) ((data.drop o).take c) := by
  have e : ((data.drop o).take c).length = c := by simp; omega
  refine ⟨some _, m, by rw [e], by rw [e]; exact hc, hm, nofun, ?_⟩
  rintro a ha
  obtain rfl := Option.some.inj ha
  refine ⟨fun _ => rfl, fun i hi => ?_⟩
  rw [e] at hi
  rw [cell_of_row _ _ _ _ _ _ h]
  have : i < data.length - o := by omega
  simp [bvals, show o + i < data.length by omega]

theorem take_more (data : List UInt8) (i j m c : Nat) (h : m = 64 * j) : (data.drop (64 * i)).take m ++ (data.drop ((i + j) * 64)).take c = (data.drop (64 * i)).take (m + c) := by
  rw [List.take_add, List.drop_drop, show 64 * i + m = (i + j) * 64 by omega]

def DiskGetAllPost (w : World) (bs : List UInt8) (e : Ending) (w' : World) : Prop :=
  (∃ r, e = .returned (.tuple #[r, .int .i64 0]) ∧ ownB w' 5 w.heap.size r bs) ∧ Below w.heap.size w w'

set_option maxRecDepth 100000 in
set_option maxHeartbeats 400000 in
theorem disk_getall (w : World) (k : Dk) (data : List UInt8) (i size : Nat) (h : isD w k data) (hi : i ≤ k.n) (hs : size ≤ (k.n - i) * 64) :
    Calls Try.prog 21 #[ptr k.d, .int .i64 i, .int .i64 size] w (DiskGetAllPost w ((data.drop (64 * i)).take size)) := by
  have H := Lib.hid h
  obtain ⟨p, d, s, n⟩ := k
  obtain ⟨h0, h1⟩ := cells2 h.head
  have hsm := h.small
  have hdl : data.length = 64 * n := h.len
  have hlt := h.lt
  obtain ⟨pa, pt, hP, -⟩ := h.up
  dsimp only at *
  have i1 : ¬ (i : Int) < 0 := by omega
  have i2 : ¬ (size : Int) < 0 := by omega
  have i3 : ¬ (n : Int) < i := by omega
  have i4 : ¬ ((n : Int) - i) * 64 < size := by omega
  have i5 : 0 ≤ ((n : Int) - i) * 64 := by omega
  have i6 : ((n : Int) - i) * 64 ≤ 4194304 := by omega
  clear h
  go_enter Try.func21, Try.ntmps21
  go_wp2_with (first | (go_at_call 63; refine (disk_len _ _ _ H.out).mono ?_; rintro e w' ⟨rfl, rfl⟩) | (go_at_call 33; refine (power_on _ _ _ hP).mono ?_; rintro e w' ⟨rfl, rfl⟩))
  go_loopw [1, 8] (fun x v wr => ∃ m j : Nat, m ≤ size ∧ (m = size ∨ m = 64 * j) ∧ i + j ≤ n ∧ x = .int .i64 ((i + j : Nat) : Int) ∧ ownB wr 5 w.heap.size v ((data.drop (64 * i)).take m) ∧ Below w.heap.size w wr) (fun x _ _ => n - (intOf x).toNat)
  case atStart => exact ⟨0, 0, by omega, .inr rfl, by omega, rfl, by rw [List.take_zero]; exact ownB.nil _ _ _, Below.refl _ _⟩
  case round =>
    obtain ⟨m, j, hm, hmj, hij, rfl, ho, hb⟩ := hrel
    have hL : ((data.drop (64 * i)).take m).length = m := by simp; omega
    obtain ⟨ao, cap, rfl, hc1, hc2⟩ := ho.isB.shape hL
    have Ho := Lib.hid ho
    have Hb := Lib.hid hb
    have D1 := H.out.below hb
    obtain ⟨q0, q1⟩ := cells2 D1.head
    have Hrows := Lib.hid D1.rows
    have hsz := hb.size
    clear D1 ho hb
    dsimp only at q0 q1
    by_cases hlt2 : m < size
    · have hm64 : m = 64 * j := by omega
      have hjn : i + j < n := by omega
      have Hmj := Lib.hid hm64
      clear hmj hm64
      by_cases h64 : 64 ≤ size - m
      · have h64' : ¬ (size : Int) - m < 64 := by omega
        have HX : Hid (isB wr (.slice (some ⟨s, (i + j) * 64, none⟩) 64 64) ((data.drop ((i + j) * 64)).take 64)) := sect_isB Hrows.out (by have := Hmj.out; omega) (Nat.le_refl _) (by simp [maxLen])
        go_wp2_with (at_builtin; refine wpList_append_bytes rfl _ _ 40 rfl w.heap.size 5 Try.underlying40 Try.infoU8 _ _ rfl Ho.out _ _ rfl HX.out ?_ hsz ?_)
        · omega
        intro v1 w2 ho2 hc2
        rw [take_more _ _ _ _ _ Hmj.out] at ho2
        go_wp2
        go_roundw
        case rel => exact ⟨m + 64, j + 1, by omega, .inr (by have := Hmj.out; omega), by omega, by go_num, ho2, Hb.out.trans (hc2.below hsz (fun k hk => hk.1))⟩
        case measure => simp [intOf]; omega
      · have h64' : (size : Int) - m < 64 := by omega
        have hA : (m : Int) ≤ size := by omega
        have hB : (size : Int) - m ≤ 64 := by omega
        have hC : 0 ≤ (size : Int) - m := by omega
        have HX : Hid (isB wr (.slice (some ⟨s, (i + j) * 64, none⟩) (size - m) 64) ((data.drop ((i + j) * 64)).take (size - m))) := sect_isB Hrows.out (by have := Hmj.out; omega) (by omega) (by simp [maxLen])
        go_wp2_with (at_builtin; refine wpList_append_bytes rfl _ _ 40 rfl w.heap.size 5 Try.underlying40 Try.infoU8 _ _ rfl Ho.out _ _ rfl HX.out ?_ hsz ?_)
        · omega
        intro v1 w2 ho2 hc2
        rw [take_more _ _ _ _ _ Hmj.out] at ho2
        go_wp2
        go_roundw
        case rel => exact ⟨m + (size - m), j + 1, by omega, .inl (by omega), by omega, by go_num, ho2, Hb.out.trans (hc2.below hsz (fun k hk => hk.1))⟩
        case measure => simp [intOf]; omega
    · obtain rfl : m = size := by omega
      go_wp2
      go_ret2
      exact ⟨⟨_, rfl, Ho.out⟩, Hb.out⟩
end Go.Proofs.Ytobpjldpkgioaaa
