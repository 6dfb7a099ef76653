/- journal: what its functions do on a disk whose power is on -/
import Derived.Test.YtobpjldpkgioaaaDisk
namespace Go.Proofs.Ytobpjldpkgioaaa
open Go.RowKit

def num8 (n k : Nat) : List UInt8 := leb k n ++ zeros (8 - k)

theorem byte_shift (n k : Nat) : (n : Int) / 2 ^ (8 * k) % 256 = ((UInt8.ofNat (n / 256 ^ k)).toNat : Int) := by
  rw [← u8n, show (256 : Nat) ^ k = 2 ^ (8 * k) by rw [Nat.pow_mul]]; simp

theorem num8_set (n k : Nat) (hk : k < 8) : (bvals (num8 n k)).toArray.setIfInBounds k (.int .u8 ((n : Int) / 2 ^ (8 * k) % 256)) = (bvals (num8 n (k + 1))).toArray := by
  rw [byte_shift, List.setIfInBounds_toArray, show (Value.int .u8 ((UInt8.ofNat (n / 256 ^ k)).toNat : Int)) = bval (UInt8.ofNat (n / 256 ^ k)) from rfl]
  congr 1
  unfold bvals
  rw [← List.map_set]
  congr 1
  rw [num8, List.set_append_right _ _ (by rw [length_leb]; exact Nat.le_refl _), length_leb, Nat.sub_self, num8, leb, List.append_assoc]
  congr 1
  rw [show 8 - k = (8 - (k + 1)) + 1 by omega]
  rfl

set_option maxHeartbeats 400000 in
theorem number8_spec (w : World) (n : Nat) :
    Calls Try.prog 110 #[.int .u64 n] w fun e w' => (e = .returned (.slice (some ⟨w.heap.size, 0, none⟩) 8 8) ∧ w'.heap[w.heap.size]? = some (.cells (bvals (leb 8 n)).toArray 207 (0, 0))) ∧ Below w.heap.size w w' := by
  go_enter Try.func110, Try.ntmps110
  go_wp2
  go_loopw [5] (fun i wr => ∃ k : Nat, k ≤ 8 ∧ i = .int .i64 k ∧ wr.heap[w.heap.size]? = some (.cells (bvals (num8 n k)).toArray 207 (0, 0)) ∧ Below w.heap.size w wr) (fun i _ => 8 - (intOf i).toNat)
  case atStart => exact ⟨0, by omega, rfl, heap_alloc_new _ _, below_alloc _ _⟩
  case round =>
    obtain ⟨k, hk, rfl, h0, hb⟩ := hrel
    have H0 := Lib.hid h0
    have Hb := Lib.hid hb
    have c1 : k < 8 → ∃ x, wr.cell? ⟨w.heap.size, k, none⟩ = some x := fun h => by
      rw [cell_of_row _ _ _ _ _ _ h0]; exact ⟨_, Array.getElem?_eq_getElem (by simp [num8, bvals, length_leb, zeros]; omega)⟩
    have f1 := unfrozen h0 k
    clear h0 hb
    by_cases hlt : k < 8
    · obtain ⟨x, c1⟩ := c1 hlt
      go_wp2
      go_roundw
      case rel => exact ⟨k + 1, by omega, by go_num, by rw [heap_setCell_same _ _ _ _ _ _ H0.out, num8_set _ _ hlt], Hb.out.setCell (Nat.le_refl _) _⟩
      case measure => simp [intOf]; omega
    · obtain rfl : k = 8 := by omega
      go_wp2
      go_ret
      exact ⟨⟨rfl, by have := H0.out; simpa [num8, zeros] using this⟩, Hb.out⟩

theorem leb8_isB {w : World} {g : Nat} {n : Nat} {T : TypeId} (h : w.heap[g]? = some (.cells (bvals (leb 8 n)).toArray T (0, 0))) : isB w (.slice (some ⟨g, 0, none⟩) 8 8) (leb 8 n) :=
  isB.lit h rfl (by rw [length_leb]; simp [maxLen]) (by rw [length_leb]) (by rw [length_leb])

/-- an entry's sector -/
def jsector (n : Nat) (last : Bool) (e : List UInt8) : List UInt8 :=
  leb 8 n ++ [if last then 1 else 0, UInt8.ofNat e.length] ++ e ++ zeros (46 - e.length) ++ leb 8 n

theorem jsector_len (n : Nat) (last : Bool) (e : List UInt8) (h : e.length ≤ 46) : (jsector n last e).length = 64 := by
  simp [jsector, length_leb, zeros]; omega

theorem two_bytes (n : Nat) (h : n < 256) : [Value.int .u8 0, .int .u8 (n : Int)] = bvals [0, UInt8.ofNat n] := by
  simp [bvals, bval]; omega

theorem jhead (n : Nat) (x : UInt8) : (leb 8 n ++ [0, x]).set 8 1 = leb 8 n ++ [1, x] := by
  rw [List.set_append_right _ _ (by rw [length_leb]; exact Nat.le_refl _), length_leb]
  simp

set_option maxHeartbeats 400000 in
theorem sector_spec (w : World) (n : Nat) (last : Bool) (v : Value) (en : List UInt8) (hv : isB w v en) (hl : en.length ≤ 46) :
    Calls Try.prog 67 #[.int .u64 n, .bool last, v] w fun e w' => (∃ r, e = .returned r ∧ ownB w' 5 w.heap.size r (jsector n last en)) ∧ Below w.heap.size w w' := by
  have HV := Lib.hid hv
  obtain ⟨ao, cap, rfl, -, -, -, -⟩ := hv
  cases last with
  | false =>
    go_enter Try.func67, Try.ntmps67
    go_wp2_with (first | (go_at_call 110; refine (number8_spec _ n).mono ?_; rintro e w1 ⟨⟨rfl, hr1⟩, hb1⟩) | (at_builtin; refine stop_in ?_))
    have HR1 := Lib.hid hr1
    clear hr1
    have hs1 := hb1.size
    refine stop_out ?_; refine wpList_append_app (o := ⟨some 14, _, _, _, _, _⟩) rfl (.tmp 9) (.tmp 13) 40 rfl w.heap.size 5 Try.underlying40 Try.infoU8 _ _ rfl (.inr ⟨(leb8_isB HR1.out).alloc _, some ⟨w.heap.size, 0, none⟩, by rw [length_leb]; rfl⟩) _ _ rfl (isB.lit (heap_alloc_new _ _) (two_bytes _ (by omega)) (by simp [maxLen]) rfl rfl) (by simp) (by simp [length_leb]) (by simp; omega) ?_
    intro v1 w2 ho1 hc1
    have hb2 : Below w.heap.size w w2 := (hb1.alloc hb1.size _).trans (hc1.below (by simp; omega) (fun k hk => hk.1))
    clear hc1 hb1
    go_wp2_with (at_builtin; refine stop_in ?_)
    refine stop_out ?_; refine wpList_append_bytes (o := ⟨some 20, _, _, _, _, _⟩) rfl (.tmp 18) (.tmp 19) 40 rfl w.heap.size 5 Try.underlying40 Try.infoU8 _ _ rfl (ho1) _ _ rfl (HV.out.below hb2) (by simp [length_leb]; omega) (hb2.size) ?_
    intro v2 w3 ho2 hc2
    have hb3 : Below w.heap.size w w3 := hb2.trans (hc2.below hb2.size (fun k hk => hk.1))
    clear hc2 hb2
    obtain ⟨ao2, cap2, rfl, -, -⟩ := ho2.isB.shape (n := 10 + en.length) (by simp [length_leb]; omega)
    go_wp2_with (at_builtin; refine stop_in ?_)
    refine stop_out ?_
    refine wpList_append_zeros (o := ⟨some 25, _, _, _, _, _⟩) rfl (.tmp 21) (.tmp 24) 40 3 rfl w.heap.size 5 Try.underlying40 Try.underlying3 Try.infoU8 _ _ rfl ho2 .i64 (46 - en.length) _ rfl (by omega) (by simp [length_leb]; omega) hb3.size ?_
    intro v3 w4 ho3 hc3
    have hb4 : Below w.heap.size w w4 := hb3.trans (hc3.below hb3.size (fun k hk => hk.1))
    clear hc3 hb3
    go_wp2_with (first | (go_at_call 110; refine (number8_spec _ n).mono ?_; rintro e w5 ⟨⟨rfl, hr5⟩, hb5⟩) | (at_builtin; refine stop_in ?_))
    have hb5' := hb4.trans (hb5.mono hb4.size)
    refine stop_out ?_; refine wpList_append_bytes (o := ⟨some 29, _, _, _, _, _⟩) rfl (.tmp 26) (.tmp 28) 40 rfl w.heap.size 5 Try.underlying40 Try.infoU8 _ _ rfl (ho3.below hb5) _ _ rfl (leb8_isB hr5) (by simp [length_leb, zeros]; omega) (hb5'.size) ?_
    intro v6 w6 ho6 hc6
    go_wp2
    go_ret
    exact ⟨⟨_, rfl, ho6.of_eq (by simp [jsector])⟩, hb5'.trans (hc6.below hb5'.size (fun k hk => hk.1))⟩
  | true =>
    go_enter Try.func67, Try.ntmps67
    go_wp2_with (first | (go_at_call 110; refine (number8_spec _ n).mono ?_; rintro e w1 ⟨⟨rfl, hr1⟩, hb1⟩) | (at_builtin; refine stop_in ?_))
    have HR1 := Lib.hid hr1
    clear hr1
    have hs1 := hb1.size
    refine stop_out ?_; refine wpList_append_app (o := ⟨some 14, _, _, _, _, _⟩) rfl (.tmp 9) (.tmp 13) 40 rfl w.heap.size 5 Try.underlying40 Try.infoU8 _ _ rfl (.inr ⟨(leb8_isB HR1.out).alloc _, some ⟨w.heap.size, 0, none⟩, by rw [length_leb]; rfl⟩) _ _ rfl (isB.lit (heap_alloc_new _ _) (two_bytes _ (by omega)) (by simp [maxLen]) rfl rfl) (by simp) (by simp [length_leb]) (by simp; omega) ?_
    intro v1 w2 ho1 hc1
    have hb2 : Below w.heap.size w w2 := (hb1.alloc hb1.size _).trans (hc1.below (by simp; omega) (fun k hk => hk.1))
    clear hc1 hb1
    obtain ⟨g, cap1, rfl, hg, hcap1, -, hfz, hce⟩ := ho1.at (n := 10) (by simp [length_leb]) (by decide)
    have fz8 := hfz 8
    have ce8 := hce 8 0 (by rw [List.getElem?_append_right (by rw [length_leb]; exact Nat.le_refl _), length_leb]; rfl)
    have ho1' := ho1.store (by simp [length_leb]) 8 1
    have hb2' : Below w.heap.size w (w2.setCell ⟨g, 8, none⟩ (.int .u8 1)) := hb2.setCell hg _
    clear hfz hce
    go_wp2_with (at_builtin; refine stop_in ?_)
    refine stop_out ?_; refine wpList_append_bytes (o := ⟨some 20, _, _, _, _, _⟩) rfl (.tmp 18) (.tmp 19) 40 rfl w.heap.size 5 Try.underlying40 Try.infoU8 _ _ rfl (ho1') _ _ rfl (HV.out.below hb2') (by simp [length_leb]; omega) (hb2'.size) ?_
    intro v2 w3 ho2 hc2
    have hb3 : Below w.heap.size w w3 := hb2'.trans (hc2.below hb2'.size (fun k hk => hk.1))
    clear hc2 hb2
    obtain ⟨ao2, cap2, rfl, -, -⟩ := ho2.isB.shape (n := 10 + en.length) (by simp [length_leb]; omega)
    go_wp2_with (at_builtin; refine stop_in ?_)
    refine stop_out ?_
    refine wpList_append_zeros (o := ⟨some 25, _, _, _, _, _⟩) rfl (.tmp 21) (.tmp 24) 40 3 rfl w.heap.size 5 Try.underlying40 Try.underlying3 Try.infoU8 _ _ rfl ho2 .i64 (46 - en.length) _ rfl (by omega) (by simp [length_leb]; omega) hb3.size ?_
    intro v3 w4 ho3 hc3
    have hb4 : Below w.heap.size w w4 := hb3.trans (hc3.below hb3.size (fun k hk => hk.1))
    clear hc3 hb3
    go_wp2_with (first | (go_at_call 110; refine (number8_spec _ n).mono ?_; rintro e w5 ⟨⟨rfl, hr5⟩, hb5⟩) | (at_builtin; refine stop_in ?_))
    have hb5' := hb4.trans (hb5.mono hb4.size)
    refine stop_out ?_; refine wpList_append_bytes (o := ⟨some 29, _, _, _, _, _⟩) rfl (.tmp 26) (.tmp 28) 40 rfl w.heap.size 5 Try.underlying40 Try.infoU8 _ _ rfl (ho3.below hb5) _ _ rfl (leb8_isB hr5) (by simp [length_leb, zeros]; omega) (hb5'.size) ?_
    intro v6 w6 ho6 hc6
    go_wp2
    go_ret
    exact ⟨⟨_, rfl, ho6.of_eq (by rw [jhead]; simp [jsector])⟩, hb5'.trans (hc6.below hb5'.size (fun k hk => hk.1))⟩

end Go.Proofs.Ytobpjldpkgioaaa
