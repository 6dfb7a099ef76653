/- check: what the program's sum of a row of bytes is -/
import Derived.Test.YtobpjldpkgioaaaCheck2
namespace Go.Proofs.Ytobpjldpkgioaaa
open Go.RowKit

theorem tbl_cell {w : World} {g : Nat} (h : w.heap[g]? = some (.cells (tblV 16) 203 (0, 0))) (i : Nat) (hi : i < 16) : w.cell? ⟨g, i, none⟩ = some (.int .u32 (tbl i : Nat)) := by
  rw [cell_of_row _ _ _ _ _ _ h, tblV_get _ _ hi]; simp [hi]

theorem of_ops (n : Nat) (hn : n < 4294967296) (c : UInt8) :
    bits .xor .u32 (n : Int) (c.toNat : Int) = ((n ^^^ c.toNat : Nat) : Int) ∧
    bits .and .u32 ((n ^^^ c.toNat : Nat) : Int) 15 = (((n ^^^ c.toNat) % 16 : Nat) : Int) ∧
    bits .xor .u32 ((n : Int) / 16) (tbl ((n ^^^ c.toNat) % 16) : Nat) = ((n / 16 ^^^ tbl ((n ^^^ c.toNat) % 16) : Nat) : Int) := by
  have hc := c.toNat_lt
  have h1 : n ^^^ c.toNat < 4294967296 := Nat.xor_lt_two_pow (n := 32) hn (by omega)
  refine ⟨u32_xor_nat _ _ hn (by omega), ?_, ?_⟩
  · have := u32_and_nat _ 15 h1 (by decide)
    rw [nat_mask4] at this; exact this
  · have := u32_xor_nat (n / 16) _ (by omega) (tbl_lt (i := (n ^^^ c.toNat) % 16) (by omega))
    simpa using this

theorem of_ops2 (n : Nat) (hn : n < 4294967296) (c : UInt8) :
    bits .xor .u32 (n : Int) ((c.toNat : Int) / 16) = ((n ^^^ c.toNat / 16 : Nat) : Int) ∧
    bits .and .u32 ((n ^^^ c.toNat / 16 : Nat) : Int) 15 = (((n ^^^ c.toNat / 16) % 16 : Nat) : Int) ∧
    bits .xor .u32 ((n : Int) / 16) (tbl ((n ^^^ c.toNat / 16) % 16) : Nat) = ((n / 16 ^^^ tbl ((n ^^^ c.toNat / 16) % 16) : Nat) : Int) := by
  have hc := c.toNat_lt
  have h1 : n ^^^ c.toNat / 16 < 4294967296 := Nat.xor_lt_two_pow (n := 32) hn (by omega)
  refine ⟨?_, ?_, ?_⟩
  · have := u32_xor_nat n (c.toNat / 16) hn (by omega)
    simpa using this
  · have := u32_and_nat _ 15 h1 (by decide)
    rw [nat_mask4] at this; exact this
  · have := u32_xor_nat (n / 16) _ (by omega) (tbl_lt (i := (n ^^^ c.toNat / 16) % 16) (by omega))
    simpa using this

theorem xor_all (n : Nat) (h : n < 4294967296) : 4294967295 ^^^ n = 4294967295 - n := by
  apply Nat.eq_of_testBit_eq
  intro i
  rw [Nat.testBit_xor, show 4294967295 - n = 2 ^ 32 - (n + 1) by omega, Nat.testBit_two_pow_sub_succ (by omega), show (4294967295 : Nat) = 2 ^ 32 - 1 by decide, Nat.testBit_two_pow_sub_one]
  by_cases hi : i < 32
  · simp [hi]
  · have : n.testBit i = false := Nat.testBit_lt_two_pow (Nat.lt_of_lt_of_le h (Nat.pow_le_pow_right (n := 2) (by decide) (show 32 ≤ i by omega)))
    simp [hi, this]

theorem of_end (bs : List UInt8) : bits BinOp.xor IntKind.u32 IntKind.u32.max (crcFrom 4294967295 bs : Nat) = (crc bs : Nat) := by
  have hn := crcFrom_lt (n := 4294967295) (by decide) bs
  have := u32_xor_nat 4294967295 _ (by decide) hn
  rw [xor_all _ hn] at this
  exact this

set_option maxHeartbeats 400000 in
theorem of_spec (w : World) (g c : Nat) (v : Value) (bs : List UInt8) (hv : isB w v bs) (hg : w.cell? ⟨g, 0, none⟩ = some v) :
    Calls Try.prog 103 #[.slice (some ⟨g, 0, none⟩) 1 c] w fun e w' => e = .returned (.int .u32 (crc bs : Nat)) ∧ Below w.heap.size w w' := by
  have hv' := hv
  obtain ⟨ao, cap, rfl, h1, h2, h3, h4⟩ := hv'
  have hm : bs.length ≤ 9223372036854775807 := by unfold maxLen at h2; omega
  clear h1 h2
  have Hg := Lib.hid hg
  clear h3 h4 hg
  go_enter Try.func103, Try.ntmps103
  go_wp2_with (first | (go_at_call 124; refine (table_spec _).mono ?_; rintro e w1 ⟨rfl, hb1⟩) | (refine wpList_store_row' rfl 203 _ _ rfl _ _ rfl rfl 203 _ (heap_alloc_new _ _) (by kernel_rfl) (by simp [tblV]) (by kernel_rfl) ?_; intro w2 H2 Hz2 Hc2))
  have hb2 : Below w.heap.size w w2 := (hb1.alloc hb1.size _).trans ((Hc2.below (B := w.heap.size) (by have := hb1.size; simp; omega) (by rintro k rfl; exact hb1.size)))
  have hg1 : w2.cell? ⟨g, 0, none⟩ = some (.slice ao bs.length cap) := by rw [hb2.cell (World.block_lt_of_cell? w ⟨g, 0, none⟩ Hg.out)]; exact Hg.out
  have HB2 := Lib.hid (hv.of (w' := w2) fun a u hu _ => by rw [hb2.cell (World.block_lt_of_cell? w a hu)]; exact hu)
  have Hb2 := Lib.hid hb2
  clear hv
  clear hb2 Hc2 hb1
  go_loop [4, 12] (fun n i => ∃ k : Nat, k ≤ 1 ∧ i = .int .i64 k ∧ n = .int .u32 (crcFrom 4294967295 (if k = 0 then [] else bs) : Nat)) (fun _ i => 1 - (intOf i).toNat)
  case atStart => exact ⟨0, by omega, rfl, rfl⟩
  case round =>
    obtain ⟨k, hk, rfl, rfl⟩ := hrel
    by_cases hlt : k < 1
    · obtain rfl : k = 0 := by omega
      go_wp2
      go_loop [4, 18] (fun n i => ∃ j : Nat, j ≤ bs.length ∧ i = .int .i64 j ∧ n = .int .u32 (crcFrom 4294967295 (bs.take j) : Nat)) (fun _ i => bs.length - (intOf i).toNat)
      case atStart => exact ⟨0, by omega, rfl, rfl⟩
      case round =>
        obtain ⟨j, hj, rfl, rfl⟩ := hrel
        by_cases hlt2 : j < bs.length
        · obtain ⟨b, off, rfl, hcell⟩ := HB2.out.at hlt2
          obtain ⟨c8, hc8⟩ : ∃ c8, bs[j]? = some c8 := ⟨_, List.getElem?_eq_getElem hlt2⟩
          have cj := hcell j c8 hc8
          have Hc8 := Lib.hid hc8
          clear hcell hc8
          have hn := crcFrom_lt (n := 4294967295) (by decide) (bs.take j)
          generalize hN : crcFrom 4294967295 (bs.take j) = n at hn ⊢
          have HN := Lib.hid hN
          clear hN
          obtain ⟨x1, x2, x3⟩ := of_ops n hn c8
          have hn1 : n / 16 ^^^ tbl ((n ^^^ c8.toNat) % 16) < 4294967296 := Nat.xor_lt_two_pow (n := 32) (by omega) (tbl_lt (by omega))
          have hc9 := c8.toNat_lt
          have t1 := tbl_cell H2.out ((n ^^^ c8.toNat) % 16) (by omega)
          have i1 : (n ^^^ c8.toNat) % 16 < 16 := by omega
          have fin := halves n c8
          generalize hm : n / 16 ^^^ tbl ((n ^^^ c8.toNat) % 16) = m at hn1 x3 fin
          have Hm := Lib.hid hm
          have Hfin := Lib.hid fin
          clear hm fin
          obtain ⟨y1, y2, y3⟩ := of_ops2 m hn1 c8
          have t2 := tbl_cell H2.out ((m ^^^ c8.toNat / 16) % 16) (by omega)
          have i2 : (m ^^^ c8.toNat / 16) % 16 < 16 := by omega
          go_wp2
          go_round
          case rel => exact ⟨j + 1, by omega, by go_num, by obtain ⟨hj', e⟩ := List.getElem?_eq_some_iff.1 Hc8.out; rw [crcFrom_snoc _ _ _ hj', e, HN.out, ← Hfin.out]⟩
          case measure => simp [intOf]; omega
        · obtain rfl : j = bs.length := by omega
          go_wp2
          go_round
          case rel => exact ⟨1, by omega, by go_num, by rw [List.take_length]; rfl⟩
          case measure => simp [intOf]
    · obtain rfl : k = 1 := by omega
      go_wp2
      go_ret
      exact ⟨congrArg (fun x => Ending.returned (.int .u32 x)) (of_end bs), Hb2.out⟩
end Go.Proofs.Ytobpjldpkgioaaa
