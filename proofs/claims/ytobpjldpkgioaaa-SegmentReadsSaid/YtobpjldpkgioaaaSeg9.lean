/- segment: Bytes of data; law15: lives, Plain -/
import Derived.Test.YtobpjldpkgioaaaSeg8
set_option linter.unusedVariables false
set_option linter.unusedSimpArgs false
namespace Go.Proofs.Ytobpjldpkgioaaa
open Go.RowKit

theorem results_tct {fn : Func} {q p u : Tmp} {ty : TypeId} (h : fn.results = #[.tmp q, .cell p ty, .tmp u]) (tmps : Array Value) (P : Program) (w : World) :
    (results fn tmps).run P w = ((asAddr (tmps.getD p undef)).run P w).andThen fun a w₁ => ((loadVar ty a).run P w₁).andThen fun v w₂ => .ok (.tuple #[tmps.getD q undef, v, tmps.getD u undef]) w₂ := by
  simp only [results, h]
  simp [Sem.run_bind, Result.andThen]

abbrev zero5 : Array Value := #[.int .i64 0, .int .i64 0, .int .i64 0, .int .i64 0, .int .i64 0]

set_option maxHeartbeats 4000000 in
set_option maxRecDepth 100000 in
theorem numbers_data (w : World) (v : Value) (d : List UInt8) (hv : isB w v d) :
    Calls Try.prog 147 #[v] w fun e w' => e = .returned (.tuple #[.int .u8 68, .agg zero5, v]) ∧ Below w.heap.size w w' := by
  obtain ⟨ao, cap, rfl, -, -⟩ := hv.shape (n := d.length) rfl
  clear hv
  go_enter Try.func147, Try.ntmps147
  go_wp2
  refine bodyPost_ret (v := .tuple #[.int .u8 68, .agg _, _]) (by rw [results_tct rfl]; go_simp; exact ⟨rfl, rfl⟩) rfl ?_
  exact ⟨rfl, below_alloc _ _⟩

theorem meth_data (x : Value) (w : World) : (method 325 132 x "revenant/segment.numbers").run Try.prog w = .ok (147, x) w := by kernel_rfl

def SBytes (w : World) (bs : List UInt8) (ok : Prop) (e : Ending) (w' : World) : Prop :=
  Below w.heap.size w w' ∧ (ok → ∃ r, e = .returned (.tuple #[r, .int .i64 0]) ∧ ownB w' 5 w.heap.size r bs) ∧ (¬ ok → e = .returned (.tuple #[.slice none 0 0, .int .i64 1]))

set_option maxHeartbeats 4000000 in
set_option maxRecDepth 100000 in
theorem sbytes_data (w : World) (v : Value) (d : List UInt8) (hv : isB w v d) (hl : d.length ≤ 100000) :
    Calls Try.prog 61 #[.iface 132 v] w (SBytes w (sealed (68 :: d)) (1 ≤ d.length ∧ d.length ≤ 160)) := by
  obtain ⟨ao, cap, rfl, -, -⟩ := hv.shape (n := d.length) rfl
  have HV := Lib.hid hv
  clear hv
  generalize hok : (1 ≤ d.length ∧ d.length ≤ 160) = ok
  have HOK := Bx.mk hok
  clear hok
  have hmd := meth_data
  by_cases h1 : d.length < 1
  · have h1i : (d.length : Int) < 1 := by omega
    have hk : ¬ ok := by rw [← HOK.out]; omega
    have Hk := Bx.mk hk
    clear hk
    go_enter Try.func61, Try.ntmps61
    go_wp2_with (first | (go_at_call 147; refine (numbers_data _ _ d HV.out).mono ?_; rintro e w1 ⟨rfl, hb1⟩))
    go_ret2
    exact ⟨((hb1.alloc hb1.size _).alloc (by simp; have := hb1.size; omega) _), fun h => absurd h Hk.out, fun _ => rfl⟩
  · have h1i : ¬ (d.length : Int) < 1 := by omega
    by_cases h2 : 160 < d.length
    · have h2i : (160 : Int) < d.length := by omega
      have hk : ¬ ok := by rw [← HOK.out]; omega
      have Hk := Bx.mk hk
      clear hk
      go_enter Try.func61, Try.ntmps61
      go_wp2_with (first | (go_at_call 147; refine (numbers_data _ _ d HV.out).mono ?_; rintro e w1 ⟨rfl, hb1⟩))
      go_ret2
      exact ⟨((hb1.alloc hb1.size _).alloc (by simp; have := hb1.size; omega) _), fun h => absurd h Hk.out, fun _ => rfl⟩
    · have h2i : ¬ (160 : Int) < d.length := by omega
      have hk : ok := by rw [← HOK.out]; omega
      have Hk := Bx.mk hk
      clear hk
      go_enter Try.func61, Try.ntmps61
      go_wp2_with (first | (go_at_call 147; refine (numbers_data _ _ d HV.out).mono ?_; rintro e w1 ⟨rfl, hb1⟩) | (at_builtin; refine stop_in ?_))
      have hs1 := hb1.size
      refine stop_out ?_; refine wpList_append_bytes (o := ⟨some 32, _, _, _, _, _⟩) rfl (.tmp 30) (.tmp 31) 40 rfl (w1.heap.size + 1) 5 Try.underlying40 Try.infoU8 _ _ rfl (ownB.lit (bs := [68]) (cs := [.int .u8 68]) (heap_new _ _ (by simp)) rfl (by simp [maxLen]) (Nat.le_refl _) rfl rfl) _ _ rfl (((HV.out.below hb1).alloc _).alloc _) (by simp; omega) (by simp) ?_
      intro v2 w2 ho2 hc2
      have hB2 : Below w.heap.size w w2 := ((hb1.alloc hs1 _).alloc (by simp; omega) _).trans (hc2.below (by simp; omega) (fun k hk => by have := hk.1; omega))
      clear hc2
      go_wp2_with (first | (go_at_call 88; refine (seal_spec _ _ ([68] ++ d) ho2.isB (by simp; omega)).mono ?_; rintro e w3 ⟨⟨r3, rfl, ho3⟩, hb3⟩))
      go_ret2
      exact ⟨hB2.trans (hb3.mono hB2.size), fun _ => ⟨_, rfl, ho3.mono hB2.size⟩, fun h => absurd Hk.out h⟩

theorem seven_head : (sealed [68, 7]).take 2 = [68, 7] := by decide +kernel

set_option maxHeartbeats 1000000 in
set_option maxRecDepth 100000 in
theorem lives15 (w : World) : Calls Try.prog 34 #[] w fun e w' => e = .returned (.bool true) ∧ Below w.heap.size w w' := by
  have hlen : (sealed [68, 7]).length = 6 := length_sealed _
  have hhead := seven_head
  go_enter Try.func34, Try.ntmps34
  go_wp2_with (first | (go_at_call 61; refine (sbytes_data _ _ [7] (isB.one (c := 7) (heap_alloc_new w _) rfl) (by decide)).mono ?_; rintro e w1 ⟨hb1, hok, -⟩; obtain ⟨r, rfl, ho⟩ := hok (by decide); clear hok; have hob := ho.isB; obtain ⟨ao, cap, rfl, hcap, -⟩ := hob.shape hlen; have q1 := run_string (P := Try.prog) (hob.take (k := 2) (by decide)) 40 5 Try.underlying40 Try.underlying5 9 Try.underlying9; rw [hhead] at q1; rw [show str [68, 7] = (⟨#[68, 7]⟩ : ByteArray) from rfl] at q1))
  go_ret
  exact ⟨rfl, (below_alloc w _).trans (hb1.mono (by simp))⟩

theorem ta_nilH (w : World) : (Instr.typeAssert .nilIface 69 127 true).run Try.prog w = .ok (.tuple #[.agg zero5, .bool false]) w := by kernel_rfl
theorem ta_nilE (w : World) : (Instr.typeAssert .nilIface 69 129 true).run Try.prog w = .ok (.tuple #[.agg #[.int .i64 0, .int .i64 0, .int .i64 0, .int .i64 0, .bool false], .bool false]) w := by kernel_rfl
theorem ta_nilD (w : World) : (Instr.typeAssert .nilIface 69 132 true).run Try.prog w = .ok (.tuple #[.slice none 0 0, .bool false]) w := by kernel_rfl
theorem ta_HH (w : World) (v : Value) : (Instr.typeAssert (.iface 127 v) 69 127 true).run Try.prog w = .ok (.tuple #[v, .bool true]) w := by kernel_rfl
theorem ta_EH (w : World) (v : Value) : (Instr.typeAssert (.iface 129 v) 69 127 true).run Try.prog w = .ok (.tuple #[.agg zero5, .bool false]) w := by kernel_rfl
theorem ta_EE (w : World) (v : Value) : (Instr.typeAssert (.iface 129 v) 69 129 true).run Try.prog w = .ok (.tuple #[v, .bool true]) w := by kernel_rfl
theorem ta_DH (w : World) (v : Value) : (Instr.typeAssert (.iface 132 v) 69 127 true).run Try.prog w = .ok (.tuple #[.agg zero5, .bool false]) w := by kernel_rfl
theorem ta_DE (w : World) (v : Value) : (Instr.typeAssert (.iface 132 v) 69 129 true).run Try.prog w = .ok (.tuple #[.agg #[.int .i64 0, .int .i64 0, .int .i64 0, .int .i64 0, .bool false], .bool false]) w := by kernel_rfl
theorem ta_DD (w : World) (v : Value) : (Instr.typeAssert (.iface 132 v) 69 132 true).run Try.prog w = .ok (.tuple #[v, .bool true]) w := by kernel_rfl

set_option maxHeartbeats 1000000 in
set_option maxRecDepth 100000 in
theorem plain_nil (w : World) : Calls Try.prog 37 #[.nilIface] w fun e w' => e = .returned (.agg zeroC) ∧ Below w.heap.size w w' := by
  have h1 := ta_nilH
  have h2 := ta_nilE
  have h3 := ta_nilD
  go_enter Try.func37, Try.ntmps37
  go_wp2
  refine bodyPost_ret (results_cell_row rfl _ _ w.heap.size 74 _ (0, 0) _ rfl (heap_alloc_new w _) Try.underlying74 rfl (by kernel_rfl)) rfl ?_
  exact ⟨rfl, below_alloc _ _⟩

set_option maxHeartbeats 1000000 in
set_option maxRecDepth 100000 in
theorem plain_data (w : World) (v : Value) (b : List UInt8) (hv : isB w v b) : Calls Try.prog 37 #[.iface 132 v] w fun e w' => e = .returned (.agg (blkC ⟨68, 0, 0, 0, 0, 0, b⟩)) ∧ Below w.heap.size w w' := by
  obtain ⟨ao, cap, rfl, -, -⟩ := hv.shape (n := b.length) rfl
  have h1 := ta_DH
  have h2 := ta_DE
  have h3 := ta_DD
  have q1 := fun o => run_string (P := Try.prog) (hv.alloc o) 132 5 Try.underlying132 Try.underlying5 9 Try.underlying9
  clear hv
  go_enter Try.func37, Try.ntmps37
  go_wp2
  refine bodyPost_ret (results_cell_row rfl _ _ w.heap.size 74 _ (0, 0) _ rfl (heap_alloc_new w _) Try.underlying74 rfl (by kernel_rfl)) rfl ?_
  exact ⟨rfl, below_alloc _ _⟩

set_option maxHeartbeats 1000000 in
set_option maxRecDepth 100000 in
theorem plain_head (w : World) (n0 n1 n2 n3 n4 : Int) : Calls Try.prog 37 #[.iface 127 (.agg #[.int .i64 n0, .int .i64 n1, .int .i64 n2, .int .i64 n3, .int .i64 n4])] w fun e w' => e = .returned (.agg (blkC ⟨72, n0, n1, n2, n3, n4, []⟩)) ∧ Below w.heap.size w w' := by
  have h1 := ta_HH
  go_enter Try.func37, Try.ntmps37
  go_wp2
  refine bodyPost_ret (results_cell_row rfl _ _ w.heap.size 74 _ (0, 0) _ rfl ((Below.heap_alloc _ _ _ (by simp)).trans (heap_alloc_new w _)) Try.underlying74 rfl (by kernel_rfl)) rfl ?_
  exact ⟨rfl, (below_alloc w _).alloc (by simp) _⟩

set_option maxHeartbeats 1000000 in
set_option maxRecDepth 100000 in
theorem plain_end (w : World) (n0 n1 n2 n3 : Int) (l : Bool) : Calls Try.prog 37 #[.iface 129 (.agg #[.int .i64 n0, .int .i64 n1, .int .i64 n2, .int .i64 n3, .bool l])] w fun e w' => e = .returned (.agg (blkC ⟨84, n0, n1, n2, n3, if l then 1 else 0, []⟩)) ∧ Below w.heap.size w w' := by
  have h1 := ta_EH
  have h2 := ta_EE
  cases l
  all_goals
    go_enter Try.func37, Try.ntmps37
    go_wp2
    refine bodyPost_ret (results_cell_row rfl _ _ w.heap.size 74 _ (0, 0) _ rfl ((Below.heap_alloc _ _ _ (by simp)).trans (heap_alloc_new w _)) Try.underlying74 rfl (by kernel_rfl)) rfl ?_
    exact ⟨rfl, (below_alloc w _).alloc (by simp) _⟩
end Go.Proofs.Ytobpjldpkgioaaa
