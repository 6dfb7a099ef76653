/- a record that came in: what the walks are told of it -/
import Derived.Test.YtobpjldpkgioaaaFrame
import Derived.Test.YtobpjldpkgioaaaLaw12a
namespace Go.Proofs.Ytobpjldpkgioaaa
open Go.ChangeShapes Go.WideShapes Go.ChangeAt Go.RowKit

/-- the numbers are of their kinds -/
structure RecNum (x : Rec) : Prop where
  id : -9223372036854775808 ≤ x.id ∧ x.id ≤ 9223372036854775807
  base : -9223372036854775808 ≤ x.base ∧ x.base ≤ 9223372036854775807
  from_ : -9223372036854775808 ≤ x.from_ ∧ x.from_ ≤ 9223372036854775807
  to : -9223372036854775808 ≤ x.to ∧ x.to ≤ 9223372036854775807
  count : -9223372036854775808 ≤ x.count ∧ x.count ≤ 9223372036854775807
  len : x.len < 18446744073709551616
  sum : x.sum < 18446744073709551616

theorem i64_wf {n : Int} (h : (Lit.int .i64 n).wf = true) : -9223372036854775808 ≤ n ∧ n ≤ 9223372036854775807 := by
  simpa [Lit.wf, IntKind.has, IntKind.min, IntKind.max, IntKind.signed, IntKind.bits] using h
theorem u64_wf {n : Int} (h : (Lit.int .u64 n).wf = true) : ∃ m : Nat, n = m ∧ m < 18446744073709551616 := by
  have : 0 ≤ n ∧ n ≤ 18446744073709551615 := by simpa [Lit.wf, IntKind.has, IntKind.min, IntKind.max, IntKind.signed, IntKind.bits] using h
  exact ⟨n.toNat, by omega, by omega⟩

theorem array9 {α : Type} {cs : Array α} (h : cs.size = 9) : ∃ c0 c1 c2 c3 c4 c5 c6 c7 c8, cs = #[c0, c1, c2, c3, c4, c5, c6, c7, c8] := by
  obtain ⟨l⟩ := cs
  match l, h with
  | [c0, c1, c2, c3, c4, c5, c6, c7, c8], _ => exact ⟨c0, c1, c2, c3, c4, c5, c6, c7, c8, rfl⟩

section
variable {H : Type} {enc : TypeId × Value → H} {w : World} {base : Nat}

set_option maxRecDepth 100000 in
theorem open_rec {v : Value} {d : DataW H} {p : List MemPlace} (hv : Value.okWide Try.prog w .any base 102 v) (h : DataW.Trod enc Try.prog w 0 (fun _ => true) true 102 v d p) :
    ∃ (x : Rec) (bv : Value), v = .agg (recC x bv) ∧ isB w bv x.blocks ∧ RecNum x := by
  have k9 : Try.prog.cellsOf 102 = 9 := by kernel_rfl
  have k0 : Try.prog.cellsOf 96 = 1 := by kernel_rfl
  have k1 : Try.prog.cellsOf 3 = 1 := by kernel_rfl
  have k3 : Try.prog.cellsOf 98 = 2 := by kernel_rfl
  have k4 : Try.prog.cellsOf 40 = 1 := by kernel_rfl
  have k6 : Try.prog.cellsOf 100 = 2 := by kernel_rfl
  have k7 : Try.prog.cellsOf 22 = 1 := by kernel_rfl
  obtain ⟨cs, rfl, hsz⟩ := okWide_struct Try.underlying102 hv
  obtain ⟨c0, c1, c2, c3, c4, c5, c6, c7, c8, rfl⟩ := array9 (hsz.trans k9)
  obtain ⟨fuel, hf⟩ := h
  obtain ⟨xs, n, -, -, hl, hlen, hfs⟩ := DataW.trod_struct Try.underlying102 hf
  obtain ⟨y0, y1, y2, y3, y4, y5, y6, rfl⟩ : ∃ y0 y1 y2 y3 y4 y5 y6, xs = [y0, y1, y2, y3, y4, y5, y6] := by
    match xs, hlen with
    | [y0, y1, y2, y3, y4, y5, y6], _ => exact ⟨y0, y1, y2, y3, y4, y5, y6, rfl⟩
  have h0 := hfs 0 _ rfl
  have h1 := hfs 1 _ rfl
  have h2 := hfs 2 _ rfl
  have h3 := hfs 3 _ rfl
  have h4 := hfs 4 _ rfl
  have h5 := hfs 5 _ rfl
  have h6 := hfs 6 _ rfl
  simp [Value.cells, k0, k1, k3, k4, k6] at h0 h1 h2 h3 h4 h5 h6
  obtain ⟨n0, v0, -, w0⟩ := DataW.trod_int Try.underlying96 h0
  obtain ⟨n1, v1, -, w1⟩ := DataW.trod_int Try.underlying3 h1
  obtain ⟨n2, v2, -, w2⟩ := DataW.trod_int Try.underlying3 h2
  obtain ⟨n5, v5, -, w5⟩ := DataW.trod_int Try.underlying3 h5
  obtain ⟨xr, m, -, -, hlr, hlenr, hfr⟩ := DataW.trod_struct Try.underlying98 h3
  obtain ⟨z0, z1, rfl⟩ : ∃ z0 z1, xr = [z0, z1] := by
    match xr, hlenr with
    | [z0, z1], _ => exact ⟨z0, z1, rfl⟩
  have r0 := hfr 0 _ rfl
  have r1 := hfr 1 _ rfl
  obtain ⟨xd, m', -, -, hld, hlend, hfd⟩ := DataW.trod_struct Try.underlying100 h6
  obtain ⟨e0, e1, rfl⟩ : ∃ z0 z1, xd = [z0, z1] := by
    match xd, hlend with
    | [z0, z1], _ => exact ⟨z0, z1, rfl⟩
  have d0 := hfd 0 _ rfl
  have d1 := hfd 1 _ rfl
  simp [k1, k7] at r0 r1 d0 d1
  obtain ⟨n3, v3, -, w3⟩ := DataW.trod_int Try.underlying3 r0
  obtain ⟨n4, v4, -, w4⟩ := DataW.trod_int Try.underlying3 r1
  obtain ⟨n7, v7, -, w7⟩ := DataW.trod_int Try.underlying22 d0
  obtain ⟨n8, v8, -, w8⟩ := DataW.trod_int Try.underlying22 d1
  obtain ⟨bs, hbs⟩ := isB_of_trod _ _ _ h4
  obtain ⟨k, rfl⟩ := byte_of_wf w0
  obtain ⟨m7, rfl, hm7⟩ := u64_wf w7
  obtain ⟨m8, rfl, hm8⟩ := u64_wf w8
  simp only [List.cons.injEq, and_true] at v0 v1 v2 v3 v4 v5 v7 v8
  subst v0 v1 v2 v3 v4 v5 v7 v8
  exact ⟨⟨k, n1, n2, n3, n4, bs, n5, m7, m8⟩, c5, rfl, hbs, i64_wf w1, i64_wf w2, i64_wf w3, i64_wf w4, i64_wf w5, hm7, hm8⟩
end
end Go.Proofs.Ytobpjldpkgioaaa
