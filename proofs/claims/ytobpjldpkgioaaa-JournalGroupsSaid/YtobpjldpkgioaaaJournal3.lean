/- journal: Open -/
import Derived.Test.YtobpjldpkgioaaaJournal2
import Derived.Test.YtobpjldpkgioaaaLists
namespace Go.Proofs.Ytobpjldpkgioaaa
open Go.RowKit

/-- a journal in block j -/
def isJ (w : World) (j d base n : Nat) : Prop := w.heap[j]? = some (.cells #[ptr d, .int .u64 base, .int .i64 n] 140 (0, 0))

theorem isJ.chg {S : Nat → Prop} {w w' : World} {j d b n : Nat} (h : isJ w j d b n) (hc : Chg S w w') (hS : ¬ S j) : isJ w' j d b n := hc.keeps h hS
theorem isJ.below {w w' : World} {j d b n : Nat} (h : isJ w j d b n) (hb : Below w.heap.size w w') : isJ w' j d b n := below_keeps hb h

theorem cells3 {w : World} {b : Nat} {c0 c1 c2 : Value} {T : TypeId} (h : w.heap[b]? = some (.cells #[c0, c1, c2] T (0, 0))) :
  w.cell? ⟨b, 0, none⟩ = some c0 ∧ w.cell? ⟨b, 1, none⟩ = some c1 ∧ w.cell? ⟨b, 2, none⟩ = some c2 := by
  refine ⟨?_, ?_, ?_⟩ <;> simp [cell_of_row w b _ _ T _ h]

/-- the groups that the sectors tell from the i-th on, of k; g: the group that has begun; the place behind the last group -/
def jscan (data : List UInt8) (base : Nat) : Nat → Nat → List (List UInt8) → List (List (List UInt8)) → Nat → List (List (List UInt8)) × Nat
  | 0, _, _, out, nx => (out, nx)
  | k + 1, i, g, out, nx => match jread (sect data i) (base + i) with
    | none => (out, nx)
    | some (x, true) => jscan data base k (i + 1) [] (out ++ [g ++ [x]]) (i + 1)
    | some (x, false) => jscan data base k (i + 1) (g ++ [x]) out nx

/-- an entry in a copy of a sector -/
def Ent (w : World) (v : Value) (x : List UInt8) : Prop := isB w v x ∧ ∃ g off n c, v = .slice (some ⟨g, off, none⟩) n c ∧ typ w g 147

/-- a group of entries, its row lies below Bg -/
def Grp (Bg : Nat) (w : World) (v : Value) (xs : List (List UInt8)) : Prop := ∃ B, ownS Ent w 40 B v xs ∧ ∀ k, v.ownBlock = some k → k < Bg

theorem typ.chg {S : Nat → Prop} {w w' : World} {k e : Nat} (h : typ w k e) (hc : Chg S w w') (hS : ¬ S k) : typ w' k e := let ⟨cs, fz, h⟩ := h; ⟨cs, fz, hc.keeps h hS⟩
theorem typ.one {w : World} {k e e' : Nat} (h : typ w k e) (h' : typ w k e') : e = e' := by
  obtain ⟨cs, fz, h⟩ := h; obtain ⟨cs', fz', h'⟩ := h'
  rw [h] at h'; simpa using congrArg (fun o => match o with | some (Obj.cells _ e _) => e | _ => 0) h'

theorem Ent.chg {S : Nat → Prop} {w w' : World} {v : Value} {x : List UInt8} (h : Ent w v x) (hc : Chg S w w') (hS : ∀ k, S k → k < w.heap.size → ¬ typ w k 147) : Ent w' v x := by
  obtain ⟨hb, g, off, n, c, rfl, ht⟩ := h
  have hn : ¬ S g := fun hs => hS g hs (let ⟨_, _, h⟩ := ht; lt_of_heap h) ht
  exact ⟨hb.chg hc hn, g, off, n, c, rfl, ht.chg hc hn⟩

theorem Grp.chg {S : Nat → Prop} {Bg : Nat} {w w' : World} {v : Value} {xs : List (List UInt8)} (h : Grp Bg w v xs) (hc : Chg S w w') (hS : ∀ k, S k → k < w.heap.size → ¬ typ w k 147 ∧ (k < Bg → ¬ typ w k 40)) : Grp Bg w' v xs := by
  obtain ⟨B, ho, hlt⟩ := h
  refine ⟨B, ho.keeps (fun k hk => hc.block k (ho.lt k hk).2 (fun hs => (hS k hs (ho.lt k hk).2).2 (hlt k hk) (ho.typ_of k hk))) (fun u x hr => hr.chg hc fun k hs hk => (hS k hs hk).1), hlt⟩

theorem Grp.mono {Bg Bg' : Nat} {w : World} {v : Value} {xs : List (List UInt8)} (h : Grp Bg w v xs) (hB : Bg ≤ Bg') : Grp Bg' w v xs := by
  obtain ⟨B, ho, hlt⟩ := h; exact ⟨B, ho, fun k hk => Nat.lt_of_lt_of_le (hlt k hk) hB⟩

def OpenBad : Ending := .returned (.tuple #[.pointer none, .slice none 0 0, .int .i64 1])

theorem open_bad (w : World) (k : Dk) (data : List UInt8) (base : Nat) (h : isD w k data) (hb : base < 1 ∨ 4611686018427387904 < base) (hl : base < 18446744073709551616) :
    Calls Try.prog 16 #[ptr k.d, .int .u64 base] w fun e w' => e = OpenBad ∧ w = w' := by
  have H := Lib.hid h
  have h1 : ∃ b1 b2, (.bool ((base : Int) == 0) : Value) = .bool b1 ∧ decide ((4611686018427387904 : Int) < base) = b2 ∧ (b1 || b2) = true := ⟨_, _, rfl, rfl, by simp; omega⟩
  clear h
  go_enter Try.func16, Try.ntmps16
  rcases hb with hb | hb
  · obtain rfl : base = 0 := by omega
    go_wp2_with (go_at_call 63; refine (disk_len _ _ _ H.out).mono ?_; rintro e w' ⟨rfl, rfl⟩)
    all_goals (go_ret3; exact ⟨rfl, rfl⟩)
  · have : (4611686018427387904 : Int) < base := by omega
    go_wp2_with (go_at_call 63; refine (disk_len _ _ _ H.out).mono ?_; rintro e w' ⟨rfl, rfl⟩)
    all_goals (go_ret3; exact ⟨rfl, rfl⟩)

theorem Try.infoRow : (Try.prog.info? 40).map (fun i => (i.zero, i.size, i.bytes)) = some (some (.slice none 0 0), 1, 24) := by kernel_rfl
theorem Try.infoRows : (Try.prog.info? 37).map (fun i => (i.zero, i.size, i.bytes)) = some (some (.slice none 0 0), 1, 24) := by kernel_rfl

/-- what stands between the rounds of Open -/
structure OInv (w wr : World) (d base nx Bg : Nat) (vo vg : Value) (g : List (List UInt8)) (out : List (List (List UInt8))) : Prop where
  below : Below w.heap.size w wr
  head : isJ wr w.heap.size d base nx
  b1 : w.heap.size < Bg
  b2 : Bg ≤ wr.heap.size
  group : ownS Ent wr 40 Bg vg g
  rows : ownS (Grp Bg) wr 37 (w.heap.size + 1) vo out

theorem OInv.grow {w wr w2 : World} {d base nx Bg : Nat} {vo vg : Value} {g : List (List UInt8)} {out : List (List (List UInt8))} (h : OInv w wr d base nx Bg vo vg g out) (hb : Below wr.heap.size wr w2) : OInv w w2 d base nx Bg vo vg g out :=
  have hc : Chg (fun _ => False) wr w2 := Chg.ofBelow hb
  ⟨h.below.trans (hb.mono h.below.size), h.head.below hb, h.b1, Nat.le_trans h.b2 hb.size, h.group.below hb (fun u x hr => hr.chg hc nofun), h.rows.below hb (fun u x hr => hr.chg hc nofun)⟩

/-- a change of the group's own row -/
theorem OInv.more {w wr w2 : World} {d base nx Bg : Nat} {vo vg vg' : Value} {g g' : List (List UInt8)} {out : List (List (List UInt8))} (h : OInv w wr d base nx Bg vo vg g out)
    (hc : Chg (fun k => Bg ≤ k ∧ vg.ownBlock = some k) wr w2) (hg : (∀ u x, Ent wr u x → Ent w2 u x) → ownS Ent w2 40 Bg vg' g') : OInv w w2 d base nx Bg vo vg' g' out := by
  have hty : ∀ k, (Bg ≤ k ∧ vg.ownBlock = some k) → typ wr k 40 := fun k hk => h.group.typ_of k hk.2
  have hb1 := h.b1
  have hE : ∀ u x, Ent wr u x → Ent w2 u x := fun u x hr => hr.chg hc (fun k hk _ ht => absurd (ht.one (hty k hk)) (by decide))
  refine ⟨h.below.trans (hc.below h.below.size (fun k hk => by omega)), h.head.chg hc (fun hk => by have := hk.1; omega), h.b1, Nat.le_trans h.b2 hc.size, hg hE, ?_⟩
  refine h.rows.keeps (fun k hk => hc.block k (h.rows.lt k hk).2 (fun hs => absurd ((hty k hs).one (h.rows.typ_of k hk)) (by decide))) (fun u x hr => hr.chg hc fun k hk _ => ⟨fun ht => absurd (ht.one (hty k hk)) (by decide), fun hlt => by have := hk.1; omega⟩)

/-- the group is one of the groups, the place is noted -/
theorem OInv.close {w wr w2 : World} {d base nx nx' Bg Bg' : Nat} {vo vo' vg : Value} {g : List (List UInt8)} {out : List (List (List UInt8))} (h : OInv w wr d base nx Bg vo vg g out)
    (hc : Chg (fun k => w.heap.size + 1 ≤ k ∧ vo.ownBlock = some k) wr w2) (hg : (∀ u x, Grp Bg wr u x → Grp Bg' w2 u x) → Grp Bg' w2 vg g → ownS (Grp Bg') w2 37 (w.heap.size + 1) vo' (out ++ [g])) (hB : Bg' = w2.heap.size)
    (u : Value) (w3 : World) (hw : w3 = w2.setCell ⟨w.heap.size, 2, none⟩ (.int .i64 nx')) : OInv w w3 d base nx' Bg' vo' (.slice none 0 0) [] (out ++ [g]) := by
  subst hw
  subst hB
  have hty : ∀ k, (w.heap.size + 1 ≤ k ∧ vo.ownBlock = some k) → typ wr k 37 := fun k hk => h.rows.typ_of k hk.2
  have hs := h.b1
  have hs2 := h.b2
  have hs3 := hc.size
  have hG : ∀ u x, Grp Bg wr u x → Grp w2.heap.size w2 u x := fun u x hr => (hr.chg hc fun k hk _ => ⟨fun ht => absurd (ht.one (hty k hk)) (by decide), fun _ ht => absurd (ht.one (hty k hk)) (by decide)⟩).mono (by omega)
  have hE : ∀ u x, Ent wr u x → Ent w2 u x := fun u x hr => hr.chg hc (fun k hk _ ht => absurd (ht.one (hty k hk)) (by decide))
  have hgo := hg hG ⟨Bg, h.group.keeps (fun k hk => hc.block k (h.group.lt k hk).2 (fun hs => absurd ((hty k hs).one (h.group.typ_of k hk)) (by decide))) hE, fun k hk => by have := (h.group.lt k hk).2; omega⟩
  have hJ : isJ w2 w.heap.size d base nx := h.head.chg hc (fun hk => by have := hk.1; omega)
  have hb2 : Below w.heap.size w w2 := h.below.trans (hc.below h.below.size (fun k hk => by omega))
  have hc2 : Chg (· = w.heap.size) w2 (w2.setCell ⟨w.heap.size, 2, none⟩ (.int .i64 nx')) := Chg.setCell (p := ⟨w.heap.size, 2, none⟩) (Chg.refl (· = w.heap.size) w2) (.inr rfl) _
  have hty2 : typ w2 w.heap.size 140 := ⟨_, _, hJ⟩
  refine ⟨hb2.setCell (Nat.le_refl _) _, ?_, by omega, by rw [size_setCell]; exact Nat.le_refl _, ownS.nil _ _ _ _, ?_⟩
  · exact heap_setCell_same _ _ _ _ _ _ hJ
  · refine hgo.keeps (fun k hk => hc2.block k (hgo.lt k hk).2 (fun e => by have := (hgo.lt k hk).1; omega)) (fun u x hr => hr.chg hc2 fun k hk _ => by subst hk; exact ⟨fun ht => absurd (ht.one hty2) (by decide), fun _ ht => absurd (ht.one hty2) (by decide)⟩)

theorem isS.imp {α : Type} {R R' : World → Value → α → Prop} {w : World} {v : Value} {xs : List α} (h : isS R w v xs) (hR : ∀ u x, R w u x → R' w u x) : isS R' w v xs := by
  obtain ⟨ao, cap, rfl, h1, h2, h3, h4⟩ := h
  exact ⟨ao, cap, rfl, h1, h2, h3, fun a ha => ⟨(h4 a ha).1, fun i x hx => let ⟨u, hu, hr⟩ := (h4 a ha).2 i x hx; ⟨u, hu, hR _ _ hr⟩⟩⟩

theorem OInv.isBss {w wr : World} {d base nx Bg : Nat} {vo vg : Value} {g : List (List UInt8)} {out : List (List (List UInt8))} (h : OInv w wr d base nx Bg vo vg g out) : isBss wr vo out :=
  h.rows.isS.imp fun u x ⟨B, ho, _⟩ => ho.isS.imp fun u x hr => hr.1

theorem read_none (w : World) (g : Nat) (b : List UInt8) (n : Nat) (hb : isB w (.slice (some ⟨g, 0, none⟩) 64 64) b) (hl : b.length = 64) (hr : jread b n = none) :
    Calls Try.prog 65 #[.slice (some ⟨g, 0, none⟩) 64 64, .int .u64 n] w fun e w' => e = .returned (.tuple #[.slice none 0 0, .bool false, .bool false]) ∧ Below w.heap.size w w' :=
  (read_spec w g b n hb hl).mono fun e w' ⟨h1, h2⟩ => by rw [hr] at h2; exact ⟨h2, h1⟩

theorem read_some (w : World) (g : Nat) (b : List UInt8) (n : Nat) (x : List UInt8) (last : Bool) (hb : isB w (.slice (some ⟨g, 0, none⟩) 64 64) b) (hl : b.length = 64) (hr : jread b n = some (x, last)) :
    Calls Try.prog 65 #[.slice (some ⟨g, 0, none⟩) 64 64, .int .u64 n] w fun e w' => e = .returned (.tuple #[.slice (some ⟨g, 10, none⟩) x.length 54, .bool last, .bool true]) ∧ Below w.heap.size w w' :=
  (read_spec w g b n hb hl).mono fun e w' ⟨h1, h2⟩ => by rw [hr] at h2; exact ⟨h2, h1⟩

theorem jread_some {b : List UInt8} {n : Nat} {x : List UInt8} {last : Bool} (hl : b.length = 64) (h : jread b n = some (x, last)) : x = (b.drop 10).take x.length ∧ 1 ≤ x.length ∧ x.length ≤ 46 := by
  unfold jread at h
  split at h
  · split at h
    · simp at h
    · rename_i h2
      simp only [Option.some.injEq, Prod.mk.injEq] at h
      have hx := h.1
      have hlx : x.length = (b.getD 9 0).toNat := by rw [← hx]; simp only [List.length_take, List.length_drop, hl]; omega
      refine ⟨?_, by omega, by omega⟩
      rw [hlx, hx]
  · simp at h

/-- the entry that 'read' tells of a copy -/
theorem ent_of {w : World} {g : Nat} {b : List UInt8} {x : List UInt8} (h : w.heap[g]? = some (.cells (bvals b).toArray 147 (0, 0))) (hl : b.length = 64) (hx : x = (b.drop 10).take x.length) (hx2 : x.length ≤ 46) :
    Ent w (.slice (some ⟨g, 10, none⟩) x.length 54) x := by
  refine ⟨?_, g, 10, _, _, rfl, _, _, h⟩
  have := sect_isB (c := x.length) (o := 10) (m := 54) h (by omega) (by omega) (by simp [maxLen])
  rw [← hx] at this
  exact this

def OpenPost (w : World) (k : Dk) (data : List UInt8) (base : Nat) (e : Ending) (w' : World) : Prop :=
  ∃ j o, e = .returned (.tuple #[ptr j, o, .int .i64 0]) ∧ w.heap.size ≤ j ∧ isJ w' j k.d base (jscan data base k.n 0 [] [] 0).2 ∧ isBss w' o (jscan data base k.n 0 [] [] 0).1 ∧ Below w.heap.size w w'

set_option maxHeartbeats 1000000 in
set_option maxRecDepth 100000 in
theorem open_ok (w : World) (k : Dk) (data : List UInt8) (base : Nat) (h : isD w k data) (h1 : 1 ≤ base) (h2 : base ≤ 4611686018427387904) (hn : 1 ≤ k.n) :
    Calls Try.prog 16 #[ptr k.d, .int .u64 base] w (OpenPost w k data base) := by
  have H := Lib.hid h
  obtain ⟨p, d, s, n⟩ := k
  have i0 : ¬ n = 0 := by dsimp only at hn; omega
  clear hn
  obtain ⟨h0, -⟩ := cells2 h.head
  have hsm := h.small
  have hlt := h.lt
  obtain ⟨pa, pt, hP, -⟩ := h.up
  have i1 : ¬ base = 0 := by omega
  have i2 : ¬ (4611686018427387904 : Int) < base := by omega
  clear h
  dsimp only at *
  go_enter Try.func16, Try.ntmps16
  go_wp2_with (first | (go_at_call 63; refine (disk_len _ _ _ H.out).mono ?_; rintro e w' ⟨rfl, rfl⟩) | (go_at_call 63; refine (disk_len _ _ _ (H.out.below (below_alloc _ _))).mono ?_; rintro e w' ⟨rfl, rfl⟩) | (go_at_call 33; refine (power_on _ _ _ hP).mono ?_; rintro e w' ⟨rfl, rfl⟩))
  · rename_i hx; exfalso; simp at hx; omega
  generalize hR : jscan data base n 0 [] [] 0 = R
  go_loopw [41, 8, 9] (fun x vo vg wr => ∃ (i : Nat) (g : List (List UInt8)) (out : List (List (List UInt8))) (nx Bg : Nat), i ≤ n ∧ x = .int .i64 i ∧ g.length ≤ i ∧ out.length ≤ i ∧ jscan data base (n - i) i g out nx = R ∧
      OInv w wr d base nx Bg vo vg g out) (fun x _ _ _ => n - (intOf x).toNat)
  case atStart => exact ⟨0, [], [], 0, w.heap.size + 1, by omega, rfl, by simp, by simp, hR, below_alloc _ _, heap_alloc_new _ _, by omega, by simp, ownS.nil _ _ _ _, ownS.nil _ _ _ _⟩
  case round =>
    obtain ⟨i, g, out, nx, Bg, hi, rfl, hgl, hol, hj, hI⟩ := hrel
    have hlen : i + 1 ≤ 70368744177664 := by omega
    have Hj := Lib.hid hj
    have HI := Lib.hid hI
    have hsz := hI.below.size
    have hBg2 := hI.b2
    obtain ⟨aog, capg, rfl, -, -⟩ := hI.group.isS.shape rfl
    obtain ⟨aoo, capo, rfl, -, -⟩ := hI.rows.isS.shape rfl
    clear hj hI
    by_cases hin : i < n
    · have Hl1 : Hid ((sect data i).length = 64) := sect_len H.out.len hin
      have hib : base + i < 18446744073709551616 := by omega
      have ej : jscan data base (n - i) i g out nx = match jread (sect data i) (base + i) with
          | none => (out, nx)
          | some (x, true) => jscan data base (n - (i + 1)) (i + 1) [] (out ++ [g ++ [x]]) (i + 1)
          | some (x, false) => jscan data base (n - (i + 1)) (i + 1) (g ++ [x]) out nx := by
        rw [show n - i = (n - (i + 1)) + 1 by omega]; rfl
      rw [ej] at Hj
      clear ej
      rcases hjr : jread (sect data i) (base + i) with _ | ⟨x, last⟩
      · rw [hjr] at Hj
        go_wp2_with (first | (go_at_call 64; refine (disk_get _ _ _ i (H.out.below HI.out.below) hin).mono ?_; rintro e w1 ⟨⟨rfl, hs1⟩, hb1⟩; have hB1 : Hid (isB w1 (.slice (some ⟨wr.heap.size, 0, none⟩) 64 64) (sect data i)) := isB.lit hs1 rfl (by rw [Hl1.out]; simp [maxLen]) Hl1.out.symm Hl1.out.symm; replace hs1 := Lib.hid hs1; replace hb1 := Lib.hid hb1) | (go_at_call 65; refine (read_none _ _ (sect data i) (base + i) hB1.out Hl1.out hjr).mono ?_; rintro e w2 ⟨rfl, hb2⟩))
        go_ret3
        obtain rfl := Hj.out
        have hI2 := HI.out.grow (hb1.out.trans (hb2.mono hb1.out.size))
        refine ⟨_, _, rfl, Nat.le_refl _, ?_, ?_, hI2.below⟩
        · dsimp only; rw [hR]; exact hI2.head
        · dsimp only; rw [hR]; exact hI2.isBss
      · obtain ⟨hx1, hx2, hx3⟩ := jread_some Hl1.out hjr
        have Hx1 := Lib.hid hx1
        clear hx1
        rw [hjr] at Hj
        cases last with
        | false =>
          go_wp2_with (first | (go_at_call 64; refine (disk_get _ _ _ i (H.out.below HI.out.below) hin).mono ?_; rintro e w1 ⟨⟨rfl, hs1⟩, hb1⟩; have hB1 : Hid (isB w1 (.slice (some ⟨wr.heap.size, 0, none⟩) 64 64) (sect data i)) := isB.lit hs1 rfl (by rw [Hl1.out]; simp [maxLen]) Hl1.out.symm Hl1.out.symm; replace hs1 := Lib.hid hs1; replace hb1 := Lib.hid hb1) | (go_at_call 65; refine (read_some _ _ (sect data i) (base + i) x false hB1.out Hl1.out hjr).mono ?_; rintro e w2 ⟨rfl, hb2⟩) | (at_builtin; refine stop_in ?_))
          refine stop_out ?_
          have hb12 : Below wr.heap.size wr w2 := hb1.out.trans (hb2.mono hb1.out.size)
          have hsz2 := hb12.size
          have hE : Ent w2 (.slice (some ⟨wr.heap.size, 10, none⟩) x.length 54) x := ent_of (below_keeps hb2 hs1.out) Hl1.out Hx1.out hx3
          have hI2 := HI.out.grow (hb12.alloc hsz2 (.cells #[.slice (some ⟨wr.heap.size, 10, none⟩) x.length 54] 40 (0, 0)))
          refine wpList_append_S (o := ⟨some 65, _, _, _, _, _⟩) Ent rfl (.tmp 62) (.tmp 64) 37 rfl Bg 40 Try.underlying37 _ 24 Try.infoRow rfl (.slice aog g.length capg) g rfl hI2.group w2.heap.size 1 (.slice (some ⟨wr.heap.size, 10, none⟩) x.length 54) x rfl (by rw [cell_of_row _ _ _ _ _ _ (heap_alloc_new _ _)]; rfl) rfl (by omega) (by simp [maxLen]; omega) (by simp; omega) ?_
          intro v3 w3 ho3 hc3 hx4
          have hI3 := hI2.more hc3 (fun hE3 => ho3 Ent hE3 (hE3 _ _ (hE.chg (S := fun _ => False) (Chg.ofBelow (below_alloc _ _)) nofun)))
          clear ho3 hc3 hx4 hI2 hE hb12
          go_wp2
          go_roundw
          case rel => exact ⟨i + 1, _, _, _, _, by omega, by go_num, by simp; omega, by omega, Hj.out, hI3⟩
          case measure => simp [intOf]; omega
        | true =>
          go_wp2_with (first | (go_at_call 64; refine (disk_get _ _ _ i (H.out.below HI.out.below) hin).mono ?_; rintro e w1 ⟨⟨rfl, hs1⟩, hb1⟩; have hB1 : Hid (isB w1 (.slice (some ⟨wr.heap.size, 0, none⟩) 64 64) (sect data i)) := isB.lit hs1 rfl (by rw [Hl1.out]; simp [maxLen]) Hl1.out.symm Hl1.out.symm; replace hs1 := Lib.hid hs1; replace hb1 := Lib.hid hb1) | (go_at_call 65; refine (read_some _ _ (sect data i) (base + i) x true hB1.out Hl1.out hjr).mono ?_; rintro e w2 ⟨rfl, hb2⟩) | (at_builtin; refine stop_in ?_))
          refine stop_out ?_
          have hb12 : Below wr.heap.size wr w2 := hb1.out.trans (hb2.mono hb1.out.size)
          have hsz2 := hb12.size
          have hE : Ent w2 (.slice (some ⟨wr.heap.size, 10, none⟩) x.length 54) x := ent_of (below_keeps hb2 hs1.out) Hl1.out Hx1.out hx3
          have hI2 := HI.out.grow (hb12.alloc hsz2 (.cells #[.slice (some ⟨wr.heap.size, 10, none⟩) x.length 54] 40 (0, 0)))
          refine wpList_append_S (o := ⟨some 65, _, _, _, _, _⟩) Ent rfl (.tmp 62) (.tmp 64) 37 rfl Bg 40 Try.underlying37 _ 24 Try.infoRow rfl (.slice aog g.length capg) g rfl hI2.group w2.heap.size 1 (.slice (some ⟨wr.heap.size, 10, none⟩) x.length 54) x rfl (by rw [cell_of_row _ _ _ _ _ _ (heap_alloc_new _ _)]; rfl) rfl (by omega) (by simp [maxLen]; omega) (by simp; omega) ?_
          intro v3 w3 ho3 hc3 hx4
          have hI3 := hI2.more hc3 (fun hE3 => ho3 Ent hE3 (hE3 _ _ (hE.chg (S := fun _ => False) (Chg.ofBelow (below_alloc _ _)) nofun)))
          obtain ⟨ao3, cap3, rfl, -, -⟩ := hI3.group.isS.shape (n := g.length + 1) (by simp)
          have hsz3 := hI3.below.size
          clear ho3 hc3 hx4 hI2 hE hb12
          go_wp2_with (at_builtin; refine stop_in ?_)
          refine stop_out ?_
          have hI4 := hI3.grow (below_alloc w3 (.cells #[.slice ao3 (g.length + 1) cap3] 37 (0, 0)))
          refine wpList_append_S (o := ⟨some 71, _, _, _, _, _⟩) (Grp Bg) rfl (.tmp 68) (.tmp 70) 23 rfl (w.heap.size + 1) 37 Try.underlying23 _ 24 Try.infoRows rfl (.slice aoo out.length capo) out rfl hI4.rows w3.heap.size 1 (.slice ao3 (g.length + 1) cap3) (g ++ [x]) rfl (by rw [cell_of_row _ _ _ _ _ _ (heap_alloc_new _ _)]; rfl) rfl (by omega) (by simp [maxLen]; omega) (by simp; omega) ?_
          intro v5 w5 ho5 hc5 hx5
          have hI5 := hI4.close (nx' := i + 1) hc5 (ho5 (Grp w5.heap.size)) rfl (.int .i64 0) _ rfl
          have hJ5 : isJ w5 w.heap.size d base nx := hI4.head.chg hc5 (fun hk => by have := hk.1; omega)
          obtain ⟨-, -, k2⟩ := cells3 hJ5
          have f2 := unfrozen hJ5 2
          clear ho5 hc5 hx5 hJ5 hI4
          go_wp2
          go_roundw
          case rel => exact ⟨i + 1, _, _, _, _, by omega, by go_num, by simp, by simp; omega, Hj.out, hI5⟩
          case measure => simp [intOf]; omega
    · obtain rfl : i = n := by omega
      go_wp2
      go_ret3
      rw [Nat.sub_self] at Hj
      obtain rfl := Hj.out
      refine ⟨_, _, rfl, Nat.le_refl _, ?_, ?_, HI.out.below⟩
      · dsimp only; rw [hR]; exact HI.out.head
      · dsimp only; rw [hR]; exact HI.out.isBss
end Go.Proofs.Ytobpjldpkgioaaa
