/- JournalGroups: the walk of the law -/
import Derived.Test.YtobpjldpkgioaaaPlain18
import Derived.Lib.SmallJoins
namespace Go.Proofs.Ytobpjldpkgioaaa
open Go.RowKit

def OpenLaw (w : World) (k : Dk) (base : Nat) (gs : List (List (List UInt8))) (e : Ending) (w' : World) : Prop :=
  ∃ j o, e = .returned (.tuple #[ptr j, o, .int .i64 0]) ∧ w.heap.size ≤ j ∧ isJD w' j k (jdisk base k.n gs) base (jcnt gs) ∧ isBss w' o gs ∧ Below w.heap.size w w'

theorem open_law (w : World) (k : Dk) (base : Nat) (gs : List (List (List UInt8))) (h : isD w k (jdisk base k.n gs)) (hg : ∀ g ∈ gs, goodG g) (hn : jcnt gs ≤ k.n) (h1 : 1 ≤ base) (h2 : base ≤ 4611686018427387904) (hk : 1 ≤ k.n) :
    Calls Try.prog 16 #[ptr k.d, .int .u64 base] w (OpenLaw w k base gs) :=
  (open_ok w k _ base h h1 h2 hk).mono fun e w' ⟨j, o, h1', h2', h3, h4, h5⟩ => by
    have hs := h.small
    rw [jdisk_scan base k.n gs hg hn h1 (by omega)] at h3 h4
    exact ⟨j, o, h1', h2', ⟨h.below h5, h3⟩, h4, h5⟩

theorem append_none (w : World) (j : Nat) (k : Dk) (base : Nat) (gs : List (List (List UInt8))) (v : Value) (g : List (List UInt8)) (h : isJD w j k (jdisk base k.n gs) base (jcnt gs)) (hn : jcnt gs ≤ k.n) (hg : Held (jS j k) isBs w v g) (hb : ¬ goodG g) (hbase : base ≤ 4611686018427387904) :
    Calls Try.prog 18 #[ptr j, v] w fun e w' => e = .returned (.int .i64 1) ∧ w = w' := by
  by_cases h1 : jbad g
  · exact append_bad w _ v g hg.here h1
  · have h0 : g.length = 0 := by
      by_cases h0 : 0 < g.length
      · exact absurd ⟨h1, h0⟩ hb
      · omega
    refine (append_good w j k _ base _ v g h hn hg h1 hbase).mono fun e w' hp => ?_
    rw [AppPost, if_pos h0] at hp; exact hp

theorem append_full (w : World) (j : Nat) (k : Dk) (base : Nat) (gs : List (List (List UInt8))) (v : Value) (g : List (List UInt8)) (h : isJD w j k (jdisk base k.n gs) base (jcnt gs)) (hn : jcnt gs ≤ k.n) (hg : Held (jS j k) isBs w v g) (hb : goodG g) (hbase : base ≤ 4611686018427387904) (hf : k.n < jcnt gs + g.length) :
    Calls Try.prog 18 #[ptr j, v] w fun e w' => e = .returned (.int .i64 7) ∧ w = w' := by
  refine (append_good w j k _ base _ v g h hn hg hb.1 hbase).mono fun e w' hp => ?_
  rw [AppPost, if_neg (by have := hb.2; omega), if_pos hf] at hp; exact hp

theorem append_fits (w : World) (j : Nat) (k : Dk) (base : Nat) (gs : List (List (List UInt8))) (v : Value) (g : List (List UInt8)) (h : isJD w j k (jdisk base k.n gs) base (jcnt gs)) (hgs : ∀ g ∈ gs, goodG g) (hn : jcnt gs ≤ k.n) (hg : Held (jS j k) isBs w v g) (hb : goodG g) (hbase : base ≤ 4611686018427387904) (hf : ¬ k.n < jcnt gs + g.length) :
    Calls Try.prog 18 #[ptr j, v] w fun e w' => e = .returned (.int .i64 0) ∧ isJD w' j k (jdisk base k.n (gs ++ [g])) base (jcnt (gs ++ [g])) ∧ Chg (jS j k) w w' := by
  refine (append_good w j k _ base _ v g h hn hg hb.1 hbase).mono fun e w' hp => ?_
  rw [AppPost, if_neg (by have := hb.2; omega), if_neg hf, jdisk_put _ _ _ _ hgs hb.1 (by omega), ← jcnt_snoc] at hp; exact hp

/-- a row of rows that was just made -/
theorem isBs_two {w : World} {r a b : Nat} {x y : List UInt8} {T T' : TypeId} {fa fb : Nat × Nat} (ha : w.heap[a]? = some (.cells (bvals x).toArray T' fa)) (hb : w.heap[b]? = some (.cells (bvals y).toArray T' fb))
    (hr : w.heap[r]? = some (.cells #[.slice (some ⟨a, 0, none⟩) x.length x.length, .slice (some ⟨b, 0, none⟩) y.length y.length] T (0, 0))) (hx : x.length ≤ maxLen) (hy : y.length ≤ maxLen) : isBs w (.slice (some ⟨r, 0, none⟩) 2 2) [x, y] := by
  refine ⟨_, 2, rfl, Nat.le_refl _, by simp [maxLen], nofun, ?_⟩
  rintro ad hd
  obtain rfl := Option.some.inj hd
  refine ⟨fun _ => rfl, fun i z hz => ?_⟩
  rw [cell_of_row _ _ _ _ _ _ hr]
  match i, hz with
  | 0, hz => obtain rfl := Option.some.inj hz; exact ⟨_, rfl, isB.lit ha rfl hx rfl rfl⟩
  | 1, hz => obtain rfl := Option.some.inj hz; exact ⟨_, rfl, isB.lit hb rfl hy rfl rfl⟩
  | i + 2, hz => simp at hz

theorem isJD.jS_lt {w : World} {j : Nat} {k : Dk} {data : List UInt8} {b n : Nat} (h : isJD w j k data b n) : ∀ i, jS j k i → i < w.heap.size := by
  have h1 := h.disk.lt
  have h2 := lt_of_heap h.head
  rintro i (e | e | e)
  · rw [e]; exact h1.1
  · rw [e]; exact h1.2.2
  · rw [e]; exact h2

def litW (w : World) : World := ((w.alloc (.cells #[.int .u8 97] 5 (1, 2))).alloc (.cells #[.int .u8 98, .int .u8 99] 5 (2, 3))).alloc (.cells #[.slice (some ⟨w.heap.size, 0, none⟩) 1 1, .slice (some ⟨w.heap.size + 1, 0, none⟩) 2 2] 40 (0, 0))

theorem litW_below (w : World) : Below w.heap.size w (litW w) := ((below_alloc w _).alloc (by simp) _).alloc (by simp; omega) _

theorem held_lits (w : World) (S : Nat → Prop) (hS : ∀ k, S k → k < w.heap.size) : Held S isBs (litW w) (.slice (some ⟨w.heap.size + 1 + 1, 0, none⟩) 2 2) [[97], [98, 99]] := fun w' hc => by
  have h2 : (litW w).heap[w.heap.size + 1 + 1]? = some (.cells #[.slice (some ⟨w.heap.size, 0, none⟩) 1 1, .slice (some ⟨w.heap.size + 1, 0, none⟩) 2 2] 40 (0, 0)) := by
    have := heap_alloc_new ((w.alloc (.cells #[.int .u8 97] 5 (1, 2))).alloc (.cells #[.int .u8 98, .int .u8 99] 5 (2, 3))) (.cells #[.slice (some ⟨w.heap.size, 0, none⟩) 1 1, .slice (some ⟨w.heap.size + 1, 0, none⟩) 2 2] 40 (0, 0))
    simpa [litW] using this
  have h1 : (litW w).heap[w.heap.size + 1]? = some (.cells #[.int .u8 98, .int .u8 99] 5 (2, 3)) := by
    have := heap_alloc_new (w.alloc (.cells #[.int .u8 97] 5 (1, 2))) (.cells #[.int .u8 98, .int .u8 99] 5 (2, 3))
    unfold litW
    rw [Below.heap_alloc _ _ _ (by simp)]
    simpa using this
  have h0 : (litW w).heap[w.heap.size]? = some (.cells #[.int .u8 97] 5 (1, 2)) := by
    unfold litW
    rw [Below.heap_alloc _ _ _ (by simp; omega), Below.heap_alloc _ _ _ (by simp)]
    exact heap_alloc_new _ _
  have n2 : ¬ S (w.heap.size + 1 + 1) := fun h => by have := hS _ h; omega
  have n1 : ¬ S (w.heap.size + 1) := fun h => by have := hS _ h; omega
  have n0 : ¬ S w.heap.size := fun h => by have := hS _ h; omega
  exact isBs_two (x := [97]) (y := [98, 99]) (hc.keeps h0 n0) (hc.keeps h1 n1) (hc.keeps h2 n2) (by decide) (by decide)

set_option maxHeartbeats 1000000 in
set_option maxRecDepth 100000 in
theorem lives_spec (w : World) : Calls Try.prog 12 #[] w fun e w' => e = .returned (.bool true) ∧ Below w.heap.size w w' := by
  have hgood1 : goodG [[97], [98, 99]] := ⟨by rintro ⟨e, he, hb⟩; simp at he; rcases he with rfl | rfl <;> simp at hb, by decide⟩
  have hgood : ∀ g ∈ ([] ++ [[[97], [98, 99]]] : List (List (List UInt8))), goodG g := by intro g hg; simp at hg; subst hg; exact hgood1
  go_enter Try.func12, Try.ntmps12
  go_wp2_with (first | (go_at_call 16; refine (open_law _ ⟨w.heap.size, d, s, 4⟩ 9 ([] ++ [[[97], [98, 99]]]) hJ4.disk hgood (show 2 ≤ 4 by decide) (by decide) (by decide) (show 1 ≤ 4 by decide)).mono ?_; rintro e w5 ⟨j2, o2, rfl, hjs2, hJ2, hO2, hb5⟩; obtain ⟨ao2, cap2, rfl, -, -⟩ := hO2.shape rfl; obtain ⟨b, off, u, rfl, hu, hr⟩ := hO2.elem (j := 0) rfl; obtain ⟨ao3, cap3, rfl, -, -⟩ := hr.shape rfl; obtain ⟨b3, off3, u3, rfl, hu3, hr3⟩ := hr.elem (j := 1) rfl; have q3 := run_string hr3 40 5 Try.underlying40 Try.underlying5 9 Try.underlying9; simp only [Nat.add_zero] at hu hu3) | (go_at_call 18; refine (append_fits (litW w3) j ⟨w.heap.size, d, s, 4⟩ 9 [] _ [[97], [98, 99]] (hJ.below (litW_below w3)) (by simp) (Nat.zero_le _) (held_lits w3 _ hjS) hgood1 (by decide) (show ¬ 4 < 2 by decide)).mono ?_; rintro e w4 ⟨rfl, hJ4, hc4⟩) | (go_at_call 15; refine (power_new _).mono ?_; rintro e w1 ⟨rfl, hP, hb1⟩) | (go_at_call 14; refine (disk_new _ w.heap.size 4 ⟨0, 0, hP, by unfold Pw.wf; decide⟩ (by decide) (by decide)).mono ?_; rintro e w2 ⟨⟨d, s, rfl, hD, hd, hs, hne⟩, hb2⟩) | (go_at_call 16; refine (open_law _ ⟨w.heap.size, d, s, 4⟩ 9 [] hD (by simp) (Nat.zero_le _) (by decide) (by decide) (show 1 ≤ 4 by decide)).mono ?_; rintro e w3 ⟨j, o, rfl, hjs, hJ, hO, hb3⟩; obtain ⟨ao, cap, rfl, -, -⟩ := hO.shape rfl; have hjS := hJ.jS_lt; have kc0 := Lib.run_convert_bytes_const (P := Try.prog) w3 40 5 #[.int .u8 97] 1 1 Try.underlying40 Try.underlying5; have kc1 := Joins.run_convert_bytes_const_at (P := Try.prog) (w3.alloc (.cells #[.int .u8 97] 5 (1, 2))) 40 5 #[.int .u8 98, .int .u8 99] 2 2 (w3.heap.size + 1) (by simp) Try.underlying40 Try.underlying5))
  go_ret
  have s1 := hb1.size
  have s2 := hb2.size
  have s3 := hb3.size
  have b3 : Below w.heap.size w w3 := (hb1.trans (hb2.mono s1)).trans (hb3.mono (by omega))
  have b4 : Below w.heap.size w (litW w3) := b3.trans ((litW_below w3).mono b3.size)
  have b5 : Below w.heap.size w w4 := b4.trans (hc4.below b4.size (by
    rintro i (e | e | e)
    · rw [e]; exact Nat.le_refl _
    · rw [e]; dsimp only; omega
    · rw [e]; omega))
  exact ⟨by rw [str_toList]; rfl, b5.trans (hb5.mono b5.size)⟩

/-- what stands between the rounds of the law -/
structure LInv (w wr : World) (K : Dk) (j base : Nat) (va : Value) (gs : List (List (List UInt8))) : Prop where
  below : Below w.heap.size w wr
  jd : isJD wr j K (jdisk base K.n gs) base (jcnt gs)
  all : ownS (fun _ => isBs w) wr 37 w.heap.size va gs
  good : ∀ g ∈ gs, goodG g
  fits : jcnt gs ≤ K.n

theorem LInv.grow {w wr w2 : World} {K : Dk} {j base : Nat} {va : Value} {gs : List (List (List UInt8))} (h : LInv w wr K j base va gs) (hb : Below wr.heap.size wr w2) : LInv w w2 K j base va gs :=
  ⟨h.below.trans (hb.mono h.below.size), h.jd.below hb, h.all.below hb (fun _ _ h => h), h.good, h.fits⟩

theorem LInv.isBss {w wr : World} {K : Dk} {j base : Nat} {va : Value} {gs : List (List (List UInt8))} (h : LInv w wr K j base va gs) : isBss wr va gs :=
  h.all.isS.imp fun u x hx => hx.below h.below

/-- the blocks of the journal lie behind block B -/
def jOld (B : Nat) (K : Dk) (j : Nat) : Prop := B ≤ K.p ∧ B ≤ K.d ∧ B ≤ K.s ∧ B ≤ j

theorem jOld.jS {B : Nat} {K : Dk} {j : Nat} (h : jOld B K j) : ∀ i, jS j K i → B ≤ i := by
  rintro i (e | e | e)
  · rw [e]; exact h.1
  · rw [e]; exact h.2.2.1
  · rw [e]; exact h.2.2.2

theorem LInv.held {w wr : World} {K : Dk} {j base : Nat} {va : Value} {gs : List (List (List UInt8))} (h : LInv w wr K j base va gs) (ho : jOld w.heap.size K j) {u : Value} {g : List (List UInt8)} (hu : isBs w u g) : Held (jS j K) isBs wr u g := fun w' hc =>
  hu.below (h.below.trans (hc.below h.below.size ho.jS))

theorem isJD.not_row {w : World} {j : Nat} {K : Dk} {data : List UInt8} {b n : Nat} (h : isJD w j K data b n) : ∀ i, jS j K i → ¬ typ w i 37 := by
  obtain ⟨a, t, ⟨c, hP⟩, -⟩ := h.disk.up
  rintro i (e | e | e) ht <;> subst e
  · exact absurd (ht.one ⟨_, _, hP⟩) (by decide)
  · exact absurd (ht.one ⟨_, _, h.disk.rows⟩) (by decide)
  · exact absurd (ht.one ⟨_, _, h.head⟩) (by decide)

/-- a group is appended to the journal, then to the groups -/
theorem LInv.append {w wr w2 w3 w4 : World} {K : Dk} {j base : Nat} {va va' : Value} {gs : List (List (List UInt8))} {g : List (List UInt8)} (h : LInv w wr K j base va gs) (ho : jOld w.heap.size K j) (hg : goodG g) (hf : ¬ K.n < jcnt gs + g.length)
    (hj : isJD w2 j K (jdisk base K.n (gs ++ [g])) base (jcnt (gs ++ [g]))) (hc : Chg (jS j K) wr w2) (hb : Below w2.heap.size w2 w3) (hc2 : Chg (fun k => w.heap.size ≤ k ∧ va.ownBlock = some k) w3 w4)
    (ha : ownS (fun _ => isBs w) w4 37 w.heap.size va' (gs ++ [g])) : LInv w w4 K j base va' (gs ++ [g]) := by
  have h2 : Below w.heap.size w w2 := h.below.trans (hc.below h.below.size ho.jS)
  have h3 := h2.trans (hb.mono h2.size)
  have hty : ∀ k, va.ownBlock = some k → typ w3 k 37 := fun k hk => by
    have t0 := h.all.typ_of k hk
    have t2 := t0.chg hc (fun hs => h.jd.not_row k hs t0)
    exact t2.chg (Chg.ofBelow (S := fun _ => False) hb) nofun
  have hj3 := hj.below hb
  refine ⟨h3.trans (hc2.below h3.size (fun k hk => hk.1)), ?_, ha, fun x hx => ?_, by rw [jcnt_snoc]; omega⟩
  · refine hj3.chg hc2 (fun hs => ?_) (fun hs => ?_) (fun hs => ?_) (fun hs => ?_)
    · exact hj3.not_row _ (.inl rfl) (hty _ hs.2)
    · exact absurd ((hty _ hs.2).one ⟨_, _, hj3.disk.head⟩) (by decide)
    · exact hj3.not_row _ (.inr (.inl rfl)) (hty _ hs.2)
    · exact hj3.not_row _ (.inr (.inr rfl)) (hty _ hs.2)
  · rcases List.mem_append.1 hx with hx | hx
    · exact h.good x hx
    · simp only [List.mem_singleton] at hx; rw [hx]; exact hg

theorem good_ent {g : List (List UInt8)} (h : ¬ jbad g) {i : Nat} {e : List UInt8} (he : g[i]? = some e) : 1 ≤ e.length ∧ e.length ≤ 46 :=
  ⟨Nat.le_of_not_lt fun x => h (bad_here g i e he (.inl x)), Nat.le_of_not_lt fun x => h (bad_here g i e he (.inr x))⟩

theorem lsector_spec' (w : World) (ni : Int) (n : Nat) (lb last : Bool) (v : Value) (en : List UInt8) (hn : ni = n) (hlb : lb = last) (hv : isB w v en) (hl : en.length ≤ 46) :
    Calls Try.prog 20 #[.int .u64 ni, .bool lb, v] w fun e w' => e = .returned (.string (str (jsector n last en))) ∧ Below w.heap.size w w' := by
  subst hn; subst hlb; exact lsector_spec w n lb v en hv hl

theorem str_app (a b : List UInt8) : str a ++ str b = str (a ++ b) := by
  apply ByteArray.ext; simp [str]

theorem jsecs_step (base u : Nat) (g : List (List UInt8)) {i : Nat} {e : List UInt8} (he : g[i]? = some e) : jsecs base g.length u 0 (g.take (i + 1)) = jsecs base g.length u 0 (g.take i) ++ jsector (base + (u + i)) (decide (i + 1 = g.length)) e := by
  obtain ⟨hi, he'⟩ := List.getElem?_eq_some_iff.1 he
  rw [List.take_add_one, he, show (some e).toList = [e] from rfl, jsecs_snoc]
  simp only [List.length_take, Nat.min_eq_left (Nat.le_of_lt hi), Nat.zero_add]

theorem str_size (l : List UInt8) : (str l).size = l.length := by simp [str, ByteArray.size]

theorem not_bad_take {g : List (List UInt8)} (h : ¬ jbad g) {i : Nat} : ¬ jbad (g.take i) := fun ⟨e, he, hb⟩ => h ⟨e, List.mem_of_mem_take he, hb⟩

theorem jcnt_ge {gs : List (List (List UInt8))} (h : ∀ g ∈ gs, goodG g) : gs.length ≤ jcnt gs := by
  induction gs with
  | nil => exact Nat.le_refl _
  | cons g gs ih =>
    have := (h g (by simp)).2
    have := ih (fun x hx => h x (by simp [hx]))
    simp only [List.length_cons, jcnt]; omega

theorem getall64 (w : World) (k : Dk) (data : List UInt8) (c : Nat) (h : isD w k data) (hs : c ≤ k.n) :
    Calls Try.prog 21 #[ptr k.d, .int .i64 0, .int .i64 (64 * (c : Int))] w (DiskGetAllPost w ((data.drop (64 * 0)).take (64 * c))) := by
  have := disk_getall w k data 0 (64 * c) h (Nat.zero_le _) (by omega)
  rw [show ((64 * c : Nat) : Int) = 64 * (c : Int) by omega] at this
  exact this

theorem open_bad' (w : World) (k : Dk) (data : List UInt8) (base : Nat) (h : isD w k data) (hb : base < 1 ∨ 4611686018427387904 < base) (hl : base < 18446744073709551616) :
    Calls Try.prog 16 #[ptr k.d, .int .u64 base] w fun e w' => e = .returned (.tuple #[.pointer none, .slice none 0 0, .int .i64 1]) ∧ w = w' := open_bad w k data base h hb hl

theorem size18 (sectors : Int) : ∃ n : Nat, 1 ≤ n ∧ n ≤ 30 ∧ wrap64 (1 + wrap64 ((IntKind.u64.wrap sectors).tmod 30)) = (n : Int) := by
  have h0 : 0 ≤ IntKind.u64.wrap sectors := by rw [IntKind.wrap_u64]; omega
  rw [Int.tmod_eq_emod_of_nonneg h0]
  generalize IntKind.u64.wrap sectors = x at h0 ⊢
  rw [IntWalk.wrap64_in (x % 30) (by omega), IntWalk.wrap64_in _ (by omega)]
  exact ⟨(1 + x % 30).toNat, by omega, by omega, by omega⟩

set_option maxHeartbeats 2000000 in
set_option maxRecDepth 100000 in
theorem law18 (w : World) (sectors : Int) (hs0 : -9223372036854775808 ≤ sectors ∧ sectors < 9223372036854775808) (base : Nat) (hbase : base < 18446744073709551616) (v : Value) (l : List (List (List UInt8))) (hl : isBss w v l) :
    Calls Try.prog 3 #[.int .i64 sectors, .int .u64 base, v] w fun e w' => e = .returned (.bool true) ∧ Below w.heap.size w w' := by
  have Hl := Lib.hid hl
  obtain ⟨aol, capl, rfl, -, -⟩ := hl.shape rfl
  have hlen := hl.len
  simp only [maxLen] at hlen
  clear hl
  go_enter Try.func3, Try.ntmps3
  go_wp2_with (first | (go_at_call 12; refine (lives_spec _).mono ?_; rintro e w1 ⟨rfl, hb1⟩) | (go_at_call 13; refine (small_spec _ _ l (Hl.out.below hb1)).mono ?_; rintro e w2 ⟨⟨sm, rfl, hsm⟩, rfl⟩; replace hsm := Lib.hid hsm; cases sm))
  · go_ret
    exact ⟨rfl, Below.trans (by assumption) (Below.mono (by assumption) (by rename_i h; exact h.size))⟩
  · obtain ⟨n, hn1, hn2, hn⟩ := size18 sectors
    rw [hn]
    clear hn
    have hl1 := Hl.out.below hb1
    have hs1 := hb1.size
    by_cases hb : base < 1 ∨ 4611686018427387904 < base
    · go_wp2_with (first | (go_at_call 15; refine (power_new _).mono ?_; rintro e w2 ⟨rfl, hP, hb2⟩) | (go_at_call 14; refine (disk_new _ w1.heap.size n ⟨0, 0, hP, by unfold Pw.wf; decide⟩ hn1 (by omega)).mono ?_; rintro e w3 ⟨⟨d, s, rfl, hD, hd, hs, hne⟩, hb3⟩) | (go_at_call 16; refine (open_bad' _ ⟨w1.heap.size, d, s, n⟩ _ base hD hb hbase).mono ?_; rintro e w4 ⟨rfl, rfl⟩))
      all_goals go_ret
      all_goals exact ⟨rfl, (hb1.trans (hb2.mono hs1)).trans (hb3.mono (Nat.le_trans hs1 hb2.size))⟩
    · go_wp2_with (first | (go_at_call 15; refine (power_new _).mono ?_; rintro e w2 ⟨rfl, hP, hb2⟩) | (go_at_call 14; refine (disk_new _ w1.heap.size n ⟨0, 0, hP, by unfold Pw.wf; decide⟩ hn1 (by omega)).mono ?_; rintro e w3 ⟨⟨d, s, rfl, hD, hd, hs, hne⟩, hb3⟩) | (go_at_call 16; refine (open_law _ ⟨w1.heap.size, d, s, n⟩ base [] hD (by simp) (Nat.zero_le _) (by omega) (by omega) hn1).mono ?_; rintro e w4 ⟨j, o, rfl, hjs, hJ, hO, hb4⟩; obtain ⟨ao, cap, rfl, -, -⟩ := hO.shape rfl))
      go_wp2_with (go_at_call 17; refine (j_next _ _ _ _ _ _ hJ (by omega)).mono ?_; rintro e w5 ⟨rfl, hb5⟩)
      have hs4 : w.heap.size ≤ w4.heap.size := by have := hb2.size; have := hb3.size; have := hb4.size; omega
      have hI : LInv w w5 ⟨w1.heap.size, d, s, n⟩ j base (.slice none 0 0) [] :=
        ⟨(((hb1.trans (hb2.mono hs1)).trans (hb3.mono (Nat.le_trans hs1 hb2.size))).trans (hb4.mono (by have := hb2.size; have := hb3.size; omega))).trans (hb5.mono hs4), hJ.below hb5, ownS.nil _ _ _ _, by simp, Nat.zero_le _⟩
      have hOld : jOld w.heap.size ⟨w1.heap.size, d, s, n⟩ j := ⟨hs1, by have := hb2.size; dsimp only; omega, by have := hb2.size; dsimp only; omega, by have := hb2.size; have := hb3.size; omega⟩
      clear hP hD hJ hO hb2 hb3 hb4 hb5 hd hs hne hjs hl1
      go_loopw [13, 14, 15, 82] (fun va vs vu x wr => ∃ (i : Nat) (gs : List (List (List UInt8))), i ≤ l.length ∧ x = .int .i64 i ∧ vs = .string (str (jall base 0 gs)) ∧ vu = .int .i64 (jcnt gs : Nat) ∧ LInv w wr ⟨w1.heap.size, d, s, n⟩ j base va gs) (fun _ _ _ x _ => l.length - (intOf x).toNat)
      case atStart => exact ⟨0, [], by omega, rfl, rfl, rfl, hI⟩
      case round =>
        obtain ⟨i, gs, hi, rfl, rfl, rfl, hI⟩ := hrel
        have HI := Lib.hid hI
        obtain ⟨aoa, capa, rfl, -, -⟩ := hI.all.isS.shape rfl
        have hsz := hI.below.size
        have hfit := hI.fits
        clear hI
        dsimp only at hfit
        by_cases hin : i < l.length
        · obtain ⟨g, hg⟩ : ∃ e, l[i]? = some e := ⟨_, List.getElem?_eq_getElem hin⟩
          obtain ⟨b, off, u, rfl, hu, hr⟩ := Hl.out.elem hg
          have hu0 := Lib.hid hu
          replace hu := (HI.out.below.cell (World.block_lt_of_cell? _ _ hu)).trans hu
          obtain ⟨ao2, cap2, rfl, -, -⟩ := hr.shape rfl
          have hgl := hr.len
          simp only [maxLen] at hgl
          have Hr := Lib.hid hr
          have hg20 := hsm.out trivial g (List.mem_of_getElem? hg)
          clear hr
          by_cases hgood : goodG g
          · by_cases hfull : n < jcnt gs + g.length
            · go_wp2_with (first | (go_at_call 18; refine (append_full _ _ ⟨w1.heap.size, d, s, n⟩ base gs _ g HI.out.jd HI.out.fits (HI.out.held hOld Hr.out) hgood (by omega) hfull).mono ?_; rintro e w5 ⟨rfl, rfl⟩) | (go_at_call 19; refine (right_spec _ _ g (Hr.out.below HI.out.below)).mono ?_; rintro e w5 ⟨⟨gb, rfl, hgb⟩, rfl⟩; obtain rfl := hgb.2 hgood; clear hgb))
              go_wp2_with (first | (go_at_call 21; refine (getall64 _ ⟨w1.heap.size, d, s, n⟩ _ (jcnt gs) HI.out.jd.disk HI.out.fits).mono ?_; rintro e t1 ⟨⟨r, rfl, hr1⟩, tb1⟩; rw [jdisk_take _ _ _ HI.out.good] at hr1; replace hr1 := Lib.hid hr1; replace tb1 := Lib.hid tb1) | (go_at_call 16; refine (open_law t1 ⟨w1.heap.size, d, s, n⟩ base gs (HI.out.jd.disk.below tb1.out) HI.out.good HI.out.fits (by omega) (by omega) hn1).mono ?_; rintro e t2 ⟨jj, oo, rfl, hjj, hJJ, hOO, tb2⟩; have hI2 := Lib.hid ((HI.out.grow tb1.out).grow tb2); have qr := run_string (hr1.out.isB.below tb2) 40 5 Try.underlying40 Try.underlying5 9 Try.underlying9) | (go_at_call 22; refine (same_spec t2 _ _ gs gs hOO hI2.out.isBss).mono ?_; rintro e t3 ⟨⟨sb, rfl, hsb⟩, tb3⟩; obtain rfl := hsb.2 rfl; have hJ3 := Lib.hid (hJJ.below tb3); have hI3 := Lib.hid (hI2.out.grow tb3); clear hsb) | (go_at_call 23; refine (j_used _ _ ⟨w1.heap.size, d, s, n⟩ _ base (jcnt gs) hJ3.out).mono ?_; rintro e t4 ⟨rfl, rfl⟩) | (go_at_call 23; refine (j_used _ _ ⟨w1.heap.size, d, s, n⟩ _ base (jcnt gs) hI3.out.jd).mono ?_; rintro e t4 ⟨rfl, rfl⟩) | (go_at_call 24; refine (j_room _ _ ⟨w1.heap.size, d, s, n⟩ _ base (jcnt gs) hI3.out.jd hI3.out.fits).mono ?_; rintro e t4 ⟨rfl, rfl⟩) | (go_at_call 25; refine (j_len _ _ ⟨w1.heap.size, d, s, n⟩ _ base (jcnt gs) hI3.out.jd).mono ?_; rintro e t4 ⟨rfl, rfl⟩))
              go_roundw
              case rel => exact ⟨i + 1, gs, by omega, by go_num, rfl, rfl, hI3.out⟩
              case measure => simp [intOf]; omega
            · go_wp2_with (first | (go_at_call 18; refine (append_fits _ _ ⟨w1.heap.size, d, s, n⟩ base gs _ g HI.out.jd HI.out.good HI.out.fits (HI.out.held hOld Hr.out) hgood (by omega) hfull).mono ?_; rintro e w5 ⟨rfl, hJ5, hc5⟩; have hb5 : Hid (Below w.heap.size w w5) := HI.out.below.trans (hc5.below hsz hOld.jS); have hkeep : ∀ {p : Addr} {x : Value}, w.cell? p = some x → w5.cell? p = some x := fun hp => (hb5.out.cell (World.block_lt_of_cell? _ _ hp)).trans hp) | (go_at_call 19; refine (right_spec _ _ g (Hr.out.below hb5.out)).mono ?_; rintro e w6 ⟨⟨gb, rfl, hgb⟩, rfl⟩; obtain rfl := hgb.2 hgood; clear hgb))
              go_loopw [14, 15, 91] (fun vs vu x wr2 => ∃ (i2 : Nat), i2 ≤ g.length ∧ x = .int .i64 i2 ∧ vs = .string (str (jall base 0 gs ++ jsecs base g.length (jcnt gs) 0 (g.take i2))) ∧ vu = .int .i64 ((jcnt gs + i2 : Nat) : Int) ∧ Below w5.heap.size w5 wr2) (fun _ _ x _ => g.length - (intOf x).toNat)
              case atStart => exact ⟨0, by omega, rfl, by simp [jsecs], rfl, Below.refl _ _⟩
              case round =>
                obtain ⟨i2, hi2, rfl, rfl, rfl, hbi⟩ := hrel
                have Hbi := Lib.hid hbi
                clear hbi
                by_cases hin2 : i2 < g.length
                · obtain ⟨e, he⟩ : ∃ e, g[i2]? = some e := ⟨_, List.getElem?_eq_getElem hin2⟩
                  obtain ⟨b3, off3, u3, rfl, hu3, hr3⟩ := (Hr.out.below (hb5.out.trans (Hbi.out.mono hb5.out.size))).elem he
                  have Hr3 := Lib.hid hr3
                  clear hr3
                  obtain ⟨hl1, hl2⟩ := good_ent hgood.1 he
                  go_wp2_with (go_at_call 20; refine (lsector_spec' _ _ (base + (jcnt gs + i2)) _ (decide (i2 + 1 = g.length)) _ e (by omega) (by rw [Bool.eq_iff_iff]; simp; omega) Hr3.out hl2).mono ?_; rintro e w6 ⟨rfl, hb6⟩)
                  · rename_i hbig
                    rw [str_size, str_size, List.length_append, jall_len _ _ _ HI.out.good, jsecs_len _ _ _ _ _ (not_bad_take hgood.1), jsector_len _ _ _ hl2, List.length_take] at hbig
                    omega
                  go_roundw
                  case rel => exact ⟨i2 + 1, by omega, by go_num, by rw [str_app, List.append_assoc, ← jsecs_step _ _ _ he], by go_num, Hbi.out.trans (hb6.mono Hbi.out.size)⟩
                  case measure => simp [intOf]; omega
                · obtain rfl : i2 = g.length := by omega
                  have hs5 := hb5.out.size
                  have hs6 := Hbi.out.size
                  have hgs : gs.length ≤ jcnt gs := jcnt_ge HI.out.good
                  have hu7 := (Hbi.out.cell (World.block_lt_of_cell? _ _ (hkeep hu0.out))).trans (hkeep hu0.out)
                  have hjall : jall base 0 gs ++ jsecs base g.length (jcnt gs) 0 (List.take g.length g) = jall base 0 (gs ++ [g]) := by rw [List.take_length, jall_snoc, Nat.zero_add]
                  rw [hjall, ← jcnt_snoc]
                  clear hjall
                  go_wp2_with (at_builtin; refine stop_in ?_)
                  refine stop_out ?_
                  have hball : Below w5.heap.size w5 (wr.alloc (.cells #[.slice ao2 g.length cap2] 37 (0, 0))) := Hbi.out.alloc hs6 _
                  have hall5 : ownS (fun _ => isBs w) w5 37 w.heap.size (.slice aoa gs.length capa) gs := HI.out.all.keeps (fun k hk => hc5.block k (HI.out.all.lt k hk).2 (fun hs => HI.out.jd.not_row k hs (HI.out.all.typ_of k hk))) (fun _ _ h => h)
                  refine wpList_append_S (o := ⟨some 115, _, _, _, _, _⟩) (fun _ => isBs w) rfl (.tmp 112) (.tmp 114) 23 rfl w.heap.size 37 Try.underlying23 _ 24 Try.infoRows rfl (.slice aoa gs.length capa) gs rfl (hall5.below hball (fun _ _ h => h)) wr.heap.size 1 (.slice ao2 g.length cap2) g rfl (by rw [cell_of_row _ _ _ _ _ _ (heap_alloc_new _ _)]; rfl) rfl (by omega) (by simp [maxLen]; omega) (by simp; omega) ?_
                  intro v7 w7 ho7 hc7 hx7
                  have hI7 := Lib.hid (HI.out.append hOld hgood hfull hJ5 hc5 hball hc7 (ho7 (fun _ => isBs w) (fun _ _ h => h) Hr.out))
                  clear ho7 hc7 hx7 hball hall5 hkeep
                  obtain ⟨ao7, cap7, rfl, -, -⟩ := hI7.out.all.isS.shape (n := gs.length + 1) (by simp)
                  have hfit7 := hI7.out.fits
                  dsimp only at hfit7
                  go_wp2_with (first | (go_at_call 21; refine (getall64 _ ⟨w1.heap.size, d, s, n⟩ _ (jcnt (gs ++ [g])) hI7.out.jd.disk hI7.out.fits).mono ?_; rintro e t1 ⟨⟨r, rfl, hr1⟩, tb1⟩; rw [jdisk_take _ _ _ hI7.out.good] at hr1; replace hr1 := Lib.hid hr1; replace tb1 := Lib.hid tb1) | (go_at_call 16; refine (open_law t1 ⟨w1.heap.size, d, s, n⟩ base (gs ++ [g]) (hI7.out.jd.disk.below tb1.out) hI7.out.good hI7.out.fits (by omega) (by omega) hn1).mono ?_; rintro e t2 ⟨jj, oo, rfl, hjj, hJJ, hOO, tb2⟩; have hI2 := Lib.hid ((hI7.out.grow tb1.out).grow tb2); have qr := run_string (hr1.out.isB.below tb2) 40 5 Try.underlying40 Try.underlying5 9 Try.underlying9) | (go_at_call 22; refine (same_spec t2 _ _ (gs ++ [g]) (gs ++ [g]) hOO hI2.out.isBss).mono ?_; rintro e t3 ⟨⟨sb, rfl, hsb⟩, tb3⟩; obtain rfl := hsb.2 rfl; have hJ3 := Lib.hid (hJJ.below tb3); have hI3 := Lib.hid (hI2.out.grow tb3); clear hsb) | (go_at_call 23; refine (j_used _ _ ⟨w1.heap.size, d, s, n⟩ _ base (jcnt (gs ++ [g])) hJ3.out).mono ?_; rintro e t4 ⟨rfl, rfl⟩) | (go_at_call 23; refine (j_used _ _ ⟨w1.heap.size, d, s, n⟩ _ base (jcnt (gs ++ [g])) hI3.out.jd).mono ?_; rintro e t4 ⟨rfl, rfl⟩) | (go_at_call 24; refine (j_room _ _ ⟨w1.heap.size, d, s, n⟩ _ base (jcnt (gs ++ [g])) hI3.out.jd hI3.out.fits).mono ?_; rintro e t4 ⟨rfl, rfl⟩) | (go_at_call 25; refine (j_len _ _ ⟨w1.heap.size, d, s, n⟩ _ base (jcnt (gs ++ [g])) hI3.out.jd).mono ?_; rintro e t4 ⟨rfl, rfl⟩))
                  go_roundw
                  case rel => exact ⟨i + 1, (gs ++ [g]), by omega, by go_num, rfl, rfl, hI3.out⟩
                  case measure => simp [intOf]; omega
          · go_wp2_with (first | (go_at_call 18; refine (append_none _ _ ⟨w1.heap.size, d, s, n⟩ base gs _ g HI.out.jd HI.out.fits (HI.out.held hOld Hr.out) hgood (by omega)).mono ?_; rintro e w5 ⟨rfl, rfl⟩) | (go_at_call 19; refine (right_spec _ _ g (Hr.out.below HI.out.below)).mono ?_; rintro e w5 ⟨⟨gb, rfl, hgb⟩, rfl⟩; obtain rfl : gb = false := by (cases gb; rfl; exact absurd (hgb.1 rfl) hgood)))
            go_wp2_with (first | (go_at_call 21; refine (getall64 _ ⟨w1.heap.size, d, s, n⟩ _ (jcnt gs) HI.out.jd.disk HI.out.fits).mono ?_; rintro e t1 ⟨⟨r, rfl, hr1⟩, tb1⟩; rw [jdisk_take _ _ _ HI.out.good] at hr1; replace hr1 := Lib.hid hr1; replace tb1 := Lib.hid tb1) | (go_at_call 16; refine (open_law t1 ⟨w1.heap.size, d, s, n⟩ base gs (HI.out.jd.disk.below tb1.out) HI.out.good HI.out.fits (by omega) (by omega) hn1).mono ?_; rintro e t2 ⟨jj, oo, rfl, hjj, hJJ, hOO, tb2⟩; have hI2 := Lib.hid ((HI.out.grow tb1.out).grow tb2); have qr := run_string (hr1.out.isB.below tb2) 40 5 Try.underlying40 Try.underlying5 9 Try.underlying9) | (go_at_call 22; refine (same_spec t2 _ _ gs gs hOO hI2.out.isBss).mono ?_; rintro e t3 ⟨⟨sb, rfl, hsb⟩, tb3⟩; obtain rfl := hsb.2 rfl; have hJ3 := Lib.hid (hJJ.below tb3); have hI3 := Lib.hid (hI2.out.grow tb3); clear hsb) | (go_at_call 23; refine (j_used _ _ ⟨w1.heap.size, d, s, n⟩ _ base (jcnt gs) hJ3.out).mono ?_; rintro e t4 ⟨rfl, rfl⟩) | (go_at_call 23; refine (j_used _ _ ⟨w1.heap.size, d, s, n⟩ _ base (jcnt gs) hI3.out.jd).mono ?_; rintro e t4 ⟨rfl, rfl⟩) | (go_at_call 24; refine (j_room _ _ ⟨w1.heap.size, d, s, n⟩ _ base (jcnt gs) hI3.out.jd hI3.out.fits).mono ?_; rintro e t4 ⟨rfl, rfl⟩) | (go_at_call 25; refine (j_len _ _ ⟨w1.heap.size, d, s, n⟩ _ base (jcnt gs) hI3.out.jd).mono ?_; rintro e t4 ⟨rfl, rfl⟩))
            go_roundw
            case rel => exact ⟨i + 1, gs, by omega, by go_num, rfl, rfl, hI3.out⟩
            case measure => simp [intOf]; omega
        · obtain rfl : i = l.length := by omega
          go_wp2
          go_ret
          exact ⟨rfl, HI.out.below⟩
end Go.Proofs.Ytobpjldpkgioaaa
