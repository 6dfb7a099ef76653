/-
  No cell of these rows narrows 'for every input' (looked for: loops, veiled, ifaces, maps, wideKeys, modest, calm, conditions, laid).
  DERIVED. THE GIVEN ROWS OF THIS SEAT. 9 by the template 'for every input the law returns true; each argument reads behind the call as it read before'; 0 by the template 'total and deterministic' (their statements: YtobpjldpkgioaaaTotals.lean).
  GIVEN WITH THE SEED: the statements are not yours to turn. If you find one false, say at which input.
  Laid BY PROGRAM, IN A SANDBOX (cutbox-rows.mjs): the forced cells as the released guide's own fill.sh prints them over the translation 3958728ccb19365f… (all of the seat's roots in one cut). By AI agents, Wed Nov 11 2026. No macro, syntax, notation, axiom, sorry.
-/
import Derived.Test.YtobpjldpkgioaaaChecked
import GoSem.Claim
import GoSem.ClaimJoined
import GoSem.ClaimMapViews
import Derived.JoinedTies
import Derived.KernelRfl
namespace Go.Proofs.Ytobpjldpkgioaaa
/- THE CELL 'sum', in the pinned program and in every row, IS THE sha256 OF THE DUMP (.gsa) THAT YtobpjldpkgioaaaProg.lean LOADS. Nothing in Lean hashes anything: it is a label: what it is worth is what the hold of that sum in a sandbox is worth. -/
noncomputable def Try.pinned : Pinned := { name := "ytobpjldpkgioaaa", sum := "3958728ccb19365fbda461f9b0e4c6bbe90a76a091473ebc4cfb80421f170a75", checked := Try.checked }
namespace Rows
def none {H : Type} : Left H := { results := [], args := [] }

/-- 'revenantlaw18.JournalGroups': WHATEVER THE INPUT: true; the input reads as it did. -/
def journalGroupsSpec : ChangeSpec := { name := "journalGroups", fn := fun _ => fun
  | [d1, d2, d3] => { results := [.lit (.bool true)], args := [d1, d2, d3] }
  | _ => none }
def journalGroupsRow : OpenClaim := { program := "ytobpjldpkgioaaa", sum := "3958728ccb19365fbda461f9b0e4c6bbe90a76a091473ebc4cfb80421f170a75", func := "revenant/revenantlaw18.JournalGroups", spec := "journalGroups", apart := false }
def JournalGroupsSaid : Prop := journalGroupsRow.holds Try.pinned (OpenSpec.ofChange journalGroupsSpec)

/-- ITS FALSE NEIGHBOUR: 'it returns false'. Refute it at one input. -/
def journalGroupsWrong : ChangeSpec := { name := "journalGroups", fn := fun _ => fun
  | [d1, d2, d3] => { results := [.lit (.bool false)], args := [d1, d2, d3] }
  | _ => none }
def JournalGroupsWrongFalsely : Prop := journalGroupsRow.holds Try.pinned (OpenSpec.ofChange journalGroupsWrong)

/-- 'revenantlaw06.TapeActs': WHATEVER THE INPUT: true; the input reads as it did. -/
def tapeActsSpec : ChangeSpec := { name := "tapeActs", fn := fun _ => fun
  | [d1, d2] => { results := [.lit (.bool true)], args := [d1, d2] }
  | _ => none }
def tapeActsRow : OpenClaim := { program := "ytobpjldpkgioaaa", sum := "3958728ccb19365fbda461f9b0e4c6bbe90a76a091473ebc4cfb80421f170a75", func := "revenant/revenantlaw06.TapeActs", spec := "tapeActs", unfollowed := true, recurses := true, apart := false }
def TapeActsSaid : Prop := tapeActsRow.holds Try.pinned (OpenSpec.ofChange tapeActsSpec)

/-- ITS FALSE NEIGHBOUR: 'it returns false'. Refute it at one input. -/
def tapeActsWrong : ChangeSpec := { name := "tapeActs", fn := fun _ => fun
  | [d1, d2] => { results := [.lit (.bool false)], args := [d1, d2] }
  | _ => none }
def TapeActsWrongFalsely : Prop := tapeActsRow.holds Try.pinned (OpenSpec.ofChange tapeActsWrong)

/-- 'revenantlaw15.SegmentReads': WHATEVER THE INPUT: true; the input reads as it did. -/
def segmentReadsSpec : ChangeSpec := { name := "segmentReads", fn := fun _ => fun
  | [d] => { results := [.lit (.bool true)], args := [d] }
  | _ => none }
def segmentReadsRow : OpenClaim := { program := "ytobpjldpkgioaaa", sum := "3958728ccb19365fbda461f9b0e4c6bbe90a76a091473ebc4cfb80421f170a75", func := "revenant/revenantlaw15.SegmentReads", spec := "segmentReads", unfollowed := true, recurses := true, apart := false }
def SegmentReadsSaid : Prop := segmentReadsRow.holds Try.pinned (OpenSpec.ofChange segmentReadsSpec)

/-- ITS FALSE NEIGHBOUR: 'it returns false'. Refute it at one input. -/
def segmentReadsWrong : ChangeSpec := { name := "segmentReads", fn := fun _ => fun
  | [d] => { results := [.lit (.bool false)], args := [d] }
  | _ => none }
def SegmentReadsWrongFalsely : Prop := segmentReadsRow.holds Try.pinned (OpenSpec.ofChange segmentReadsWrong)

/-- 'revenantlaw07.LibraryActs': WHATEVER THE INPUT: true; the input reads as it did. -/
def libraryActsSpec : ChangeSpec := { name := "libraryActs", fn := fun _ => fun
  | [d] => { results := [.lit (.bool true)], args := [d] }
  | _ => none }
def libraryActsRow : OpenClaim := { program := "ytobpjldpkgioaaa", sum := "3958728ccb19365fbda461f9b0e4c6bbe90a76a091473ebc4cfb80421f170a75", func := "revenant/revenantlaw07.LibraryActs", spec := "libraryActs", unfollowed := true, recurses := true, apart := false }
def LibraryActsSaid : Prop := libraryActsRow.holds Try.pinned (OpenSpec.ofChange libraryActsSpec)

/-- ITS FALSE NEIGHBOUR: 'it returns false'. Refute it at one input. -/
def libraryActsWrong : ChangeSpec := { name := "libraryActs", fn := fun _ => fun
  | [d] => { results := [.lit (.bool false)], args := [d] }
  | _ => none }
def LibraryActsWrongFalsely : Prop := libraryActsRow.holds Try.pinned (OpenSpec.ofChange libraryActsWrong)

/-- 'revenantlaw12.RecordBytes': WHATEVER THE INPUT: true; the input reads as it did. -/
def recordBytesSpec : ChangeSpec := { name := "recordBytes", fn := fun _ => fun
  | [d] => { results := [.lit (.bool true)], args := [d] }
  | _ => none }
def recordBytesRow : OpenClaim := { program := "ytobpjldpkgioaaa", sum := "3958728ccb19365fbda461f9b0e4c6bbe90a76a091473ebc4cfb80421f170a75", func := "revenant/revenantlaw12.RecordBytes", spec := "recordBytes", recurses := true, apart := false }
def RecordBytesSaid : Prop := recordBytesRow.holds Try.pinned (OpenSpec.ofChange recordBytesSpec)

/-- ITS FALSE NEIGHBOUR: 'it returns false'. Refute it at one input. -/
def recordBytesWrong : ChangeSpec := { name := "recordBytes", fn := fun _ => fun
  | [d] => { results := [.lit (.bool false)], args := [d] }
  | _ => none }
def RecordBytesWrongFalsely : Prop := recordBytesRow.holds Try.pinned (OpenSpec.ofChange recordBytesWrong)

/-- 'revenantlaw12.RecordReads': WHATEVER THE INPUT: true; the input reads as it did. -/
def recordReadsSpec : ChangeSpec := { name := "recordReads", fn := fun _ => fun
  | [d] => { results := [.lit (.bool true)], args := [d] }
  | _ => none }
def recordReadsRow : OpenClaim := { program := "ytobpjldpkgioaaa", sum := "3958728ccb19365fbda461f9b0e4c6bbe90a76a091473ebc4cfb80421f170a75", func := "revenant/revenantlaw12.RecordReads", spec := "recordReads", apart := false }
def RecordReadsSaid : Prop := recordReadsRow.holds Try.pinned (OpenSpec.ofChange recordReadsSpec)

/-- ITS FALSE NEIGHBOUR: 'it returns false'. Refute it at one input. -/
def recordReadsWrong : ChangeSpec := { name := "recordReads", fn := fun _ => fun
  | [d] => { results := [.lit (.bool false)], args := [d] }
  | _ => none }
def RecordReadsWrongFalsely : Prop := recordReadsRow.holds Try.pinned (OpenSpec.ofChange recordReadsWrong)

/-- 'revenantlaw12.RecordSame': WHATEVER THE INPUT: true; the input reads as it did. -/
def recordSameSpec : ChangeSpec := { name := "recordSame", fn := fun _ => fun
  | [d1, d2] => { results := [.lit (.bool true)], args := [d1, d2] }
  | _ => none }
def recordSameRow : OpenClaim := { program := "ytobpjldpkgioaaa", sum := "3958728ccb19365fbda461f9b0e4c6bbe90a76a091473ebc4cfb80421f170a75", func := "revenant/revenantlaw12.RecordSame", spec := "recordSame", apart := false }
def RecordSameSaid : Prop := recordSameRow.holds Try.pinned (OpenSpec.ofChange recordSameSpec)

/-- ITS FALSE NEIGHBOUR: 'it returns false'. Refute it at one input. -/
def recordSameWrong : ChangeSpec := { name := "recordSame", fn := fun _ => fun
  | [d1, d2] => { results := [.lit (.bool false)], args := [d1, d2] }
  | _ => none }
def RecordSameWrongFalsely : Prop := recordSameRow.holds Try.pinned (OpenSpec.ofChange recordSameWrong)

/-- 'revenantlaw10.RootBytes': WHATEVER THE INPUT: true; the input reads as it did. -/
def rootBytesSpec : ChangeSpec := { name := "rootBytes", fn := fun _ => fun
  | [d1, d2] => { results := [.lit (.bool true)], args := [d1, d2] }
  | _ => none }
def rootBytesRow : OpenClaim := { program := "ytobpjldpkgioaaa", sum := "3958728ccb19365fbda461f9b0e4c6bbe90a76a091473ebc4cfb80421f170a75", func := "revenant/revenantlaw10.RootBytes", spec := "rootBytes", recurses := true, apart := false }
def RootBytesSaid : Prop := rootBytesRow.holds Try.pinned (OpenSpec.ofChange rootBytesSpec)

/-- ITS FALSE NEIGHBOUR: 'it returns false'. Refute it at one input. -/
def rootBytesWrong : ChangeSpec := { name := "rootBytes", fn := fun _ => fun
  | [d1, d2] => { results := [.lit (.bool false)], args := [d1, d2] }
  | _ => none }
def RootBytesWrongFalsely : Prop := rootBytesRow.holds Try.pinned (OpenSpec.ofChange rootBytesWrong)

/-- 'revenantlaw15.SegmentBlocks': WHATEVER THE INPUT: true; the input reads as it did. -/
def segmentBlocksSpec : ChangeSpec := { name := "segmentBlocks", fn := fun _ => fun
  | [d1, d2, d3] => { results := [.lit (.bool true)], args := [d1, d2, d3] }
  | _ => none }
def segmentBlocksRow : OpenClaim := { program := "ytobpjldpkgioaaa", sum := "3958728ccb19365fbda461f9b0e4c6bbe90a76a091473ebc4cfb80421f170a75", func := "revenant/revenantlaw15.SegmentBlocks", spec := "segmentBlocks", unfollowed := true, recurses := true, apart := false }
def SegmentBlocksSaid : Prop := segmentBlocksRow.holds Try.pinned (OpenSpec.ofChange segmentBlocksSpec)

/-- ITS FALSE NEIGHBOUR: 'it returns false'. Refute it at one input. -/
def segmentBlocksWrong : ChangeSpec := { name := "segmentBlocks", fn := fun _ => fun
  | [d1, d2, d3] => { results := [.lit (.bool false)], args := [d1, d2, d3] }
  | _ => none }
def SegmentBlocksWrongFalsely : Prop := segmentBlocksRow.holds Try.pinned (OpenSpec.ofChange segmentBlocksWrong)

/- THE SECOND FORM. 'bulk': how many values and letters a reading holds, each counted each time it is reached (what is shared counts as often as it is met; a slice's spare places count too). A statement '..UptoSaid' is the law's where the arguments, and the package variables that the reading takes, are together of bulk at most 1048576: NARROWER than '..Said'. Prove '..Said' where nothing that the law and all that it calls make is longer than what came in: it says more and counts as full. Else prove '..UptoSaid'. A law counts once. -/
mutual
def uptoBulk {H : Type} : DataW H → Nat
  | .lit (.string bytes) => bytes.length + 1
  | .lit _ => 1
  | .nil => 1
  | .ptr d => uptoBulk d + 1
  | .slice elems spare => uptoBulkAll elems + uptoBulkAll spare + 1
  | .agg parts => uptoBulkAll parts + 1
  | .iface _ d => uptoBulk d + 1
  | .map entries => uptoBulkEntries entries + 1
  | .held _ => 1
def uptoBulkAll {H : Type} : List (DataW H) → Nat
  | [] => 0
  | d :: r => uptoBulk d + uptoBulkAll r
def uptoBulkEntries {H : Type} : List (Lit × DataW H) → Nat
  | [] => 0
  | x :: r => uptoBulkEntry x + uptoBulkEntries r
def uptoBulkEntry {H : Type} : Lit × DataW H → Nat
  | (.string bytes, d) => bytes.length + uptoBulk d + 1
  | (_, d) => uptoBulk d + 1
 end
def uptoSmall : (H : Type) → List (DataW H) → Bool := fun _ ds => decide (uptoBulkAll ds ≤ 1048576)
def OpenSpec.upto (s : _root_.Go.ChangeSpec) : _root_.Go.OpenSpec := { _root_.Go.OpenSpec.ofChange s with cond := some uptoSmall }

/-- 'revenantlaw18.JournalGroups', WHERE WHAT IT READS IS OF BULK AT MOST 1048576: true; the input reads as it did. -/
def journalGroupsUptoRow : OpenClaim := { program := "ytobpjldpkgioaaa", sum := "3958728ccb19365fbda461f9b0e4c6bbe90a76a091473ebc4cfb80421f170a75", func := "revenant/revenantlaw18.JournalGroups", spec := "journalGroups", apart := false, narrowed := true }
def JournalGroupsUptoSaid : Prop := journalGroupsUptoRow.holds Try.pinned (OpenSpec.upto journalGroupsSpec)

/-- 'revenantlaw06.TapeActs', WHERE WHAT IT READS IS OF BULK AT MOST 1048576: true; the input reads as it did. -/
def tapeActsUptoRow : OpenClaim := { program := "ytobpjldpkgioaaa", sum := "3958728ccb19365fbda461f9b0e4c6bbe90a76a091473ebc4cfb80421f170a75", func := "revenant/revenantlaw06.TapeActs", spec := "tapeActs", unfollowed := true, recurses := true, apart := false, narrowed := true }
def TapeActsUptoSaid : Prop := tapeActsUptoRow.holds Try.pinned (OpenSpec.upto tapeActsSpec)

/-- 'revenantlaw15.SegmentReads', WHERE WHAT IT READS IS OF BULK AT MOST 1048576: true; the input reads as it did. -/
def segmentReadsUptoRow : OpenClaim := { program := "ytobpjldpkgioaaa", sum := "3958728ccb19365fbda461f9b0e4c6bbe90a76a091473ebc4cfb80421f170a75", func := "revenant/revenantlaw15.SegmentReads", spec := "segmentReads", unfollowed := true, recurses := true, apart := false, narrowed := true }
def SegmentReadsUptoSaid : Prop := segmentReadsUptoRow.holds Try.pinned (OpenSpec.upto segmentReadsSpec)

/-- 'revenantlaw07.LibraryActs', WHERE WHAT IT READS IS OF BULK AT MOST 1048576: true; the input reads as it did. -/
def libraryActsUptoRow : OpenClaim := { program := "ytobpjldpkgioaaa", sum := "3958728ccb19365fbda461f9b0e4c6bbe90a76a091473ebc4cfb80421f170a75", func := "revenant/revenantlaw07.LibraryActs", spec := "libraryActs", unfollowed := true, recurses := true, apart := false, narrowed := true }
def LibraryActsUptoSaid : Prop := libraryActsUptoRow.holds Try.pinned (OpenSpec.upto libraryActsSpec)

/-- 'revenantlaw12.RecordBytes', WHERE WHAT IT READS IS OF BULK AT MOST 1048576: true; the input reads as it did. -/
def recordBytesUptoRow : OpenClaim := { program := "ytobpjldpkgioaaa", sum := "3958728ccb19365fbda461f9b0e4c6bbe90a76a091473ebc4cfb80421f170a75", func := "revenant/revenantlaw12.RecordBytes", spec := "recordBytes", recurses := true, apart := false, narrowed := true }
def RecordBytesUptoSaid : Prop := recordBytesUptoRow.holds Try.pinned (OpenSpec.upto recordBytesSpec)

/-- 'revenantlaw12.RecordReads', WHERE WHAT IT READS IS OF BULK AT MOST 1048576: true; the input reads as it did. -/
def recordReadsUptoRow : OpenClaim := { program := "ytobpjldpkgioaaa", sum := "3958728ccb19365fbda461f9b0e4c6bbe90a76a091473ebc4cfb80421f170a75", func := "revenant/revenantlaw12.RecordReads", spec := "recordReads", apart := false, narrowed := true }
def RecordReadsUptoSaid : Prop := recordReadsUptoRow.holds Try.pinned (OpenSpec.upto recordReadsSpec)

/-- 'revenantlaw12.RecordSame', WHERE WHAT IT READS IS OF BULK AT MOST 1048576: true; the input reads as it did. -/
def recordSameUptoRow : OpenClaim := { program := "ytobpjldpkgioaaa", sum := "3958728ccb19365fbda461f9b0e4c6bbe90a76a091473ebc4cfb80421f170a75", func := "revenant/revenantlaw12.RecordSame", spec := "recordSame", apart := false, narrowed := true }
def RecordSameUptoSaid : Prop := recordSameUptoRow.holds Try.pinned (OpenSpec.upto recordSameSpec)

/-- 'revenantlaw10.RootBytes', WHERE WHAT IT READS IS OF BULK AT MOST 1048576: true; the input reads as it did. -/
def rootBytesUptoRow : OpenClaim := { program := "ytobpjldpkgioaaa", sum := "3958728ccb19365fbda461f9b0e4c6bbe90a76a091473ebc4cfb80421f170a75", func := "revenant/revenantlaw10.RootBytes", spec := "rootBytes", recurses := true, apart := false, narrowed := true }
def RootBytesUptoSaid : Prop := rootBytesUptoRow.holds Try.pinned (OpenSpec.upto rootBytesSpec)

/-- 'revenantlaw15.SegmentBlocks', WHERE WHAT IT READS IS OF BULK AT MOST 1048576: true; the input reads as it did. -/
def segmentBlocksUptoRow : OpenClaim := { program := "ytobpjldpkgioaaa", sum := "3958728ccb19365fbda461f9b0e4c6bbe90a76a091473ebc4cfb80421f170a75", func := "revenant/revenantlaw15.SegmentBlocks", spec := "segmentBlocks", unfollowed := true, recurses := true, apart := false, narrowed := true }
def SegmentBlocksUptoSaid : Prop := segmentBlocksUptoRow.holds Try.pinned (OpenSpec.upto segmentBlocksSpec)

end Rows
end Go.Proofs.Ytobpjldpkgioaaa
