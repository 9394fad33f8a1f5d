/-
  No cell of these rows narrows 'for every input' (looked for: loops, veiled, ifaces, maps, wideKeys, modest, calm, conditions, laid).
  DERIVED. THE GIVEN ROWS OF THIS SEAT. 5 by the template 'for every input the law returns true; each argument reads behind the call as it read before'; 0 by the template 'total and deterministic' (their statements: YteghldapcfkekaaTotals.lean).
  GIVEN WITH THE SEED: the statements are not yours to turn. If you find one false, say at which input.
  Laid BY PROGRAM, IN A SANDBOX (cutbox-rows.mjs): the forced cells as the released guide's own fill.sh prints them over the translation b89d7ccfe0f70b62… (all of the seat's roots in one cut). By AI agents, Wed Nov 11 2026. No macro, syntax, notation, axiom, sorry.
-/
import Derived.Test.YteghldapcfkekaaChecked
import GoSem.Claim
import GoSem.ClaimJoined
import GoSem.ClaimMapViews
import Derived.JoinedTies
import Derived.KernelRfl
namespace Go.Proofs.Yteghldapcfkekaa
/- THE CELL 'sum', in the pinned program and in every row, IS THE sha256 OF THE DUMP (.gsa) THAT YteghldapcfkekaaProg.lean LOADS. Nothing in Lean hashes anything: it is a label: what it is worth is what the hold of that sum in a sandbox is worth. -/
noncomputable def Try.pinned : Pinned := { name := "yteghldapcfkekaa", sum := "b89d7ccfe0f70b625a0410e2a1a10b810e6e53c9195e00723b677c801a7b5412", checked := Try.checked }
namespace Rows
def none {H : Type} : Left H := { results := [], args := [] }

/-- 'keelsonlaw18.InodeKeys': WHATEVER THE INPUT: true; the input reads as it did. -/
def inodeKeysSpec : ChangeSpec := { name := "inodeKeys", fn := fun _ => fun
  | [d1, d2, d3, d4] => { results := [.lit (.bool true)], args := [d1, d2, d3, d4] }
  | _ => none }
def inodeKeysRow : OpenClaim := { program := "yteghldapcfkekaa", sum := "b89d7ccfe0f70b625a0410e2a1a10b810e6e53c9195e00723b677c801a7b5412", func := "keelson/keelsonlaw18.InodeKeys", spec := "inodeKeys", inPlace := ["internal/bytealg.IndexByteString", "internal/bytealg.MakeNoZero"], apart := false }
def InodeKeysSaid : Prop := inodeKeysRow.holds Try.pinned (OpenSpec.ofChange inodeKeysSpec)

/-- ITS FALSE NEIGHBOUR: 'it returns false'. Refute it at one input. -/
def inodeKeysWrong : ChangeSpec := { name := "inodeKeys", fn := fun _ => fun
  | [d1, d2, d3, d4] => { results := [.lit (.bool false)], args := [d1, d2, d3, d4] }
  | _ => none }
def InodeKeysWrongFalsely : Prop := inodeKeysRow.holds Try.pinned (OpenSpec.ofChange inodeKeysWrong)

/-- 'keelsonlaw18.InodeWrites': WHATEVER THE INPUT: true; the input reads as it did. -/
def inodeWritesSpec : ChangeSpec := { name := "inodeWrites", fn := fun _ => fun
  | [d] => { results := [.lit (.bool true)], args := [d] }
  | _ => none }
def inodeWritesRow : OpenClaim := { program := "yteghldapcfkekaa", sum := "b89d7ccfe0f70b625a0410e2a1a10b810e6e53c9195e00723b677c801a7b5412", func := "keelson/keelsonlaw18.InodeWrites", spec := "inodeWrites", inPlace := ["internal/bytealg.IndexByteString", "internal/bytealg.MakeNoZero"], apart := false }
def InodeWritesSaid : Prop := inodeWritesRow.holds Try.pinned (OpenSpec.ofChange inodeWritesSpec)

/-- ITS FALSE NEIGHBOUR: 'it returns false'. Refute it at one input. -/
def inodeWritesWrong : ChangeSpec := { name := "inodeWrites", fn := fun _ => fun
  | [d] => { results := [.lit (.bool false)], args := [d] }
  | _ => none }
def InodeWritesWrongFalsely : Prop := inodeWritesRow.holds Try.pinned (OpenSpec.ofChange inodeWritesWrong)

/-- 'keelsonlaw18.InodeReads': WHATEVER THE INPUT: true; the input reads as it did. -/
def inodeReadsSpec : ChangeSpec := { name := "inodeReads", fn := fun _ => fun
  | [d] => { results := [.lit (.bool true)], args := [d] }
  | _ => none }
def inodeReadsRow : OpenClaim := { program := "yteghldapcfkekaa", sum := "b89d7ccfe0f70b625a0410e2a1a10b810e6e53c9195e00723b677c801a7b5412", func := "keelson/keelsonlaw18.InodeReads", spec := "inodeReads", inPlace := ["internal/bytealg.IndexByteString", "internal/bytealg.MakeNoZero"], apart := false }
def InodeReadsSaid : Prop := inodeReadsRow.holds Try.pinned (OpenSpec.ofChange inodeReadsSpec)

/-- ITS FALSE NEIGHBOUR: 'it returns false'. Refute it at one input. -/
def inodeReadsWrong : ChangeSpec := { name := "inodeReads", fn := fun _ => fun
  | [d] => { results := [.lit (.bool false)], args := [d] }
  | _ => none }
def InodeReadsWrongFalsely : Prop := inodeReadsRow.holds Try.pinned (OpenSpec.ofChange inodeReadsWrong)

/-- 'keelsonlaw18.InodeFull': WHATEVER THE INPUT: true; the input reads as it did. -/
def inodeFullSpec : ChangeSpec := { name := "inodeFull", fn := fun _ => fun
  | [d1, d2] => { results := [.lit (.bool true)], args := [d1, d2] }
  | _ => none }
def inodeFullRow : OpenClaim := { program := "yteghldapcfkekaa", sum := "b89d7ccfe0f70b625a0410e2a1a10b810e6e53c9195e00723b677c801a7b5412", func := "keelson/keelsonlaw18.InodeFull", spec := "inodeFull", inPlace := ["internal/bytealg.IndexByteString", "internal/bytealg.MakeNoZero", "slices.overlaps[keelson/api.Entry]"], unfollowed := true, recurses := true, apart := false }
def InodeFullSaid : Prop := inodeFullRow.holds Try.pinned (OpenSpec.ofChange inodeFullSpec)

/-- ITS FALSE NEIGHBOUR: 'it returns false'. Refute it at one input. -/
def inodeFullWrong : ChangeSpec := { name := "inodeFull", fn := fun _ => fun
  | [d1, d2] => { results := [.lit (.bool false)], args := [d1, d2] }
  | _ => none }
def InodeFullWrongFalsely : Prop := inodeFullRow.holds Try.pinned (OpenSpec.ofChange inodeFullWrong)

/-- 'keelsonlaw18.InodeEntries': WHATEVER THE INPUT: true; the input reads as it did. -/
def inodeEntriesSpec : ChangeSpec := { name := "inodeEntries", fn := fun _ => fun
  | [d1, d2, d3] => { results := [.lit (.bool true)], args := [d1, d2, d3] }
  | _ => none }
def inodeEntriesRow : OpenClaim := { program := "yteghldapcfkekaa", sum := "b89d7ccfe0f70b625a0410e2a1a10b810e6e53c9195e00723b677c801a7b5412", func := "keelson/keelsonlaw18.InodeEntries", spec := "inodeEntries", inPlace := ["internal/bytealg.IndexByteString", "internal/bytealg.MakeNoZero", "slices.overlaps[keelson/api.Entry]"], unfollowed := true, recurses := true, apart := false }
def InodeEntriesSaid : Prop := inodeEntriesRow.holds Try.pinned (OpenSpec.ofChange inodeEntriesSpec)

/-- ITS FALSE NEIGHBOUR: 'it returns false'. Refute it at one input. -/
def inodeEntriesWrong : ChangeSpec := { name := "inodeEntries", fn := fun _ => fun
  | [d1, d2, d3] => { results := [.lit (.bool false)], args := [d1, d2, d3] }
  | _ => none }
def InodeEntriesWrongFalsely : Prop := inodeEntriesRow.holds Try.pinned (OpenSpec.ofChange inodeEntriesWrong)

/- THE SECOND FORM. 'bulk': how many values and letters a reading holds, each counted each time it is reached (what is shared counts as often as it is met; a slice's spare places count too). A statement '..UptoSaid' is the law's where the arguments, and the package variables that the reading takes, are together of bulk at most 1048576: NARROWER than '..Said'. Prove '..Said' where nothing that the law and all that it calls make is longer than what came in: it says more and counts as full. Else prove '..UptoSaid'. A law counts once. -/
mutual
def uptoBulk {H : Type} : DataW H → Nat
  | .lit (.string bytes) => bytes.length + 1
  | .lit _ => 1
  | .nil => 1
  | .ptr d => uptoBulk d + 1
  | .slice elems spare => uptoBulkAll elems + uptoBulkAll spare + 1
  | .agg parts => uptoBulkAll parts + 1
  | .iface _ d => uptoBulk d + 1
  | .map entries => uptoBulkEntries entries + 1
  | .held _ => 1
def uptoBulkAll {H : Type} : List (DataW H) → Nat
  | [] => 0
  | d :: r => uptoBulk d + uptoBulkAll r
def uptoBulkEntries {H : Type} : List (Lit × DataW H) → Nat
  | [] => 0
  | x :: r => uptoBulkEntry x + uptoBulkEntries r
def uptoBulkEntry {H : Type} : Lit × DataW H → Nat
  | (.string bytes, d) => bytes.length + uptoBulk d + 1
  | (_, d) => uptoBulk d + 1
 end
def uptoSmall : (H : Type) → List (DataW H) → Bool := fun _ ds => decide (uptoBulkAll ds ≤ 1048576)
def OpenSpec.upto (s : _root_.Go.ChangeSpec) : _root_.Go.OpenSpec := { _root_.Go.OpenSpec.ofChange s with cond := some uptoSmall }

/-- 'keelsonlaw18.InodeKeys', WHERE WHAT IT READS IS OF BULK AT MOST 1048576: true; the input reads as it did. -/
def inodeKeysUptoRow : OpenClaim := { program := "yteghldapcfkekaa", sum := "b89d7ccfe0f70b625a0410e2a1a10b810e6e53c9195e00723b677c801a7b5412", func := "keelson/keelsonlaw18.InodeKeys", spec := "inodeKeys", inPlace := ["internal/bytealg.IndexByteString", "internal/bytealg.MakeNoZero"], apart := false, narrowed := true }
def InodeKeysUptoSaid : Prop := inodeKeysUptoRow.holds Try.pinned (OpenSpec.upto inodeKeysSpec)

/-- 'keelsonlaw18.InodeWrites', WHERE WHAT IT READS IS OF BULK AT MOST 1048576: true; the input reads as it did. -/
def inodeWritesUptoRow : OpenClaim := { program := "yteghldapcfkekaa", sum := "b89d7ccfe0f70b625a0410e2a1a10b810e6e53c9195e00723b677c801a7b5412", func := "keelson/keelsonlaw18.InodeWrites", spec := "inodeWrites", inPlace := ["internal/bytealg.IndexByteString", "internal/bytealg.MakeNoZero"], apart := false, narrowed := true }
def InodeWritesUptoSaid : Prop := inodeWritesUptoRow.holds Try.pinned (OpenSpec.upto inodeWritesSpec)

/-- 'keelsonlaw18.InodeReads', WHERE WHAT IT READS IS OF BULK AT MOST 1048576: true; the input reads as it did. -/
def inodeReadsUptoRow : OpenClaim := { program := "yteghldapcfkekaa", sum := "b89d7ccfe0f70b625a0410e2a1a10b810e6e53c9195e00723b677c801a7b5412", func := "keelson/keelsonlaw18.InodeReads", spec := "inodeReads", inPlace := ["internal/bytealg.IndexByteString", "internal/bytealg.MakeNoZero"], apart := false, narrowed := true }
def InodeReadsUptoSaid : Prop := inodeReadsUptoRow.holds Try.pinned (OpenSpec.upto inodeReadsSpec)

/-- 'keelsonlaw18.InodeFull', WHERE WHAT IT READS IS OF BULK AT MOST 1048576: true; the input reads as it did. -/
def inodeFullUptoRow : OpenClaim := { program := "yteghldapcfkekaa", sum := "b89d7ccfe0f70b625a0410e2a1a10b810e6e53c9195e00723b677c801a7b5412", func := "keelson/keelsonlaw18.InodeFull", spec := "inodeFull", inPlace := ["internal/bytealg.IndexByteString", "internal/bytealg.MakeNoZero", "slices.overlaps[keelson/api.Entry]"], unfollowed := true, recurses := true, apart := false, narrowed := true }
def InodeFullUptoSaid : Prop := inodeFullUptoRow.holds Try.pinned (OpenSpec.upto inodeFullSpec)

/-- 'keelsonlaw18.InodeEntries', WHERE WHAT IT READS IS OF BULK AT MOST 1048576: true; the input reads as it did. -/
def inodeEntriesUptoRow : OpenClaim := { program := "yteghldapcfkekaa", sum := "b89d7ccfe0f70b625a0410e2a1a10b810e6e53c9195e00723b677c801a7b5412", func := "keelson/keelsonlaw18.InodeEntries", spec := "inodeEntries", inPlace := ["internal/bytealg.IndexByteString", "internal/bytealg.MakeNoZero", "slices.overlaps[keelson/api.Entry]"], unfollowed := true, recurses := true, apart := false, narrowed := true }
def InodeEntriesUptoSaid : Prop := inodeEntriesUptoRow.holds Try.pinned (OpenSpec.upto inodeEntriesSpec)

end Rows
end Go.Proofs.Yteghldapcfkekaa
