/-
  No cell of these rows narrows 'for every input' (looked for: loops, veiled, ifaces, maps, wideKeys, modest, calm, conditions, laid).
  DERIVED. THE GIVEN ROWS OF THIS SEAT. 6 by the template 'for every input the law returns true; each argument reads behind the call as it read before'; 0 by the template 'total and deterministic' (their statements: YtofjabejkcicjaaTotals.lean).
  GIVEN WITH THE SEED: the statements are not yours to turn. If you find one false, say at which input.
  Laid BY PROGRAM, IN A SANDBOX (cutbox-rows.mjs): the forced cells as the released guide's own fill.sh prints them over the translation e9db921b54b63aa7… (all of the seat's roots in one cut). By AI agents, Wed Nov 11 2026. No macro, syntax, notation, axiom, sorry.
-/
import Derived.Test.YtofjabejkcicjaaChecked
import GoSem.Claim
import GoSem.ClaimJoined
import GoSem.ClaimMapViews
import Derived.JoinedTies
import Derived.KernelRfl
namespace Go.Proofs.Ytofjabejkcicjaa
/- THE CELL 'sum', in the pinned program and in every row, IS THE sha256 OF THE DUMP (.gsa) THAT YtofjabejkcicjaaProg.lean LOADS. Nothing in Lean hashes anything: it is a label: what it is worth is what the hold of that sum in a sandbox is worth. -/
noncomputable def Try.pinned : Pinned := { name := "ytofjabejkcicjaa", sum := "e9db921b54b63aa71a632050003c6eb711ce6131a0f29cc73cfb9e9309f7085c", checked := Try.checked }
namespace Rows
def none {H : Type} : Left H := { results := [], args := [] }

/-- 'keelsonlaw04.NandFails': WHATEVER THE INPUT: true; the input reads as it did. -/
def nandFailsSpec : ChangeSpec := { name := "nandFails", fn := fun _ => fun
  | [d1, d2] => { results := [.lit (.bool true)], args := [d1, d2] }
  | _ => none }
def nandFailsRow : OpenClaim := { program := "ytofjabejkcicjaa", sum := "e9db921b54b63aa71a632050003c6eb711ce6131a0f29cc73cfb9e9309f7085c", func := "keelson/keelsonlaw04.NandFails", spec := "nandFails", unfollowed := true, recurses := true, apart := false }
def NandFailsSaid : Prop := nandFailsRow.holds Try.pinned (OpenSpec.ofChange nandFailsSpec)

/-- ITS FALSE NEIGHBOUR: 'it returns false'. Refute it at one input. -/
def nandFailsWrong : ChangeSpec := { name := "nandFails", fn := fun _ => fun
  | [d1, d2] => { results := [.lit (.bool false)], args := [d1, d2] }
  | _ => none }
def NandFailsWrongFalsely : Prop := nandFailsRow.holds Try.pinned (OpenSpec.ofChange nandFailsWrong)

/-- 'keelsonlaw04.NandCuts': WHATEVER THE INPUT: true; the input reads as it did. -/
def nandCutsSpec : ChangeSpec := { name := "nandCuts", fn := fun _ => fun
  | [d1, d2, d3] => { results := [.lit (.bool true)], args := [d1, d2, d3] }
  | _ => none }
def nandCutsRow : OpenClaim := { program := "ytofjabejkcicjaa", sum := "e9db921b54b63aa71a632050003c6eb711ce6131a0f29cc73cfb9e9309f7085c", func := "keelson/keelsonlaw04.NandCuts", spec := "nandCuts", unfollowed := true, recurses := true, apart := false }
def NandCutsSaid : Prop := nandCutsRow.holds Try.pinned (OpenSpec.ofChange nandCutsSpec)

/-- ITS FALSE NEIGHBOUR: 'it returns false'. Refute it at one input. -/
def nandCutsWrong : ChangeSpec := { name := "nandCuts", fn := fun _ => fun
  | [d1, d2, d3] => { results := [.lit (.bool false)], args := [d1, d2, d3] }
  | _ => none }
def NandCutsWrongFalsely : Prop := nandCutsRow.holds Try.pinned (OpenSpec.ofChange nandCutsWrong)

/-- 'keelsonlaw04.NandOnce': WHATEVER THE INPUT: true; the input reads as it did. -/
def nandOnceSpec : ChangeSpec := { name := "nandOnce", fn := fun _ => fun
  | [d1, d2] => { results := [.lit (.bool true)], args := [d1, d2] }
  | _ => none }
def nandOnceRow : OpenClaim := { program := "ytofjabejkcicjaa", sum := "e9db921b54b63aa71a632050003c6eb711ce6131a0f29cc73cfb9e9309f7085c", func := "keelson/keelsonlaw04.NandOnce", spec := "nandOnce", unfollowed := true, recurses := true, apart := false }
def NandOnceSaid : Prop := nandOnceRow.holds Try.pinned (OpenSpec.ofChange nandOnceSpec)

/-- ITS FALSE NEIGHBOUR: 'it returns false'. Refute it at one input. -/
def nandOnceWrong : ChangeSpec := { name := "nandOnce", fn := fun _ => fun
  | [d1, d2] => { results := [.lit (.bool false)], args := [d1, d2] }
  | _ => none }
def NandOnceWrongFalsely : Prop := nandOnceRow.holds Try.pinned (OpenSpec.ofChange nandOnceWrong)

/-- 'keelsonlaw04.NandTorn': WHATEVER THE INPUT: true; the input reads as it did. -/
def nandTornSpec : ChangeSpec := { name := "nandTorn", fn := fun _ => fun
  | [d1, d2, d3] => { results := [.lit (.bool true)], args := [d1, d2, d3] }
  | _ => none }
def nandTornRow : OpenClaim := { program := "ytofjabejkcicjaa", sum := "e9db921b54b63aa71a632050003c6eb711ce6131a0f29cc73cfb9e9309f7085c", func := "keelson/keelsonlaw04.NandTorn", spec := "nandTorn", unfollowed := true, recurses := true, apart := false }
def NandTornSaid : Prop := nandTornRow.holds Try.pinned (OpenSpec.ofChange nandTornSpec)

/-- ITS FALSE NEIGHBOUR: 'it returns false'. Refute it at one input. -/
def nandTornWrong : ChangeSpec := { name := "nandTorn", fn := fun _ => fun
  | [d1, d2, d3] => { results := [.lit (.bool false)], args := [d1, d2, d3] }
  | _ => none }
def NandTornWrongFalsely : Prop := nandTornRow.holds Try.pinned (OpenSpec.ofChange nandTornWrong)

/-- 'keelsonlaw04.NandLive': WHATEVER THE INPUT: true; the input reads as it did. -/
def nandLiveSpec : ChangeSpec := { name := "nandLive", fn := fun _ => fun
  | [d1, d2, d3] => { results := [.lit (.bool true)], args := [d1, d2, d3] }
  | _ => none }
def nandLiveRow : OpenClaim := { program := "ytofjabejkcicjaa", sum := "e9db921b54b63aa71a632050003c6eb711ce6131a0f29cc73cfb9e9309f7085c", func := "keelson/keelsonlaw04.NandLive", spec := "nandLive", unfollowed := true, recurses := true, apart := false }
def NandLiveSaid : Prop := nandLiveRow.holds Try.pinned (OpenSpec.ofChange nandLiveSpec)

/-- ITS FALSE NEIGHBOUR: 'it returns false'. Refute it at one input. -/
def nandLiveWrong : ChangeSpec := { name := "nandLive", fn := fun _ => fun
  | [d1, d2, d3] => { results := [.lit (.bool false)], args := [d1, d2, d3] }
  | _ => none }
def NandLiveWrongFalsely : Prop := nandLiveRow.holds Try.pinned (OpenSpec.ofChange nandLiveWrong)

/-- 'keelsonlaw04.NandPlays': WHATEVER THE INPUT: true; the input reads as it did. -/
def nandPlaysSpec : ChangeSpec := { name := "nandPlays", fn := fun _ => fun
  | [d1, d2, d3] => { results := [.lit (.bool true)], args := [d1, d2, d3] }
  | _ => none }
def nandPlaysRow : OpenClaim := { program := "ytofjabejkcicjaa", sum := "e9db921b54b63aa71a632050003c6eb711ce6131a0f29cc73cfb9e9309f7085c", func := "keelson/keelsonlaw04.NandPlays", spec := "nandPlays", unfollowed := true, recurses := true, apart := false }
def NandPlaysSaid : Prop := nandPlaysRow.holds Try.pinned (OpenSpec.ofChange nandPlaysSpec)

/-- ITS FALSE NEIGHBOUR: 'it returns false'. Refute it at one input. -/
def nandPlaysWrong : ChangeSpec := { name := "nandPlays", fn := fun _ => fun
  | [d1, d2, d3] => { results := [.lit (.bool false)], args := [d1, d2, d3] }
  | _ => none }
def NandPlaysWrongFalsely : Prop := nandPlaysRow.holds Try.pinned (OpenSpec.ofChange nandPlaysWrong)

/- THE SECOND FORM. 'bulk': how many values and letters a reading holds, each counted each time it is reached (what is shared counts as often as it is met; a slice's spare places count too). A statement '..UptoSaid' is the law's where the arguments, and the package variables that the reading takes, are together of bulk at most 1048576: NARROWER than '..Said'. Prove '..Said' where nothing that the law and all that it calls make is longer than what came in: it says more and counts as full. Else prove '..UptoSaid'. A law counts once. -/
mutual
def uptoBulk {H : Type} : DataW H → Nat
  | .lit (.string bytes) => bytes.length + 1
  | .lit _ => 1
  | .nil => 1
  | .ptr d => uptoBulk d + 1
  | .slice elems spare => uptoBulkAll elems + uptoBulkAll spare + 1
  | .agg parts => uptoBulkAll parts + 1
  | .iface _ d => uptoBulk d + 1
  | .map entries => uptoBulkEntries entries + 1
  | .held _ => 1
def uptoBulkAll {H : Type} : List (DataW H) → Nat
  | [] => 0
  | d :: r => uptoBulk d + uptoBulkAll r
def uptoBulkEntries {H : Type} : List (Lit × DataW H) → Nat
  | [] => 0
  | x :: r => uptoBulkEntry x + uptoBulkEntries r
def uptoBulkEntry {H : Type} : Lit × DataW H → Nat
  | (.string bytes, d) => bytes.length + uptoBulk d + 1
  | (_, d) => uptoBulk d + 1
 end
def uptoSmall : (H : Type) → List (DataW H) → Bool := fun _ ds => decide (uptoBulkAll ds ≤ 1048576)
def OpenSpec.upto (s : _root_.Go.ChangeSpec) : _root_.Go.OpenSpec := { _root_.Go.OpenSpec.ofChange s with cond := some uptoSmall }

/-- 'keelsonlaw04.NandFails', WHERE WHAT IT READS IS OF BULK AT MOST 1048576: true; the input reads as it did. -/
def nandFailsUptoRow : OpenClaim := { program := "ytofjabejkcicjaa", sum := "e9db921b54b63aa71a632050003c6eb711ce6131a0f29cc73cfb9e9309f7085c", func := "keelson/keelsonlaw04.NandFails", spec := "nandFails", unfollowed := true, recurses := true, apart := false, narrowed := true }
def NandFailsUptoSaid : Prop := nandFailsUptoRow.holds Try.pinned (OpenSpec.upto nandFailsSpec)

/-- 'keelsonlaw04.NandCuts', WHERE WHAT IT READS IS OF BULK AT MOST 1048576: true; the input reads as it did. -/
def nandCutsUptoRow : OpenClaim := { program := "ytofjabejkcicjaa", sum := "e9db921b54b63aa71a632050003c6eb711ce6131a0f29cc73cfb9e9309f7085c", func := "keelson/keelsonlaw04.NandCuts", spec := "nandCuts", unfollowed := true, recurses := true, apart := false, narrowed := true }
def NandCutsUptoSaid : Prop := nandCutsUptoRow.holds Try.pinned (OpenSpec.upto nandCutsSpec)

/-- 'keelsonlaw04.NandOnce', WHERE WHAT IT READS IS OF BULK AT MOST 1048576: true; the input reads as it did. -/
def nandOnceUptoRow : OpenClaim := { program := "ytofjabejkcicjaa", sum := "e9db921b54b63aa71a632050003c6eb711ce6131a0f29cc73cfb9e9309f7085c", func := "keelson/keelsonlaw04.NandOnce", spec := "nandOnce", unfollowed := true, recurses := true, apart := false, narrowed := true }
def NandOnceUptoSaid : Prop := nandOnceUptoRow.holds Try.pinned (OpenSpec.upto nandOnceSpec)

/-- 'keelsonlaw04.NandTorn', WHERE WHAT IT READS IS OF BULK AT MOST 1048576: true; the input reads as it did. -/
def nandTornUptoRow : OpenClaim := { program := "ytofjabejkcicjaa", sum := "e9db921b54b63aa71a632050003c6eb711ce6131a0f29cc73cfb9e9309f7085c", func := "keelson/keelsonlaw04.NandTorn", spec := "nandTorn", unfollowed := true, recurses := true, apart := false, narrowed := true }
def NandTornUptoSaid : Prop := nandTornUptoRow.holds Try.pinned (OpenSpec.upto nandTornSpec)

/-- 'keelsonlaw04.NandLive', WHERE WHAT IT READS IS OF BULK AT MOST 1048576: true; the input reads as it did. -/
def nandLiveUptoRow : OpenClaim := { program := "ytofjabejkcicjaa", sum := "e9db921b54b63aa71a632050003c6eb711ce6131a0f29cc73cfb9e9309f7085c", func := "keelson/keelsonlaw04.NandLive", spec := "nandLive", unfollowed := true, recurses := true, apart := false, narrowed := true }
def NandLiveUptoSaid : Prop := nandLiveUptoRow.holds Try.pinned (OpenSpec.upto nandLiveSpec)

/-- 'keelsonlaw04.NandPlays', WHERE WHAT IT READS IS OF BULK AT MOST 1048576: true; the input reads as it did. -/
def nandPlaysUptoRow : OpenClaim := { program := "ytofjabejkcicjaa", sum := "e9db921b54b63aa71a632050003c6eb711ce6131a0f29cc73cfb9e9309f7085c", func := "keelson/keelsonlaw04.NandPlays", spec := "nandPlays", unfollowed := true, recurses := true, apart := false, narrowed := true }
def NandPlaysUptoSaid : Prop := nandPlaysUptoRow.holds Try.pinned (OpenSpec.upto nandPlaysSpec)

end Rows
end Go.Proofs.Ytofjabejkcicjaa
