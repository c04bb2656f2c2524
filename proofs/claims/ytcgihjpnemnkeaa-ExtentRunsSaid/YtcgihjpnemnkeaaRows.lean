/-
  No cell of these rows narrows 'for every input' (looked for: loops, veiled, ifaces, maps, wideKeys, modest, calm, conditions, laid).
  DERIVED. THE GIVEN ROWS OF THIS SEAT. 8 by the template 'for every input the law returns true; each argument reads behind the call as it read before'; 0 by the template 'total and deterministic' (their statements: YtcgihjpnemnkeaaTotals.lean).
  GIVEN WITH THE SEED: the statements are not yours to turn. If you find one false, say at which input.
  Laid BY PROGRAM, IN A SANDBOX (cutbox-rows.mjs): the forced cells as the released guide's own fill.sh prints them over the translation 84bb7b896ac9e9de… (all of the seat's roots in one cut). By AI agents, Wed Nov 11 2026. No macro, syntax, notation, axiom, sorry.
-/
import Derived.Test.YtcgihjpnemnkeaaChecked
import GoSem.Claim
import GoSem.ClaimJoined
import GoSem.ClaimMapViews
import Derived.JoinedTies
import Derived.KernelRfl
namespace Go.Proofs.Ytcgihjpnemnkeaa
/- THE CELL 'sum', in the pinned program and in every row, IS THE sha256 OF THE DUMP (.gsa) THAT YtcgihjpnemnkeaaProg.lean LOADS. Nothing in Lean hashes anything: it is a label: what it is worth is what the hold of that sum in a sandbox is worth. -/
noncomputable def Try.pinned : Pinned := { name := "ytcgihjpnemnkeaa", sum := "84bb7b896ac9e9de40ac9db0ebce11ddd2fe0a4f4c57190b9057887ab4789a94", checked := Try.checked }
namespace Rows
def none {H : Type} : Left H := { results := [], args := [] }

/-- 'tegulalaw32.ExtentCut': WHATEVER THE INPUT: true; the input reads as it did. -/
def extentCutSpec : ChangeSpec := { name := "extentCut", fn := fun _ => fun
  | [d1, d2, d3] => { results := [.lit (.bool true)], args := [d1, d2, d3] }
  | _ => none }
def extentCutRow : OpenClaim := { program := "ytcgihjpnemnkeaa", sum := "84bb7b896ac9e9de40ac9db0ebce11ddd2fe0a4f4c57190b9057887ab4789a94", func := "tegula/tegulalaw32.ExtentCut", spec := "extentCut", apart := false }
def ExtentCutSaid : Prop := extentCutRow.holds Try.pinned (OpenSpec.ofChange extentCutSpec)

/-- ITS FALSE NEIGHBOUR: 'it returns false'. Refute it at one input. -/
def extentCutWrong : ChangeSpec := { name := "extentCut", fn := fun _ => fun
  | [d1, d2, d3] => { results := [.lit (.bool false)], args := [d1, d2, d3] }
  | _ => none }
def ExtentCutWrongFalsely : Prop := extentCutRow.holds Try.pinned (OpenSpec.ofChange extentCutWrong)

/-- 'tegulalaw32.ExtentUnique': WHATEVER THE INPUT: true; the input reads as it did. -/
def extentUniqueSpec : ChangeSpec := { name := "extentUnique", fn := fun _ => fun
  | [d1, d2, d3] => { results := [.lit (.bool true)], args := [d1, d2, d3] }
  | _ => none }
def extentUniqueRow : OpenClaim := { program := "ytcgihjpnemnkeaa", sum := "84bb7b896ac9e9de40ac9db0ebce11ddd2fe0a4f4c57190b9057887ab4789a94", func := "tegula/tegulalaw32.ExtentUnique", spec := "extentUnique", apart := false }
def ExtentUniqueSaid : Prop := extentUniqueRow.holds Try.pinned (OpenSpec.ofChange extentUniqueSpec)

/-- ITS FALSE NEIGHBOUR: 'it returns false'. Refute it at one input. -/
def extentUniqueWrong : ChangeSpec := { name := "extentUnique", fn := fun _ => fun
  | [d1, d2, d3] => { results := [.lit (.bool false)], args := [d1, d2, d3] }
  | _ => none }
def ExtentUniqueWrongFalsely : Prop := extentUniqueRow.holds Try.pinned (OpenSpec.ofChange extentUniqueWrong)

/-- 'tegulalaw32.ExtentValid': WHATEVER THE INPUT: true; the input reads as it did. -/
def extentValidSpec : ChangeSpec := { name := "extentValid", fn := fun _ => fun
  | [d] => { results := [.lit (.bool true)], args := [d] }
  | _ => none }
def extentValidRow : OpenClaim := { program := "ytcgihjpnemnkeaa", sum := "84bb7b896ac9e9de40ac9db0ebce11ddd2fe0a4f4c57190b9057887ab4789a94", func := "tegula/tegulalaw32.ExtentValid", spec := "extentValid", apart := false }
def ExtentValidSaid : Prop := extentValidRow.holds Try.pinned (OpenSpec.ofChange extentValidSpec)

/-- ITS FALSE NEIGHBOUR: 'it returns false'. Refute it at one input. -/
def extentValidWrong : ChangeSpec := { name := "extentValid", fn := fun _ => fun
  | [d] => { results := [.lit (.bool false)], args := [d] }
  | _ => none }
def ExtentValidWrongFalsely : Prop := extentValidRow.holds Try.pinned (OpenSpec.ofChange extentValidWrong)

/-- 'tegulalaw32.ExtentFind': WHATEVER THE INPUT: true; the input reads as it did. -/
def extentFindSpec : ChangeSpec := { name := "extentFind", fn := fun _ => fun
  | [d1, d2] => { results := [.lit (.bool true)], args := [d1, d2] }
  | _ => none }
def extentFindRow : OpenClaim := { program := "ytcgihjpnemnkeaa", sum := "84bb7b896ac9e9de40ac9db0ebce11ddd2fe0a4f4c57190b9057887ab4789a94", func := "tegula/tegulalaw32.ExtentFind", spec := "extentFind", apart := false }
def ExtentFindSaid : Prop := extentFindRow.holds Try.pinned (OpenSpec.ofChange extentFindSpec)

/-- ITS FALSE NEIGHBOUR: 'it returns false'. Refute it at one input. -/
def extentFindWrong : ChangeSpec := { name := "extentFind", fn := fun _ => fun
  | [d1, d2] => { results := [.lit (.bool false)], args := [d1, d2] }
  | _ => none }
def ExtentFindWrongFalsely : Prop := extentFindRow.holds Try.pinned (OpenSpec.ofChange extentFindWrong)

/-- 'tegulalaw32.ExtentPut': WHATEVER THE INPUT: true; the input reads as it did. -/
def extentPutSpec : ChangeSpec := { name := "extentPut", fn := fun _ => fun
  | [d1, d2] => { results := [.lit (.bool true)], args := [d1, d2] }
  | _ => none }
def extentPutRow : OpenClaim := { program := "ytcgihjpnemnkeaa", sum := "84bb7b896ac9e9de40ac9db0ebce11ddd2fe0a4f4c57190b9057887ab4789a94", func := "tegula/tegulalaw32.ExtentPut", spec := "extentPut", inPlace := ["slices.overlaps[tegula/api.Extent]"], unfollowed := true, recurses := true, apart := false }
def ExtentPutSaid : Prop := extentPutRow.holds Try.pinned (OpenSpec.ofChange extentPutSpec)

/-- ITS FALSE NEIGHBOUR: 'it returns false'. Refute it at one input. -/
def extentPutWrong : ChangeSpec := { name := "extentPut", fn := fun _ => fun
  | [d1, d2] => { results := [.lit (.bool false)], args := [d1, d2] }
  | _ => none }
def ExtentPutWrongFalsely : Prop := extentPutRow.holds Try.pinned (OpenSpec.ofChange extentPutWrong)

/-- 'tegulalaw32.ExtentRestores': WHATEVER THE INPUT: true; the input reads as it did. -/
def extentRestoresSpec : ChangeSpec := { name := "extentRestores", fn := fun _ => fun
  | [d1, d2] => { results := [.lit (.bool true)], args := [d1, d2] }
  | _ => none }
def extentRestoresRow : OpenClaim := { program := "ytcgihjpnemnkeaa", sum := "84bb7b896ac9e9de40ac9db0ebce11ddd2fe0a4f4c57190b9057887ab4789a94", func := "tegula/tegulalaw32.ExtentRestores", spec := "extentRestores", inPlace := ["slices.overlaps[tegula/api.Extent]"], unfollowed := true, recurses := true, apart := false }
def ExtentRestoresSaid : Prop := extentRestoresRow.holds Try.pinned (OpenSpec.ofChange extentRestoresSpec)

/-- ITS FALSE NEIGHBOUR: 'it returns false'. Refute it at one input. -/
def extentRestoresWrong : ChangeSpec := { name := "extentRestores", fn := fun _ => fun
  | [d1, d2] => { results := [.lit (.bool false)], args := [d1, d2] }
  | _ => none }
def ExtentRestoresWrongFalsely : Prop := extentRestoresRow.holds Try.pinned (OpenSpec.ofChange extentRestoresWrong)

/-- 'tegulalaw32.ExtentMaps': WHATEVER THE INPUT: true; the input reads as it did. -/
def extentMapsSpec : ChangeSpec := { name := "extentMaps", fn := fun _ => fun
  | [d1, d2, d3] => { results := [.lit (.bool true)], args := [d1, d2, d3] }
  | _ => none }
def extentMapsRow : OpenClaim := { program := "ytcgihjpnemnkeaa", sum := "84bb7b896ac9e9de40ac9db0ebce11ddd2fe0a4f4c57190b9057887ab4789a94", func := "tegula/tegulalaw32.ExtentMaps", spec := "extentMaps", inPlace := ["slices.overlaps[tegula/api.Extent]"], unfollowed := true, recurses := true, apart := false }
def ExtentMapsSaid : Prop := extentMapsRow.holds Try.pinned (OpenSpec.ofChange extentMapsSpec)

/-- ITS FALSE NEIGHBOUR: 'it returns false'. Refute it at one input. -/
def extentMapsWrong : ChangeSpec := { name := "extentMaps", fn := fun _ => fun
  | [d1, d2, d3] => { results := [.lit (.bool false)], args := [d1, d2, d3] }
  | _ => none }
def ExtentMapsWrongFalsely : Prop := extentMapsRow.holds Try.pinned (OpenSpec.ofChange extentMapsWrong)

/-- 'tegulalaw32.ExtentRuns': WHATEVER THE INPUT: true; the input reads as it did. -/
def extentRunsSpec : ChangeSpec := { name := "extentRuns", fn := fun _ => fun
  | [d] => { results := [.lit (.bool true)], args := [d] }
  | _ => none }
def extentRunsRow : OpenClaim := { program := "ytcgihjpnemnkeaa", sum := "84bb7b896ac9e9de40ac9db0ebce11ddd2fe0a4f4c57190b9057887ab4789a94", func := "tegula/tegulalaw32.ExtentRuns", spec := "extentRuns", unfollowed := true, recurses := true, apart := false }
def ExtentRunsSaid : Prop := extentRunsRow.holds Try.pinned (OpenSpec.ofChange extentRunsSpec)

/-- ITS FALSE NEIGHBOUR: 'it returns false'. Refute it at one input. -/
def extentRunsWrong : ChangeSpec := { name := "extentRuns", fn := fun _ => fun
  | [d] => { results := [.lit (.bool false)], args := [d] }
  | _ => none }
def ExtentRunsWrongFalsely : Prop := extentRunsRow.holds Try.pinned (OpenSpec.ofChange extentRunsWrong)

/- THE SECOND FORM. 'bulk': how many values and letters a reading holds, each counted each time it is reached (what is shared counts as often as it is met; a slice's spare places count too). A statement '..UptoSaid' is the law's where the arguments, and the package variables that the reading takes, are together of bulk at most 1048576: NARROWER than '..Said'. Prove '..Said' where nothing that the law and all that it calls make is longer than what came in: it says more and counts as full. Else prove '..UptoSaid'. A law counts once. -/
mutual
def uptoBulk {H : Type} : DataW H → Nat
  | .lit (.string bytes) => bytes.length + 1
  | .lit _ => 1
  | .nil => 1
  | .ptr d => uptoBulk d + 1
  | .slice elems spare => uptoBulkAll elems + uptoBulkAll spare + 1
  | .agg parts => uptoBulkAll parts + 1
  | .iface _ d => uptoBulk d + 1
  | .map entries => uptoBulkEntries entries + 1
  | .held _ => 1
def uptoBulkAll {H : Type} : List (DataW H) → Nat
  | [] => 0
  | d :: r => uptoBulk d + uptoBulkAll r
def uptoBulkEntries {H : Type} : List (Lit × DataW H) → Nat
  | [] => 0
  | x :: r => uptoBulkEntry x + uptoBulkEntries r
def uptoBulkEntry {H : Type} : Lit × DataW H → Nat
  | (.string bytes, d) => bytes.length + uptoBulk d + 1
  | (_, d) => uptoBulk d + 1
 end
def uptoSmall : (H : Type) → List (DataW H) → Bool := fun _ ds => decide (uptoBulkAll ds ≤ 1048576)
def OpenSpec.upto (s : _root_.Go.ChangeSpec) : _root_.Go.OpenSpec := { _root_.Go.OpenSpec.ofChange s with cond := some uptoSmall }

/-- 'tegulalaw32.ExtentCut', WHERE WHAT IT READS IS OF BULK AT MOST 1048576: true; the input reads as it did. -/
def extentCutUptoRow : OpenClaim := { program := "ytcgihjpnemnkeaa", sum := "84bb7b896ac9e9de40ac9db0ebce11ddd2fe0a4f4c57190b9057887ab4789a94", func := "tegula/tegulalaw32.ExtentCut", spec := "extentCut", apart := false, narrowed := true }
def ExtentCutUptoSaid : Prop := extentCutUptoRow.holds Try.pinned (OpenSpec.upto extentCutSpec)

/-- 'tegulalaw32.ExtentUnique', WHERE WHAT IT READS IS OF BULK AT MOST 1048576: true; the input reads as it did. -/
def extentUniqueUptoRow : OpenClaim := { program := "ytcgihjpnemnkeaa", sum := "84bb7b896ac9e9de40ac9db0ebce11ddd2fe0a4f4c57190b9057887ab4789a94", func := "tegula/tegulalaw32.ExtentUnique", spec := "extentUnique", apart := false, narrowed := true }
def ExtentUniqueUptoSaid : Prop := extentUniqueUptoRow.holds Try.pinned (OpenSpec.upto extentUniqueSpec)

/-- 'tegulalaw32.ExtentValid', WHERE WHAT IT READS IS OF BULK AT MOST 1048576: true; the input reads as it did. -/
def extentValidUptoRow : OpenClaim := { program := "ytcgihjpnemnkeaa", sum := "84bb7b896ac9e9de40ac9db0ebce11ddd2fe0a4f4c57190b9057887ab4789a94", func := "tegula/tegulalaw32.ExtentValid", spec := "extentValid", apart := false, narrowed := true }
def ExtentValidUptoSaid : Prop := extentValidUptoRow.holds Try.pinned (OpenSpec.upto extentValidSpec)

/-- 'tegulalaw32.ExtentFind', WHERE WHAT IT READS IS OF BULK AT MOST 1048576: true; the input reads as it did. -/
def extentFindUptoRow : OpenClaim := { program := "ytcgihjpnemnkeaa", sum := "84bb7b896ac9e9de40ac9db0ebce11ddd2fe0a4f4c57190b9057887ab4789a94", func := "tegula/tegulalaw32.ExtentFind", spec := "extentFind", apart := false, narrowed := true }
def ExtentFindUptoSaid : Prop := extentFindUptoRow.holds Try.pinned (OpenSpec.upto extentFindSpec)

/-- 'tegulalaw32.ExtentPut', WHERE WHAT IT READS IS OF BULK AT MOST 1048576: true; the input reads as it did. -/
def extentPutUptoRow : OpenClaim := { program := "ytcgihjpnemnkeaa", sum := "84bb7b896ac9e9de40ac9db0ebce11ddd2fe0a4f4c57190b9057887ab4789a94", func := "tegula/tegulalaw32.ExtentPut", spec := "extentPut", inPlace := ["slices.overlaps[tegula/api.Extent]"], unfollowed := true, recurses := true, apart := false, narrowed := true }
def ExtentPutUptoSaid : Prop := extentPutUptoRow.holds Try.pinned (OpenSpec.upto extentPutSpec)

/-- 'tegulalaw32.ExtentRestores', WHERE WHAT IT READS IS OF BULK AT MOST 1048576: true; the input reads as it did. -/
def extentRestoresUptoRow : OpenClaim := { program := "ytcgihjpnemnkeaa", sum := "84bb7b896ac9e9de40ac9db0ebce11ddd2fe0a4f4c57190b9057887ab4789a94", func := "tegula/tegulalaw32.ExtentRestores", spec := "extentRestores", inPlace := ["slices.overlaps[tegula/api.Extent]"], unfollowed := true, recurses := true, apart := false, narrowed := true }
def ExtentRestoresUptoSaid : Prop := extentRestoresUptoRow.holds Try.pinned (OpenSpec.upto extentRestoresSpec)

/-- 'tegulalaw32.ExtentMaps', WHERE WHAT IT READS IS OF BULK AT MOST 1048576: true; the input reads as it did. -/
def extentMapsUptoRow : OpenClaim := { program := "ytcgihjpnemnkeaa", sum := "84bb7b896ac9e9de40ac9db0ebce11ddd2fe0a4f4c57190b9057887ab4789a94", func := "tegula/tegulalaw32.ExtentMaps", spec := "extentMaps", inPlace := ["slices.overlaps[tegula/api.Extent]"], unfollowed := true, recurses := true, apart := false, narrowed := true }
def ExtentMapsUptoSaid : Prop := extentMapsUptoRow.holds Try.pinned (OpenSpec.upto extentMapsSpec)

/-- 'tegulalaw32.ExtentRuns', WHERE WHAT IT READS IS OF BULK AT MOST 1048576: true; the input reads as it did. -/
def extentRunsUptoRow : OpenClaim := { program := "ytcgihjpnemnkeaa", sum := "84bb7b896ac9e9de40ac9db0ebce11ddd2fe0a4f4c57190b9057887ab4789a94", func := "tegula/tegulalaw32.ExtentRuns", spec := "extentRuns", unfollowed := true, recurses := true, apart := false, narrowed := true }
def ExtentRunsUptoSaid : Prop := extentRunsUptoRow.holds Try.pinned (OpenSpec.upto extentRunsSpec)

end Rows
end Go.Proofs.Ytcgihjpnemnkeaa
