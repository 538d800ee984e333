/-
  No cell of these rows narrows 'for every input' (looked for: loops, veiled, ifaces, maps, wideKeys, modest, calm, conditions, laid).
  DERIVED. THE GIVEN ROWS OF THIS SEAT. 8 by the template 'for every input the law returns true; each argument reads behind the call as it read before'; 0 by the template 'total and deterministic' (their statements: YtgjdbpleoegejaaTotals.lean).
  GIVEN WITH THE SEED: the statements are not yours to turn. If you find one false, say at which input.
  Laid BY PROGRAM, IN A SANDBOX (cutbox-rows.mjs): the forced cells as the released guide's own fill.sh prints them over the translation 0cef3a75336f70ca… (all of the seat's roots in one cut). By AI agents, Wed Nov 11 2026. No macro, syntax, notation, axiom, sorry.
-/
import Derived.Test.YtgjdbpleoegejaaChecked
import GoSem.Claim
import GoSem.ClaimJoined
import GoSem.ClaimMapViews
import Derived.JoinedTies
import Derived.KernelRfl
namespace Go.Proofs.Ytgjdbpleoegejaa
/- THE CELL 'sum', in the pinned program and in every row, IS THE sha256 OF THE DUMP (.gsa) THAT YtgjdbpleoegejaaProg.lean LOADS. Nothing in Lean hashes anything: it is a label: what it is worth is what the hold of that sum in a sandbox is worth. -/
noncomputable def Try.pinned : Pinned := { name := "ytgjdbpleoegejaa", sum := "0cef3a75336f70ca59d1446fb3d59a2562335e42bb22b3de01a01ca4516a1e26", checked := Try.checked }
namespace Rows
def none {H : Type} : Left H := { results := [], args := [] }

/-- 'respitelaw06.FrameCalls': WHATEVER THE INPUT: true; the input reads as it did. -/
def frameCallsSpec : ChangeSpec := { name := "frameCalls", fn := fun _ => fun
  | [d1, d2] => { results := [.lit (.bool true)], args := [d1, d2] }
  | _ => none }
def frameCallsRow : OpenClaim := { program := "ytgjdbpleoegejaa", sum := "0cef3a75336f70ca59d1446fb3d59a2562335e42bb22b3de01a01ca4516a1e26", func := "respite/respitelaw06.FrameCalls", spec := "frameCalls", unfollowed := true, recurses := true, apart := false }
def FrameCallsSaid : Prop := frameCallsRow.holds Try.pinned (OpenSpec.ofChange frameCallsSpec)

/-- ITS FALSE NEIGHBOUR: 'it returns false'. Refute it at one input. -/
def frameCallsWrong : ChangeSpec := { name := "frameCalls", fn := fun _ => fun
  | [d1, d2] => { results := [.lit (.bool false)], args := [d1, d2] }
  | _ => none }
def FrameCallsWrongFalsely : Prop := frameCallsRow.holds Try.pinned (OpenSpec.ofChange frameCallsWrong)

/-- 'respitelaw06.FrameBack': WHATEVER THE INPUT: true; the input reads as it did. -/
def frameBackSpec : ChangeSpec := { name := "frameBack", fn := fun _ => fun
  | [d1, d2, d3, d4] => { results := [.lit (.bool true)], args := [d1, d2, d3, d4] }
  | _ => none }
def frameBackRow : OpenClaim := { program := "ytgjdbpleoegejaa", sum := "0cef3a75336f70ca59d1446fb3d59a2562335e42bb22b3de01a01ca4516a1e26", func := "respite/respitelaw06.FrameBack", spec := "frameBack", unfollowed := true, recurses := true, apart := false }
def FrameBackSaid : Prop := frameBackRow.holds Try.pinned (OpenSpec.ofChange frameBackSpec)

/-- ITS FALSE NEIGHBOUR: 'it returns false'. Refute it at one input. -/
def frameBackWrong : ChangeSpec := { name := "frameBack", fn := fun _ => fun
  | [d1, d2, d3, d4] => { results := [.lit (.bool false)], args := [d1, d2, d3, d4] }
  | _ => none }
def FrameBackWrongFalsely : Prop := frameBackRow.holds Try.pinned (OpenSpec.ofChange frameBackWrong)

/-- 'respitelaw06.FrameNests': WHATEVER THE INPUT: true; the input reads as it did. -/
def frameNestsSpec : ChangeSpec := { name := "frameNests", fn := fun _ => fun
  | [d1, d2] => { results := [.lit (.bool true)], args := [d1, d2] }
  | _ => none }
def frameNestsRow : OpenClaim := { program := "ytgjdbpleoegejaa", sum := "0cef3a75336f70ca59d1446fb3d59a2562335e42bb22b3de01a01ca4516a1e26", func := "respite/respitelaw06.FrameNests", spec := "frameNests", unfollowed := true, recurses := true, apart := false }
def FrameNestsSaid : Prop := frameNestsRow.holds Try.pinned (OpenSpec.ofChange frameNestsSpec)

/-- ITS FALSE NEIGHBOUR: 'it returns false'. Refute it at one input. -/
def frameNestsWrong : ChangeSpec := { name := "frameNests", fn := fun _ => fun
  | [d1, d2] => { results := [.lit (.bool false)], args := [d1, d2] }
  | _ => none }
def FrameNestsWrongFalsely : Prop := frameNestsRow.holds Try.pinned (OpenSpec.ofChange frameNestsWrong)

/-- 'respitelaw07.LocalDoes': WHATEVER THE INPUT: true; the input reads as it did. -/
def localDoesSpec : ChangeSpec := { name := "localDoes", fn := fun _ => fun
  | [d1, d2, d3] => { results := [.lit (.bool true)], args := [d1, d2, d3] }
  | _ => none }
def localDoesRow : OpenClaim := { program := "ytgjdbpleoegejaa", sum := "0cef3a75336f70ca59d1446fb3d59a2562335e42bb22b3de01a01ca4516a1e26", func := "respite/respitelaw07.LocalDoes", spec := "localDoes", unfollowed := true, recurses := true, apart := false }
def LocalDoesSaid : Prop := localDoesRow.holds Try.pinned (OpenSpec.ofChange localDoesSpec)

/-- ITS FALSE NEIGHBOUR: 'it returns false'. Refute it at one input. -/
def localDoesWrong : ChangeSpec := { name := "localDoes", fn := fun _ => fun
  | [d1, d2, d3] => { results := [.lit (.bool false)], args := [d1, d2, d3] }
  | _ => none }
def LocalDoesWrongFalsely : Prop := localDoesRow.holds Try.pinned (OpenSpec.ofChange localDoesWrong)

/-- 'respitelaw07.LocalKeeps': WHATEVER THE INPUT: true; the input reads as it did. -/
def localKeepsSpec : ChangeSpec := { name := "localKeeps", fn := fun _ => fun
  | [d1, d2, d3] => { results := [.lit (.bool true)], args := [d1, d2, d3] }
  | _ => none }
def localKeepsRow : OpenClaim := { program := "ytgjdbpleoegejaa", sum := "0cef3a75336f70ca59d1446fb3d59a2562335e42bb22b3de01a01ca4516a1e26", func := "respite/respitelaw07.LocalKeeps", spec := "localKeeps", unfollowed := true, recurses := true, apart := false }
def LocalKeepsSaid : Prop := localKeepsRow.holds Try.pinned (OpenSpec.ofChange localKeepsSpec)

/-- ITS FALSE NEIGHBOUR: 'it returns false'. Refute it at one input. -/
def localKeepsWrong : ChangeSpec := { name := "localKeeps", fn := fun _ => fun
  | [d1, d2, d3] => { results := [.lit (.bool false)], args := [d1, d2, d3] }
  | _ => none }
def LocalKeepsWrongFalsely : Prop := localKeepsRow.holds Try.pinned (OpenSpec.ofChange localKeepsWrong)

/-- 'respitelaw07.LocalSums': WHATEVER THE INPUT: true; the input reads as it did. -/
def localSumsSpec : ChangeSpec := { name := "localSums", fn := fun _ => fun
  | [d1, d2, d3] => { results := [.lit (.bool true)], args := [d1, d2, d3] }
  | _ => none }
def localSumsRow : OpenClaim := { program := "ytgjdbpleoegejaa", sum := "0cef3a75336f70ca59d1446fb3d59a2562335e42bb22b3de01a01ca4516a1e26", func := "respite/respitelaw07.LocalSums", spec := "localSums", unfollowed := true, recurses := true, apart := false }
def LocalSumsSaid : Prop := localSumsRow.holds Try.pinned (OpenSpec.ofChange localSumsSpec)

/-- ITS FALSE NEIGHBOUR: 'it returns false'. Refute it at one input. -/
def localSumsWrong : ChangeSpec := { name := "localSums", fn := fun _ => fun
  | [d1, d2, d3] => { results := [.lit (.bool false)], args := [d1, d2, d3] }
  | _ => none }
def LocalSumsWrongFalsely : Prop := localSumsRow.holds Try.pinned (OpenSpec.ofChange localSumsWrong)

/-- 'respitelaw07.LocalRuns': WHATEVER THE INPUT: true; the input reads as it did. -/
def localRunsSpec : ChangeSpec := { name := "localRuns", fn := fun _ => fun
  | [d1, d2, d3, d4] => { results := [.lit (.bool true)], args := [d1, d2, d3, d4] }
  | _ => none }
def localRunsRow : OpenClaim := { program := "ytgjdbpleoegejaa", sum := "0cef3a75336f70ca59d1446fb3d59a2562335e42bb22b3de01a01ca4516a1e26", func := "respite/respitelaw07.LocalRuns", spec := "localRuns", unfollowed := true, recurses := true, apart := false }
def LocalRunsSaid : Prop := localRunsRow.holds Try.pinned (OpenSpec.ofChange localRunsSpec)

/-- ITS FALSE NEIGHBOUR: 'it returns false'. Refute it at one input. -/
def localRunsWrong : ChangeSpec := { name := "localRuns", fn := fun _ => fun
  | [d1, d2, d3, d4] => { results := [.lit (.bool false)], args := [d1, d2, d3, d4] }
  | _ => none }
def LocalRunsWrongFalsely : Prop := localRunsRow.holds Try.pinned (OpenSpec.ofChange localRunsWrong)

/-- 'respitelaw07.LocalParts': WHATEVER THE INPUT: true; the input reads as it did. -/
def localPartsSpec : ChangeSpec := { name := "localParts", fn := fun _ => fun
  | [d1, d2, d3, d4, d5] => { results := [.lit (.bool true)], args := [d1, d2, d3, d4, d5] }
  | _ => none }
def localPartsRow : OpenClaim := { program := "ytgjdbpleoegejaa", sum := "0cef3a75336f70ca59d1446fb3d59a2562335e42bb22b3de01a01ca4516a1e26", func := "respite/respitelaw07.LocalParts", spec := "localParts", unfollowed := true, recurses := true, apart := false }
def LocalPartsSaid : Prop := localPartsRow.holds Try.pinned (OpenSpec.ofChange localPartsSpec)

/-- ITS FALSE NEIGHBOUR: 'it returns false'. Refute it at one input. -/
def localPartsWrong : ChangeSpec := { name := "localParts", fn := fun _ => fun
  | [d1, d2, d3, d4, d5] => { results := [.lit (.bool false)], args := [d1, d2, d3, d4, d5] }
  | _ => none }
def LocalPartsWrongFalsely : Prop := localPartsRow.holds Try.pinned (OpenSpec.ofChange localPartsWrong)

/- THE SECOND FORM. 'bulk': how many values and letters a reading holds, each counted each time it is reached (what is shared counts as often as it is met; a slice's spare places count too). A statement '..UptoSaid' is the law's where the arguments, and the package variables that the reading takes, are together of bulk at most 1048576: NARROWER than '..Said'. Prove '..Said' where nothing that the law and all that it calls make is longer than what came in: it says more and counts as full. Else prove '..UptoSaid'. A law counts once. -/
mutual
def uptoBulk {H : Type} : DataW H → Nat
  | .lit (.string bytes) => bytes.length + 1
  | .lit _ => 1
  | .nil => 1
  | .ptr d => uptoBulk d + 1
  | .slice elems spare => uptoBulkAll elems + uptoBulkAll spare + 1
  | .agg parts => uptoBulkAll parts + 1
  | .iface _ d => uptoBulk d + 1
  | .map entries => uptoBulkEntries entries + 1
  | .held _ => 1
def uptoBulkAll {H : Type} : List (DataW H) → Nat
  | [] => 0
  | d :: r => uptoBulk d + uptoBulkAll r
def uptoBulkEntries {H : Type} : List (Lit × DataW H) → Nat
  | [] => 0
  | x :: r => uptoBulkEntry x + uptoBulkEntries r
def uptoBulkEntry {H : Type} : Lit × DataW H → Nat
  | (.string bytes, d) => bytes.length + uptoBulk d + 1
  | (_, d) => uptoBulk d + 1
 end
def uptoSmall : (H : Type) → List (DataW H) → Bool := fun _ ds => decide (uptoBulkAll ds ≤ 1048576)
def OpenSpec.upto (s : _root_.Go.ChangeSpec) : _root_.Go.OpenSpec := { _root_.Go.OpenSpec.ofChange s with cond := some uptoSmall }

/-- 'respitelaw06.FrameCalls', WHERE WHAT IT READS IS OF BULK AT MOST 1048576: true; the input reads as it did. -/
def frameCallsUptoRow : OpenClaim := { program := "ytgjdbpleoegejaa", sum := "0cef3a75336f70ca59d1446fb3d59a2562335e42bb22b3de01a01ca4516a1e26", func := "respite/respitelaw06.FrameCalls", spec := "frameCalls", unfollowed := true, recurses := true, apart := false, narrowed := true }
def FrameCallsUptoSaid : Prop := frameCallsUptoRow.holds Try.pinned (OpenSpec.upto frameCallsSpec)

/-- 'respitelaw06.FrameBack', WHERE WHAT IT READS IS OF BULK AT MOST 1048576: true; the input reads as it did. -/
def frameBackUptoRow : OpenClaim := { program := "ytgjdbpleoegejaa", sum := "0cef3a75336f70ca59d1446fb3d59a2562335e42bb22b3de01a01ca4516a1e26", func := "respite/respitelaw06.FrameBack", spec := "frameBack", unfollowed := true, recurses := true, apart := false, narrowed := true }
def FrameBackUptoSaid : Prop := frameBackUptoRow.holds Try.pinned (OpenSpec.upto frameBackSpec)

/-- 'respitelaw06.FrameNests', WHERE WHAT IT READS IS OF BULK AT MOST 1048576: true; the input reads as it did. -/
def frameNestsUptoRow : OpenClaim := { program := "ytgjdbpleoegejaa", sum := "0cef3a75336f70ca59d1446fb3d59a2562335e42bb22b3de01a01ca4516a1e26", func := "respite/respitelaw06.FrameNests", spec := "frameNests", unfollowed := true, recurses := true, apart := false, narrowed := true }
def FrameNestsUptoSaid : Prop := frameNestsUptoRow.holds Try.pinned (OpenSpec.upto frameNestsSpec)

/-- 'respitelaw07.LocalDoes', WHERE WHAT IT READS IS OF BULK AT MOST 1048576: true; the input reads as it did. -/
def localDoesUptoRow : OpenClaim := { program := "ytgjdbpleoegejaa", sum := "0cef3a75336f70ca59d1446fb3d59a2562335e42bb22b3de01a01ca4516a1e26", func := "respite/respitelaw07.LocalDoes", spec := "localDoes", unfollowed := true, recurses := true, apart := false, narrowed := true }
def LocalDoesUptoSaid : Prop := localDoesUptoRow.holds Try.pinned (OpenSpec.upto localDoesSpec)

/-- 'respitelaw07.LocalKeeps', WHERE WHAT IT READS IS OF BULK AT MOST 1048576: true; the input reads as it did. -/
def localKeepsUptoRow : OpenClaim := { program := "ytgjdbpleoegejaa", sum := "0cef3a75336f70ca59d1446fb3d59a2562335e42bb22b3de01a01ca4516a1e26", func := "respite/respitelaw07.LocalKeeps", spec := "localKeeps", unfollowed := true, recurses := true, apart := false, narrowed := true }
def LocalKeepsUptoSaid : Prop := localKeepsUptoRow.holds Try.pinned (OpenSpec.upto localKeepsSpec)

/-- 'respitelaw07.LocalSums', WHERE WHAT IT READS IS OF BULK AT MOST 1048576: true; the input reads as it did. -/
def localSumsUptoRow : OpenClaim := { program := "ytgjdbpleoegejaa", sum := "0cef3a75336f70ca59d1446fb3d59a2562335e42bb22b3de01a01ca4516a1e26", func := "respite/respitelaw07.LocalSums", spec := "localSums", unfollowed := true, recurses := true, apart := false, narrowed := true }
def LocalSumsUptoSaid : Prop := localSumsUptoRow.holds Try.pinned (OpenSpec.upto localSumsSpec)

/-- 'respitelaw07.LocalRuns', WHERE WHAT IT READS IS OF BULK AT MOST 1048576: true; the input reads as it did. -/
def localRunsUptoRow : OpenClaim := { program := "ytgjdbpleoegejaa", sum := "0cef3a75336f70ca59d1446fb3d59a2562335e42bb22b3de01a01ca4516a1e26", func := "respite/respitelaw07.LocalRuns", spec := "localRuns", unfollowed := true, recurses := true, apart := false, narrowed := true }
def LocalRunsUptoSaid : Prop := localRunsUptoRow.holds Try.pinned (OpenSpec.upto localRunsSpec)

/-- 'respitelaw07.LocalParts', WHERE WHAT IT READS IS OF BULK AT MOST 1048576: true; the input reads as it did. -/
def localPartsUptoRow : OpenClaim := { program := "ytgjdbpleoegejaa", sum := "0cef3a75336f70ca59d1446fb3d59a2562335e42bb22b3de01a01ca4516a1e26", func := "respite/respitelaw07.LocalParts", spec := "localParts", unfollowed := true, recurses := true, apart := false, narrowed := true }
def LocalPartsUptoSaid : Prop := localPartsUptoRow.holds Try.pinned (OpenSpec.upto localPartsSpec)

end Rows
end Go.Proofs.Ytgjdbpleoegejaa
