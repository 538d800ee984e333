/-
  No cell of these rows narrows 'for every input' (looked for: loops, veiled, ifaces, maps, wideKeys, modest, calm, conditions, laid).
  DERIVED. THE GIVEN ROWS OF THIS SEAT. 15 by the template 'for every input the law returns true; each argument reads behind the call as it read before'; 0 by the template 'total and deterministic' (their statements: YtpcimaemigchiaaTotals.lean).
  GIVEN WITH THE SEED: the statements are not yours to turn. If you find one false, say at which input.
  Laid BY PROGRAM, IN A SANDBOX (cutbox-rows.mjs): the forced cells as the released guide's own fill.sh prints them over the translation 056a7a6b0b9a0db5… (all of the seat's roots in one cut). By AI agents, Wed Nov 11 2026. No macro, syntax, notation, axiom, sorry.
-/
import Derived.Test.YtpcimaemigchiaaChecked
import GoSem.Claim
import GoSem.ClaimJoined
import GoSem.ClaimMapViews
import Derived.JoinedTies
import Derived.KernelRfl
namespace Go.Proofs.Ytpcimaemigchiaa
/- THE CELL 'sum', in the pinned program and in every row, IS THE sha256 OF THE DUMP (.gsa) THAT YtpcimaemigchiaaProg.lean LOADS. Nothing in Lean hashes anything: it is a label: what it is worth is what the hold of that sum in a sandbox is worth. -/
noncomputable def Try.pinned : Pinned := { name := "ytpcimaemigchiaa", sum := "056a7a6b0b9a0db52284d3bd8eaed0059c9ac1e795d99d18da0cf667bd5bdb8c", checked := Try.checked }
namespace Rows
def none {H : Type} : Left H := { results := [], args := [] }

/-- 'respitelaw02.BufferTells': WHATEVER THE INPUT: true; the input reads as it did. -/
def bufferTellsSpec : ChangeSpec := { name := "bufferTells", fn := fun _ => fun
  | [d1, d2, d3, d4] => { results := [.lit (.bool true)], args := [d1, d2, d3, d4] }
  | _ => none }
def bufferTellsRow : OpenClaim := { program := "ytpcimaemigchiaa", sum := "056a7a6b0b9a0db52284d3bd8eaed0059c9ac1e795d99d18da0cf667bd5bdb8c", func := "respite/respitelaw02.BufferTells", spec := "bufferTells", unfollowed := true, recurses := true, apart := false }
def BufferTellsSaid : Prop := bufferTellsRow.holds Try.pinned (OpenSpec.ofChange bufferTellsSpec)

/-- ITS FALSE NEIGHBOUR: 'it returns false'. Refute it at one input. -/
def bufferTellsWrong : ChangeSpec := { name := "bufferTells", fn := fun _ => fun
  | [d1, d2, d3, d4] => { results := [.lit (.bool false)], args := [d1, d2, d3, d4] }
  | _ => none }
def BufferTellsWrongFalsely : Prop := bufferTellsRow.holds Try.pinned (OpenSpec.ofChange bufferTellsWrong)

/-- 'respitelaw02.BufferParts': WHATEVER THE INPUT: true; the input reads as it did. -/
def bufferPartsSpec : ChangeSpec := { name := "bufferParts", fn := fun _ => fun
  | [d1, d2] => { results := [.lit (.bool true)], args := [d1, d2] }
  | _ => none }
def bufferPartsRow : OpenClaim := { program := "ytpcimaemigchiaa", sum := "056a7a6b0b9a0db52284d3bd8eaed0059c9ac1e795d99d18da0cf667bd5bdb8c", func := "respite/respitelaw02.BufferParts", spec := "bufferParts", unfollowed := true, recurses := true, apart := false }
def BufferPartsSaid : Prop := bufferPartsRow.holds Try.pinned (OpenSpec.ofChange bufferPartsSpec)

/-- ITS FALSE NEIGHBOUR: 'it returns false'. Refute it at one input. -/
def bufferPartsWrong : ChangeSpec := { name := "bufferParts", fn := fun _ => fun
  | [d1, d2] => { results := [.lit (.bool false)], args := [d1, d2] }
  | _ => none }
def BufferPartsWrongFalsely : Prop := bufferPartsRow.holds Try.pinned (OpenSpec.ofChange bufferPartsWrong)

/-- 'respitelaw01.MemoryLoads': WHATEVER THE INPUT: true; the input reads as it did. -/
def memoryLoadsSpec : ChangeSpec := { name := "memoryLoads", fn := fun _ => fun
  | [d1, d2, d3, d4] => { results := [.lit (.bool true)], args := [d1, d2, d3, d4] }
  | _ => none }
def memoryLoadsRow : OpenClaim := { program := "ytpcimaemigchiaa", sum := "056a7a6b0b9a0db52284d3bd8eaed0059c9ac1e795d99d18da0cf667bd5bdb8c", func := "respite/respitelaw01.MemoryLoads", spec := "memoryLoads", apart := false }
def MemoryLoadsSaid : Prop := memoryLoadsRow.holds Try.pinned (OpenSpec.ofChange memoryLoadsSpec)

/-- ITS FALSE NEIGHBOUR: 'it returns false'. Refute it at one input. -/
def memoryLoadsWrong : ChangeSpec := { name := "memoryLoads", fn := fun _ => fun
  | [d1, d2, d3, d4] => { results := [.lit (.bool false)], args := [d1, d2, d3, d4] }
  | _ => none }
def MemoryLoadsWrongFalsely : Prop := memoryLoadsRow.holds Try.pinned (OpenSpec.ofChange memoryLoadsWrong)

/-- 'respitelaw01.MemoryMarks': WHATEVER THE INPUT: true; the input reads as it did. -/
def memoryMarksSpec : ChangeSpec := { name := "memoryMarks", fn := fun _ => fun
  | [d1, d2, d3, d4, d5] => { results := [.lit (.bool true)], args := [d1, d2, d3, d4, d5] }
  | _ => none }
def memoryMarksRow : OpenClaim := { program := "ytpcimaemigchiaa", sum := "056a7a6b0b9a0db52284d3bd8eaed0059c9ac1e795d99d18da0cf667bd5bdb8c", func := "respite/respitelaw01.MemoryMarks", spec := "memoryMarks", apart := false }
def MemoryMarksSaid : Prop := memoryMarksRow.holds Try.pinned (OpenSpec.ofChange memoryMarksSpec)

/-- ITS FALSE NEIGHBOUR: 'it returns false'. Refute it at one input. -/
def memoryMarksWrong : ChangeSpec := { name := "memoryMarks", fn := fun _ => fun
  | [d1, d2, d3, d4, d5] => { results := [.lit (.bool false)], args := [d1, d2, d3, d4, d5] }
  | _ => none }
def MemoryMarksWrongFalsely : Prop := memoryMarksRow.holds Try.pinned (OpenSpec.ofChange memoryMarksWrong)

/-- 'respitelaw01.MemoryHolds': WHATEVER THE INPUT: true; the input reads as it did. -/
def memoryHoldsSpec : ChangeSpec := { name := "memoryHolds", fn := fun _ => fun
  | [d1, d2, d3, d4, d5] => { results := [.lit (.bool true)], args := [d1, d2, d3, d4, d5] }
  | _ => none }
def memoryHoldsRow : OpenClaim := { program := "ytpcimaemigchiaa", sum := "056a7a6b0b9a0db52284d3bd8eaed0059c9ac1e795d99d18da0cf667bd5bdb8c", func := "respite/respitelaw01.MemoryHolds", spec := "memoryHolds", apart := false }
def MemoryHoldsSaid : Prop := memoryHoldsRow.holds Try.pinned (OpenSpec.ofChange memoryHoldsSpec)

/-- ITS FALSE NEIGHBOUR: 'it returns false'. Refute it at one input. -/
def memoryHoldsWrong : ChangeSpec := { name := "memoryHolds", fn := fun _ => fun
  | [d1, d2, d3, d4, d5] => { results := [.lit (.bool false)], args := [d1, d2, d3, d4, d5] }
  | _ => none }
def MemoryHoldsWrongFalsely : Prop := memoryHoldsRow.holds Try.pinned (OpenSpec.ofChange memoryHoldsWrong)

/-- 'respitelaw01.MemoryMakes': WHATEVER THE INPUT: true; the input reads as it did. -/
def memoryMakesSpec : ChangeSpec := { name := "memoryMakes", fn := fun _ => fun
  | [d1, d2, d3] => { results := [.lit (.bool true)], args := [d1, d2, d3] }
  | _ => none }
def memoryMakesRow : OpenClaim := { program := "ytpcimaemigchiaa", sum := "056a7a6b0b9a0db52284d3bd8eaed0059c9ac1e795d99d18da0cf667bd5bdb8c", func := "respite/respitelaw01.MemoryMakes", spec := "memoryMakes", apart := false }
def MemoryMakesSaid : Prop := memoryMakesRow.holds Try.pinned (OpenSpec.ofChange memoryMakesSpec)

/-- ITS FALSE NEIGHBOUR: 'it returns false'. Refute it at one input. -/
def memoryMakesWrong : ChangeSpec := { name := "memoryMakes", fn := fun _ => fun
  | [d1, d2, d3] => { results := [.lit (.bool false)], args := [d1, d2, d3] }
  | _ => none }
def MemoryMakesWrongFalsely : Prop := memoryMakesRow.holds Try.pinned (OpenSpec.ofChange memoryMakesWrong)

/-- 'respitelaw01.MemoryCycles': WHATEVER THE INPUT: true; the input reads as it did. -/
def memoryCyclesSpec : ChangeSpec := { name := "memoryCycles", fn := fun _ => fun
  | [d1, d2, d3, d4, d5] => { results := [.lit (.bool true)], args := [d1, d2, d3, d4, d5] }
  | _ => none }
def memoryCyclesRow : OpenClaim := { program := "ytpcimaemigchiaa", sum := "056a7a6b0b9a0db52284d3bd8eaed0059c9ac1e795d99d18da0cf667bd5bdb8c", func := "respite/respitelaw01.MemoryCycles", spec := "memoryCycles", apart := false }
def MemoryCyclesSaid : Prop := memoryCyclesRow.holds Try.pinned (OpenSpec.ofChange memoryCyclesSpec)

/-- ITS FALSE NEIGHBOUR: 'it returns false'. Refute it at one input. -/
def memoryCyclesWrong : ChangeSpec := { name := "memoryCycles", fn := fun _ => fun
  | [d1, d2, d3, d4, d5] => { results := [.lit (.bool false)], args := [d1, d2, d3, d4, d5] }
  | _ => none }
def MemoryCyclesWrongFalsely : Prop := memoryCyclesRow.holds Try.pinned (OpenSpec.ofChange memoryCyclesWrong)

/-- 'respitelaw02.BufferFolds': WHATEVER THE INPUT: true; the input reads as it did. -/
def bufferFoldsSpec : ChangeSpec := { name := "bufferFolds", fn := fun _ => fun
  | [d1, d2, d3] => { results := [.lit (.bool true)], args := [d1, d2, d3] }
  | _ => none }
def bufferFoldsRow : OpenClaim := { program := "ytpcimaemigchiaa", sum := "056a7a6b0b9a0db52284d3bd8eaed0059c9ac1e795d99d18da0cf667bd5bdb8c", func := "respite/respitelaw02.BufferFolds", spec := "bufferFolds", unfollowed := true, recurses := true, apart := false }
def BufferFoldsSaid : Prop := bufferFoldsRow.holds Try.pinned (OpenSpec.ofChange bufferFoldsSpec)

/-- ITS FALSE NEIGHBOUR: 'it returns false'. Refute it at one input. -/
def bufferFoldsWrong : ChangeSpec := { name := "bufferFolds", fn := fun _ => fun
  | [d1, d2, d3] => { results := [.lit (.bool false)], args := [d1, d2, d3] }
  | _ => none }
def BufferFoldsWrongFalsely : Prop := bufferFoldsRow.holds Try.pinned (OpenSpec.ofChange bufferFoldsWrong)

/-- 'respitelaw02.BufferView': WHATEVER THE INPUT: true; the input reads as it did. -/
def bufferViewSpec : ChangeSpec := { name := "bufferView", fn := fun _ => fun
  | [d1, d2, d3, d4] => { results := [.lit (.bool true)], args := [d1, d2, d3, d4] }
  | _ => none }
def bufferViewRow : OpenClaim := { program := "ytpcimaemigchiaa", sum := "056a7a6b0b9a0db52284d3bd8eaed0059c9ac1e795d99d18da0cf667bd5bdb8c", func := "respite/respitelaw02.BufferView", spec := "bufferView", unfollowed := true, recurses := true, apart := false }
def BufferViewSaid : Prop := bufferViewRow.holds Try.pinned (OpenSpec.ofChange bufferViewSpec)

/-- ITS FALSE NEIGHBOUR: 'it returns false'. Refute it at one input. -/
def bufferViewWrong : ChangeSpec := { name := "bufferView", fn := fun _ => fun
  | [d1, d2, d3, d4] => { results := [.lit (.bool false)], args := [d1, d2, d3, d4] }
  | _ => none }
def BufferViewWrongFalsely : Prop := bufferViewRow.holds Try.pinned (OpenSpec.ofChange bufferViewWrong)

/-- 'respitelaw02.BufferDrains': WHATEVER THE INPUT: true; the input reads as it did. -/
def bufferDrainsSpec : ChangeSpec := { name := "bufferDrains", fn := fun _ => fun
  | [d1, d2, d3, d4] => { results := [.lit (.bool true)], args := [d1, d2, d3, d4] }
  | _ => none }
def bufferDrainsRow : OpenClaim := { program := "ytpcimaemigchiaa", sum := "056a7a6b0b9a0db52284d3bd8eaed0059c9ac1e795d99d18da0cf667bd5bdb8c", func := "respite/respitelaw02.BufferDrains", spec := "bufferDrains", unfollowed := true, recurses := true, apart := false }
def BufferDrainsSaid : Prop := bufferDrainsRow.holds Try.pinned (OpenSpec.ofChange bufferDrainsSpec)

/-- ITS FALSE NEIGHBOUR: 'it returns false'. Refute it at one input. -/
def bufferDrainsWrong : ChangeSpec := { name := "bufferDrains", fn := fun _ => fun
  | [d1, d2, d3, d4] => { results := [.lit (.bool false)], args := [d1, d2, d3, d4] }
  | _ => none }
def BufferDrainsWrongFalsely : Prop := bufferDrainsRow.holds Try.pinned (OpenSpec.ofChange bufferDrainsWrong)

/-- 'respitelaw03.TsoMakes': WHATEVER THE INPUT: true; the input reads as it did. -/
def tsoMakesSpec : ChangeSpec := { name := "tsoMakes", fn := fun _ => fun
  | [d1, d2, d3, d4, d5] => { results := [.lit (.bool true)], args := [d1, d2, d3, d4, d5] }
  | _ => none }
def tsoMakesRow : OpenClaim := { program := "ytpcimaemigchiaa", sum := "056a7a6b0b9a0db52284d3bd8eaed0059c9ac1e795d99d18da0cf667bd5bdb8c", func := "respite/respitelaw03.TsoMakes", spec := "tsoMakes", unfollowed := true, recurses := true, apart := false }
def TsoMakesSaid : Prop := tsoMakesRow.holds Try.pinned (OpenSpec.ofChange tsoMakesSpec)

/-- ITS FALSE NEIGHBOUR: 'it returns false'. Refute it at one input. -/
def tsoMakesWrong : ChangeSpec := { name := "tsoMakes", fn := fun _ => fun
  | [d1, d2, d3, d4, d5] => { results := [.lit (.bool false)], args := [d1, d2, d3, d4, d5] }
  | _ => none }
def TsoMakesWrongFalsely : Prop := tsoMakesRow.holds Try.pinned (OpenSpec.ofChange tsoMakesWrong)

/-- 'respitelaw03.TsoOwn': WHATEVER THE INPUT: true; the input reads as it did. -/
def tsoOwnSpec : ChangeSpec := { name := "tsoOwn", fn := fun _ => fun
  | [d1, d2, d3, d4, d5, d6, d7, d8, d9] => { results := [.lit (.bool true)], args := [d1, d2, d3, d4, d5, d6, d7, d8, d9] }
  | _ => none }
def tsoOwnRow : OpenClaim := { program := "ytpcimaemigchiaa", sum := "056a7a6b0b9a0db52284d3bd8eaed0059c9ac1e795d99d18da0cf667bd5bdb8c", func := "respite/respitelaw03.TsoOwn", spec := "tsoOwn", unfollowed := true, recurses := true, apart := false }
def TsoOwnSaid : Prop := tsoOwnRow.holds Try.pinned (OpenSpec.ofChange tsoOwnSpec)

/-- ITS FALSE NEIGHBOUR: 'it returns false'. Refute it at one input. -/
def tsoOwnWrong : ChangeSpec := { name := "tsoOwn", fn := fun _ => fun
  | [d1, d2, d3, d4, d5, d6, d7, d8, d9] => { results := [.lit (.bool false)], args := [d1, d2, d3, d4, d5, d6, d7, d8, d9] }
  | _ => none }
def TsoOwnWrongFalsely : Prop := tsoOwnRow.holds Try.pinned (OpenSpec.ofChange tsoOwnWrong)

/-- 'respitelaw03.TsoMoves': WHATEVER THE INPUT: true; the input reads as it did. -/
def tsoMovesSpec : ChangeSpec := { name := "tsoMoves", fn := fun _ => fun
  | [d1, d2, d3, d4, d5, d6, d7] => { results := [.lit (.bool true)], args := [d1, d2, d3, d4, d5, d6, d7] }
  | _ => none }
def tsoMovesRow : OpenClaim := { program := "ytpcimaemigchiaa", sum := "056a7a6b0b9a0db52284d3bd8eaed0059c9ac1e795d99d18da0cf667bd5bdb8c", func := "respite/respitelaw03.TsoMoves", spec := "tsoMoves", unfollowed := true, recurses := true, apart := false }
def TsoMovesSaid : Prop := tsoMovesRow.holds Try.pinned (OpenSpec.ofChange tsoMovesSpec)

/-- ITS FALSE NEIGHBOUR: 'it returns false'. Refute it at one input. -/
def tsoMovesWrong : ChangeSpec := { name := "tsoMoves", fn := fun _ => fun
  | [d1, d2, d3, d4, d5, d6, d7] => { results := [.lit (.bool false)], args := [d1, d2, d3, d4, d5, d6, d7] }
  | _ => none }
def TsoMovesWrongFalsely : Prop := tsoMovesRow.holds Try.pinned (OpenSpec.ofChange tsoMovesWrong)

/-- 'respitelaw03.TsoLocks': WHATEVER THE INPUT: true; the input reads as it did. -/
def tsoLocksSpec : ChangeSpec := { name := "tsoLocks", fn := fun _ => fun
  | [d1, d2, d3, d4, d5, d6, d7, d8, d9] => { results := [.lit (.bool true)], args := [d1, d2, d3, d4, d5, d6, d7, d8, d9] }
  | _ => none }
def tsoLocksRow : OpenClaim := { program := "ytpcimaemigchiaa", sum := "056a7a6b0b9a0db52284d3bd8eaed0059c9ac1e795d99d18da0cf667bd5bdb8c", func := "respite/respitelaw03.TsoLocks", spec := "tsoLocks", unfollowed := true, recurses := true, apart := false }
def TsoLocksSaid : Prop := tsoLocksRow.holds Try.pinned (OpenSpec.ofChange tsoLocksSpec)

/-- ITS FALSE NEIGHBOUR: 'it returns false'. Refute it at one input. -/
def tsoLocksWrong : ChangeSpec := { name := "tsoLocks", fn := fun _ => fun
  | [d1, d2, d3, d4, d5, d6, d7, d8, d9] => { results := [.lit (.bool false)], args := [d1, d2, d3, d4, d5, d6, d7, d8, d9] }
  | _ => none }
def TsoLocksWrongFalsely : Prop := tsoLocksRow.holds Try.pinned (OpenSpec.ofChange tsoLocksWrong)

/-- 'respitelaw03.TsoAtoms': WHATEVER THE INPUT: true; the input reads as it did. -/
def tsoAtomsSpec : ChangeSpec := { name := "tsoAtoms", fn := fun _ => fun
  | [d1, d2, d3, d4, d5, d6, d7, d8] => { results := [.lit (.bool true)], args := [d1, d2, d3, d4, d5, d6, d7, d8] }
  | _ => none }
def tsoAtomsRow : OpenClaim := { program := "ytpcimaemigchiaa", sum := "056a7a6b0b9a0db52284d3bd8eaed0059c9ac1e795d99d18da0cf667bd5bdb8c", func := "respite/respitelaw03.TsoAtoms", spec := "tsoAtoms", unfollowed := true, recurses := true, apart := false }
def TsoAtomsSaid : Prop := tsoAtomsRow.holds Try.pinned (OpenSpec.ofChange tsoAtomsSpec)

/-- ITS FALSE NEIGHBOUR: 'it returns false'. Refute it at one input. -/
def tsoAtomsWrong : ChangeSpec := { name := "tsoAtoms", fn := fun _ => fun
  | [d1, d2, d3, d4, d5, d6, d7, d8] => { results := [.lit (.bool false)], args := [d1, d2, d3, d4, d5, d6, d7, d8] }
  | _ => none }
def TsoAtomsWrongFalsely : Prop := tsoAtomsRow.holds Try.pinned (OpenSpec.ofChange tsoAtomsWrong)

/- THE SECOND FORM. 'bulk': how many values and letters a reading holds, each counted each time it is reached (what is shared counts as often as it is met; a slice's spare places count too). A statement '..UptoSaid' is the law's where the arguments, and the package variables that the reading takes, are together of bulk at most 1048576: NARROWER than '..Said'. Prove '..Said' where nothing that the law and all that it calls make is longer than what came in: it says more and counts as full. Else prove '..UptoSaid'. A law counts once. -/
mutual
def uptoBulk {H : Type} : DataW H → Nat
  | .lit (.string bytes) => bytes.length + 1
  | .lit _ => 1
  | .nil => 1
  | .ptr d => uptoBulk d + 1
  | .slice elems spare => uptoBulkAll elems + uptoBulkAll spare + 1
  | .agg parts => uptoBulkAll parts + 1
  | .iface _ d => uptoBulk d + 1
  | .map entries => uptoBulkEntries entries + 1
  | .held _ => 1
def uptoBulkAll {H : Type} : List (DataW H) → Nat
  | [] => 0
  | d :: r => uptoBulk d + uptoBulkAll r
def uptoBulkEntries {H : Type} : List (Lit × DataW H) → Nat
  | [] => 0
  | x :: r => uptoBulkEntry x + uptoBulkEntries r
def uptoBulkEntry {H : Type} : Lit × DataW H → Nat
  | (.string bytes, d) => bytes.length + uptoBulk d + 1
  | (_, d) => uptoBulk d + 1
 end
def uptoSmall : (H : Type) → List (DataW H) → Bool := fun _ ds => decide (uptoBulkAll ds ≤ 1048576)
def OpenSpec.upto (s : _root_.Go.ChangeSpec) : _root_.Go.OpenSpec := { _root_.Go.OpenSpec.ofChange s with cond := some uptoSmall }

/-- 'respitelaw02.BufferTells', WHERE WHAT IT READS IS OF BULK AT MOST 1048576: true; the input reads as it did. -/
def bufferTellsUptoRow : OpenClaim := { program := "ytpcimaemigchiaa", sum := "056a7a6b0b9a0db52284d3bd8eaed0059c9ac1e795d99d18da0cf667bd5bdb8c", func := "respite/respitelaw02.BufferTells", spec := "bufferTells", unfollowed := true, recurses := true, apart := false, narrowed := true }
def BufferTellsUptoSaid : Prop := bufferTellsUptoRow.holds Try.pinned (OpenSpec.upto bufferTellsSpec)

/-- 'respitelaw02.BufferParts', WHERE WHAT IT READS IS OF BULK AT MOST 1048576: true; the input reads as it did. -/
def bufferPartsUptoRow : OpenClaim := { program := "ytpcimaemigchiaa", sum := "056a7a6b0b9a0db52284d3bd8eaed0059c9ac1e795d99d18da0cf667bd5bdb8c", func := "respite/respitelaw02.BufferParts", spec := "bufferParts", unfollowed := true, recurses := true, apart := false, narrowed := true }
def BufferPartsUptoSaid : Prop := bufferPartsUptoRow.holds Try.pinned (OpenSpec.upto bufferPartsSpec)

/-- 'respitelaw01.MemoryLoads', WHERE WHAT IT READS IS OF BULK AT MOST 1048576: true; the input reads as it did. -/
def memoryLoadsUptoRow : OpenClaim := { program := "ytpcimaemigchiaa", sum := "056a7a6b0b9a0db52284d3bd8eaed0059c9ac1e795d99d18da0cf667bd5bdb8c", func := "respite/respitelaw01.MemoryLoads", spec := "memoryLoads", apart := false, narrowed := true }
def MemoryLoadsUptoSaid : Prop := memoryLoadsUptoRow.holds Try.pinned (OpenSpec.upto memoryLoadsSpec)

/-- 'respitelaw01.MemoryMarks', WHERE WHAT IT READS IS OF BULK AT MOST 1048576: true; the input reads as it did. -/
def memoryMarksUptoRow : OpenClaim := { program := "ytpcimaemigchiaa", sum := "056a7a6b0b9a0db52284d3bd8eaed0059c9ac1e795d99d18da0cf667bd5bdb8c", func := "respite/respitelaw01.MemoryMarks", spec := "memoryMarks", apart := false, narrowed := true }
def MemoryMarksUptoSaid : Prop := memoryMarksUptoRow.holds Try.pinned (OpenSpec.upto memoryMarksSpec)

/-- 'respitelaw01.MemoryHolds', WHERE WHAT IT READS IS OF BULK AT MOST 1048576: true; the input reads as it did. -/
def memoryHoldsUptoRow : OpenClaim := { program := "ytpcimaemigchiaa", sum := "056a7a6b0b9a0db52284d3bd8eaed0059c9ac1e795d99d18da0cf667bd5bdb8c", func := "respite/respitelaw01.MemoryHolds", spec := "memoryHolds", apart := false, narrowed := true }
def MemoryHoldsUptoSaid : Prop := memoryHoldsUptoRow.holds Try.pinned (OpenSpec.upto memoryHoldsSpec)

/-- 'respitelaw01.MemoryMakes', WHERE WHAT IT READS IS OF BULK AT MOST 1048576: true; the input reads as it did. -/
def memoryMakesUptoRow : OpenClaim := { program := "ytpcimaemigchiaa", sum := "056a7a6b0b9a0db52284d3bd8eaed0059c9ac1e795d99d18da0cf667bd5bdb8c", func := "respite/respitelaw01.MemoryMakes", spec := "memoryMakes", apart := false, narrowed := true }
def MemoryMakesUptoSaid : Prop := memoryMakesUptoRow.holds Try.pinned (OpenSpec.upto memoryMakesSpec)

/-- 'respitelaw01.MemoryCycles', WHERE WHAT IT READS IS OF BULK AT MOST 1048576: true; the input reads as it did. -/
def memoryCyclesUptoRow : OpenClaim := { program := "ytpcimaemigchiaa", sum := "056a7a6b0b9a0db52284d3bd8eaed0059c9ac1e795d99d18da0cf667bd5bdb8c", func := "respite/respitelaw01.MemoryCycles", spec := "memoryCycles", apart := false, narrowed := true }
def MemoryCyclesUptoSaid : Prop := memoryCyclesUptoRow.holds Try.pinned (OpenSpec.upto memoryCyclesSpec)

/-- 'respitelaw02.BufferFolds', WHERE WHAT IT READS IS OF BULK AT MOST 1048576: true; the input reads as it did. -/
def bufferFoldsUptoRow : OpenClaim := { program := "ytpcimaemigchiaa", sum := "056a7a6b0b9a0db52284d3bd8eaed0059c9ac1e795d99d18da0cf667bd5bdb8c", func := "respite/respitelaw02.BufferFolds", spec := "bufferFolds", unfollowed := true, recurses := true, apart := false, narrowed := true }
def BufferFoldsUptoSaid : Prop := bufferFoldsUptoRow.holds Try.pinned (OpenSpec.upto bufferFoldsSpec)

/-- 'respitelaw02.BufferView', WHERE WHAT IT READS IS OF BULK AT MOST 1048576: true; the input reads as it did. -/
def bufferViewUptoRow : OpenClaim := { program := "ytpcimaemigchiaa", sum := "056a7a6b0b9a0db52284d3bd8eaed0059c9ac1e795d99d18da0cf667bd5bdb8c", func := "respite/respitelaw02.BufferView", spec := "bufferView", unfollowed := true, recurses := true, apart := false, narrowed := true }
def BufferViewUptoSaid : Prop := bufferViewUptoRow.holds Try.pinned (OpenSpec.upto bufferViewSpec)

/-- 'respitelaw02.BufferDrains', WHERE WHAT IT READS IS OF BULK AT MOST 1048576: true; the input reads as it did. -/
def bufferDrainsUptoRow : OpenClaim := { program := "ytpcimaemigchiaa", sum := "056a7a6b0b9a0db52284d3bd8eaed0059c9ac1e795d99d18da0cf667bd5bdb8c", func := "respite/respitelaw02.BufferDrains", spec := "bufferDrains", unfollowed := true, recurses := true, apart := false, narrowed := true }
def BufferDrainsUptoSaid : Prop := bufferDrainsUptoRow.holds Try.pinned (OpenSpec.upto bufferDrainsSpec)

/-- 'respitelaw03.TsoMakes', WHERE WHAT IT READS IS OF BULK AT MOST 1048576: true; the input reads as it did. -/
def tsoMakesUptoRow : OpenClaim := { program := "ytpcimaemigchiaa", sum := "056a7a6b0b9a0db52284d3bd8eaed0059c9ac1e795d99d18da0cf667bd5bdb8c", func := "respite/respitelaw03.TsoMakes", spec := "tsoMakes", unfollowed := true, recurses := true, apart := false, narrowed := true }
def TsoMakesUptoSaid : Prop := tsoMakesUptoRow.holds Try.pinned (OpenSpec.upto tsoMakesSpec)

/-- 'respitelaw03.TsoOwn', WHERE WHAT IT READS IS OF BULK AT MOST 1048576: true; the input reads as it did. -/
def tsoOwnUptoRow : OpenClaim := { program := "ytpcimaemigchiaa", sum := "056a7a6b0b9a0db52284d3bd8eaed0059c9ac1e795d99d18da0cf667bd5bdb8c", func := "respite/respitelaw03.TsoOwn", spec := "tsoOwn", unfollowed := true, recurses := true, apart := false, narrowed := true }
def TsoOwnUptoSaid : Prop := tsoOwnUptoRow.holds Try.pinned (OpenSpec.upto tsoOwnSpec)

/-- 'respitelaw03.TsoMoves', WHERE WHAT IT READS IS OF BULK AT MOST 1048576: true; the input reads as it did. -/
def tsoMovesUptoRow : OpenClaim := { program := "ytpcimaemigchiaa", sum := "056a7a6b0b9a0db52284d3bd8eaed0059c9ac1e795d99d18da0cf667bd5bdb8c", func := "respite/respitelaw03.TsoMoves", spec := "tsoMoves", unfollowed := true, recurses := true, apart := false, narrowed := true }
def TsoMovesUptoSaid : Prop := tsoMovesUptoRow.holds Try.pinned (OpenSpec.upto tsoMovesSpec)

/-- 'respitelaw03.TsoLocks', WHERE WHAT IT READS IS OF BULK AT MOST 1048576: true; the input reads as it did. -/
def tsoLocksUptoRow : OpenClaim := { program := "ytpcimaemigchiaa", sum := "056a7a6b0b9a0db52284d3bd8eaed0059c9ac1e795d99d18da0cf667bd5bdb8c", func := "respite/respitelaw03.TsoLocks", spec := "tsoLocks", unfollowed := true, recurses := true, apart := false, narrowed := true }
def TsoLocksUptoSaid : Prop := tsoLocksUptoRow.holds Try.pinned (OpenSpec.upto tsoLocksSpec)

/-- 'respitelaw03.TsoAtoms', WHERE WHAT IT READS IS OF BULK AT MOST 1048576: true; the input reads as it did. -/
def tsoAtomsUptoRow : OpenClaim := { program := "ytpcimaemigchiaa", sum := "056a7a6b0b9a0db52284d3bd8eaed0059c9ac1e795d99d18da0cf667bd5bdb8c", func := "respite/respitelaw03.TsoAtoms", spec := "tsoAtoms", unfollowed := true, recurses := true, apart := false, narrowed := true }
def TsoAtomsUptoSaid : Prop := tsoAtomsUptoRow.holds Try.pinned (OpenSpec.upto tsoAtomsSpec)

end Rows
end Go.Proofs.Ytpcimaemigchiaa
