/-
  No cell of these rows narrows 'for every input' (looked for: loops, veiled, ifaces, maps, wideKeys, modest, calm, conditions, laid).
  DERIVED. THE GIVEN ROWS OF THIS SEAT. 8 by the template 'for every input the law returns true; each argument reads behind the call as it read before'; 0 by the template 'total and deterministic' (their statements: YtmjogckeaaaicaaTotals.lean).
  GIVEN WITH THE SEED: the statements are not yours to turn. If you find one false, say at which input.
  Laid BY PROGRAM, IN A SANDBOX (cutbox-rows.mjs): the forced cells as the released guide's own fill.sh prints them over the translation f6afc116a9e6af6d… (all of the seat's roots in one cut). By AI agents, Wed Nov 11 2026. No macro, syntax, notation, axiom, sorry.
-/
import Derived.Test.YtmjogckeaaaicaaChecked
import GoSem.Claim
import GoSem.ClaimJoined
import GoSem.ClaimMapViews
import Derived.JoinedTies
import Derived.KernelRfl
namespace Go.Proofs.Ytmjogckeaaaicaa
/- THE CELL 'sum', in the pinned program and in every row, IS THE sha256 OF THE DUMP (.gsa) THAT YtmjogckeaaaicaaProg.lean LOADS. Nothing in Lean hashes anything: it is a label: what it is worth is what the hold of that sum in a sandbox is worth. -/
noncomputable def Try.pinned : Pinned := { name := "ytmjogckeaaaicaa", sum := "f6afc116a9e6af6d7264d4d03404c482962a80bda1ae843be7f7451aae4e57c2", checked := Try.checked }
namespace Rows
def none {H : Type} : Left H := { results := [], args := [] }

/-- 'respitelaw10.WeighFair': WHATEVER THE INPUT: true; the input reads as it did. -/
def weighFairSpec : ChangeSpec := { name := "weighFair", fn := fun _ => fun
  | [d1, d2] => { results := [.lit (.bool true)], args := [d1, d2] }
  | _ => none }
def weighFairRow : OpenClaim := { program := "ytmjogckeaaaicaa", sum := "f6afc116a9e6af6d7264d4d03404c482962a80bda1ae843be7f7451aae4e57c2", func := "respite/respitelaw10.WeighFair", spec := "weighFair", inPlace := ["math.Float64bits"], unfollowed := true, recurses := true, apart := false }
def WeighFairSaid : Prop := weighFairRow.holds Try.pinned (OpenSpec.ofChange weighFairSpec)

/-- ITS FALSE NEIGHBOUR: 'it returns false'. Refute it at one input. -/
def weighFairWrong : ChangeSpec := { name := "weighFair", fn := fun _ => fun
  | [d1, d2] => { results := [.lit (.bool false)], args := [d1, d2] }
  | _ => none }
def WeighFairWrongFalsely : Prop := weighFairRow.holds Try.pinned (OpenSpec.ofChange weighFairWrong)

/-- 'respitelaw10.WeighLess': WHATEVER THE INPUT: true; the input reads as it did. -/
def weighLessSpec : ChangeSpec := { name := "weighLess", fn := fun _ => fun
  | [d1, d2, d3] => { results := [.lit (.bool true)], args := [d1, d2, d3] }
  | _ => none }
def weighLessRow : OpenClaim := { program := "ytmjogckeaaaicaa", sum := "f6afc116a9e6af6d7264d4d03404c482962a80bda1ae843be7f7451aae4e57c2", func := "respite/respitelaw10.WeighLess", spec := "weighLess", inPlace := ["math.Float64bits"], unfollowed := true, recurses := true, apart := false }
def WeighLessSaid : Prop := weighLessRow.holds Try.pinned (OpenSpec.ofChange weighLessSpec)

/-- ITS FALSE NEIGHBOUR: 'it returns false'. Refute it at one input. -/
def weighLessWrong : ChangeSpec := { name := "weighLess", fn := fun _ => fun
  | [d1, d2, d3] => { results := [.lit (.bool false)], args := [d1, d2, d3] }
  | _ => none }
def WeighLessWrongFalsely : Prop := weighLessRow.holds Try.pinned (OpenSpec.ofChange weighLessWrong)

/-- 'respitelaw10.WeighOrders': WHATEVER THE INPUT: true; the input reads as it did. -/
def weighOrdersSpec : ChangeSpec := { name := "weighOrders", fn := fun _ => fun
  | [d1, d2, d3] => { results := [.lit (.bool true)], args := [d1, d2, d3] }
  | _ => none }
def weighOrdersRow : OpenClaim := { program := "ytmjogckeaaaicaa", sum := "f6afc116a9e6af6d7264d4d03404c482962a80bda1ae843be7f7451aae4e57c2", func := "respite/respitelaw10.WeighOrders", spec := "weighOrders", inPlace := ["math.Float64bits"], unfollowed := true, recurses := true, apart := false }
def WeighOrdersSaid : Prop := weighOrdersRow.holds Try.pinned (OpenSpec.ofChange weighOrdersSpec)

/-- ITS FALSE NEIGHBOUR: 'it returns false'. Refute it at one input. -/
def weighOrdersWrong : ChangeSpec := { name := "weighOrders", fn := fun _ => fun
  | [d1, d2, d3] => { results := [.lit (.bool false)], args := [d1, d2, d3] }
  | _ => none }
def WeighOrdersWrongFalsely : Prop := weighOrdersRow.holds Try.pinned (OpenSpec.ofChange weighOrdersWrong)

/-- 'respitelaw10.WeighPicks': WHATEVER THE INPUT: true; the input reads as it did. -/
def weighPicksSpec : ChangeSpec := { name := "weighPicks", fn := fun _ => fun
  | [d1, d2, d3, d4] => { results := [.lit (.bool true)], args := [d1, d2, d3, d4] }
  | _ => none }
def weighPicksRow : OpenClaim := { program := "ytmjogckeaaaicaa", sum := "f6afc116a9e6af6d7264d4d03404c482962a80bda1ae843be7f7451aae4e57c2", func := "respite/respitelaw10.WeighPicks", spec := "weighPicks", inPlace := ["math.Float64bits"], unfollowed := true, recurses := true, apart := false }
def WeighPicksSaid : Prop := weighPicksRow.holds Try.pinned (OpenSpec.ofChange weighPicksSpec)

/-- ITS FALSE NEIGHBOUR: 'it returns false'. Refute it at one input. -/
def weighPicksWrong : ChangeSpec := { name := "weighPicks", fn := fun _ => fun
  | [d1, d2, d3, d4] => { results := [.lit (.bool false)], args := [d1, d2, d3, d4] }
  | _ => none }
def WeighPicksWrongFalsely : Prop := weighPicksRow.holds Try.pinned (OpenSpec.ofChange weighPicksWrong)

/-- 'respitelaw12.PoolMakes': WHATEVER THE INPUT: true; the input reads as it did. -/
def poolMakesSpec : ChangeSpec := { name := "poolMakes", fn := fun _ => fun
  | [d1, d2, d3, d4] => { results := [.lit (.bool true)], args := [d1, d2, d3, d4] }
  | _ => none }
def poolMakesRow : OpenClaim := { program := "ytmjogckeaaaicaa", sum := "f6afc116a9e6af6d7264d4d03404c482962a80bda1ae843be7f7451aae4e57c2", func := "respite/respitelaw12.PoolMakes", spec := "poolMakes", unfollowed := true, recurses := true, apart := false }
def PoolMakesSaid : Prop := poolMakesRow.holds Try.pinned (OpenSpec.ofChange poolMakesSpec)

/-- ITS FALSE NEIGHBOUR: 'it returns false'. Refute it at one input. -/
def poolMakesWrong : ChangeSpec := { name := "poolMakes", fn := fun _ => fun
  | [d1, d2, d3, d4] => { results := [.lit (.bool false)], args := [d1, d2, d3, d4] }
  | _ => none }
def PoolMakesWrongFalsely : Prop := poolMakesRow.holds Try.pinned (OpenSpec.ofChange poolMakesWrong)

/-- 'respitelaw12.PoolLast': WHATEVER THE INPUT: true; the input reads as it did. -/
def poolLastSpec : ChangeSpec := { name := "poolLast", fn := fun _ => fun
  | [d1, d2] => { results := [.lit (.bool true)], args := [d1, d2] }
  | _ => none }
def poolLastRow : OpenClaim := { program := "ytmjogckeaaaicaa", sum := "f6afc116a9e6af6d7264d4d03404c482962a80bda1ae843be7f7451aae4e57c2", func := "respite/respitelaw12.PoolLast", spec := "poolLast", unfollowed := true, recurses := true, apart := false }
def PoolLastSaid : Prop := poolLastRow.holds Try.pinned (OpenSpec.ofChange poolLastSpec)

/-- ITS FALSE NEIGHBOUR: 'it returns false'. Refute it at one input. -/
def poolLastWrong : ChangeSpec := { name := "poolLast", fn := fun _ => fun
  | [d1, d2] => { results := [.lit (.bool false)], args := [d1, d2] }
  | _ => none }
def PoolLastWrongFalsely : Prop := poolLastRow.holds Try.pinned (OpenSpec.ofChange poolLastWrong)

/-- 'respitelaw12.PoolMoves': WHATEVER THE INPUT: true; the input reads as it did. -/
def poolMovesSpec : ChangeSpec := { name := "poolMoves", fn := fun _ => fun
  | [d1, d2] => { results := [.lit (.bool true)], args := [d1, d2] }
  | _ => none }
def poolMovesRow : OpenClaim := { program := "ytmjogckeaaaicaa", sum := "f6afc116a9e6af6d7264d4d03404c482962a80bda1ae843be7f7451aae4e57c2", func := "respite/respitelaw12.PoolMoves", spec := "poolMoves", unfollowed := true, recurses := true, apart := false }
def PoolMovesSaid : Prop := poolMovesRow.holds Try.pinned (OpenSpec.ofChange poolMovesSpec)

/-- ITS FALSE NEIGHBOUR: 'it returns false'. Refute it at one input. -/
def poolMovesWrong : ChangeSpec := { name := "poolMoves", fn := fun _ => fun
  | [d1, d2] => { results := [.lit (.bool false)], args := [d1, d2] }
  | _ => none }
def PoolMovesWrongFalsely : Prop := poolMovesRow.holds Try.pinned (OpenSpec.ofChange poolMovesWrong)

/-- 'respitelaw12.PoolApart': WHATEVER THE INPUT: true; the input reads as it did. -/
def poolApartSpec : ChangeSpec := { name := "poolApart", fn := fun _ => fun
  | [d1, d2, d3, d4, d5] => { results := [.lit (.bool true)], args := [d1, d2, d3, d4, d5] }
  | _ => none }
def poolApartRow : OpenClaim := { program := "ytmjogckeaaaicaa", sum := "f6afc116a9e6af6d7264d4d03404c482962a80bda1ae843be7f7451aae4e57c2", func := "respite/respitelaw12.PoolApart", spec := "poolApart", unfollowed := true, recurses := true, apart := false }
def PoolApartSaid : Prop := poolApartRow.holds Try.pinned (OpenSpec.ofChange poolApartSpec)

/-- ITS FALSE NEIGHBOUR: 'it returns false'. Refute it at one input. -/
def poolApartWrong : ChangeSpec := { name := "poolApart", fn := fun _ => fun
  | [d1, d2, d3, d4, d5] => { results := [.lit (.bool false)], args := [d1, d2, d3, d4, d5] }
  | _ => none }
def PoolApartWrongFalsely : Prop := poolApartRow.holds Try.pinned (OpenSpec.ofChange poolApartWrong)

/- THE SECOND FORM. 'bulk': how many values and letters a reading holds, each counted each time it is reached (what is shared counts as often as it is met; a slice's spare places count too). A statement '..UptoSaid' is the law's where the arguments, and the package variables that the reading takes, are together of bulk at most 1048576: NARROWER than '..Said'. Prove '..Said' where nothing that the law and all that it calls make is longer than what came in: it says more and counts as full. Else prove '..UptoSaid'. A law counts once. -/
mutual
def uptoBulk {H : Type} : DataW H → Nat
  | .lit (.string bytes) => bytes.length + 1
  | .lit _ => 1
  | .nil => 1
  | .ptr d => uptoBulk d + 1
  | .slice elems spare => uptoBulkAll elems + uptoBulkAll spare + 1
  | .agg parts => uptoBulkAll parts + 1
  | .iface _ d => uptoBulk d + 1
  | .map entries => uptoBulkEntries entries + 1
  | .held _ => 1
def uptoBulkAll {H : Type} : List (DataW H) → Nat
  | [] => 0
  | d :: r => uptoBulk d + uptoBulkAll r
def uptoBulkEntries {H : Type} : List (Lit × DataW H) → Nat
  | [] => 0
  | x :: r => uptoBulkEntry x + uptoBulkEntries r
def uptoBulkEntry {H : Type} : Lit × DataW H → Nat
  | (.string bytes, d) => bytes.length + uptoBulk d + 1
  | (_, d) => uptoBulk d + 1
 end
def uptoSmall : (H : Type) → List (DataW H) → Bool := fun _ ds => decide (uptoBulkAll ds ≤ 1048576)
def OpenSpec.upto (s : _root_.Go.ChangeSpec) : _root_.Go.OpenSpec := { _root_.Go.OpenSpec.ofChange s with cond := some uptoSmall }

/-- 'respitelaw10.WeighFair', WHERE WHAT IT READS IS OF BULK AT MOST 1048576: true; the input reads as it did. -/
def weighFairUptoRow : OpenClaim := { program := "ytmjogckeaaaicaa", sum := "f6afc116a9e6af6d7264d4d03404c482962a80bda1ae843be7f7451aae4e57c2", func := "respite/respitelaw10.WeighFair", spec := "weighFair", inPlace := ["math.Float64bits"], unfollowed := true, recurses := true, apart := false, narrowed := true }
def WeighFairUptoSaid : Prop := weighFairUptoRow.holds Try.pinned (OpenSpec.upto weighFairSpec)

/-- 'respitelaw10.WeighLess', WHERE WHAT IT READS IS OF BULK AT MOST 1048576: true; the input reads as it did. -/
def weighLessUptoRow : OpenClaim := { program := "ytmjogckeaaaicaa", sum := "f6afc116a9e6af6d7264d4d03404c482962a80bda1ae843be7f7451aae4e57c2", func := "respite/respitelaw10.WeighLess", spec := "weighLess", inPlace := ["math.Float64bits"], unfollowed := true, recurses := true, apart := false, narrowed := true }
def WeighLessUptoSaid : Prop := weighLessUptoRow.holds Try.pinned (OpenSpec.upto weighLessSpec)

/-- 'respitelaw10.WeighOrders', WHERE WHAT IT READS IS OF BULK AT MOST 1048576: true; the input reads as it did. -/
def weighOrdersUptoRow : OpenClaim := { program := "ytmjogckeaaaicaa", sum := "f6afc116a9e6af6d7264d4d03404c482962a80bda1ae843be7f7451aae4e57c2", func := "respite/respitelaw10.WeighOrders", spec := "weighOrders", inPlace := ["math.Float64bits"], unfollowed := true, recurses := true, apart := false, narrowed := true }
def WeighOrdersUptoSaid : Prop := weighOrdersUptoRow.holds Try.pinned (OpenSpec.upto weighOrdersSpec)

/-- 'respitelaw10.WeighPicks', WHERE WHAT IT READS IS OF BULK AT MOST 1048576: true; the input reads as it did. -/
def weighPicksUptoRow : OpenClaim := { program := "ytmjogckeaaaicaa", sum := "f6afc116a9e6af6d7264d4d03404c482962a80bda1ae843be7f7451aae4e57c2", func := "respite/respitelaw10.WeighPicks", spec := "weighPicks", inPlace := ["math.Float64bits"], unfollowed := true, recurses := true, apart := false, narrowed := true }
def WeighPicksUptoSaid : Prop := weighPicksUptoRow.holds Try.pinned (OpenSpec.upto weighPicksSpec)

/-- 'respitelaw12.PoolMakes', WHERE WHAT IT READS IS OF BULK AT MOST 1048576: true; the input reads as it did. -/
def poolMakesUptoRow : OpenClaim := { program := "ytmjogckeaaaicaa", sum := "f6afc116a9e6af6d7264d4d03404c482962a80bda1ae843be7f7451aae4e57c2", func := "respite/respitelaw12.PoolMakes", spec := "poolMakes", unfollowed := true, recurses := true, apart := false, narrowed := true }
def PoolMakesUptoSaid : Prop := poolMakesUptoRow.holds Try.pinned (OpenSpec.upto poolMakesSpec)

/-- 'respitelaw12.PoolLast', WHERE WHAT IT READS IS OF BULK AT MOST 1048576: true; the input reads as it did. -/
def poolLastUptoRow : OpenClaim := { program := "ytmjogckeaaaicaa", sum := "f6afc116a9e6af6d7264d4d03404c482962a80bda1ae843be7f7451aae4e57c2", func := "respite/respitelaw12.PoolLast", spec := "poolLast", unfollowed := true, recurses := true, apart := false, narrowed := true }
def PoolLastUptoSaid : Prop := poolLastUptoRow.holds Try.pinned (OpenSpec.upto poolLastSpec)

/-- 'respitelaw12.PoolMoves', WHERE WHAT IT READS IS OF BULK AT MOST 1048576: true; the input reads as it did. -/
def poolMovesUptoRow : OpenClaim := { program := "ytmjogckeaaaicaa", sum := "f6afc116a9e6af6d7264d4d03404c482962a80bda1ae843be7f7451aae4e57c2", func := "respite/respitelaw12.PoolMoves", spec := "poolMoves", unfollowed := true, recurses := true, apart := false, narrowed := true }
def PoolMovesUptoSaid : Prop := poolMovesUptoRow.holds Try.pinned (OpenSpec.upto poolMovesSpec)

/-- 'respitelaw12.PoolApart', WHERE WHAT IT READS IS OF BULK AT MOST 1048576: true; the input reads as it did. -/
def poolApartUptoRow : OpenClaim := { program := "ytmjogckeaaaicaa", sum := "f6afc116a9e6af6d7264d4d03404c482962a80bda1ae843be7f7451aae4e57c2", func := "respite/respitelaw12.PoolApart", spec := "poolApart", unfollowed := true, recurses := true, apart := false, narrowed := true }
def PoolApartUptoSaid : Prop := poolApartUptoRow.holds Try.pinned (OpenSpec.upto poolApartSpec)

end Rows
end Go.Proofs.Ytmjogckeaaaicaa
