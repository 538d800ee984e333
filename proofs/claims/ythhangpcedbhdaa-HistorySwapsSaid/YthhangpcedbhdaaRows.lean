/-
  No cell of these rows narrows 'for every input' (looked for: loops, veiled, ifaces, maps, wideKeys, modest, calm, conditions, laid).
  DERIVED. THE GIVEN ROWS OF THIS SEAT. 10 by the template 'for every input the law returns true; each argument reads behind the call as it read before'; 0 by the template 'total and deterministic' (their statements: YthhangpcedbhdaaTotals.lean).
  GIVEN WITH THE SEED: the statements are not yours to turn. If you find one false, say at which input.
  Laid BY PROGRAM, IN A SANDBOX (cutbox-rows.mjs): the forced cells as the released guide's own fill.sh prints them over the translation ca017c02bbb1d208… (all of the seat's roots in one cut). By AI agents, Wed Nov 11 2026. No macro, syntax, notation, axiom, sorry.
-/
import Derived.Test.YthhangpcedbhdaaChecked
import GoSem.Claim
import GoSem.ClaimJoined
import GoSem.ClaimMapViews
import Derived.JoinedTies
import Derived.KernelRfl
namespace Go.Proofs.Ythhangpcedbhdaa
/- THE CELL 'sum', in the pinned program and in every row, IS THE sha256 OF THE DUMP (.gsa) THAT YthhangpcedbhdaaProg.lean LOADS. Nothing in Lean hashes anything: it is a label: what it is worth is what the hold of that sum in a sandbox is worth. -/
noncomputable def Try.pinned : Pinned := { name := "ythhangpcedbhdaa", sum := "ca017c02bbb1d2086d3c8d4460baee2da02c5177b3369f9213db02d46c4c0b33", checked := Try.checked }
namespace Rows
def none {H : Type} : Left H := { results := [], args := [] }

/-- 'respitelaw14.PhaseNests': WHATEVER THE INPUT: true; the input reads as it did. -/
def phaseNestsSpec : ChangeSpec := { name := "phaseNests", fn := fun _ => fun
  | [d] => { results := [.lit (.bool true)], args := [d] }
  | _ => none }
def phaseNestsRow : OpenClaim := { program := "ythhangpcedbhdaa", sum := "ca017c02bbb1d2086d3c8d4460baee2da02c5177b3369f9213db02d46c4c0b33", func := "respite/respitelaw14.PhaseNests", spec := "phaseNests", plainKeys := false, apart := false }
def PhaseNestsSaid : Prop := phaseNestsRow.holds Try.pinned (OpenSpec.ofChange phaseNestsSpec)

/-- ITS FALSE NEIGHBOUR: 'it returns false'. Refute it at one input. -/
def phaseNestsWrong : ChangeSpec := { name := "phaseNests", fn := fun _ => fun
  | [d] => { results := [.lit (.bool false)], args := [d] }
  | _ => none }
def PhaseNestsWrongFalsely : Prop := phaseNestsRow.holds Try.pinned (OpenSpec.ofChange phaseNestsWrong)

/-- 'respitelaw20.HistoryOrder': WHATEVER THE INPUT: true; the input reads as it did. -/
def historyOrderSpec : ChangeSpec := { name := "historyOrder", fn := fun _ => fun
  | [d] => { results := [.lit (.bool true)], args := [d] }
  | _ => none }
def historyOrderRow : OpenClaim := { program := "ythhangpcedbhdaa", sum := "ca017c02bbb1d2086d3c8d4460baee2da02c5177b3369f9213db02d46c4c0b33", func := "respite/respitelaw20.HistoryOrder", spec := "historyOrder", plainKeys := false, apart := false }
def HistoryOrderSaid : Prop := historyOrderRow.holds Try.pinned (OpenSpec.ofChange historyOrderSpec)

/-- ITS FALSE NEIGHBOUR: 'it returns false'. Refute it at one input. -/
def historyOrderWrong : ChangeSpec := { name := "historyOrder", fn := fun _ => fun
  | [d] => { results := [.lit (.bool false)], args := [d] }
  | _ => none }
def HistoryOrderWrongFalsely : Prop := historyOrderRow.holds Try.pinned (OpenSpec.ofChange historyOrderWrong)

/-- 'respitelaw14.PhaseMoves': WHATEVER THE INPUT: true; the input reads as it did. -/
def phaseMovesSpec : ChangeSpec := { name := "phaseMoves", fn := fun _ => fun
  | [d1, d2] => { results := [.lit (.bool true)], args := [d1, d2] }
  | _ => none }
def phaseMovesRow : OpenClaim := { program := "ythhangpcedbhdaa", sum := "ca017c02bbb1d2086d3c8d4460baee2da02c5177b3369f9213db02d46c4c0b33", func := "respite/respitelaw14.PhaseMoves", spec := "phaseMoves", plainKeys := false, apart := false }
def PhaseMovesSaid : Prop := phaseMovesRow.holds Try.pinned (OpenSpec.ofChange phaseMovesSpec)

/-- ITS FALSE NEIGHBOUR: 'it returns false'. Refute it at one input. -/
def phaseMovesWrong : ChangeSpec := { name := "phaseMoves", fn := fun _ => fun
  | [d1, d2] => { results := [.lit (.bool false)], args := [d1, d2] }
  | _ => none }
def PhaseMovesWrongFalsely : Prop := phaseMovesRow.holds Try.pinned (OpenSpec.ofChange phaseMovesWrong)

/-- 'respitelaw14.PhaseFlips': WHATEVER THE INPUT: true; the input reads as it did. -/
def phaseFlipsSpec : ChangeSpec := { name := "phaseFlips", fn := fun _ => fun
  | [d1, d2] => { results := [.lit (.bool true)], args := [d1, d2] }
  | _ => none }
def phaseFlipsRow : OpenClaim := { program := "ythhangpcedbhdaa", sum := "ca017c02bbb1d2086d3c8d4460baee2da02c5177b3369f9213db02d46c4c0b33", func := "respite/respitelaw14.PhaseFlips", spec := "phaseFlips", plainKeys := false, apart := false }
def PhaseFlipsSaid : Prop := phaseFlipsRow.holds Try.pinned (OpenSpec.ofChange phaseFlipsSpec)

/-- ITS FALSE NEIGHBOUR: 'it returns false'. Refute it at one input. -/
def phaseFlipsWrong : ChangeSpec := { name := "phaseFlips", fn := fun _ => fun
  | [d1, d2] => { results := [.lit (.bool false)], args := [d1, d2] }
  | _ => none }
def PhaseFlipsWrongFalsely : Prop := phaseFlipsRow.holds Try.pinned (OpenSpec.ofChange phaseFlipsWrong)

/-- 'respitelaw15.GraceApart': WHATEVER THE INPUT: true; the input reads as it did. -/
def graceApartSpec : ChangeSpec := { name := "graceApart", fn := fun _ => fun
  | [d] => { results := [.lit (.bool true)], args := [d] }
  | _ => none }
def graceApartRow : OpenClaim := { program := "ythhangpcedbhdaa", sum := "ca017c02bbb1d2086d3c8d4460baee2da02c5177b3369f9213db02d46c4c0b33", func := "respite/respitelaw15.GraceApart", spec := "graceApart", plainKeys := false, apart := false }
def GraceApartSaid : Prop := graceApartRow.holds Try.pinned (OpenSpec.ofChange graceApartSpec)

/-- ITS FALSE NEIGHBOUR: 'it returns false'. Refute it at one input. -/
def graceApartWrong : ChangeSpec := { name := "graceApart", fn := fun _ => fun
  | [d] => { results := [.lit (.bool false)], args := [d] }
  | _ => none }
def GraceApartWrongFalsely : Prop := graceApartRow.holds Try.pinned (OpenSpec.ofChange graceApartWrong)

/-- 'respitelaw15.GraceCuts': WHATEVER THE INPUT: true; the input reads as it did. -/
def graceCutsSpec : ChangeSpec := { name := "graceCuts", fn := fun _ => fun
  | [d1, d2, d3] => { results := [.lit (.bool true)], args := [d1, d2, d3] }
  | _ => none }
def graceCutsRow : OpenClaim := { program := "ythhangpcedbhdaa", sum := "ca017c02bbb1d2086d3c8d4460baee2da02c5177b3369f9213db02d46c4c0b33", func := "respite/respitelaw15.GraceCuts", spec := "graceCuts", plainKeys := false, apart := false }
def GraceCutsSaid : Prop := graceCutsRow.holds Try.pinned (OpenSpec.ofChange graceCutsSpec)

/-- ITS FALSE NEIGHBOUR: 'it returns false'. Refute it at one input. -/
def graceCutsWrong : ChangeSpec := { name := "graceCuts", fn := fun _ => fun
  | [d1, d2, d3] => { results := [.lit (.bool false)], args := [d1, d2, d3] }
  | _ => none }
def GraceCutsWrongFalsely : Prop := graceCutsRow.holds Try.pinned (OpenSpec.ofChange graceCutsWrong)

/-- 'respitelaw15.GraceNames': WHATEVER THE INPUT: true; the input reads as it did. -/
def graceNamesSpec : ChangeSpec := { name := "graceNames", fn := fun _ => fun
  | [d1, d2, d3] => { results := [.lit (.bool true)], args := [d1, d2, d3] }
  | _ => none }
def graceNamesRow : OpenClaim := { program := "ythhangpcedbhdaa", sum := "ca017c02bbb1d2086d3c8d4460baee2da02c5177b3369f9213db02d46c4c0b33", func := "respite/respitelaw15.GraceNames", spec := "graceNames", plainKeys := false, apart := false }
def GraceNamesSaid : Prop := graceNamesRow.holds Try.pinned (OpenSpec.ofChange graceNamesSpec)

/-- ITS FALSE NEIGHBOUR: 'it returns false'. Refute it at one input. -/
def graceNamesWrong : ChangeSpec := { name := "graceNames", fn := fun _ => fun
  | [d1, d2, d3] => { results := [.lit (.bool false)], args := [d1, d2, d3] }
  | _ => none }
def GraceNamesWrongFalsely : Prop := graceNamesRow.holds Try.pinned (OpenSpec.ofChange graceNamesWrong)

/-- 'respitelaw14.PhaseRuns': WHATEVER THE INPUT: true; the input reads as it did. -/
def phaseRunsSpec : ChangeSpec := { name := "phaseRuns", fn := fun _ => fun
  | [d1, d2, d3] => { results := [.lit (.bool true)], args := [d1, d2, d3] }
  | _ => none }
def phaseRunsRow : OpenClaim := { program := "ythhangpcedbhdaa", sum := "ca017c02bbb1d2086d3c8d4460baee2da02c5177b3369f9213db02d46c4c0b33", func := "respite/respitelaw14.PhaseRuns", spec := "phaseRuns", unfollowed := true, recurses := true, plainKeys := false, apart := false }
def PhaseRunsSaid : Prop := phaseRunsRow.holds Try.pinned (OpenSpec.ofChange phaseRunsSpec)

/-- ITS FALSE NEIGHBOUR: 'it returns false'. Refute it at one input. -/
def phaseRunsWrong : ChangeSpec := { name := "phaseRuns", fn := fun _ => fun
  | [d1, d2, d3] => { results := [.lit (.bool false)], args := [d1, d2, d3] }
  | _ => none }
def PhaseRunsWrongFalsely : Prop := phaseRunsRow.holds Try.pinned (OpenSpec.ofChange phaseRunsWrong)

/-- 'respitelaw20.HistoryAlikes': WHATEVER THE INPUT: true; the input reads as it did. -/
def historyAlikesSpec : ChangeSpec := { name := "historyAlikes", fn := fun _ => fun
  | [d1, d2] => { results := [.lit (.bool true)], args := [d1, d2] }
  | _ => none }
def historyAlikesRow : OpenClaim := { program := "ythhangpcedbhdaa", sum := "ca017c02bbb1d2086d3c8d4460baee2da02c5177b3369f9213db02d46c4c0b33", func := "respite/respitelaw20.HistoryAlikes", spec := "historyAlikes", unfollowed := true, recurses := true, plainKeys := false, apart := false }
def HistoryAlikesSaid : Prop := historyAlikesRow.holds Try.pinned (OpenSpec.ofChange historyAlikesSpec)

/-- ITS FALSE NEIGHBOUR: 'it returns false'. Refute it at one input. -/
def historyAlikesWrong : ChangeSpec := { name := "historyAlikes", fn := fun _ => fun
  | [d1, d2] => { results := [.lit (.bool false)], args := [d1, d2] }
  | _ => none }
def HistoryAlikesWrongFalsely : Prop := historyAlikesRow.holds Try.pinned (OpenSpec.ofChange historyAlikesWrong)

/-- 'respitelaw20.HistorySwaps': WHATEVER THE INPUT: true; the input reads as it did. -/
def historySwapsSpec : ChangeSpec := { name := "historySwaps", fn := fun _ => fun
  | [d1, d2] => { results := [.lit (.bool true)], args := [d1, d2] }
  | _ => none }
def historySwapsRow : OpenClaim := { program := "ythhangpcedbhdaa", sum := "ca017c02bbb1d2086d3c8d4460baee2da02c5177b3369f9213db02d46c4c0b33", func := "respite/respitelaw20.HistorySwaps", spec := "historySwaps", unfollowed := true, recurses := true, plainKeys := false, apart := false }
def HistorySwapsSaid : Prop := historySwapsRow.holds Try.pinned (OpenSpec.ofChange historySwapsSpec)

/-- ITS FALSE NEIGHBOUR: 'it returns false'. Refute it at one input. -/
def historySwapsWrong : ChangeSpec := { name := "historySwaps", fn := fun _ => fun
  | [d1, d2] => { results := [.lit (.bool false)], args := [d1, d2] }
  | _ => none }
def HistorySwapsWrongFalsely : Prop := historySwapsRow.holds Try.pinned (OpenSpec.ofChange historySwapsWrong)

/- THE SECOND FORM. 'bulk': how many values and letters a reading holds, each counted each time it is reached (what is shared counts as often as it is met; a slice's spare places count too). A statement '..UptoSaid' is the law's where the arguments, and the package variables that the reading takes, are together of bulk at most 1048576: NARROWER than '..Said'. Prove '..Said' where nothing that the law and all that it calls make is longer than what came in: it says more and counts as full. Else prove '..UptoSaid'. A law counts once. -/
mutual
def uptoBulk {H : Type} : DataW H → Nat
  | .lit (.string bytes) => bytes.length + 1
  | .lit _ => 1
  | .nil => 1
  | .ptr d => uptoBulk d + 1
  | .slice elems spare => uptoBulkAll elems + uptoBulkAll spare + 1
  | .agg parts => uptoBulkAll parts + 1
  | .iface _ d => uptoBulk d + 1
  | .map entries => uptoBulkEntries entries + 1
  | .held _ => 1
def uptoBulkAll {H : Type} : List (DataW H) → Nat
  | [] => 0
  | d :: r => uptoBulk d + uptoBulkAll r
def uptoBulkEntries {H : Type} : List (Lit × DataW H) → Nat
  | [] => 0
  | x :: r => uptoBulkEntry x + uptoBulkEntries r
def uptoBulkEntry {H : Type} : Lit × DataW H → Nat
  | (.string bytes, d) => bytes.length + uptoBulk d + 1
  | (_, d) => uptoBulk d + 1
 end
def uptoSmall : (H : Type) → List (DataW H) → Bool := fun _ ds => decide (uptoBulkAll ds ≤ 1048576)
def OpenSpec.upto (s : _root_.Go.ChangeSpec) : _root_.Go.OpenSpec := { _root_.Go.OpenSpec.ofChange s with cond := some uptoSmall }

/-- 'respitelaw14.PhaseNests', WHERE WHAT IT READS IS OF BULK AT MOST 1048576: true; the input reads as it did. -/
def phaseNestsUptoRow : OpenClaim := { program := "ythhangpcedbhdaa", sum := "ca017c02bbb1d2086d3c8d4460baee2da02c5177b3369f9213db02d46c4c0b33", func := "respite/respitelaw14.PhaseNests", spec := "phaseNests", plainKeys := false, apart := false, narrowed := true }
def PhaseNestsUptoSaid : Prop := phaseNestsUptoRow.holds Try.pinned (OpenSpec.upto phaseNestsSpec)

/-- 'respitelaw20.HistoryOrder', WHERE WHAT IT READS IS OF BULK AT MOST 1048576: true; the input reads as it did. -/
def historyOrderUptoRow : OpenClaim := { program := "ythhangpcedbhdaa", sum := "ca017c02bbb1d2086d3c8d4460baee2da02c5177b3369f9213db02d46c4c0b33", func := "respite/respitelaw20.HistoryOrder", spec := "historyOrder", plainKeys := false, apart := false, narrowed := true }
def HistoryOrderUptoSaid : Prop := historyOrderUptoRow.holds Try.pinned (OpenSpec.upto historyOrderSpec)

/-- 'respitelaw14.PhaseMoves', WHERE WHAT IT READS IS OF BULK AT MOST 1048576: true; the input reads as it did. -/
def phaseMovesUptoRow : OpenClaim := { program := "ythhangpcedbhdaa", sum := "ca017c02bbb1d2086d3c8d4460baee2da02c5177b3369f9213db02d46c4c0b33", func := "respite/respitelaw14.PhaseMoves", spec := "phaseMoves", plainKeys := false, apart := false, narrowed := true }
def PhaseMovesUptoSaid : Prop := phaseMovesUptoRow.holds Try.pinned (OpenSpec.upto phaseMovesSpec)

/-- 'respitelaw14.PhaseFlips', WHERE WHAT IT READS IS OF BULK AT MOST 1048576: true; the input reads as it did. -/
def phaseFlipsUptoRow : OpenClaim := { program := "ythhangpcedbhdaa", sum := "ca017c02bbb1d2086d3c8d4460baee2da02c5177b3369f9213db02d46c4c0b33", func := "respite/respitelaw14.PhaseFlips", spec := "phaseFlips", plainKeys := false, apart := false, narrowed := true }
def PhaseFlipsUptoSaid : Prop := phaseFlipsUptoRow.holds Try.pinned (OpenSpec.upto phaseFlipsSpec)

/-- 'respitelaw15.GraceApart', WHERE WHAT IT READS IS OF BULK AT MOST 1048576: true; the input reads as it did. -/
def graceApartUptoRow : OpenClaim := { program := "ythhangpcedbhdaa", sum := "ca017c02bbb1d2086d3c8d4460baee2da02c5177b3369f9213db02d46c4c0b33", func := "respite/respitelaw15.GraceApart", spec := "graceApart", plainKeys := false, apart := false, narrowed := true }
def GraceApartUptoSaid : Prop := graceApartUptoRow.holds Try.pinned (OpenSpec.upto graceApartSpec)

/-- 'respitelaw15.GraceCuts', WHERE WHAT IT READS IS OF BULK AT MOST 1048576: true; the input reads as it did. -/
def graceCutsUptoRow : OpenClaim := { program := "ythhangpcedbhdaa", sum := "ca017c02bbb1d2086d3c8d4460baee2da02c5177b3369f9213db02d46c4c0b33", func := "respite/respitelaw15.GraceCuts", spec := "graceCuts", plainKeys := false, apart := false, narrowed := true }
def GraceCutsUptoSaid : Prop := graceCutsUptoRow.holds Try.pinned (OpenSpec.upto graceCutsSpec)

/-- 'respitelaw15.GraceNames', WHERE WHAT IT READS IS OF BULK AT MOST 1048576: true; the input reads as it did. -/
def graceNamesUptoRow : OpenClaim := { program := "ythhangpcedbhdaa", sum := "ca017c02bbb1d2086d3c8d4460baee2da02c5177b3369f9213db02d46c4c0b33", func := "respite/respitelaw15.GraceNames", spec := "graceNames", plainKeys := false, apart := false, narrowed := true }
def GraceNamesUptoSaid : Prop := graceNamesUptoRow.holds Try.pinned (OpenSpec.upto graceNamesSpec)

/-- 'respitelaw14.PhaseRuns', WHERE WHAT IT READS IS OF BULK AT MOST 1048576: true; the input reads as it did. -/
def phaseRunsUptoRow : OpenClaim := { program := "ythhangpcedbhdaa", sum := "ca017c02bbb1d2086d3c8d4460baee2da02c5177b3369f9213db02d46c4c0b33", func := "respite/respitelaw14.PhaseRuns", spec := "phaseRuns", unfollowed := true, recurses := true, plainKeys := false, apart := false, narrowed := true }
def PhaseRunsUptoSaid : Prop := phaseRunsUptoRow.holds Try.pinned (OpenSpec.upto phaseRunsSpec)

/-- 'respitelaw20.HistoryAlikes', WHERE WHAT IT READS IS OF BULK AT MOST 1048576: true; the input reads as it did. -/
def historyAlikesUptoRow : OpenClaim := { program := "ythhangpcedbhdaa", sum := "ca017c02bbb1d2086d3c8d4460baee2da02c5177b3369f9213db02d46c4c0b33", func := "respite/respitelaw20.HistoryAlikes", spec := "historyAlikes", unfollowed := true, recurses := true, plainKeys := false, apart := false, narrowed := true }
def HistoryAlikesUptoSaid : Prop := historyAlikesUptoRow.holds Try.pinned (OpenSpec.upto historyAlikesSpec)

/-- 'respitelaw20.HistorySwaps', WHERE WHAT IT READS IS OF BULK AT MOST 1048576: true; the input reads as it did. -/
def historySwapsUptoRow : OpenClaim := { program := "ythhangpcedbhdaa", sum := "ca017c02bbb1d2086d3c8d4460baee2da02c5177b3369f9213db02d46c4c0b33", func := "respite/respitelaw20.HistorySwaps", spec := "historySwaps", unfollowed := true, recurses := true, plainKeys := false, apart := false, narrowed := true }
def HistorySwapsUptoSaid : Prop := historySwapsUptoRow.holds Try.pinned (OpenSpec.upto historySwapsSpec)

end Rows
end Go.Proofs.Ythhangpcedbhdaa
