/-
  No cell of these rows narrows 'for every input' (looked for: loops, veiled, ifaces, maps, wideKeys, modest, calm, conditions, laid).
  DERIVED. THE GIVEN ROWS OF THIS SEAT. 7 by the template 'for every input the law returns true; each argument reads behind the call as it read before'; 0 by the template 'total and deterministic' (their statements: YtpdilplgdbcjpaaTotals.lean).
  GIVEN WITH THE SEED: the statements are not yours to turn. If you find one false, say at which input.
  Laid BY PROGRAM, IN A SANDBOX (cutbox-rows.mjs): the forced cells as the released guide's own fill.sh prints them over the translation dd4dfe4b666dc2fc… (all of the seat's roots in one cut). By AI agents, Wed Nov 11 2026. No macro, syntax, notation, axiom, sorry.
-/
import Derived.Test.YtpdilplgdbcjpaaChecked
import GoSem.Claim
import GoSem.ClaimJoined
import GoSem.ClaimMapViews
import Derived.JoinedTies
import Derived.KernelRfl
namespace Go.Proofs.Ytpdilplgdbcjpaa
/- THE CELL 'sum', in the pinned program and in every row, IS THE sha256 OF THE DUMP (.gsa) THAT YtpdilplgdbcjpaaProg.lean LOADS. Nothing in Lean hashes anything: it is a label: what it is worth is what the hold of that sum in a sandbox is worth. -/
noncomputable def Try.pinned : Pinned := { name := "ytpdilplgdbcjpaa", sum := "dd4dfe4b666dc2fc4a8b87b589c847ac323e71862933ae8e3078e03cf05c44d8", checked := Try.checked }
namespace Rows
def none {H : Type} : Left H := { results := [], args := [] }

/-- 'quoinlaw08.GraphOrders': WHATEVER THE INPUT: true; the input reads as it did. -/
def graphOrdersSpec : ChangeSpec := { name := "graphOrders", fn := fun _ => fun
  | [d] => { results := [.lit (.bool true)], args := [d] }
  | _ => none }
def graphOrdersRow : OpenClaim := { program := "ytpdilplgdbcjpaa", sum := "dd4dfe4b666dc2fc4a8b87b589c847ac323e71862933ae8e3078e03cf05c44d8", func := "quoin/quoinlaw08.GraphOrders", spec := "graphOrders", unfollowed := true, recurses := true, apart := false }
def GraphOrdersSaid : Prop := graphOrdersRow.holds Try.pinned (OpenSpec.ofChange graphOrdersSpec)

/-- ITS FALSE NEIGHBOUR: 'it returns false'. Refute it at one input. -/
def graphOrdersWrong : ChangeSpec := { name := "graphOrders", fn := fun _ => fun
  | [d] => { results := [.lit (.bool false)], args := [d] }
  | _ => none }
def GraphOrdersWrongFalsely : Prop := graphOrdersRow.holds Try.pinned (OpenSpec.ofChange graphOrdersWrong)

/-- 'quoinlaw08.GraphReadies': WHATEVER THE INPUT: true; the input reads as it did. -/
def graphReadiesSpec : ChangeSpec := { name := "graphReadies", fn := fun _ => fun
  | [d1, d2, d3] => { results := [.lit (.bool true)], args := [d1, d2, d3] }
  | _ => none }
def graphReadiesRow : OpenClaim := { program := "ytpdilplgdbcjpaa", sum := "dd4dfe4b666dc2fc4a8b87b589c847ac323e71862933ae8e3078e03cf05c44d8", func := "quoin/quoinlaw08.GraphReadies", spec := "graphReadies", unfollowed := true, recurses := true, apart := false }
def GraphReadiesSaid : Prop := graphReadiesRow.holds Try.pinned (OpenSpec.ofChange graphReadiesSpec)

/-- ITS FALSE NEIGHBOUR: 'it returns false'. Refute it at one input. -/
def graphReadiesWrong : ChangeSpec := { name := "graphReadies", fn := fun _ => fun
  | [d1, d2, d3] => { results := [.lit (.bool false)], args := [d1, d2, d3] }
  | _ => none }
def GraphReadiesWrongFalsely : Prop := graphReadiesRow.holds Try.pinned (OpenSpec.ofChange graphReadiesWrong)

/-- 'quoinlaw08.GraphBehind': WHATEVER THE INPUT: true; the input reads as it did. -/
def graphBehindSpec : ChangeSpec := { name := "graphBehind", fn := fun _ => fun
  | [d] => { results := [.lit (.bool true)], args := [d] }
  | _ => none }
def graphBehindRow : OpenClaim := { program := "ytpdilplgdbcjpaa", sum := "dd4dfe4b666dc2fc4a8b87b589c847ac323e71862933ae8e3078e03cf05c44d8", func := "quoin/quoinlaw08.GraphBehind", spec := "graphBehind", unfollowed := true, recurses := true, apart := false }
def GraphBehindSaid : Prop := graphBehindRow.holds Try.pinned (OpenSpec.ofChange graphBehindSpec)

/-- ITS FALSE NEIGHBOUR: 'it returns false'. Refute it at one input. -/
def graphBehindWrong : ChangeSpec := { name := "graphBehind", fn := fun _ => fun
  | [d] => { results := [.lit (.bool false)], args := [d] }
  | _ => none }
def GraphBehindWrongFalsely : Prop := graphBehindRow.holds Try.pinned (OpenSpec.ofChange graphBehindWrong)

/-- 'quoinlaw08.GraphStuck': WHATEVER THE INPUT: true; the input reads as it did. -/
def graphStuckSpec : ChangeSpec := { name := "graphStuck", fn := fun _ => fun
  | [d] => { results := [.lit (.bool true)], args := [d] }
  | _ => none }
def graphStuckRow : OpenClaim := { program := "ytpdilplgdbcjpaa", sum := "dd4dfe4b666dc2fc4a8b87b589c847ac323e71862933ae8e3078e03cf05c44d8", func := "quoin/quoinlaw08.GraphStuck", spec := "graphStuck", unfollowed := true, recurses := true, apart := false }
def GraphStuckSaid : Prop := graphStuckRow.holds Try.pinned (OpenSpec.ofChange graphStuckSpec)

/-- ITS FALSE NEIGHBOUR: 'it returns false'. Refute it at one input. -/
def graphStuckWrong : ChangeSpec := { name := "graphStuck", fn := fun _ => fun
  | [d] => { results := [.lit (.bool false)], args := [d] }
  | _ => none }
def GraphStuckWrongFalsely : Prop := graphStuckRow.holds Try.pinned (OpenSpec.ofChange graphStuckWrong)

/-- 'quoinlaw08.GraphTurns': WHATEVER THE INPUT: true; the input reads as it did. -/
def graphTurnsSpec : ChangeSpec := { name := "graphTurns", fn := fun _ => fun
  | [d] => { results := [.lit (.bool true)], args := [d] }
  | _ => none }
def graphTurnsRow : OpenClaim := { program := "ytpdilplgdbcjpaa", sum := "dd4dfe4b666dc2fc4a8b87b589c847ac323e71862933ae8e3078e03cf05c44d8", func := "quoin/quoinlaw08.GraphTurns", spec := "graphTurns", unfollowed := true, recurses := true, apart := false }
def GraphTurnsSaid : Prop := graphTurnsRow.holds Try.pinned (OpenSpec.ofChange graphTurnsSpec)

/-- ITS FALSE NEIGHBOUR: 'it returns false'. Refute it at one input. -/
def graphTurnsWrong : ChangeSpec := { name := "graphTurns", fn := fun _ => fun
  | [d] => { results := [.lit (.bool false)], args := [d] }
  | _ => none }
def GraphTurnsWrongFalsely : Prop := graphTurnsRow.holds Try.pinned (OpenSpec.ofChange graphTurnsWrong)

/-- 'quoinlaw08.GraphSteps': WHATEVER THE INPUT: true; the input reads as it did. -/
def graphStepsSpec : ChangeSpec := { name := "graphSteps", fn := fun _ => fun
  | [d] => { results := [.lit (.bool true)], args := [d] }
  | _ => none }
def graphStepsRow : OpenClaim := { program := "ytpdilplgdbcjpaa", sum := "dd4dfe4b666dc2fc4a8b87b589c847ac323e71862933ae8e3078e03cf05c44d8", func := "quoin/quoinlaw08.GraphSteps", spec := "graphSteps", unfollowed := true, recurses := true, apart := false }
def GraphStepsSaid : Prop := graphStepsRow.holds Try.pinned (OpenSpec.ofChange graphStepsSpec)

/-- ITS FALSE NEIGHBOUR: 'it returns false'. Refute it at one input. -/
def graphStepsWrong : ChangeSpec := { name := "graphSteps", fn := fun _ => fun
  | [d] => { results := [.lit (.bool false)], args := [d] }
  | _ => none }
def GraphStepsWrongFalsely : Prop := graphStepsRow.holds Try.pinned (OpenSpec.ofChange graphStepsWrong)

/-- 'quoinlaw08.GraphGrows': WHATEVER THE INPUT: true; the input reads as it did. -/
def graphGrowsSpec : ChangeSpec := { name := "graphGrows", fn := fun _ => fun
  | [d1, d2] => { results := [.lit (.bool true)], args := [d1, d2] }
  | _ => none }
def graphGrowsRow : OpenClaim := { program := "ytpdilplgdbcjpaa", sum := "dd4dfe4b666dc2fc4a8b87b589c847ac323e71862933ae8e3078e03cf05c44d8", func := "quoin/quoinlaw08.GraphGrows", spec := "graphGrows", unfollowed := true, recurses := true, apart := false }
def GraphGrowsSaid : Prop := graphGrowsRow.holds Try.pinned (OpenSpec.ofChange graphGrowsSpec)

/-- ITS FALSE NEIGHBOUR: 'it returns false'. Refute it at one input. -/
def graphGrowsWrong : ChangeSpec := { name := "graphGrows", fn := fun _ => fun
  | [d1, d2] => { results := [.lit (.bool false)], args := [d1, d2] }
  | _ => none }
def GraphGrowsWrongFalsely : Prop := graphGrowsRow.holds Try.pinned (OpenSpec.ofChange graphGrowsWrong)

/- THE SECOND FORM. 'bulk': how many values and letters a reading holds, each counted each time it is reached (what is shared counts as often as it is met; a slice's spare places count too). A statement '..UptoSaid' is the law's where the arguments, and the package variables that the reading takes, are together of bulk at most 1048576: NARROWER than '..Said'. Prove '..Said' where nothing that the law and all that it calls make is longer than what came in: it says more and counts as full. Else prove '..UptoSaid'. A law counts once. -/
mutual
def uptoBulk {H : Type} : DataW H → Nat
  | .lit (.string bytes) => bytes.length + 1
  | .lit _ => 1
  | .nil => 1
  | .ptr d => uptoBulk d + 1
  | .slice elems spare => uptoBulkAll elems + uptoBulkAll spare + 1
  | .agg parts => uptoBulkAll parts + 1
  | .iface _ d => uptoBulk d + 1
  | .map entries => uptoBulkEntries entries + 1
  | .held _ => 1
def uptoBulkAll {H : Type} : List (DataW H) → Nat
  | [] => 0
  | d :: r => uptoBulk d + uptoBulkAll r
def uptoBulkEntries {H : Type} : List (Lit × DataW H) → Nat
  | [] => 0
  | x :: r => uptoBulkEntry x + uptoBulkEntries r
def uptoBulkEntry {H : Type} : Lit × DataW H → Nat
  | (.string bytes, d) => bytes.length + uptoBulk d + 1
  | (_, d) => uptoBulk d + 1
 end
def uptoSmall : (H : Type) → List (DataW H) → Bool := fun _ ds => decide (uptoBulkAll ds ≤ 1048576)
def OpenSpec.upto (s : _root_.Go.ChangeSpec) : _root_.Go.OpenSpec := { _root_.Go.OpenSpec.ofChange s with cond := some uptoSmall }

/-- 'quoinlaw08.GraphOrders', WHERE WHAT IT READS IS OF BULK AT MOST 1048576: true; the input reads as it did. -/
def graphOrdersUptoRow : OpenClaim := { program := "ytpdilplgdbcjpaa", sum := "dd4dfe4b666dc2fc4a8b87b589c847ac323e71862933ae8e3078e03cf05c44d8", func := "quoin/quoinlaw08.GraphOrders", spec := "graphOrders", unfollowed := true, recurses := true, apart := false, narrowed := true }
def GraphOrdersUptoSaid : Prop := graphOrdersUptoRow.holds Try.pinned (OpenSpec.upto graphOrdersSpec)

/-- 'quoinlaw08.GraphReadies', WHERE WHAT IT READS IS OF BULK AT MOST 1048576: true; the input reads as it did. -/
def graphReadiesUptoRow : OpenClaim := { program := "ytpdilplgdbcjpaa", sum := "dd4dfe4b666dc2fc4a8b87b589c847ac323e71862933ae8e3078e03cf05c44d8", func := "quoin/quoinlaw08.GraphReadies", spec := "graphReadies", unfollowed := true, recurses := true, apart := false, narrowed := true }
def GraphReadiesUptoSaid : Prop := graphReadiesUptoRow.holds Try.pinned (OpenSpec.upto graphReadiesSpec)

/-- 'quoinlaw08.GraphBehind', WHERE WHAT IT READS IS OF BULK AT MOST 1048576: true; the input reads as it did. -/
def graphBehindUptoRow : OpenClaim := { program := "ytpdilplgdbcjpaa", sum := "dd4dfe4b666dc2fc4a8b87b589c847ac323e71862933ae8e3078e03cf05c44d8", func := "quoin/quoinlaw08.GraphBehind", spec := "graphBehind", unfollowed := true, recurses := true, apart := false, narrowed := true }
def GraphBehindUptoSaid : Prop := graphBehindUptoRow.holds Try.pinned (OpenSpec.upto graphBehindSpec)

/-- 'quoinlaw08.GraphStuck', WHERE WHAT IT READS IS OF BULK AT MOST 1048576: true; the input reads as it did. -/
def graphStuckUptoRow : OpenClaim := { program := "ytpdilplgdbcjpaa", sum := "dd4dfe4b666dc2fc4a8b87b589c847ac323e71862933ae8e3078e03cf05c44d8", func := "quoin/quoinlaw08.GraphStuck", spec := "graphStuck", unfollowed := true, recurses := true, apart := false, narrowed := true }
def GraphStuckUptoSaid : Prop := graphStuckUptoRow.holds Try.pinned (OpenSpec.upto graphStuckSpec)

/-- 'quoinlaw08.GraphTurns', WHERE WHAT IT READS IS OF BULK AT MOST 1048576: true; the input reads as it did. -/
def graphTurnsUptoRow : OpenClaim := { program := "ytpdilplgdbcjpaa", sum := "dd4dfe4b666dc2fc4a8b87b589c847ac323e71862933ae8e3078e03cf05c44d8", func := "quoin/quoinlaw08.GraphTurns", spec := "graphTurns", unfollowed := true, recurses := true, apart := false, narrowed := true }
def GraphTurnsUptoSaid : Prop := graphTurnsUptoRow.holds Try.pinned (OpenSpec.upto graphTurnsSpec)

/-- 'quoinlaw08.GraphSteps', WHERE WHAT IT READS IS OF BULK AT MOST 1048576: true; the input reads as it did. -/
def graphStepsUptoRow : OpenClaim := { program := "ytpdilplgdbcjpaa", sum := "dd4dfe4b666dc2fc4a8b87b589c847ac323e71862933ae8e3078e03cf05c44d8", func := "quoin/quoinlaw08.GraphSteps", spec := "graphSteps", unfollowed := true, recurses := true, apart := false, narrowed := true }
def GraphStepsUptoSaid : Prop := graphStepsUptoRow.holds Try.pinned (OpenSpec.upto graphStepsSpec)

/-- 'quoinlaw08.GraphGrows', WHERE WHAT IT READS IS OF BULK AT MOST 1048576: true; the input reads as it did. -/
def graphGrowsUptoRow : OpenClaim := { program := "ytpdilplgdbcjpaa", sum := "dd4dfe4b666dc2fc4a8b87b589c847ac323e71862933ae8e3078e03cf05c44d8", func := "quoin/quoinlaw08.GraphGrows", spec := "graphGrows", unfollowed := true, recurses := true, apart := false, narrowed := true }
def GraphGrowsUptoSaid : Prop := graphGrowsUptoRow.holds Try.pinned (OpenSpec.upto graphGrowsSpec)

end Rows
end Go.Proofs.Ytpdilplgdbcjpaa
