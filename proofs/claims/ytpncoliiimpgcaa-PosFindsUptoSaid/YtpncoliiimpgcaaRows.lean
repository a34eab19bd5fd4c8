/-
  No cell of these rows narrows 'for every input' (looked for: loops, veiled, ifaces, maps, wideKeys, modest, calm, conditions, laid).
  DERIVED. THE GIVEN ROWS OF THIS SEAT. 7 by the template 'for every input the law returns true; each argument reads behind the call as it read before'; 0 by the template 'total and deterministic' (their statements: YtpncoliiimpgcaaTotals.lean).
  GIVEN WITH THE SEED: the statements are not yours to turn. If you find one false, say at which input.
  Laid BY PROGRAM, IN A SANDBOX (cutbox-rows.mjs): the forced cells as the released guide's own fill.sh prints them over the translation f557596a77944dfd… (all of the seat's roots in one cut). By AI agents, Wed Nov 11 2026. No macro, syntax, notation, axiom, sorry.
-/
import Derived.Test.YtpncoliiimpgcaaChecked
import GoSem.Claim
import GoSem.ClaimJoined
import GoSem.ClaimMapViews
import Derived.JoinedTies
import Derived.KernelRfl
namespace Go.Proofs.Ytpncoliiimpgcaa
/- THE CELL 'sum', in the pinned program and in every row, IS THE sha256 OF THE DUMP (.gsa) THAT YtpncoliiimpgcaaProg.lean LOADS. Nothing in Lean hashes anything: it is a label: what it is worth is what the hold of that sum in a sandbox is worth. -/
noncomputable def Try.pinned : Pinned := { name := "ytpncoliiimpgcaa", sum := "f557596a77944dfd4c6c0c439ba1e6ecb0a1692528f2e9ad7410d6af9a98e4a8", checked := Try.checked }
namespace Rows
def none {H : Type} : Left H := { results := [], args := [] }

/-- 'quoinlaw01.PosNames': WHATEVER THE INPUT: true; the input reads as it did. -/
def posNamesSpec : ChangeSpec := { name := "posNames", fn := fun _ => fun
  | [] => { results := [.lit (.bool true)], args := [] }
  | _ => none }
def posNamesRow : OpenClaim := { program := "ytpncoliiimpgcaa", sum := "f557596a77944dfd4c6c0c439ba1e6ecb0a1692528f2e9ad7410d6af9a98e4a8", func := "quoin/quoinlaw01.PosNames", spec := "posNames", unfollowed := true, recurses := true, apart := false }
def PosNamesSaid : Prop := posNamesRow.holds Try.pinned (OpenSpec.ofChange posNamesSpec)

/-- ITS FALSE NEIGHBOUR: 'it returns false'. Refute it at one input. -/
def posNamesWrong : ChangeSpec := { name := "posNames", fn := fun _ => fun
  | [] => { results := [.lit (.bool false)], args := [] }
  | _ => none }
def PosNamesWrongFalsely : Prop := posNamesRow.holds Try.pinned (OpenSpec.ofChange posNamesWrong)

/-- 'quoinlaw01.PosPlaces': WHATEVER THE INPUT: true; the input reads as it did. -/
def posPlacesSpec : ChangeSpec := { name := "posPlaces", fn := fun _ => fun
  | [d1, d2] => { results := [.lit (.bool true)], args := [d1, d2] }
  | _ => none }
def posPlacesRow : OpenClaim := { program := "ytpncoliiimpgcaa", sum := "f557596a77944dfd4c6c0c439ba1e6ecb0a1692528f2e9ad7410d6af9a98e4a8", func := "quoin/quoinlaw01.PosPlaces", spec := "posPlaces", unfollowed := true, recurses := true, apart := false }
def PosPlacesSaid : Prop := posPlacesRow.holds Try.pinned (OpenSpec.ofChange posPlacesSpec)

/-- ITS FALSE NEIGHBOUR: 'it returns false'. Refute it at one input. -/
def posPlacesWrong : ChangeSpec := { name := "posPlaces", fn := fun _ => fun
  | [d1, d2] => { results := [.lit (.bool false)], args := [d1, d2] }
  | _ => none }
def PosPlacesWrongFalsely : Prop := posPlacesRow.holds Try.pinned (OpenSpec.ofChange posPlacesWrong)

/-- 'quoinlaw01.PosFinds': WHATEVER THE INPUT: true; the input reads as it did. -/
def posFindsSpec : ChangeSpec := { name := "posFinds", fn := fun _ => fun
  | [d1, d2, d3] => { results := [.lit (.bool true)], args := [d1, d2, d3] }
  | _ => none }
def posFindsRow : OpenClaim := { program := "ytpncoliiimpgcaa", sum := "f557596a77944dfd4c6c0c439ba1e6ecb0a1692528f2e9ad7410d6af9a98e4a8", func := "quoin/quoinlaw01.PosFinds", spec := "posFinds", unfollowed := true, recurses := true, apart := false }
def PosFindsSaid : Prop := posFindsRow.holds Try.pinned (OpenSpec.ofChange posFindsSpec)

/-- ITS FALSE NEIGHBOUR: 'it returns false'. Refute it at one input. -/
def posFindsWrong : ChangeSpec := { name := "posFinds", fn := fun _ => fun
  | [d1, d2, d3] => { results := [.lit (.bool false)], args := [d1, d2, d3] }
  | _ => none }
def PosFindsWrongFalsely : Prop := posFindsRow.holds Try.pinned (OpenSpec.ofChange posFindsWrong)

/-- 'quoinlaw01.PosBack': WHATEVER THE INPUT: true; the input reads as it did. -/
def posBackSpec : ChangeSpec := { name := "posBack", fn := fun _ => fun
  | [d1, d2, d3, d4] => { results := [.lit (.bool true)], args := [d1, d2, d3, d4] }
  | _ => none }
def posBackRow : OpenClaim := { program := "ytpncoliiimpgcaa", sum := "f557596a77944dfd4c6c0c439ba1e6ecb0a1692528f2e9ad7410d6af9a98e4a8", func := "quoin/quoinlaw01.PosBack", spec := "posBack", unfollowed := true, recurses := true, apart := false }
def PosBackSaid : Prop := posBackRow.holds Try.pinned (OpenSpec.ofChange posBackSpec)

/-- ITS FALSE NEIGHBOUR: 'it returns false'. Refute it at one input. -/
def posBackWrong : ChangeSpec := { name := "posBack", fn := fun _ => fun
  | [d1, d2, d3, d4] => { results := [.lit (.bool false)], args := [d1, d2, d3, d4] }
  | _ => none }
def PosBackWrongFalsely : Prop := posBackRow.holds Try.pinned (OpenSpec.ofChange posBackWrong)

/-- 'quoinlaw01.PosJoins': WHATEVER THE INPUT: true; the input reads as it did. -/
def posJoinsSpec : ChangeSpec := { name := "posJoins", fn := fun _ => fun
  | [d] => { results := [.lit (.bool true)], args := [d] }
  | _ => none }
def posJoinsRow : OpenClaim := { program := "ytpncoliiimpgcaa", sum := "f557596a77944dfd4c6c0c439ba1e6ecb0a1692528f2e9ad7410d6af9a98e4a8", func := "quoin/quoinlaw01.PosJoins", spec := "posJoins", unfollowed := true, recurses := true, apart := false }
def PosJoinsSaid : Prop := posJoinsRow.holds Try.pinned (OpenSpec.ofChange posJoinsSpec)

/-- ITS FALSE NEIGHBOUR: 'it returns false'. Refute it at one input. -/
def posJoinsWrong : ChangeSpec := { name := "posJoins", fn := fun _ => fun
  | [d] => { results := [.lit (.bool false)], args := [d] }
  | _ => none }
def PosJoinsWrongFalsely : Prop := posJoinsRow.holds Try.pinned (OpenSpec.ofChange posJoinsWrong)

/-- 'quoinlaw01.PosRises': WHATEVER THE INPUT: true; the input reads as it did. -/
def posRisesSpec : ChangeSpec := { name := "posRises", fn := fun _ => fun
  | [d1, d2, d3] => { results := [.lit (.bool true)], args := [d1, d2, d3] }
  | _ => none }
def posRisesRow : OpenClaim := { program := "ytpncoliiimpgcaa", sum := "f557596a77944dfd4c6c0c439ba1e6ecb0a1692528f2e9ad7410d6af9a98e4a8", func := "quoin/quoinlaw01.PosRises", spec := "posRises", unfollowed := true, recurses := true, apart := false }
def PosRisesSaid : Prop := posRisesRow.holds Try.pinned (OpenSpec.ofChange posRisesSpec)

/-- ITS FALSE NEIGHBOUR: 'it returns false'. Refute it at one input. -/
def posRisesWrong : ChangeSpec := { name := "posRises", fn := fun _ => fun
  | [d1, d2, d3] => { results := [.lit (.bool false)], args := [d1, d2, d3] }
  | _ => none }
def PosRisesWrongFalsely : Prop := posRisesRow.holds Try.pinned (OpenSpec.ofChange posRisesWrong)

/-- 'quoinlaw01.PosNil': WHATEVER THE INPUT: true; the input reads as it did. -/
def posNilSpec : ChangeSpec := { name := "posNil", fn := fun _ => fun
  | [d] => { results := [.lit (.bool true)], args := [d] }
  | _ => none }
def posNilRow : OpenClaim := { program := "ytpncoliiimpgcaa", sum := "f557596a77944dfd4c6c0c439ba1e6ecb0a1692528f2e9ad7410d6af9a98e4a8", func := "quoin/quoinlaw01.PosNil", spec := "posNil", unfollowed := true, recurses := true, apart := false }
def PosNilSaid : Prop := posNilRow.holds Try.pinned (OpenSpec.ofChange posNilSpec)

/-- ITS FALSE NEIGHBOUR: 'it returns false'. Refute it at one input. -/
def posNilWrong : ChangeSpec := { name := "posNil", fn := fun _ => fun
  | [d] => { results := [.lit (.bool false)], args := [d] }
  | _ => none }
def PosNilWrongFalsely : Prop := posNilRow.holds Try.pinned (OpenSpec.ofChange posNilWrong)

/- THE SECOND FORM. 'bulk': how many values and letters a reading holds, each counted each time it is reached (what is shared counts as often as it is met; a slice's spare places count too). A statement '..UptoSaid' is the law's where the arguments, and the package variables that the reading takes, are together of bulk at most 1048576: NARROWER than '..Said'. Prove '..Said' where nothing that the law and all that it calls make is longer than what came in: it says more and counts as full. Else prove '..UptoSaid'. A law counts once. -/
mutual
def uptoBulk {H : Type} : DataW H → Nat
  | .lit (.string bytes) => bytes.length + 1
  | .lit _ => 1
  | .nil => 1
  | .ptr d => uptoBulk d + 1
  | .slice elems spare => uptoBulkAll elems + uptoBulkAll spare + 1
  | .agg parts => uptoBulkAll parts + 1
  | .iface _ d => uptoBulk d + 1
  | .map entries => uptoBulkEntries entries + 1
  | .held _ => 1
def uptoBulkAll {H : Type} : List (DataW H) → Nat
  | [] => 0
  | d :: r => uptoBulk d + uptoBulkAll r
def uptoBulkEntries {H : Type} : List (Lit × DataW H) → Nat
  | [] => 0
  | x :: r => uptoBulkEntry x + uptoBulkEntries r
def uptoBulkEntry {H : Type} : Lit × DataW H → Nat
  | (.string bytes, d) => bytes.length + uptoBulk d + 1
  | (_, d) => uptoBulk d + 1
 end
def uptoSmall : (H : Type) → List (DataW H) → Bool := fun _ ds => decide (uptoBulkAll ds ≤ 1048576)
def OpenSpec.upto (s : _root_.Go.ChangeSpec) : _root_.Go.OpenSpec := { _root_.Go.OpenSpec.ofChange s with cond := some uptoSmall }

/-- 'quoinlaw01.PosNames', WHERE WHAT IT READS IS OF BULK AT MOST 1048576: true; the input reads as it did. -/
def posNamesUptoRow : OpenClaim := { program := "ytpncoliiimpgcaa", sum := "f557596a77944dfd4c6c0c439ba1e6ecb0a1692528f2e9ad7410d6af9a98e4a8", func := "quoin/quoinlaw01.PosNames", spec := "posNames", unfollowed := true, recurses := true, apart := false, narrowed := true }
def PosNamesUptoSaid : Prop := posNamesUptoRow.holds Try.pinned (OpenSpec.upto posNamesSpec)

/-- 'quoinlaw01.PosPlaces', WHERE WHAT IT READS IS OF BULK AT MOST 1048576: true; the input reads as it did. -/
def posPlacesUptoRow : OpenClaim := { program := "ytpncoliiimpgcaa", sum := "f557596a77944dfd4c6c0c439ba1e6ecb0a1692528f2e9ad7410d6af9a98e4a8", func := "quoin/quoinlaw01.PosPlaces", spec := "posPlaces", unfollowed := true, recurses := true, apart := false, narrowed := true }
def PosPlacesUptoSaid : Prop := posPlacesUptoRow.holds Try.pinned (OpenSpec.upto posPlacesSpec)

/-- 'quoinlaw01.PosFinds', WHERE WHAT IT READS IS OF BULK AT MOST 1048576: true; the input reads as it did. -/
def posFindsUptoRow : OpenClaim := { program := "ytpncoliiimpgcaa", sum := "f557596a77944dfd4c6c0c439ba1e6ecb0a1692528f2e9ad7410d6af9a98e4a8", func := "quoin/quoinlaw01.PosFinds", spec := "posFinds", unfollowed := true, recurses := true, apart := false, narrowed := true }
def PosFindsUptoSaid : Prop := posFindsUptoRow.holds Try.pinned (OpenSpec.upto posFindsSpec)

/-- 'quoinlaw01.PosBack', WHERE WHAT IT READS IS OF BULK AT MOST 1048576: true; the input reads as it did. -/
def posBackUptoRow : OpenClaim := { program := "ytpncoliiimpgcaa", sum := "f557596a77944dfd4c6c0c439ba1e6ecb0a1692528f2e9ad7410d6af9a98e4a8", func := "quoin/quoinlaw01.PosBack", spec := "posBack", unfollowed := true, recurses := true, apart := false, narrowed := true }
def PosBackUptoSaid : Prop := posBackUptoRow.holds Try.pinned (OpenSpec.upto posBackSpec)

/-- 'quoinlaw01.PosJoins', WHERE WHAT IT READS IS OF BULK AT MOST 1048576: true; the input reads as it did. -/
def posJoinsUptoRow : OpenClaim := { program := "ytpncoliiimpgcaa", sum := "f557596a77944dfd4c6c0c439ba1e6ecb0a1692528f2e9ad7410d6af9a98e4a8", func := "quoin/quoinlaw01.PosJoins", spec := "posJoins", unfollowed := true, recurses := true, apart := false, narrowed := true }
def PosJoinsUptoSaid : Prop := posJoinsUptoRow.holds Try.pinned (OpenSpec.upto posJoinsSpec)

/-- 'quoinlaw01.PosRises', WHERE WHAT IT READS IS OF BULK AT MOST 1048576: true; the input reads as it did. -/
def posRisesUptoRow : OpenClaim := { program := "ytpncoliiimpgcaa", sum := "f557596a77944dfd4c6c0c439ba1e6ecb0a1692528f2e9ad7410d6af9a98e4a8", func := "quoin/quoinlaw01.PosRises", spec := "posRises", unfollowed := true, recurses := true, apart := false, narrowed := true }
def PosRisesUptoSaid : Prop := posRisesUptoRow.holds Try.pinned (OpenSpec.upto posRisesSpec)

/-- 'quoinlaw01.PosNil', WHERE WHAT IT READS IS OF BULK AT MOST 1048576: true; the input reads as it did. -/
def posNilUptoRow : OpenClaim := { program := "ytpncoliiimpgcaa", sum := "f557596a77944dfd4c6c0c439ba1e6ecb0a1692528f2e9ad7410d6af9a98e4a8", func := "quoin/quoinlaw01.PosNil", spec := "posNil", unfollowed := true, recurses := true, apart := false, narrowed := true }
def PosNilUptoSaid : Prop := posNilUptoRow.holds Try.pinned (OpenSpec.upto posNilSpec)

end Rows
end Go.Proofs.Ytpncoliiimpgcaa
