/-
  NARROWER THAN 'FOR EVERY INPUT', by the rows' own cells (each row's printed sentence says how): SetsTells: loops · SetsFits: loops · SetsThrough: loops · SetsNone: loops · SetsSides: loops · SetsMore: loops · InferUnifies: loops · InferCalls: loops · InferPlain: loops · InferMore: loops.
  DERIVED. THE GIVEN ROWS OF THIS SEAT. 11 by the template 'for every input the law returns true; each argument reads behind the call as it read before'; 0 by the template 'total and deterministic' (their statements: YtbhagjhhgmmcgaaTotals.lean).
  GIVEN WITH THE SEED: the statements are not yours to turn. If you find one false, say at which input.
  Laid BY PROGRAM, IN A SANDBOX (cutbox-rows.mjs): the forced cells as the released guide's own fill.sh prints them over the translation 84bc2d07346d6595… (all of the seat's roots in one cut). By AI agents, Wed Nov 11 2026. No macro, syntax, notation, axiom, sorry.
-/
import Derived.Test.YtbhagjhhgmmcgaaChecked
import GoSem.Claim
import GoSem.ClaimJoined
import GoSem.ClaimMapViews
import Derived.JoinedTies
import Derived.KernelRfl
namespace Go.Proofs.Ytbhagjhhgmmcgaa
/- THE CELL 'sum', in the pinned program and in every row, IS THE sha256 OF THE DUMP (.gsa) THAT YtbhagjhhgmmcgaaProg.lean LOADS. Nothing in Lean hashes anything: it is a label: what it is worth is what the hold of that sum in a sandbox is worth. -/
noncomputable def Try.pinned : Pinned := { name := "ytbhagjhhgmmcgaa", sum := "84bc2d07346d6595e5b00883acd015a080099203e5a22fa8325627449954d98f", checked := Try.checked }
namespace Rows
def none {H : Type} : Left H := { results := [], args := [] }

/-- 'quoinlaw11.SetsTells': WHATEVER THE INPUT: true; the input reads as it did. -/
def setsTellsSpec : ChangeSpec := { name := "setsTells", fn := fun _ => fun
  | [d1, d2, d3] => { results := [.lit (.bool true)], args := [d1, d2, d3] }
  | _ => none }
def setsTellsRow : OpenClaim := { program := "ytbhagjhhgmmcgaa", sum := "84bc2d07346d6595e5b00883acd015a080099203e5a22fa8325627449954d98f", func := "quoin/quoinlaw11.SetsTells", spec := "setsTells", unfollowed := true, recurses := true, loops := true, apart := false }
def SetsTellsSaid : Prop := setsTellsRow.holds Try.pinned (OpenSpec.ofChange setsTellsSpec)

/-- ITS FALSE NEIGHBOUR: 'it returns false'. Refute it at one input. -/
def setsTellsWrong : ChangeSpec := { name := "setsTells", fn := fun _ => fun
  | [d1, d2, d3] => { results := [.lit (.bool false)], args := [d1, d2, d3] }
  | _ => none }
def SetsTellsWrongFalsely : Prop := setsTellsRow.holds Try.pinned (OpenSpec.ofChange setsTellsWrong)

/-- 'quoinlaw11.SetsFits': WHATEVER THE INPUT: true; the input reads as it did. -/
def setsFitsSpec : ChangeSpec := { name := "setsFits", fn := fun _ => fun
  | [d1, d2, d3] => { results := [.lit (.bool true)], args := [d1, d2, d3] }
  | _ => none }
def setsFitsRow : OpenClaim := { program := "ytbhagjhhgmmcgaa", sum := "84bc2d07346d6595e5b00883acd015a080099203e5a22fa8325627449954d98f", func := "quoin/quoinlaw11.SetsFits", spec := "setsFits", unfollowed := true, recurses := true, loops := true, apart := false }
def SetsFitsSaid : Prop := setsFitsRow.holds Try.pinned (OpenSpec.ofChange setsFitsSpec)

/-- ITS FALSE NEIGHBOUR: 'it returns false'. Refute it at one input. -/
def setsFitsWrong : ChangeSpec := { name := "setsFits", fn := fun _ => fun
  | [d1, d2, d3] => { results := [.lit (.bool false)], args := [d1, d2, d3] }
  | _ => none }
def SetsFitsWrongFalsely : Prop := setsFitsRow.holds Try.pinned (OpenSpec.ofChange setsFitsWrong)

/-- 'quoinlaw11.SetsThrough': WHATEVER THE INPUT: true; the input reads as it did. -/
def setsThroughSpec : ChangeSpec := { name := "setsThrough", fn := fun _ => fun
  | [d1, d2, d3, d4] => { results := [.lit (.bool true)], args := [d1, d2, d3, d4] }
  | _ => none }
def setsThroughRow : OpenClaim := { program := "ytbhagjhhgmmcgaa", sum := "84bc2d07346d6595e5b00883acd015a080099203e5a22fa8325627449954d98f", func := "quoin/quoinlaw11.SetsThrough", spec := "setsThrough", unfollowed := true, recurses := true, loops := true, apart := false }
def SetsThroughSaid : Prop := setsThroughRow.holds Try.pinned (OpenSpec.ofChange setsThroughSpec)

/-- ITS FALSE NEIGHBOUR: 'it returns false'. Refute it at one input. -/
def setsThroughWrong : ChangeSpec := { name := "setsThrough", fn := fun _ => fun
  | [d1, d2, d3, d4] => { results := [.lit (.bool false)], args := [d1, d2, d3, d4] }
  | _ => none }
def SetsThroughWrongFalsely : Prop := setsThroughRow.holds Try.pinned (OpenSpec.ofChange setsThroughWrong)

/-- 'quoinlaw11.SetsNone': WHATEVER THE INPUT: true; the input reads as it did. -/
def setsNoneSpec : ChangeSpec := { name := "setsNone", fn := fun _ => fun
  | [d1, d2, d3] => { results := [.lit (.bool true)], args := [d1, d2, d3] }
  | _ => none }
def setsNoneRow : OpenClaim := { program := "ytbhagjhhgmmcgaa", sum := "84bc2d07346d6595e5b00883acd015a080099203e5a22fa8325627449954d98f", func := "quoin/quoinlaw11.SetsNone", spec := "setsNone", unfollowed := true, recurses := true, loops := true, apart := false }
def SetsNoneSaid : Prop := setsNoneRow.holds Try.pinned (OpenSpec.ofChange setsNoneSpec)

/-- ITS FALSE NEIGHBOUR: 'it returns false'. Refute it at one input. -/
def setsNoneWrong : ChangeSpec := { name := "setsNone", fn := fun _ => fun
  | [d1, d2, d3] => { results := [.lit (.bool false)], args := [d1, d2, d3] }
  | _ => none }
def SetsNoneWrongFalsely : Prop := setsNoneRow.holds Try.pinned (OpenSpec.ofChange setsNoneWrong)

/-- 'quoinlaw11.SetsSides': WHATEVER THE INPUT: true; the input reads as it did. -/
def setsSidesSpec : ChangeSpec := { name := "setsSides", fn := fun _ => fun
  | [d1, d2] => { results := [.lit (.bool true)], args := [d1, d2] }
  | _ => none }
def setsSidesRow : OpenClaim := { program := "ytbhagjhhgmmcgaa", sum := "84bc2d07346d6595e5b00883acd015a080099203e5a22fa8325627449954d98f", func := "quoin/quoinlaw11.SetsSides", spec := "setsSides", unfollowed := true, recurses := true, loops := true, apart := false }
def SetsSidesSaid : Prop := setsSidesRow.holds Try.pinned (OpenSpec.ofChange setsSidesSpec)

/-- ITS FALSE NEIGHBOUR: 'it returns false'. Refute it at one input. -/
def setsSidesWrong : ChangeSpec := { name := "setsSides", fn := fun _ => fun
  | [d1, d2] => { results := [.lit (.bool false)], args := [d1, d2] }
  | _ => none }
def SetsSidesWrongFalsely : Prop := setsSidesRow.holds Try.pinned (OpenSpec.ofChange setsSidesWrong)

/-- 'quoinlaw11.SetsMore': WHATEVER THE INPUT: true; the input reads as it did. -/
def setsMoreSpec : ChangeSpec := { name := "setsMore", fn := fun _ => fun
  | [d1, d2, d3, d4] => { results := [.lit (.bool true)], args := [d1, d2, d3, d4] }
  | _ => none }
def setsMoreRow : OpenClaim := { program := "ytbhagjhhgmmcgaa", sum := "84bc2d07346d6595e5b00883acd015a080099203e5a22fa8325627449954d98f", func := "quoin/quoinlaw11.SetsMore", spec := "setsMore", unfollowed := true, recurses := true, loops := true, apart := false }
def SetsMoreSaid : Prop := setsMoreRow.holds Try.pinned (OpenSpec.ofChange setsMoreSpec)

/-- ITS FALSE NEIGHBOUR: 'it returns false'. Refute it at one input. -/
def setsMoreWrong : ChangeSpec := { name := "setsMore", fn := fun _ => fun
  | [d1, d2, d3, d4] => { results := [.lit (.bool false)], args := [d1, d2, d3, d4] }
  | _ => none }
def SetsMoreWrongFalsely : Prop := setsMoreRow.holds Try.pinned (OpenSpec.ofChange setsMoreWrong)

/-- 'quoinlaw12.InferNames': WHATEVER THE INPUT: true; the input reads as it did. -/
def inferNamesSpec : ChangeSpec := { name := "inferNames", fn := fun _ => fun
  | [] => { results := [.lit (.bool true)], args := [] }
  | _ => none }
def inferNamesRow : OpenClaim := { program := "ytbhagjhhgmmcgaa", sum := "84bc2d07346d6595e5b00883acd015a080099203e5a22fa8325627449954d98f", func := "quoin/quoinlaw12.InferNames", spec := "inferNames", unfollowed := true, recurses := true, apart := false }
def InferNamesSaid : Prop := inferNamesRow.holds Try.pinned (OpenSpec.ofChange inferNamesSpec)

/-- ITS FALSE NEIGHBOUR: 'it returns false'. Refute it at one input. -/
def inferNamesWrong : ChangeSpec := { name := "inferNames", fn := fun _ => fun
  | [] => { results := [.lit (.bool false)], args := [] }
  | _ => none }
def InferNamesWrongFalsely : Prop := inferNamesRow.holds Try.pinned (OpenSpec.ofChange inferNamesWrong)

/-- 'quoinlaw12.InferUnifies': WHATEVER THE INPUT: true; the input reads as it did. -/
def inferUnifiesSpec : ChangeSpec := { name := "inferUnifies", fn := fun _ => fun
  | [d1, d2, d3] => { results := [.lit (.bool true)], args := [d1, d2, d3] }
  | _ => none }
def inferUnifiesRow : OpenClaim := { program := "ytbhagjhhgmmcgaa", sum := "84bc2d07346d6595e5b00883acd015a080099203e5a22fa8325627449954d98f", func := "quoin/quoinlaw12.InferUnifies", spec := "inferUnifies", unfollowed := true, recurses := true, loops := true, apart := false }
def InferUnifiesSaid : Prop := inferUnifiesRow.holds Try.pinned (OpenSpec.ofChange inferUnifiesSpec)

/-- ITS FALSE NEIGHBOUR: 'it returns false'. Refute it at one input. -/
def inferUnifiesWrong : ChangeSpec := { name := "inferUnifies", fn := fun _ => fun
  | [d1, d2, d3] => { results := [.lit (.bool false)], args := [d1, d2, d3] }
  | _ => none }
def InferUnifiesWrongFalsely : Prop := inferUnifiesRow.holds Try.pinned (OpenSpec.ofChange inferUnifiesWrong)

/-- 'quoinlaw12.InferCalls': WHATEVER THE INPUT: true; the input reads as it did. -/
def inferCallsSpec : ChangeSpec := { name := "inferCalls", fn := fun _ => fun
  | [d1, d2, d3] => { results := [.lit (.bool true)], args := [d1, d2, d3] }
  | _ => none }
def inferCallsRow : OpenClaim := { program := "ytbhagjhhgmmcgaa", sum := "84bc2d07346d6595e5b00883acd015a080099203e5a22fa8325627449954d98f", func := "quoin/quoinlaw12.InferCalls", spec := "inferCalls", unfollowed := true, recurses := true, loops := true, apart := false }
def InferCallsSaid : Prop := inferCallsRow.holds Try.pinned (OpenSpec.ofChange inferCallsSpec)

/-- ITS FALSE NEIGHBOUR: 'it returns false'. Refute it at one input. -/
def inferCallsWrong : ChangeSpec := { name := "inferCalls", fn := fun _ => fun
  | [d1, d2, d3] => { results := [.lit (.bool false)], args := [d1, d2, d3] }
  | _ => none }
def InferCallsWrongFalsely : Prop := inferCallsRow.holds Try.pinned (OpenSpec.ofChange inferCallsWrong)

/-- 'quoinlaw12.InferPlain': WHATEVER THE INPUT: true; the input reads as it did. -/
def inferPlainSpec : ChangeSpec := { name := "inferPlain", fn := fun _ => fun
  | [d1, d2, d3] => { results := [.lit (.bool true)], args := [d1, d2, d3] }
  | _ => none }
def inferPlainRow : OpenClaim := { program := "ytbhagjhhgmmcgaa", sum := "84bc2d07346d6595e5b00883acd015a080099203e5a22fa8325627449954d98f", func := "quoin/quoinlaw12.InferPlain", spec := "inferPlain", unfollowed := true, recurses := true, loops := true, apart := false }
def InferPlainSaid : Prop := inferPlainRow.holds Try.pinned (OpenSpec.ofChange inferPlainSpec)

/-- ITS FALSE NEIGHBOUR: 'it returns false'. Refute it at one input. -/
def inferPlainWrong : ChangeSpec := { name := "inferPlain", fn := fun _ => fun
  | [d1, d2, d3] => { results := [.lit (.bool false)], args := [d1, d2, d3] }
  | _ => none }
def InferPlainWrongFalsely : Prop := inferPlainRow.holds Try.pinned (OpenSpec.ofChange inferPlainWrong)

/-- 'quoinlaw12.InferMore': WHATEVER THE INPUT: true; the input reads as it did. -/
def inferMoreSpec : ChangeSpec := { name := "inferMore", fn := fun _ => fun
  | [d1, d2, d3, d4] => { results := [.lit (.bool true)], args := [d1, d2, d3, d4] }
  | _ => none }
def inferMoreRow : OpenClaim := { program := "ytbhagjhhgmmcgaa", sum := "84bc2d07346d6595e5b00883acd015a080099203e5a22fa8325627449954d98f", func := "quoin/quoinlaw12.InferMore", spec := "inferMore", unfollowed := true, recurses := true, loops := true, apart := false }
def InferMoreSaid : Prop := inferMoreRow.holds Try.pinned (OpenSpec.ofChange inferMoreSpec)

/-- ITS FALSE NEIGHBOUR: 'it returns false'. Refute it at one input. -/
def inferMoreWrong : ChangeSpec := { name := "inferMore", fn := fun _ => fun
  | [d1, d2, d3, d4] => { results := [.lit (.bool false)], args := [d1, d2, d3, d4] }
  | _ => none }
def InferMoreWrongFalsely : Prop := inferMoreRow.holds Try.pinned (OpenSpec.ofChange inferMoreWrong)

/- THE SECOND FORM. 'bulk': how many values and letters a reading holds, each counted each time it is reached (what is shared counts as often as it is met; a slice's spare places count too). A statement '..UptoSaid' is the law's where the arguments, and the package variables that the reading takes, are together of bulk at most 1048576: NARROWER than '..Said'. Prove '..Said' where nothing that the law and all that it calls make is longer than what came in: it says more and counts as full. Else prove '..UptoSaid'. A law counts once. -/
mutual
def uptoBulk {H : Type} : DataW H → Nat
  | .lit (.string bytes) => bytes.length + 1
  | .lit _ => 1
  | .nil => 1
  | .ptr d => uptoBulk d + 1
  | .slice elems spare => uptoBulkAll elems + uptoBulkAll spare + 1
  | .agg parts => uptoBulkAll parts + 1
  | .iface _ d => uptoBulk d + 1
  | .map entries => uptoBulkEntries entries + 1
  | .held _ => 1
def uptoBulkAll {H : Type} : List (DataW H) → Nat
  | [] => 0
  | d :: r => uptoBulk d + uptoBulkAll r
def uptoBulkEntries {H : Type} : List (Lit × DataW H) → Nat
  | [] => 0
  | x :: r => uptoBulkEntry x + uptoBulkEntries r
def uptoBulkEntry {H : Type} : Lit × DataW H → Nat
  | (.string bytes, d) => bytes.length + uptoBulk d + 1
  | (_, d) => uptoBulk d + 1
 end
def uptoSmall : (H : Type) → List (DataW H) → Bool := fun _ ds => decide (uptoBulkAll ds ≤ 1048576)
def OpenSpec.upto (s : _root_.Go.ChangeSpec) : _root_.Go.OpenSpec := { _root_.Go.OpenSpec.ofChange s with cond := some uptoSmall }

/-- 'quoinlaw11.SetsTells', WHERE WHAT IT READS IS OF BULK AT MOST 1048576: true; the input reads as it did. -/
def setsTellsUptoRow : OpenClaim := { program := "ytbhagjhhgmmcgaa", sum := "84bc2d07346d6595e5b00883acd015a080099203e5a22fa8325627449954d98f", func := "quoin/quoinlaw11.SetsTells", spec := "setsTells", unfollowed := true, recurses := true, loops := true, apart := false, narrowed := true }
def SetsTellsUptoSaid : Prop := setsTellsUptoRow.holds Try.pinned (OpenSpec.upto setsTellsSpec)

/-- 'quoinlaw11.SetsFits', WHERE WHAT IT READS IS OF BULK AT MOST 1048576: true; the input reads as it did. -/
def setsFitsUptoRow : OpenClaim := { program := "ytbhagjhhgmmcgaa", sum := "84bc2d07346d6595e5b00883acd015a080099203e5a22fa8325627449954d98f", func := "quoin/quoinlaw11.SetsFits", spec := "setsFits", unfollowed := true, recurses := true, loops := true, apart := false, narrowed := true }
def SetsFitsUptoSaid : Prop := setsFitsUptoRow.holds Try.pinned (OpenSpec.upto setsFitsSpec)

/-- 'quoinlaw11.SetsThrough', WHERE WHAT IT READS IS OF BULK AT MOST 1048576: true; the input reads as it did. -/
def setsThroughUptoRow : OpenClaim := { program := "ytbhagjhhgmmcgaa", sum := "84bc2d07346d6595e5b00883acd015a080099203e5a22fa8325627449954d98f", func := "quoin/quoinlaw11.SetsThrough", spec := "setsThrough", unfollowed := true, recurses := true, loops := true, apart := false, narrowed := true }
def SetsThroughUptoSaid : Prop := setsThroughUptoRow.holds Try.pinned (OpenSpec.upto setsThroughSpec)

/-- 'quoinlaw11.SetsNone', WHERE WHAT IT READS IS OF BULK AT MOST 1048576: true; the input reads as it did. -/
def setsNoneUptoRow : OpenClaim := { program := "ytbhagjhhgmmcgaa", sum := "84bc2d07346d6595e5b00883acd015a080099203e5a22fa8325627449954d98f", func := "quoin/quoinlaw11.SetsNone", spec := "setsNone", unfollowed := true, recurses := true, loops := true, apart := false, narrowed := true }
def SetsNoneUptoSaid : Prop := setsNoneUptoRow.holds Try.pinned (OpenSpec.upto setsNoneSpec)

/-- 'quoinlaw11.SetsSides', WHERE WHAT IT READS IS OF BULK AT MOST 1048576: true; the input reads as it did. -/
def setsSidesUptoRow : OpenClaim := { program := "ytbhagjhhgmmcgaa", sum := "84bc2d07346d6595e5b00883acd015a080099203e5a22fa8325627449954d98f", func := "quoin/quoinlaw11.SetsSides", spec := "setsSides", unfollowed := true, recurses := true, loops := true, apart := false, narrowed := true }
def SetsSidesUptoSaid : Prop := setsSidesUptoRow.holds Try.pinned (OpenSpec.upto setsSidesSpec)

/-- 'quoinlaw11.SetsMore', WHERE WHAT IT READS IS OF BULK AT MOST 1048576: true; the input reads as it did. -/
def setsMoreUptoRow : OpenClaim := { program := "ytbhagjhhgmmcgaa", sum := "84bc2d07346d6595e5b00883acd015a080099203e5a22fa8325627449954d98f", func := "quoin/quoinlaw11.SetsMore", spec := "setsMore", unfollowed := true, recurses := true, loops := true, apart := false, narrowed := true }
def SetsMoreUptoSaid : Prop := setsMoreUptoRow.holds Try.pinned (OpenSpec.upto setsMoreSpec)

/-- 'quoinlaw12.InferNames', WHERE WHAT IT READS IS OF BULK AT MOST 1048576: true; the input reads as it did. -/
def inferNamesUptoRow : OpenClaim := { program := "ytbhagjhhgmmcgaa", sum := "84bc2d07346d6595e5b00883acd015a080099203e5a22fa8325627449954d98f", func := "quoin/quoinlaw12.InferNames", spec := "inferNames", unfollowed := true, recurses := true, apart := false, narrowed := true }
def InferNamesUptoSaid : Prop := inferNamesUptoRow.holds Try.pinned (OpenSpec.upto inferNamesSpec)

/-- 'quoinlaw12.InferUnifies', WHERE WHAT IT READS IS OF BULK AT MOST 1048576: true; the input reads as it did. -/
def inferUnifiesUptoRow : OpenClaim := { program := "ytbhagjhhgmmcgaa", sum := "84bc2d07346d6595e5b00883acd015a080099203e5a22fa8325627449954d98f", func := "quoin/quoinlaw12.InferUnifies", spec := "inferUnifies", unfollowed := true, recurses := true, loops := true, apart := false, narrowed := true }
def InferUnifiesUptoSaid : Prop := inferUnifiesUptoRow.holds Try.pinned (OpenSpec.upto inferUnifiesSpec)

/-- 'quoinlaw12.InferCalls', WHERE WHAT IT READS IS OF BULK AT MOST 1048576: true; the input reads as it did. -/
def inferCallsUptoRow : OpenClaim := { program := "ytbhagjhhgmmcgaa", sum := "84bc2d07346d6595e5b00883acd015a080099203e5a22fa8325627449954d98f", func := "quoin/quoinlaw12.InferCalls", spec := "inferCalls", unfollowed := true, recurses := true, loops := true, apart := false, narrowed := true }
def InferCallsUptoSaid : Prop := inferCallsUptoRow.holds Try.pinned (OpenSpec.upto inferCallsSpec)

/-- 'quoinlaw12.InferPlain', WHERE WHAT IT READS IS OF BULK AT MOST 1048576: true; the input reads as it did. -/
def inferPlainUptoRow : OpenClaim := { program := "ytbhagjhhgmmcgaa", sum := "84bc2d07346d6595e5b00883acd015a080099203e5a22fa8325627449954d98f", func := "quoin/quoinlaw12.InferPlain", spec := "inferPlain", unfollowed := true, recurses := true, loops := true, apart := false, narrowed := true }
def InferPlainUptoSaid : Prop := inferPlainUptoRow.holds Try.pinned (OpenSpec.upto inferPlainSpec)

/-- 'quoinlaw12.InferMore', WHERE WHAT IT READS IS OF BULK AT MOST 1048576: true; the input reads as it did. -/
def inferMoreUptoRow : OpenClaim := { program := "ytbhagjhhgmmcgaa", sum := "84bc2d07346d6595e5b00883acd015a080099203e5a22fa8325627449954d98f", func := "quoin/quoinlaw12.InferMore", spec := "inferMore", unfollowed := true, recurses := true, loops := true, apart := false, narrowed := true }
def InferMoreUptoSaid : Prop := inferMoreUptoRow.holds Try.pinned (OpenSpec.upto inferMoreSpec)

end Rows
end Go.Proofs.Ytbhagjhhgmmcgaa
