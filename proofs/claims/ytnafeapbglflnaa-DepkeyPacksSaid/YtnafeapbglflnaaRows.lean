/-
  No cell of these rows narrows 'for every input' (looked for: loops, veiled, ifaces, maps, wideKeys, modest, calm, conditions, laid).
  DERIVED. THE GIVEN ROWS OF THIS SEAT. 6 by the template 'for every input the law returns true; each argument reads behind the call as it read before'; 0 by the template 'total and deterministic' (their statements: YtnafeapbglflnaaTotals.lean).
  GIVEN WITH THE SEED: the statements are not yours to turn. If you find one false, say at which input.
  Laid BY PROGRAM, IN A SANDBOX (cutbox-rows.mjs): the forced cells as the released guide's own fill.sh prints them over the translation 38c3c2782e06ec6e… (all of the seat's roots in one cut). By AI agents, Wed Nov 11 2026. No macro, syntax, notation, axiom, sorry.
-/
import Derived.Test.YtnafeapbglflnaaChecked
import GoSem.Claim
import GoSem.ClaimJoined
import GoSem.ClaimMapViews
import Derived.JoinedTies
import Derived.KernelRfl
namespace Go.Proofs.Ytnafeapbglflnaa
/- THE CELL 'sum', in the pinned program and in every row, IS THE sha256 OF THE DUMP (.gsa) THAT YtnafeapbglflnaaProg.lean LOADS. Nothing in Lean hashes anything: it is a label: what it is worth is what the hold of that sum in a sandbox is worth. -/
noncomputable def Try.pinned : Pinned := { name := "ytnafeapbglflnaa", sum := "38c3c2782e06ec6e399e7624a5520bdf6f5b736756ac2e0f2ffdf28a442a2194", checked := Try.checked }
namespace Rows
def none {H : Type} : Left H := { results := [], args := [] }

/-- 'quoinlaw17.DepkeyNames': WHATEVER THE INPUT: true; the input reads as it did. -/
def depkeyNamesSpec : ChangeSpec := { name := "depkeyNames", fn := fun _ => fun
  | [] => { results := [.lit (.bool true)], args := [] }
  | _ => none }
def depkeyNamesRow : OpenClaim := { program := "ytnafeapbglflnaa", sum := "38c3c2782e06ec6e399e7624a5520bdf6f5b736756ac2e0f2ffdf28a442a2194", func := "quoin/quoinlaw17.DepkeyNames", spec := "depkeyNames", unfollowed := true, recurses := true, apart := false }
def DepkeyNamesSaid : Prop := depkeyNamesRow.holds Try.pinned (OpenSpec.ofChange depkeyNamesSpec)

/-- ITS FALSE NEIGHBOUR: 'it returns false'. Refute it at one input. -/
def depkeyNamesWrong : ChangeSpec := { name := "depkeyNames", fn := fun _ => fun
  | [] => { results := [.lit (.bool false)], args := [] }
  | _ => none }
def DepkeyNamesWrongFalsely : Prop := depkeyNamesRow.holds Try.pinned (OpenSpec.ofChange depkeyNamesWrong)

/-- 'quoinlaw17.DepkeyKeys': WHATEVER THE INPUT: true; the input reads as it did. -/
def depkeyKeysSpec : ChangeSpec := { name := "depkeyKeys", fn := fun _ => fun
  | [d1, d2] => { results := [.lit (.bool true)], args := [d1, d2] }
  | _ => none }
def depkeyKeysRow : OpenClaim := { program := "ytnafeapbglflnaa", sum := "38c3c2782e06ec6e399e7624a5520bdf6f5b736756ac2e0f2ffdf28a442a2194", func := "quoin/quoinlaw17.DepkeyKeys", spec := "depkeyKeys", unfollowed := true, recurses := true, apart := false }
def DepkeyKeysSaid : Prop := depkeyKeysRow.holds Try.pinned (OpenSpec.ofChange depkeyKeysSpec)

/-- ITS FALSE NEIGHBOUR: 'it returns false'. Refute it at one input. -/
def depkeyKeysWrong : ChangeSpec := { name := "depkeyKeys", fn := fun _ => fun
  | [d1, d2] => { results := [.lit (.bool false)], args := [d1, d2] }
  | _ => none }
def DepkeyKeysWrongFalsely : Prop := depkeyKeysRow.holds Try.pinned (OpenSpec.ofChange depkeyKeysWrong)

/-- 'quoinlaw17.DepkeySplits': WHATEVER THE INPUT: true; the input reads as it did. -/
def depkeySplitsSpec : ChangeSpec := { name := "depkeySplits", fn := fun _ => fun
  | [d] => { results := [.lit (.bool true)], args := [d] }
  | _ => none }
def depkeySplitsRow : OpenClaim := { program := "ytnafeapbglflnaa", sum := "38c3c2782e06ec6e399e7624a5520bdf6f5b736756ac2e0f2ffdf28a442a2194", func := "quoin/quoinlaw17.DepkeySplits", spec := "depkeySplits", unfollowed := true, recurses := true, apart := false }
def DepkeySplitsSaid : Prop := depkeySplitsRow.holds Try.pinned (OpenSpec.ofChange depkeySplitsSpec)

/-- ITS FALSE NEIGHBOUR: 'it returns false'. Refute it at one input. -/
def depkeySplitsWrong : ChangeSpec := { name := "depkeySplits", fn := fun _ => fun
  | [d] => { results := [.lit (.bool false)], args := [d] }
  | _ => none }
def DepkeySplitsWrongFalsely : Prop := depkeySplitsRow.holds Try.pinned (OpenSpec.ofChange depkeySplitsWrong)

/-- 'quoinlaw17.DepkeyPacks': WHATEVER THE INPUT: true; the input reads as it did. -/
def depkeyPacksSpec : ChangeSpec := { name := "depkeyPacks", fn := fun _ => fun
  | [d1, d2] => { results := [.lit (.bool true)], args := [d1, d2] }
  | _ => none }
def depkeyPacksRow : OpenClaim := { program := "ytnafeapbglflnaa", sum := "38c3c2782e06ec6e399e7624a5520bdf6f5b736756ac2e0f2ffdf28a442a2194", func := "quoin/quoinlaw17.DepkeyPacks", spec := "depkeyPacks", unfollowed := true, recurses := true, apart := false }
def DepkeyPacksSaid : Prop := depkeyPacksRow.holds Try.pinned (OpenSpec.ofChange depkeyPacksSpec)

/-- ITS FALSE NEIGHBOUR: 'it returns false'. Refute it at one input. -/
def depkeyPacksWrong : ChangeSpec := { name := "depkeyPacks", fn := fun _ => fun
  | [d1, d2] => { results := [.lit (.bool false)], args := [d1, d2] }
  | _ => none }
def DepkeyPacksWrongFalsely : Prop := depkeyPacksRow.holds Try.pinned (OpenSpec.ofChange depkeyPacksWrong)

/-- 'quoinlaw17.DepkeyBack': WHATEVER THE INPUT: true; the input reads as it did. -/
def depkeyBackSpec : ChangeSpec := { name := "depkeyBack", fn := fun _ => fun
  | [d1, d2, d3, d4] => { results := [.lit (.bool true)], args := [d1, d2, d3, d4] }
  | _ => none }
def depkeyBackRow : OpenClaim := { program := "ytnafeapbglflnaa", sum := "38c3c2782e06ec6e399e7624a5520bdf6f5b736756ac2e0f2ffdf28a442a2194", func := "quoin/quoinlaw17.DepkeyBack", spec := "depkeyBack", unfollowed := true, recurses := true, apart := false }
def DepkeyBackSaid : Prop := depkeyBackRow.holds Try.pinned (OpenSpec.ofChange depkeyBackSpec)

/-- ITS FALSE NEIGHBOUR: 'it returns false'. Refute it at one input. -/
def depkeyBackWrong : ChangeSpec := { name := "depkeyBack", fn := fun _ => fun
  | [d1, d2, d3, d4] => { results := [.lit (.bool false)], args := [d1, d2, d3, d4] }
  | _ => none }
def DepkeyBackWrongFalsely : Prop := depkeyBackRow.holds Try.pinned (OpenSpec.ofChange depkeyBackWrong)

/-- 'quoinlaw17.DepkeyApart': WHATEVER THE INPUT: true; the input reads as it did. -/
def depkeyApartSpec : ChangeSpec := { name := "depkeyApart", fn := fun _ => fun
  | [d1, d2, d3, d4] => { results := [.lit (.bool true)], args := [d1, d2, d3, d4] }
  | _ => none }
def depkeyApartRow : OpenClaim := { program := "ytnafeapbglflnaa", sum := "38c3c2782e06ec6e399e7624a5520bdf6f5b736756ac2e0f2ffdf28a442a2194", func := "quoin/quoinlaw17.DepkeyApart", spec := "depkeyApart", unfollowed := true, recurses := true, apart := false }
def DepkeyApartSaid : Prop := depkeyApartRow.holds Try.pinned (OpenSpec.ofChange depkeyApartSpec)

/-- ITS FALSE NEIGHBOUR: 'it returns false'. Refute it at one input. -/
def depkeyApartWrong : ChangeSpec := { name := "depkeyApart", fn := fun _ => fun
  | [d1, d2, d3, d4] => { results := [.lit (.bool false)], args := [d1, d2, d3, d4] }
  | _ => none }
def DepkeyApartWrongFalsely : Prop := depkeyApartRow.holds Try.pinned (OpenSpec.ofChange depkeyApartWrong)

/- THE SECOND FORM. 'bulk': how many values and letters a reading holds, each counted each time it is reached (what is shared counts as often as it is met; a slice's spare places count too). A statement '..UptoSaid' is the law's where the arguments, and the package variables that the reading takes, are together of bulk at most 1048576: NARROWER than '..Said'. Prove '..Said' where nothing that the law and all that it calls make is longer than what came in: it says more and counts as full. Else prove '..UptoSaid'. A law counts once. -/
mutual
def uptoBulk {H : Type} : DataW H → Nat
  | .lit (.string bytes) => bytes.length + 1
  | .lit _ => 1
  | .nil => 1
  | .ptr d => uptoBulk d + 1
  | .slice elems spare => uptoBulkAll elems + uptoBulkAll spare + 1
  | .agg parts => uptoBulkAll parts + 1
  | .iface _ d => uptoBulk d + 1
  | .map entries => uptoBulkEntries entries + 1
  | .held _ => 1
def uptoBulkAll {H : Type} : List (DataW H) → Nat
  | [] => 0
  | d :: r => uptoBulk d + uptoBulkAll r
def uptoBulkEntries {H : Type} : List (Lit × DataW H) → Nat
  | [] => 0
  | x :: r => uptoBulkEntry x + uptoBulkEntries r
def uptoBulkEntry {H : Type} : Lit × DataW H → Nat
  | (.string bytes, d) => bytes.length + uptoBulk d + 1
  | (_, d) => uptoBulk d + 1
 end
def uptoSmall : (H : Type) → List (DataW H) → Bool := fun _ ds => decide (uptoBulkAll ds ≤ 1048576)
def OpenSpec.upto (s : _root_.Go.ChangeSpec) : _root_.Go.OpenSpec := { _root_.Go.OpenSpec.ofChange s with cond := some uptoSmall }

/-- 'quoinlaw17.DepkeyNames', WHERE WHAT IT READS IS OF BULK AT MOST 1048576: true; the input reads as it did. -/
def depkeyNamesUptoRow : OpenClaim := { program := "ytnafeapbglflnaa", sum := "38c3c2782e06ec6e399e7624a5520bdf6f5b736756ac2e0f2ffdf28a442a2194", func := "quoin/quoinlaw17.DepkeyNames", spec := "depkeyNames", unfollowed := true, recurses := true, apart := false, narrowed := true }
def DepkeyNamesUptoSaid : Prop := depkeyNamesUptoRow.holds Try.pinned (OpenSpec.upto depkeyNamesSpec)

/-- 'quoinlaw17.DepkeyKeys', WHERE WHAT IT READS IS OF BULK AT MOST 1048576: true; the input reads as it did. -/
def depkeyKeysUptoRow : OpenClaim := { program := "ytnafeapbglflnaa", sum := "38c3c2782e06ec6e399e7624a5520bdf6f5b736756ac2e0f2ffdf28a442a2194", func := "quoin/quoinlaw17.DepkeyKeys", spec := "depkeyKeys", unfollowed := true, recurses := true, apart := false, narrowed := true }
def DepkeyKeysUptoSaid : Prop := depkeyKeysUptoRow.holds Try.pinned (OpenSpec.upto depkeyKeysSpec)

/-- 'quoinlaw17.DepkeySplits', WHERE WHAT IT READS IS OF BULK AT MOST 1048576: true; the input reads as it did. -/
def depkeySplitsUptoRow : OpenClaim := { program := "ytnafeapbglflnaa", sum := "38c3c2782e06ec6e399e7624a5520bdf6f5b736756ac2e0f2ffdf28a442a2194", func := "quoin/quoinlaw17.DepkeySplits", spec := "depkeySplits", unfollowed := true, recurses := true, apart := false, narrowed := true }
def DepkeySplitsUptoSaid : Prop := depkeySplitsUptoRow.holds Try.pinned (OpenSpec.upto depkeySplitsSpec)

/-- 'quoinlaw17.DepkeyPacks', WHERE WHAT IT READS IS OF BULK AT MOST 1048576: true; the input reads as it did. -/
def depkeyPacksUptoRow : OpenClaim := { program := "ytnafeapbglflnaa", sum := "38c3c2782e06ec6e399e7624a5520bdf6f5b736756ac2e0f2ffdf28a442a2194", func := "quoin/quoinlaw17.DepkeyPacks", spec := "depkeyPacks", unfollowed := true, recurses := true, apart := false, narrowed := true }
def DepkeyPacksUptoSaid : Prop := depkeyPacksUptoRow.holds Try.pinned (OpenSpec.upto depkeyPacksSpec)

/-- 'quoinlaw17.DepkeyBack', WHERE WHAT IT READS IS OF BULK AT MOST 1048576: true; the input reads as it did. -/
def depkeyBackUptoRow : OpenClaim := { program := "ytnafeapbglflnaa", sum := "38c3c2782e06ec6e399e7624a5520bdf6f5b736756ac2e0f2ffdf28a442a2194", func := "quoin/quoinlaw17.DepkeyBack", spec := "depkeyBack", unfollowed := true, recurses := true, apart := false, narrowed := true }
def DepkeyBackUptoSaid : Prop := depkeyBackUptoRow.holds Try.pinned (OpenSpec.upto depkeyBackSpec)

/-- 'quoinlaw17.DepkeyApart', WHERE WHAT IT READS IS OF BULK AT MOST 1048576: true; the input reads as it did. -/
def depkeyApartUptoRow : OpenClaim := { program := "ytnafeapbglflnaa", sum := "38c3c2782e06ec6e399e7624a5520bdf6f5b736756ac2e0f2ffdf28a442a2194", func := "quoin/quoinlaw17.DepkeyApart", spec := "depkeyApart", unfollowed := true, recurses := true, apart := false, narrowed := true }
def DepkeyApartUptoSaid : Prop := depkeyApartUptoRow.holds Try.pinned (OpenSpec.upto depkeyApartSpec)

end Rows
end Go.Proofs.Ytnafeapbglflnaa
