/-
  NARROWER THAN 'FOR EVERY INPUT', by the rows' own cells (each row's printed sentence says how): LexNames: laid · LexReads: laid · LexCovers: laid · LexJoins: laid · LexBehind: laid · LexSplits: laid · TypexNames: laid · TypexReads: laid · TypexTexts: laid · TypexBehind: laid · TypexDeep: laid.
  DERIVED. THE GIVEN ROWS OF THIS SEAT. 11 by the template 'for every input the law returns true; each argument reads behind the call as it read before'; 0 by the template 'total and deterministic' (their statements: YtlmggfbpdciioaaDoorTotals.lean).
  GIVEN WITH THE SEED: the statements are not yours to turn. If you find one false, say at which input.
  Laid BY PROGRAM, IN A SANDBOX (cutbox-rows.mjs): the forced cells as the released guide's own fill.sh prints them over the translation 7bc50500f32fac78… (all of the seat's roots in one cut). By AI agents, Wed Nov 11 2026. No macro, syntax, notation, axiom, sorry.
-/
import Derived.Test.YtlmggfbpdciioaaDoorChecked
import GoSem.Claim
import GoSem.ClaimJoined
import GoSem.ClaimMapViews
import Derived.JoinedTies
import Derived.KernelRfl
namespace Go.Proofs.YtlmggfbpdciioaaDoor
/- THE CELL 'sum', in the pinned program and in every row, IS THE sha256 OF THE DUMP (.gsa) THAT YtlmggfbpdciioaaDoorProg.lean LOADS. Nothing in Lean hashes anything: it is a label: what it is worth is what the hold of that sum in a sandbox is worth. -/
noncomputable def Tryd.pinned : Pinned := { name := "ytlmggfbpdciioaadoor", sum := "7bc50500f32fac789ec3ef421c6faa3b0bbac3b21b80fd7863269fe29efb9b3c", checked := Tryd.checked }
namespace Rows
def none {H : Type} : Left H := { results := [], args := [] }

/- WHAT THE LISTED PACKAGE-LEVEL VARIABLES READ AS WHEN THE CALL BEGINS. Each datum BY PROGRAM (the guide's laid-datum.mjs) off the statement by which the dump's own 'gosem.cut.vars' lays the variable. In a bare row this is a premise. The card (YtlmggfbpdciioaaDoorCards.lean) ties it to the program's text. -/
def laid_unicode_White_Space {H : Type} : DataW H := .ptr (.agg [.slice [.agg [.lit (.int .u16 9), .lit (.int .u16 13), .lit (.int .u16 1)], .agg [.lit (.int .u16 32), .lit (.int .u16 133), .lit (.int .u16 101)], .agg [.lit (.int .u16 160), .lit (.int .u16 5760), .lit (.int .u16 5600)], .agg [.lit (.int .u16 8192), .lit (.int .u16 8202), .lit (.int .u16 1)], .agg [.lit (.int .u16 8232), .lit (.int .u16 8233), .lit (.int .u16 1)], .agg [.lit (.int .u16 8239), .lit (.int .u16 8287), .lit (.int .u16 48)], .agg [.lit (.int .u16 12288), .lit (.int .u16 12288), .lit (.int .u16 1)]] [], .nil, .lit (.int .i64 2)])
def laid_strings_asciiSpace {H : Type} : DataW H := .agg [.lit (.int .u8 0), .lit (.int .u8 0), .lit (.int .u8 0), .lit (.int .u8 0), .lit (.int .u8 0), .lit (.int .u8 0), .lit (.int .u8 0), .lit (.int .u8 0), .lit (.int .u8 0), .lit (.int .u8 1), .lit (.int .u8 1), .lit (.int .u8 1), .lit (.int .u8 1), .lit (.int .u8 1), .lit (.int .u8 0), .lit (.int .u8 0), .lit (.int .u8 0), .lit (.int .u8 0), .lit (.int .u8 0), .lit (.int .u8 0), .lit (.int .u8 0), .lit (.int .u8 0), .lit (.int .u8 0), .lit (.int .u8 0), .lit (.int .u8 0), .lit (.int .u8 0), .lit (.int .u8 0), .lit (.int .u8 0), .lit (.int .u8 0), .lit (.int .u8 0), .lit (.int .u8 0), .lit (.int .u8 0), .lit (.int .u8 1), .lit (.int .u8 0), .lit (.int .u8 0), .lit (.int .u8 0), .lit (.int .u8 0), .lit (.int .u8 0), .lit (.int .u8 0), .lit (.int .u8 0), .lit (.int .u8 0), .lit (.int .u8 0), .lit (.int .u8 0), .lit (.int .u8 0), .lit (.int .u8 0), .lit (.int .u8 0), .lit (.int .u8 0), .lit (.int .u8 0), .lit (.int .u8 0), .lit (.int .u8 0), .lit (.int .u8 0), .lit (.int .u8 0), .lit (.int .u8 0), .lit (.int .u8 0), .lit (.int .u8 0), .lit (.int .u8 0), .lit (.int .u8 0), .lit (.int .u8 0), .lit (.int .u8 0), .lit (.int .u8 0), .lit (.int .u8 0), .lit (.int .u8 0), .lit (.int .u8 0), .lit (.int .u8 0), .lit (.int .u8 0), .lit (.int .u8 0), .lit (.int .u8 0), .lit (.int .u8 0), .lit (.int .u8 0), .lit (.int .u8 0), .lit (.int .u8 0), .lit (.int .u8 0), .lit (.int .u8 0), .lit (.int .u8 0), .lit (.int .u8 0), .lit (.int .u8 0), .lit (.int .u8 0), .lit (.int .u8 0), .lit (.int .u8 0), .lit (.int .u8 0), .lit (.int .u8 0), .lit (.int .u8 0), .lit (.int .u8 0), .lit (.int .u8 0), .lit (.int .u8 0), .lit (.int .u8 0), .lit (.int .u8 0), .lit (.int .u8 0), .lit (.int .u8 0), .lit (.int .u8 0), .lit (.int .u8 0), .lit (.int .u8 0), .lit (.int .u8 0), .lit (.int .u8 0), .lit (.int .u8 0), .lit (.int .u8 0), .lit (.int .u8 0), .lit (.int .u8 0), .lit (.int .u8 0), .lit (.int .u8 0), .lit (.int .u8 0), .lit (.int .u8 0), .lit (.int .u8 0), .lit (.int .u8 0), .lit (.int .u8 0), .lit (.int .u8 0), .lit (.int .u8 0), .lit (.int .u8 0), .lit (.int .u8 0), .lit (.int .u8 0), .lit (.int .u8 0), .lit (.int .u8 0), .lit (.int .u8 0), .lit (.int .u8 0), .lit (.int .u8 0), .lit (.int .u8 0), .lit (.int .u8 0), .lit (.int .u8 0), .lit (.int .u8 0), .lit (.int .u8 0), .lit (.int .u8 0), .lit (.int .u8 0), .lit (.int .u8 0), .lit (.int .u8 0), .lit (.int .u8 0), .lit (.int .u8 0), .lit (.int .u8 0), .lit (.int .u8 0), .lit (.int .u8 0), .lit (.int .u8 0), .lit (.int .u8 0), .lit (.int .u8 0), .lit (.int .u8 0), .lit (.int .u8 0), .lit (.int .u8 0), .lit (.int .u8 0), .lit (.int .u8 0), .lit (.int .u8 0), .lit (.int .u8 0), .lit (.int .u8 0), .lit (.int .u8 0), .lit (.int .u8 0), .lit (.int .u8 0), .lit (.int .u8 0), .lit (.int .u8 0), .lit (.int .u8 0), .lit (.int .u8 0), .lit (.int .u8 0), .lit (.int .u8 0), .lit (.int .u8 0), .lit (.int .u8 0), .lit (.int .u8 0), .lit (.int .u8 0), .lit (.int .u8 0), .lit (.int .u8 0), .lit (.int .u8 0), .lit (.int .u8 0), .lit (.int .u8 0), .lit (.int .u8 0), .lit (.int .u8 0), .lit (.int .u8 0), .lit (.int .u8 0), .lit (.int .u8 0), .lit (.int .u8 0), .lit (.int .u8 0), .lit (.int .u8 0), .lit (.int .u8 0), .lit (.int .u8 0), .lit (.int .u8 0), .lit (.int .u8 0), .lit (.int .u8 0), .lit (.int .u8 0), .lit (.int .u8 0), .lit (.int .u8 0), .lit (.int .u8 0), .lit (.int .u8 0), .lit (.int .u8 0), .lit (.int .u8 0), .lit (.int .u8 0), .lit (.int .u8 0), .lit (.int .u8 0), .lit (.int .u8 0), .lit (.int .u8 0), .lit (.int .u8 0), .lit (.int .u8 0), .lit (.int .u8 0), .lit (.int .u8 0), .lit (.int .u8 0), .lit (.int .u8 0), .lit (.int .u8 0), .lit (.int .u8 0), .lit (.int .u8 0), .lit (.int .u8 0), .lit (.int .u8 0), .lit (.int .u8 0), .lit (.int .u8 0), .lit (.int .u8 0), .lit (.int .u8 0), .lit (.int .u8 0), .lit (.int .u8 0), .lit (.int .u8 0), .lit (.int .u8 0), .lit (.int .u8 0), .lit (.int .u8 0), .lit (.int .u8 0), .lit (.int .u8 0), .lit (.int .u8 0), .lit (.int .u8 0), .lit (.int .u8 0), .lit (.int .u8 0), .lit (.int .u8 0), .lit (.int .u8 0), .lit (.int .u8 0), .lit (.int .u8 0), .lit (.int .u8 0), .lit (.int .u8 0), .lit (.int .u8 0), .lit (.int .u8 0), .lit (.int .u8 0), .lit (.int .u8 0), .lit (.int .u8 0), .lit (.int .u8 0), .lit (.int .u8 0), .lit (.int .u8 0), .lit (.int .u8 0), .lit (.int .u8 0), .lit (.int .u8 0), .lit (.int .u8 0), .lit (.int .u8 0), .lit (.int .u8 0), .lit (.int .u8 0), .lit (.int .u8 0), .lit (.int .u8 0), .lit (.int .u8 0), .lit (.int .u8 0), .lit (.int .u8 0), .lit (.int .u8 0), .lit (.int .u8 0), .lit (.int .u8 0), .lit (.int .u8 0), .lit (.int .u8 0), .lit (.int .u8 0), .lit (.int .u8 0), .lit (.int .u8 0), .lit (.int .u8 0), .lit (.int .u8 0), .lit (.int .u8 0), .lit (.int .u8 0), .lit (.int .u8 0), .lit (.int .u8 0), .lit (.int .u8 0), .lit (.int .u8 0), .lit (.int .u8 0), .lit (.int .u8 0), .lit (.int .u8 0), .lit (.int .u8 0)]

/-- 'quoinlaw02.LexNames': WHATEVER THE INPUT: true; the input reads as it did. -/
def lexNamesSpec : ChangeSpec := { name := "lexNames", fn := fun _ => fun
  | [] => { results := [.lit (.bool true)], args := [] }
  | _ => none }
def lexNamesRow : OpenClaim := { program := "ytlmggfbpdciioaadoor", sum := "7bc50500f32fac789ec3ef421c6faa3b0bbac3b21b80fd7863269fe29efb9b3c", func := "quoin/quoinlaw02.LexNames", spec := "lexNames", inPlace := ["internal/bytealg.IndexByteString"], unfollowed := true, recurses := true, named := ["strings.asciiSpace", "unicode.White_Space"], apart := false, laid := [("unicode.White_Space", laid_unicode_White_Space), ("strings.asciiSpace", laid_strings_asciiSpace)] }
def LexNamesSaid : Prop := lexNamesRow.holds Tryd.pinned (OpenSpec.ofChange lexNamesSpec)

/-- ITS FALSE NEIGHBOUR: 'it returns false'. Refute it at one input. -/
def lexNamesWrong : ChangeSpec := { name := "lexNames", fn := fun _ => fun
  | [] => { results := [.lit (.bool false)], args := [] }
  | _ => none }
def LexNamesWrongFalsely : Prop := lexNamesRow.holds Tryd.pinned (OpenSpec.ofChange lexNamesWrong)

/-- 'quoinlaw02.LexReads': WHATEVER THE INPUT: true; the input reads as it did. -/
def lexReadsSpec : ChangeSpec := { name := "lexReads", fn := fun _ => fun
  | [d] => { results := [.lit (.bool true)], args := [d] }
  | _ => none }
def lexReadsRow : OpenClaim := { program := "ytlmggfbpdciioaadoor", sum := "7bc50500f32fac789ec3ef421c6faa3b0bbac3b21b80fd7863269fe29efb9b3c", func := "quoin/quoinlaw02.LexReads", spec := "lexReads", inPlace := ["internal/bytealg.IndexByteString"], unfollowed := true, recurses := true, named := ["strings.asciiSpace", "unicode.White_Space"], apart := false, laid := [("unicode.White_Space", laid_unicode_White_Space), ("strings.asciiSpace", laid_strings_asciiSpace)] }
def LexReadsSaid : Prop := lexReadsRow.holds Tryd.pinned (OpenSpec.ofChange lexReadsSpec)

/-- ITS FALSE NEIGHBOUR: 'it returns false'. Refute it at one input. -/
def lexReadsWrong : ChangeSpec := { name := "lexReads", fn := fun _ => fun
  | [d] => { results := [.lit (.bool false)], args := [d] }
  | _ => none }
def LexReadsWrongFalsely : Prop := lexReadsRow.holds Tryd.pinned (OpenSpec.ofChange lexReadsWrong)

/-- 'quoinlaw02.LexCovers': WHATEVER THE INPUT: true; the input reads as it did. -/
def lexCoversSpec : ChangeSpec := { name := "lexCovers", fn := fun _ => fun
  | [d] => { results := [.lit (.bool true)], args := [d] }
  | _ => none }
def lexCoversRow : OpenClaim := { program := "ytlmggfbpdciioaadoor", sum := "7bc50500f32fac789ec3ef421c6faa3b0bbac3b21b80fd7863269fe29efb9b3c", func := "quoin/quoinlaw02.LexCovers", spec := "lexCovers", inPlace := ["internal/bytealg.IndexByteString"], unfollowed := true, recurses := true, named := ["strings.asciiSpace", "unicode.White_Space"], apart := false, laid := [("unicode.White_Space", laid_unicode_White_Space), ("strings.asciiSpace", laid_strings_asciiSpace)] }
def LexCoversSaid : Prop := lexCoversRow.holds Tryd.pinned (OpenSpec.ofChange lexCoversSpec)

/-- ITS FALSE NEIGHBOUR: 'it returns false'. Refute it at one input. -/
def lexCoversWrong : ChangeSpec := { name := "lexCovers", fn := fun _ => fun
  | [d] => { results := [.lit (.bool false)], args := [d] }
  | _ => none }
def LexCoversWrongFalsely : Prop := lexCoversRow.holds Tryd.pinned (OpenSpec.ofChange lexCoversWrong)

/-- 'quoinlaw02.LexJoins': WHATEVER THE INPUT: true; the input reads as it did. -/
def lexJoinsSpec : ChangeSpec := { name := "lexJoins", fn := fun _ => fun
  | [d] => { results := [.lit (.bool true)], args := [d] }
  | _ => none }
def lexJoinsRow : OpenClaim := { program := "ytlmggfbpdciioaadoor", sum := "7bc50500f32fac789ec3ef421c6faa3b0bbac3b21b80fd7863269fe29efb9b3c", func := "quoin/quoinlaw02.LexJoins", spec := "lexJoins", inPlace := ["internal/bytealg.IndexByteString"], unfollowed := true, recurses := true, named := ["strings.asciiSpace", "unicode.White_Space"], apart := false, laid := [("unicode.White_Space", laid_unicode_White_Space), ("strings.asciiSpace", laid_strings_asciiSpace)] }
def LexJoinsSaid : Prop := lexJoinsRow.holds Tryd.pinned (OpenSpec.ofChange lexJoinsSpec)

/-- ITS FALSE NEIGHBOUR: 'it returns false'. Refute it at one input. -/
def lexJoinsWrong : ChangeSpec := { name := "lexJoins", fn := fun _ => fun
  | [d] => { results := [.lit (.bool false)], args := [d] }
  | _ => none }
def LexJoinsWrongFalsely : Prop := lexJoinsRow.holds Tryd.pinned (OpenSpec.ofChange lexJoinsWrong)

/-- 'quoinlaw02.LexBehind': WHATEVER THE INPUT: true; the input reads as it did. -/
def lexBehindSpec : ChangeSpec := { name := "lexBehind", fn := fun _ => fun
  | [d1, d2] => { results := [.lit (.bool true)], args := [d1, d2] }
  | _ => none }
def lexBehindRow : OpenClaim := { program := "ytlmggfbpdciioaadoor", sum := "7bc50500f32fac789ec3ef421c6faa3b0bbac3b21b80fd7863269fe29efb9b3c", func := "quoin/quoinlaw02.LexBehind", spec := "lexBehind", inPlace := ["internal/bytealg.IndexByteString"], unfollowed := true, recurses := true, named := ["strings.asciiSpace", "unicode.White_Space"], apart := false, laid := [("unicode.White_Space", laid_unicode_White_Space), ("strings.asciiSpace", laid_strings_asciiSpace)] }
def LexBehindSaid : Prop := lexBehindRow.holds Tryd.pinned (OpenSpec.ofChange lexBehindSpec)

/-- ITS FALSE NEIGHBOUR: 'it returns false'. Refute it at one input. -/
def lexBehindWrong : ChangeSpec := { name := "lexBehind", fn := fun _ => fun
  | [d1, d2] => { results := [.lit (.bool false)], args := [d1, d2] }
  | _ => none }
def LexBehindWrongFalsely : Prop := lexBehindRow.holds Tryd.pinned (OpenSpec.ofChange lexBehindWrong)

/-- 'quoinlaw02.LexSplits': WHATEVER THE INPUT: true; the input reads as it did. -/
def lexSplitsSpec : ChangeSpec := { name := "lexSplits", fn := fun _ => fun
  | [d1, d2] => { results := [.lit (.bool true)], args := [d1, d2] }
  | _ => none }
def lexSplitsRow : OpenClaim := { program := "ytlmggfbpdciioaadoor", sum := "7bc50500f32fac789ec3ef421c6faa3b0bbac3b21b80fd7863269fe29efb9b3c", func := "quoin/quoinlaw02.LexSplits", spec := "lexSplits", inPlace := ["internal/bytealg.IndexByteString"], unfollowed := true, recurses := true, named := ["strings.asciiSpace", "unicode.White_Space"], apart := false, laid := [("unicode.White_Space", laid_unicode_White_Space), ("strings.asciiSpace", laid_strings_asciiSpace)] }
def LexSplitsSaid : Prop := lexSplitsRow.holds Tryd.pinned (OpenSpec.ofChange lexSplitsSpec)

/-- ITS FALSE NEIGHBOUR: 'it returns false'. Refute it at one input. -/
def lexSplitsWrong : ChangeSpec := { name := "lexSplits", fn := fun _ => fun
  | [d1, d2] => { results := [.lit (.bool false)], args := [d1, d2] }
  | _ => none }
def LexSplitsWrongFalsely : Prop := lexSplitsRow.holds Tryd.pinned (OpenSpec.ofChange lexSplitsWrong)

/-- 'quoinlaw03.TypexNames': WHATEVER THE INPUT: true; the input reads as it did. -/
def typexNamesSpec : ChangeSpec := { name := "typexNames", fn := fun _ => fun
  | [] => { results := [.lit (.bool true)], args := [] }
  | _ => none }
def typexNamesRow : OpenClaim := { program := "ytlmggfbpdciioaadoor", sum := "7bc50500f32fac789ec3ef421c6faa3b0bbac3b21b80fd7863269fe29efb9b3c", func := "quoin/quoinlaw03.TypexNames", spec := "typexNames", inPlace := ["internal/bytealg.IndexByteString"], unfollowed := true, recurses := true, named := ["strings.asciiSpace", "unicode.White_Space"], apart := false, laid := [("unicode.White_Space", laid_unicode_White_Space), ("strings.asciiSpace", laid_strings_asciiSpace)] }
def TypexNamesSaid : Prop := typexNamesRow.holds Tryd.pinned (OpenSpec.ofChange typexNamesSpec)

/-- ITS FALSE NEIGHBOUR: 'it returns false'. Refute it at one input. -/
def typexNamesWrong : ChangeSpec := { name := "typexNames", fn := fun _ => fun
  | [] => { results := [.lit (.bool false)], args := [] }
  | _ => none }
def TypexNamesWrongFalsely : Prop := typexNamesRow.holds Tryd.pinned (OpenSpec.ofChange typexNamesWrong)

/-- 'quoinlaw03.TypexReads': WHATEVER THE INPUT: true; the input reads as it did. -/
def typexReadsSpec : ChangeSpec := { name := "typexReads", fn := fun _ => fun
  | [d1, d2] => { results := [.lit (.bool true)], args := [d1, d2] }
  | _ => none }
def typexReadsRow : OpenClaim := { program := "ytlmggfbpdciioaadoor", sum := "7bc50500f32fac789ec3ef421c6faa3b0bbac3b21b80fd7863269fe29efb9b3c", func := "quoin/quoinlaw03.TypexReads", spec := "typexReads", inPlace := ["internal/bytealg.IndexByteString"], unfollowed := true, recurses := true, named := ["strings.asciiSpace", "unicode.White_Space"], apart := false, laid := [("unicode.White_Space", laid_unicode_White_Space), ("strings.asciiSpace", laid_strings_asciiSpace)] }
def TypexReadsSaid : Prop := typexReadsRow.holds Tryd.pinned (OpenSpec.ofChange typexReadsSpec)

/-- ITS FALSE NEIGHBOUR: 'it returns false'. Refute it at one input. -/
def typexReadsWrong : ChangeSpec := { name := "typexReads", fn := fun _ => fun
  | [d1, d2] => { results := [.lit (.bool false)], args := [d1, d2] }
  | _ => none }
def TypexReadsWrongFalsely : Prop := typexReadsRow.holds Tryd.pinned (OpenSpec.ofChange typexReadsWrong)

/-- 'quoinlaw03.TypexTexts': WHATEVER THE INPUT: true; the input reads as it did. -/
def typexTextsSpec : ChangeSpec := { name := "typexTexts", fn := fun _ => fun
  | [d] => { results := [.lit (.bool true)], args := [d] }
  | _ => none }
def typexTextsRow : OpenClaim := { program := "ytlmggfbpdciioaadoor", sum := "7bc50500f32fac789ec3ef421c6faa3b0bbac3b21b80fd7863269fe29efb9b3c", func := "quoin/quoinlaw03.TypexTexts", spec := "typexTexts", inPlace := ["internal/bytealg.IndexByteString"], unfollowed := true, recurses := true, named := ["strings.asciiSpace", "unicode.White_Space"], apart := false, laid := [("unicode.White_Space", laid_unicode_White_Space), ("strings.asciiSpace", laid_strings_asciiSpace)] }
def TypexTextsSaid : Prop := typexTextsRow.holds Tryd.pinned (OpenSpec.ofChange typexTextsSpec)

/-- ITS FALSE NEIGHBOUR: 'it returns false'. Refute it at one input. -/
def typexTextsWrong : ChangeSpec := { name := "typexTexts", fn := fun _ => fun
  | [d] => { results := [.lit (.bool false)], args := [d] }
  | _ => none }
def TypexTextsWrongFalsely : Prop := typexTextsRow.holds Tryd.pinned (OpenSpec.ofChange typexTextsWrong)

/-- 'quoinlaw03.TypexBehind': WHATEVER THE INPUT: true; the input reads as it did. -/
def typexBehindSpec : ChangeSpec := { name := "typexBehind", fn := fun _ => fun
  | [d1, d2, d3] => { results := [.lit (.bool true)], args := [d1, d2, d3] }
  | _ => none }
def typexBehindRow : OpenClaim := { program := "ytlmggfbpdciioaadoor", sum := "7bc50500f32fac789ec3ef421c6faa3b0bbac3b21b80fd7863269fe29efb9b3c", func := "quoin/quoinlaw03.TypexBehind", spec := "typexBehind", inPlace := ["internal/bytealg.IndexByteString"], unfollowed := true, recurses := true, named := ["strings.asciiSpace", "unicode.White_Space"], apart := false, laid := [("unicode.White_Space", laid_unicode_White_Space), ("strings.asciiSpace", laid_strings_asciiSpace)] }
def TypexBehindSaid : Prop := typexBehindRow.holds Tryd.pinned (OpenSpec.ofChange typexBehindSpec)

/-- ITS FALSE NEIGHBOUR: 'it returns false'. Refute it at one input. -/
def typexBehindWrong : ChangeSpec := { name := "typexBehind", fn := fun _ => fun
  | [d1, d2, d3] => { results := [.lit (.bool false)], args := [d1, d2, d3] }
  | _ => none }
def TypexBehindWrongFalsely : Prop := typexBehindRow.holds Tryd.pinned (OpenSpec.ofChange typexBehindWrong)

/-- 'quoinlaw03.TypexDeep': WHATEVER THE INPUT: true; the input reads as it did. -/
def typexDeepSpec : ChangeSpec := { name := "typexDeep", fn := fun _ => fun
  | [d] => { results := [.lit (.bool true)], args := [d] }
  | _ => none }
def typexDeepRow : OpenClaim := { program := "ytlmggfbpdciioaadoor", sum := "7bc50500f32fac789ec3ef421c6faa3b0bbac3b21b80fd7863269fe29efb9b3c", func := "quoin/quoinlaw03.TypexDeep", spec := "typexDeep", inPlace := ["internal/bytealg.IndexByteString"], unfollowed := true, recurses := true, named := ["strings.asciiSpace", "unicode.White_Space"], apart := false, laid := [("unicode.White_Space", laid_unicode_White_Space), ("strings.asciiSpace", laid_strings_asciiSpace)] }
def TypexDeepSaid : Prop := typexDeepRow.holds Tryd.pinned (OpenSpec.ofChange typexDeepSpec)

/-- ITS FALSE NEIGHBOUR: 'it returns false'. Refute it at one input. -/
def typexDeepWrong : ChangeSpec := { name := "typexDeep", fn := fun _ => fun
  | [d] => { results := [.lit (.bool false)], args := [d] }
  | _ => none }
def TypexDeepWrongFalsely : Prop := typexDeepRow.holds Tryd.pinned (OpenSpec.ofChange typexDeepWrong)

/- THE SECOND FORM. 'bulk': how many values and letters a reading holds, each counted each time it is reached (what is shared counts as often as it is met; a slice's spare places count too). A statement '..UptoSaid' is the law's where the arguments, and the package variables that the reading takes, are together of bulk at most 1048576: NARROWER than '..Said'. Prove '..Said' where nothing that the law and all that it calls make is longer than what came in: it says more and counts as full. Else prove '..UptoSaid'. A law counts once. -/
mutual
def uptoBulk {H : Type} : DataW H → Nat
  | .lit (.string bytes) => bytes.length + 1
  | .lit _ => 1
  | .nil => 1
  | .ptr d => uptoBulk d + 1
  | .slice elems spare => uptoBulkAll elems + uptoBulkAll spare + 1
  | .agg parts => uptoBulkAll parts + 1
  | .iface _ d => uptoBulk d + 1
  | .map entries => uptoBulkEntries entries + 1
  | .held _ => 1
def uptoBulkAll {H : Type} : List (DataW H) → Nat
  | [] => 0
  | d :: r => uptoBulk d + uptoBulkAll r
def uptoBulkEntries {H : Type} : List (Lit × DataW H) → Nat
  | [] => 0
  | x :: r => uptoBulkEntry x + uptoBulkEntries r
def uptoBulkEntry {H : Type} : Lit × DataW H → Nat
  | (.string bytes, d) => bytes.length + uptoBulk d + 1
  | (_, d) => uptoBulk d + 1
 end
def uptoSmall : (H : Type) → List (DataW H) → Bool := fun _ ds => decide (uptoBulkAll ds ≤ 1048576)
def OpenSpec.upto (s : _root_.Go.ChangeSpec) : _root_.Go.OpenSpec := { _root_.Go.OpenSpec.ofChange s with cond := some uptoSmall }

/-- 'quoinlaw02.LexNames', WHERE WHAT IT READS IS OF BULK AT MOST 1048576: true; the input reads as it did. -/
def lexNamesUptoRow : OpenClaim := { program := "ytlmggfbpdciioaadoor", sum := "7bc50500f32fac789ec3ef421c6faa3b0bbac3b21b80fd7863269fe29efb9b3c", func := "quoin/quoinlaw02.LexNames", spec := "lexNames", inPlace := ["internal/bytealg.IndexByteString"], unfollowed := true, recurses := true, named := ["strings.asciiSpace", "unicode.White_Space"], apart := false, laid := [("unicode.White_Space", laid_unicode_White_Space), ("strings.asciiSpace", laid_strings_asciiSpace)], narrowed := true }
def LexNamesUptoSaid : Prop := lexNamesUptoRow.holds Tryd.pinned (OpenSpec.upto lexNamesSpec)

/-- 'quoinlaw02.LexReads', WHERE WHAT IT READS IS OF BULK AT MOST 1048576: true; the input reads as it did. -/
def lexReadsUptoRow : OpenClaim := { program := "ytlmggfbpdciioaadoor", sum := "7bc50500f32fac789ec3ef421c6faa3b0bbac3b21b80fd7863269fe29efb9b3c", func := "quoin/quoinlaw02.LexReads", spec := "lexReads", inPlace := ["internal/bytealg.IndexByteString"], unfollowed := true, recurses := true, named := ["strings.asciiSpace", "unicode.White_Space"], apart := false, laid := [("unicode.White_Space", laid_unicode_White_Space), ("strings.asciiSpace", laid_strings_asciiSpace)], narrowed := true }
def LexReadsUptoSaid : Prop := lexReadsUptoRow.holds Tryd.pinned (OpenSpec.upto lexReadsSpec)

/-- 'quoinlaw02.LexCovers', WHERE WHAT IT READS IS OF BULK AT MOST 1048576: true; the input reads as it did. -/
def lexCoversUptoRow : OpenClaim := { program := "ytlmggfbpdciioaadoor", sum := "7bc50500f32fac789ec3ef421c6faa3b0bbac3b21b80fd7863269fe29efb9b3c", func := "quoin/quoinlaw02.LexCovers", spec := "lexCovers", inPlace := ["internal/bytealg.IndexByteString"], unfollowed := true, recurses := true, named := ["strings.asciiSpace", "unicode.White_Space"], apart := false, laid := [("unicode.White_Space", laid_unicode_White_Space), ("strings.asciiSpace", laid_strings_asciiSpace)], narrowed := true }
def LexCoversUptoSaid : Prop := lexCoversUptoRow.holds Tryd.pinned (OpenSpec.upto lexCoversSpec)

/-- 'quoinlaw02.LexJoins', WHERE WHAT IT READS IS OF BULK AT MOST 1048576: true; the input reads as it did. -/
def lexJoinsUptoRow : OpenClaim := { program := "ytlmggfbpdciioaadoor", sum := "7bc50500f32fac789ec3ef421c6faa3b0bbac3b21b80fd7863269fe29efb9b3c", func := "quoin/quoinlaw02.LexJoins", spec := "lexJoins", inPlace := ["internal/bytealg.IndexByteString"], unfollowed := true, recurses := true, named := ["strings.asciiSpace", "unicode.White_Space"], apart := false, laid := [("unicode.White_Space", laid_unicode_White_Space), ("strings.asciiSpace", laid_strings_asciiSpace)], narrowed := true }
def LexJoinsUptoSaid : Prop := lexJoinsUptoRow.holds Tryd.pinned (OpenSpec.upto lexJoinsSpec)

/-- 'quoinlaw02.LexBehind', WHERE WHAT IT READS IS OF BULK AT MOST 1048576: true; the input reads as it did. -/
def lexBehindUptoRow : OpenClaim := { program := "ytlmggfbpdciioaadoor", sum := "7bc50500f32fac789ec3ef421c6faa3b0bbac3b21b80fd7863269fe29efb9b3c", func := "quoin/quoinlaw02.LexBehind", spec := "lexBehind", inPlace := ["internal/bytealg.IndexByteString"], unfollowed := true, recurses := true, named := ["strings.asciiSpace", "unicode.White_Space"], apart := false, laid := [("unicode.White_Space", laid_unicode_White_Space), ("strings.asciiSpace", laid_strings_asciiSpace)], narrowed := true }
def LexBehindUptoSaid : Prop := lexBehindUptoRow.holds Tryd.pinned (OpenSpec.upto lexBehindSpec)

/-- 'quoinlaw02.LexSplits', WHERE WHAT IT READS IS OF BULK AT MOST 1048576: true; the input reads as it did. -/
def lexSplitsUptoRow : OpenClaim := { program := "ytlmggfbpdciioaadoor", sum := "7bc50500f32fac789ec3ef421c6faa3b0bbac3b21b80fd7863269fe29efb9b3c", func := "quoin/quoinlaw02.LexSplits", spec := "lexSplits", inPlace := ["internal/bytealg.IndexByteString"], unfollowed := true, recurses := true, named := ["strings.asciiSpace", "unicode.White_Space"], apart := false, laid := [("unicode.White_Space", laid_unicode_White_Space), ("strings.asciiSpace", laid_strings_asciiSpace)], narrowed := true }
def LexSplitsUptoSaid : Prop := lexSplitsUptoRow.holds Tryd.pinned (OpenSpec.upto lexSplitsSpec)

/-- 'quoinlaw03.TypexNames', WHERE WHAT IT READS IS OF BULK AT MOST 1048576: true; the input reads as it did. -/
def typexNamesUptoRow : OpenClaim := { program := "ytlmggfbpdciioaadoor", sum := "7bc50500f32fac789ec3ef421c6faa3b0bbac3b21b80fd7863269fe29efb9b3c", func := "quoin/quoinlaw03.TypexNames", spec := "typexNames", inPlace := ["internal/bytealg.IndexByteString"], unfollowed := true, recurses := true, named := ["strings.asciiSpace", "unicode.White_Space"], apart := false, laid := [("unicode.White_Space", laid_unicode_White_Space), ("strings.asciiSpace", laid_strings_asciiSpace)], narrowed := true }
def TypexNamesUptoSaid : Prop := typexNamesUptoRow.holds Tryd.pinned (OpenSpec.upto typexNamesSpec)

/-- 'quoinlaw03.TypexReads', WHERE WHAT IT READS IS OF BULK AT MOST 1048576: true; the input reads as it did. -/
def typexReadsUptoRow : OpenClaim := { program := "ytlmggfbpdciioaadoor", sum := "7bc50500f32fac789ec3ef421c6faa3b0bbac3b21b80fd7863269fe29efb9b3c", func := "quoin/quoinlaw03.TypexReads", spec := "typexReads", inPlace := ["internal/bytealg.IndexByteString"], unfollowed := true, recurses := true, named := ["strings.asciiSpace", "unicode.White_Space"], apart := false, laid := [("unicode.White_Space", laid_unicode_White_Space), ("strings.asciiSpace", laid_strings_asciiSpace)], narrowed := true }
def TypexReadsUptoSaid : Prop := typexReadsUptoRow.holds Tryd.pinned (OpenSpec.upto typexReadsSpec)

/-- 'quoinlaw03.TypexTexts', WHERE WHAT IT READS IS OF BULK AT MOST 1048576: true; the input reads as it did. -/
def typexTextsUptoRow : OpenClaim := { program := "ytlmggfbpdciioaadoor", sum := "7bc50500f32fac789ec3ef421c6faa3b0bbac3b21b80fd7863269fe29efb9b3c", func := "quoin/quoinlaw03.TypexTexts", spec := "typexTexts", inPlace := ["internal/bytealg.IndexByteString"], unfollowed := true, recurses := true, named := ["strings.asciiSpace", "unicode.White_Space"], apart := false, laid := [("unicode.White_Space", laid_unicode_White_Space), ("strings.asciiSpace", laid_strings_asciiSpace)], narrowed := true }
def TypexTextsUptoSaid : Prop := typexTextsUptoRow.holds Tryd.pinned (OpenSpec.upto typexTextsSpec)

/-- 'quoinlaw03.TypexBehind', WHERE WHAT IT READS IS OF BULK AT MOST 1048576: true; the input reads as it did. -/
def typexBehindUptoRow : OpenClaim := { program := "ytlmggfbpdciioaadoor", sum := "7bc50500f32fac789ec3ef421c6faa3b0bbac3b21b80fd7863269fe29efb9b3c", func := "quoin/quoinlaw03.TypexBehind", spec := "typexBehind", inPlace := ["internal/bytealg.IndexByteString"], unfollowed := true, recurses := true, named := ["strings.asciiSpace", "unicode.White_Space"], apart := false, laid := [("unicode.White_Space", laid_unicode_White_Space), ("strings.asciiSpace", laid_strings_asciiSpace)], narrowed := true }
def TypexBehindUptoSaid : Prop := typexBehindUptoRow.holds Tryd.pinned (OpenSpec.upto typexBehindSpec)

/-- 'quoinlaw03.TypexDeep', WHERE WHAT IT READS IS OF BULK AT MOST 1048576: true; the input reads as it did. -/
def typexDeepUptoRow : OpenClaim := { program := "ytlmggfbpdciioaadoor", sum := "7bc50500f32fac789ec3ef421c6faa3b0bbac3b21b80fd7863269fe29efb9b3c", func := "quoin/quoinlaw03.TypexDeep", spec := "typexDeep", inPlace := ["internal/bytealg.IndexByteString"], unfollowed := true, recurses := true, named := ["strings.asciiSpace", "unicode.White_Space"], apart := false, laid := [("unicode.White_Space", laid_unicode_White_Space), ("strings.asciiSpace", laid_strings_asciiSpace)], narrowed := true }
def TypexDeepUptoSaid : Prop := typexDeepUptoRow.holds Tryd.pinned (OpenSpec.upto typexDeepSpec)

end Rows
end Go.Proofs.YtlmggfbpdciioaaDoor
