/-
  NARROWER THAN 'FOR EVERY INPUT', by the rows' own cells (each row's printed sentence says how): ShowExprs: laid · ShowRaw: laid · ParseQueries: laid · ParseTexts: laid · ParseSources: laid · ParseAssets: laid · ParseSchedules: laid · ShowQueries: laid · ShowCommon: laid · ShowTexts: laid · ShowDefs: loops, laid.
  DERIVED. THE GIVEN ROWS OF THIS SEAT. 11 by the template 'for every input the law returns true; each argument reads behind the call as it read before'; 0 by the template 'total and deterministic' (their statements: YtonkjhmkppeagaaGreatDoorTotals.lean).
  GIVEN WITH THE SEED: the statements are not yours to turn. If you find one false, say at which input.
  Laid BY PROGRAM, IN A SANDBOX (cutbox-rows.mjs): the forced cells as the released guide's own fill.sh prints them over the translation 38563ed7f9eb2999… (all of the seat's roots in one cut). By AI agents, Wed Nov 11 2026. No macro, syntax, notation, axiom, sorry.
-/
import Derived.Test.YtonkjhmkppeagaaGreatDoorChecked
import GoSem.Claim
import GoSem.ClaimJoined
import GoSem.ClaimMapViews
import Derived.JoinedTies
import Derived.KernelRfl
namespace Go.Proofs.YtonkjhmkppeagaaGreatDoor
/- THE CELL 'sum', in the pinned program and in every row, IS THE sha256 OF THE DUMP (.gsa) THAT YtonkjhmkppeagaaGreatDoorProg.lean LOADS. Nothing in Lean hashes anything: it is a label: what it is worth is what the hold of that sum in a sandbox is worth. -/
noncomputable def Tryz.pinned : Pinned := { name := "ytonkjhmkppeagaagreatdoor", sum := "38563ed7f9eb2999abf74de024cf5e122aaa0ffe30eda64c731969b8183db905", checked := Tryz.checked }
namespace Rows
def none {H : Type} : Left H := { results := [], args := [] }

/- WHAT THE LISTED PACKAGE-LEVEL VARIABLES READ AS WHEN THE CALL BEGINS. Each datum BY PROGRAM (the guide's laid-datum.mjs) off the statement by which the dump's own 'gosem.cut.vars' lays the variable. In a bare row this is a premise. The card (YtonkjhmkppeagaaGreatDoorCards.lean) ties it to the program's text. -/
def laid_math_bits_deBruijn32tab {H : Type} : DataW H := .agg [.lit (.int .u8 0), .lit (.int .u8 1), .lit (.int .u8 28), .lit (.int .u8 2), .lit (.int .u8 29), .lit (.int .u8 14), .lit (.int .u8 24), .lit (.int .u8 3), .lit (.int .u8 30), .lit (.int .u8 22), .lit (.int .u8 20), .lit (.int .u8 15), .lit (.int .u8 25), .lit (.int .u8 17), .lit (.int .u8 4), .lit (.int .u8 8), .lit (.int .u8 31), .lit (.int .u8 27), .lit (.int .u8 13), .lit (.int .u8 23), .lit (.int .u8 21), .lit (.int .u8 19), .lit (.int .u8 16), .lit (.int .u8 7), .lit (.int .u8 26), .lit (.int .u8 12), .lit (.int .u8 18), .lit (.int .u8 6), .lit (.int .u8 11), .lit (.int .u8 5), .lit (.int .u8 10), .lit (.int .u8 9)]
def laid_math_bits_deBruijn64tab {H : Type} : DataW H := .agg [.lit (.int .u8 0), .lit (.int .u8 1), .lit (.int .u8 56), .lit (.int .u8 2), .lit (.int .u8 57), .lit (.int .u8 49), .lit (.int .u8 28), .lit (.int .u8 3), .lit (.int .u8 61), .lit (.int .u8 58), .lit (.int .u8 42), .lit (.int .u8 50), .lit (.int .u8 38), .lit (.int .u8 29), .lit (.int .u8 17), .lit (.int .u8 4), .lit (.int .u8 62), .lit (.int .u8 47), .lit (.int .u8 59), .lit (.int .u8 36), .lit (.int .u8 45), .lit (.int .u8 43), .lit (.int .u8 51), .lit (.int .u8 22), .lit (.int .u8 53), .lit (.int .u8 39), .lit (.int .u8 33), .lit (.int .u8 30), .lit (.int .u8 24), .lit (.int .u8 18), .lit (.int .u8 12), .lit (.int .u8 5), .lit (.int .u8 63), .lit (.int .u8 55), .lit (.int .u8 48), .lit (.int .u8 27), .lit (.int .u8 60), .lit (.int .u8 41), .lit (.int .u8 37), .lit (.int .u8 16), .lit (.int .u8 46), .lit (.int .u8 35), .lit (.int .u8 44), .lit (.int .u8 21), .lit (.int .u8 52), .lit (.int .u8 32), .lit (.int .u8 23), .lit (.int .u8 11), .lit (.int .u8 54), .lit (.int .u8 26), .lit (.int .u8 40), .lit (.int .u8 15), .lit (.int .u8 34), .lit (.int .u8 20), .lit (.int .u8 31), .lit (.int .u8 10), .lit (.int .u8 25), .lit (.int .u8 14), .lit (.int .u8 19), .lit (.int .u8 9), .lit (.int .u8 13), .lit (.int .u8 8), .lit (.int .u8 7), .lit (.int .u8 6)]
def laid_internal_strconv_uint64pow10 {H : Type} : DataW H := .agg [.lit (.int .u64 1), .lit (.int .u64 10), .lit (.int .u64 100), .lit (.int .u64 1000), .lit (.int .u64 10000), .lit (.int .u64 100000), .lit (.int .u64 1000000), .lit (.int .u64 10000000), .lit (.int .u64 100000000), .lit (.int .u64 1000000000), .lit (.int .u64 10000000000), .lit (.int .u64 100000000000), .lit (.int .u64 1000000000000), .lit (.int .u64 10000000000000), .lit (.int .u64 100000000000000), .lit (.int .u64 1000000000000000), .lit (.int .u64 10000000000000000), .lit (.int .u64 100000000000000000), .lit (.int .u64 1000000000000000000), .lit (.int .u64 10000000000000000000)]
def laid_strconv_ErrRange {H : Type} : DataW H := .iface "*errors.errorString" (.ptr (.agg [.lit (.string [118, 97, 108, 117, 101, 32, 111, 117, 116, 32, 111, 102, 32, 114, 97, 110, 103, 101])]))
def laid_strconv_ErrSyntax {H : Type} : DataW H := .iface "*errors.errorString" (.ptr (.agg [.lit (.string [105, 110, 118, 97, 108, 105, 100, 32, 115, 121, 110, 116, 97, 120])]))
def laid_bywash_lex_signs {H : Type} : DataW H := .agg [.lit (.string [33, 61]), .lit (.string [60, 61]), .lit (.string [62, 61]), .lit (.string [46, 46]), .lit (.string [40]), .lit (.string [41]), .lit (.string [44]), .lit (.string [59]), .lit (.string [58]), .lit (.string [124]), .lit (.string [43]), .lit (.string [45]), .lit (.string [42]), .lit (.string [47]), .lit (.string [37]), .lit (.string [61]), .lit (.string [60]), .lit (.string [62])]
def laid_bywash_show_ranks {H : Type} : DataW H := .map [(.string [33, 61], .lit (.int .i64 4)), (.string [37], .lit (.int .i64 6)), (.string [42], .lit (.int .i64 6)), (.string [43], .lit (.int .i64 5)), (.string [45], .lit (.int .i64 5)), (.string [47], .lit (.int .i64 6)), (.string [60], .lit (.int .i64 4)), (.string [60, 61], .lit (.int .i64 4)), (.string [61], .lit (.int .i64 4)), (.string [62], .lit (.int .i64 4)), (.string [62, 61], .lit (.int .i64 4)), (.string [97, 110, 100], .lit (.int .i64 2)), (.string [111, 114], .lit (.int .i64 1))]

/-- 'bywashlaw15.ShowExprs': WHATEVER THE INPUT: true; the input reads as it did. -/
def showExprsSpec : ChangeSpec := { name := "showExprs", fn := fun _ => fun
  | [d] => { results := [.lit (.bool true)], args := [d] }
  | _ => none }
def showExprsRow : OpenClaim := { program := "ytonkjhmkppeagaagreatdoor", sum := "38563ed7f9eb2999abf74de024cf5e122aaa0ffe30eda64c731969b8183db905", func := "bywash/bywashlaw15.ShowExprs", spec := "showExprs", inPlace := ["internal/abi.NoEscape", "internal/bytealg.MakeNoZero"], unfollowed := true, recurses := true, named := ["bywash/lex.signs", "strconv.ErrSyntax", "strconv.ErrRange", "internal/strconv.uint64pow10", "math/bits.deBruijn32tab", "math/bits.deBruijn64tab", "bywash/show.ranks"], apart := false, laid := [("math/bits.deBruijn32tab", laid_math_bits_deBruijn32tab), ("math/bits.deBruijn64tab", laid_math_bits_deBruijn64tab), ("internal/strconv.uint64pow10", laid_internal_strconv_uint64pow10), ("strconv.ErrRange", laid_strconv_ErrRange), ("strconv.ErrSyntax", laid_strconv_ErrSyntax), ("bywash/lex.signs", laid_bywash_lex_signs), ("bywash/show.ranks", laid_bywash_show_ranks)] }
def ShowExprsSaid : Prop := showExprsRow.holds Tryz.pinned (OpenSpec.ofChange showExprsSpec)

/-- ITS FALSE NEIGHBOUR: 'it returns false'. Refute it at one input. -/
def showExprsWrong : ChangeSpec := { name := "showExprs", fn := fun _ => fun
  | [d] => { results := [.lit (.bool false)], args := [d] }
  | _ => none }
def ShowExprsWrongFalsely : Prop := showExprsRow.holds Tryz.pinned (OpenSpec.ofChange showExprsWrong)

/-- 'bywashlaw15.ShowRaw': WHATEVER THE INPUT: true; the input reads as it did. -/
def showRawSpec : ChangeSpec := { name := "showRaw", fn := fun _ => fun
  | [d] => { results := [.lit (.bool true)], args := [d] }
  | _ => none }
def showRawRow : OpenClaim := { program := "ytonkjhmkppeagaagreatdoor", sum := "38563ed7f9eb2999abf74de024cf5e122aaa0ffe30eda64c731969b8183db905", func := "bywash/bywashlaw15.ShowRaw", spec := "showRaw", inPlace := ["internal/abi.NoEscape", "internal/bytealg.MakeNoZero"], unfollowed := true, recurses := true, named := ["bywash/lex.signs", "strconv.ErrSyntax", "strconv.ErrRange", "internal/strconv.uint64pow10", "math/bits.deBruijn32tab", "math/bits.deBruijn64tab", "bywash/show.ranks"], apart := false, laid := [("math/bits.deBruijn32tab", laid_math_bits_deBruijn32tab), ("math/bits.deBruijn64tab", laid_math_bits_deBruijn64tab), ("internal/strconv.uint64pow10", laid_internal_strconv_uint64pow10), ("strconv.ErrRange", laid_strconv_ErrRange), ("strconv.ErrSyntax", laid_strconv_ErrSyntax), ("bywash/lex.signs", laid_bywash_lex_signs), ("bywash/show.ranks", laid_bywash_show_ranks)] }
def ShowRawSaid : Prop := showRawRow.holds Tryz.pinned (OpenSpec.ofChange showRawSpec)

/-- ITS FALSE NEIGHBOUR: 'it returns false'. Refute it at one input. -/
def showRawWrong : ChangeSpec := { name := "showRaw", fn := fun _ => fun
  | [d] => { results := [.lit (.bool false)], args := [d] }
  | _ => none }
def ShowRawWrongFalsely : Prop := showRawRow.holds Tryz.pinned (OpenSpec.ofChange showRawWrong)

/-- 'bywashlaw14.ParseQueries': WHATEVER THE INPUT: true; the input reads as it did. -/
def parseQueriesSpec : ChangeSpec := { name := "parseQueries", fn := fun _ => fun
  | [d] => { results := [.lit (.bool true)], args := [d] }
  | _ => none }
def parseQueriesRow : OpenClaim := { program := "ytonkjhmkppeagaagreatdoor", sum := "38563ed7f9eb2999abf74de024cf5e122aaa0ffe30eda64c731969b8183db905", func := "bywash/bywashlaw14.ParseQueries", spec := "parseQueries", unfollowed := true, recurses := true, named := ["bywash/lex.signs", "strconv.ErrSyntax", "strconv.ErrRange", "internal/strconv.uint64pow10", "math/bits.deBruijn32tab", "math/bits.deBruijn64tab"], apart := false, laid := [("math/bits.deBruijn32tab", laid_math_bits_deBruijn32tab), ("math/bits.deBruijn64tab", laid_math_bits_deBruijn64tab), ("internal/strconv.uint64pow10", laid_internal_strconv_uint64pow10), ("strconv.ErrRange", laid_strconv_ErrRange), ("strconv.ErrSyntax", laid_strconv_ErrSyntax), ("bywash/lex.signs", laid_bywash_lex_signs)] }
def ParseQueriesSaid : Prop := parseQueriesRow.holds Tryz.pinned (OpenSpec.ofChange parseQueriesSpec)

/-- ITS FALSE NEIGHBOUR: 'it returns false'. Refute it at one input. -/
def parseQueriesWrong : ChangeSpec := { name := "parseQueries", fn := fun _ => fun
  | [d] => { results := [.lit (.bool false)], args := [d] }
  | _ => none }
def ParseQueriesWrongFalsely : Prop := parseQueriesRow.holds Tryz.pinned (OpenSpec.ofChange parseQueriesWrong)

/-- 'bywashlaw14.ParseTexts': WHATEVER THE INPUT: true; the input reads as it did. -/
def parseTextsSpec : ChangeSpec := { name := "parseTexts", fn := fun _ => fun
  | [d1, d2] => { results := [.lit (.bool true)], args := [d1, d2] }
  | _ => none }
def parseTextsRow : OpenClaim := { program := "ytonkjhmkppeagaagreatdoor", sum := "38563ed7f9eb2999abf74de024cf5e122aaa0ffe30eda64c731969b8183db905", func := "bywash/bywashlaw14.ParseTexts", spec := "parseTexts", unfollowed := true, recurses := true, named := ["bywash/lex.signs", "strconv.ErrSyntax", "strconv.ErrRange", "internal/strconv.uint64pow10", "math/bits.deBruijn32tab", "math/bits.deBruijn64tab"], apart := false, laid := [("math/bits.deBruijn32tab", laid_math_bits_deBruijn32tab), ("math/bits.deBruijn64tab", laid_math_bits_deBruijn64tab), ("internal/strconv.uint64pow10", laid_internal_strconv_uint64pow10), ("strconv.ErrRange", laid_strconv_ErrRange), ("strconv.ErrSyntax", laid_strconv_ErrSyntax), ("bywash/lex.signs", laid_bywash_lex_signs)] }
def ParseTextsSaid : Prop := parseTextsRow.holds Tryz.pinned (OpenSpec.ofChange parseTextsSpec)

/-- ITS FALSE NEIGHBOUR: 'it returns false'. Refute it at one input. -/
def parseTextsWrong : ChangeSpec := { name := "parseTexts", fn := fun _ => fun
  | [d1, d2] => { results := [.lit (.bool false)], args := [d1, d2] }
  | _ => none }
def ParseTextsWrongFalsely : Prop := parseTextsRow.holds Tryz.pinned (OpenSpec.ofChange parseTextsWrong)

/-- 'bywashlaw14.ParseSources': WHATEVER THE INPUT: true; the input reads as it did. -/
def parseSourcesSpec : ChangeSpec := { name := "parseSources", fn := fun _ => fun
  | [d1, d2, d3] => { results := [.lit (.bool true)], args := [d1, d2, d3] }
  | _ => none }
def parseSourcesRow : OpenClaim := { program := "ytonkjhmkppeagaagreatdoor", sum := "38563ed7f9eb2999abf74de024cf5e122aaa0ffe30eda64c731969b8183db905", func := "bywash/bywashlaw14.ParseSources", spec := "parseSources", unfollowed := true, recurses := true, named := ["bywash/lex.signs", "strconv.ErrSyntax", "strconv.ErrRange", "internal/strconv.uint64pow10", "math/bits.deBruijn32tab", "math/bits.deBruijn64tab"], apart := false, laid := [("math/bits.deBruijn32tab", laid_math_bits_deBruijn32tab), ("math/bits.deBruijn64tab", laid_math_bits_deBruijn64tab), ("internal/strconv.uint64pow10", laid_internal_strconv_uint64pow10), ("strconv.ErrRange", laid_strconv_ErrRange), ("strconv.ErrSyntax", laid_strconv_ErrSyntax), ("bywash/lex.signs", laid_bywash_lex_signs)] }
def ParseSourcesSaid : Prop := parseSourcesRow.holds Tryz.pinned (OpenSpec.ofChange parseSourcesSpec)

/-- ITS FALSE NEIGHBOUR: 'it returns false'. Refute it at one input. -/
def parseSourcesWrong : ChangeSpec := { name := "parseSources", fn := fun _ => fun
  | [d1, d2, d3] => { results := [.lit (.bool false)], args := [d1, d2, d3] }
  | _ => none }
def ParseSourcesWrongFalsely : Prop := parseSourcesRow.holds Tryz.pinned (OpenSpec.ofChange parseSourcesWrong)

/-- 'bywashlaw14.ParseAssets': WHATEVER THE INPUT: true; the input reads as it did. -/
def parseAssetsSpec : ChangeSpec := { name := "parseAssets", fn := fun _ => fun
  | [d] => { results := [.lit (.bool true)], args := [d] }
  | _ => none }
def parseAssetsRow : OpenClaim := { program := "ytonkjhmkppeagaagreatdoor", sum := "38563ed7f9eb2999abf74de024cf5e122aaa0ffe30eda64c731969b8183db905", func := "bywash/bywashlaw14.ParseAssets", spec := "parseAssets", unfollowed := true, recurses := true, named := ["bywash/lex.signs", "strconv.ErrSyntax", "strconv.ErrRange", "internal/strconv.uint64pow10", "math/bits.deBruijn32tab", "math/bits.deBruijn64tab"], apart := false, laid := [("math/bits.deBruijn32tab", laid_math_bits_deBruijn32tab), ("math/bits.deBruijn64tab", laid_math_bits_deBruijn64tab), ("internal/strconv.uint64pow10", laid_internal_strconv_uint64pow10), ("strconv.ErrRange", laid_strconv_ErrRange), ("strconv.ErrSyntax", laid_strconv_ErrSyntax), ("bywash/lex.signs", laid_bywash_lex_signs)] }
def ParseAssetsSaid : Prop := parseAssetsRow.holds Tryz.pinned (OpenSpec.ofChange parseAssetsSpec)

/-- ITS FALSE NEIGHBOUR: 'it returns false'. Refute it at one input. -/
def parseAssetsWrong : ChangeSpec := { name := "parseAssets", fn := fun _ => fun
  | [d] => { results := [.lit (.bool false)], args := [d] }
  | _ => none }
def ParseAssetsWrongFalsely : Prop := parseAssetsRow.holds Tryz.pinned (OpenSpec.ofChange parseAssetsWrong)

/-- 'bywashlaw14.ParseSchedules': WHATEVER THE INPUT: true; the input reads as it did. -/
def parseSchedulesSpec : ChangeSpec := { name := "parseSchedules", fn := fun _ => fun
  | [d1, d2, d3] => { results := [.lit (.bool true)], args := [d1, d2, d3] }
  | _ => none }
def parseSchedulesRow : OpenClaim := { program := "ytonkjhmkppeagaagreatdoor", sum := "38563ed7f9eb2999abf74de024cf5e122aaa0ffe30eda64c731969b8183db905", func := "bywash/bywashlaw14.ParseSchedules", spec := "parseSchedules", unfollowed := true, recurses := true, named := ["bywash/lex.signs", "strconv.ErrSyntax", "strconv.ErrRange", "internal/strconv.uint64pow10", "math/bits.deBruijn32tab", "math/bits.deBruijn64tab"], apart := false, laid := [("math/bits.deBruijn32tab", laid_math_bits_deBruijn32tab), ("math/bits.deBruijn64tab", laid_math_bits_deBruijn64tab), ("internal/strconv.uint64pow10", laid_internal_strconv_uint64pow10), ("strconv.ErrRange", laid_strconv_ErrRange), ("strconv.ErrSyntax", laid_strconv_ErrSyntax), ("bywash/lex.signs", laid_bywash_lex_signs)] }
def ParseSchedulesSaid : Prop := parseSchedulesRow.holds Tryz.pinned (OpenSpec.ofChange parseSchedulesSpec)

/-- ITS FALSE NEIGHBOUR: 'it returns false'. Refute it at one input. -/
def parseSchedulesWrong : ChangeSpec := { name := "parseSchedules", fn := fun _ => fun
  | [d1, d2, d3] => { results := [.lit (.bool false)], args := [d1, d2, d3] }
  | _ => none }
def ParseSchedulesWrongFalsely : Prop := parseSchedulesRow.holds Tryz.pinned (OpenSpec.ofChange parseSchedulesWrong)

/-- 'bywashlaw15.ShowQueries': WHATEVER THE INPUT: true; the input reads as it did. -/
def showQueriesSpec : ChangeSpec := { name := "showQueries", fn := fun _ => fun
  | [d] => { results := [.lit (.bool true)], args := [d] }
  | _ => none }
def showQueriesRow : OpenClaim := { program := "ytonkjhmkppeagaagreatdoor", sum := "38563ed7f9eb2999abf74de024cf5e122aaa0ffe30eda64c731969b8183db905", func := "bywash/bywashlaw15.ShowQueries", spec := "showQueries", inPlace := ["internal/abi.NoEscape", "internal/bytealg.MakeNoZero"], unfollowed := true, recurses := true, named := ["bywash/lex.signs", "strconv.ErrSyntax", "strconv.ErrRange", "internal/strconv.uint64pow10", "math/bits.deBruijn32tab", "math/bits.deBruijn64tab", "bywash/show.ranks"], apart := false, laid := [("math/bits.deBruijn32tab", laid_math_bits_deBruijn32tab), ("math/bits.deBruijn64tab", laid_math_bits_deBruijn64tab), ("internal/strconv.uint64pow10", laid_internal_strconv_uint64pow10), ("strconv.ErrRange", laid_strconv_ErrRange), ("strconv.ErrSyntax", laid_strconv_ErrSyntax), ("bywash/lex.signs", laid_bywash_lex_signs), ("bywash/show.ranks", laid_bywash_show_ranks)] }
def ShowQueriesSaid : Prop := showQueriesRow.holds Tryz.pinned (OpenSpec.ofChange showQueriesSpec)

/-- ITS FALSE NEIGHBOUR: 'it returns false'. Refute it at one input. -/
def showQueriesWrong : ChangeSpec := { name := "showQueries", fn := fun _ => fun
  | [d] => { results := [.lit (.bool false)], args := [d] }
  | _ => none }
def ShowQueriesWrongFalsely : Prop := showQueriesRow.holds Tryz.pinned (OpenSpec.ofChange showQueriesWrong)

/-- 'bywashlaw15.ShowCommon': WHATEVER THE INPUT: true; the input reads as it did. -/
def showCommonSpec : ChangeSpec := { name := "showCommon", fn := fun _ => fun
  | [d1, d2, d3] => { results := [.lit (.bool true)], args := [d1, d2, d3] }
  | _ => none }
def showCommonRow : OpenClaim := { program := "ytonkjhmkppeagaagreatdoor", sum := "38563ed7f9eb2999abf74de024cf5e122aaa0ffe30eda64c731969b8183db905", func := "bywash/bywashlaw15.ShowCommon", spec := "showCommon", inPlace := ["internal/abi.NoEscape", "internal/bytealg.MakeNoZero"], unfollowed := true, recurses := true, named := ["internal/strconv.uint64pow10", "math/bits.deBruijn32tab", "math/bits.deBruijn64tab", "bywash/show.ranks", "bywash/lex.signs", "strconv.ErrSyntax", "strconv.ErrRange"], apart := false, laid := [("math/bits.deBruijn32tab", laid_math_bits_deBruijn32tab), ("math/bits.deBruijn64tab", laid_math_bits_deBruijn64tab), ("internal/strconv.uint64pow10", laid_internal_strconv_uint64pow10), ("strconv.ErrRange", laid_strconv_ErrRange), ("strconv.ErrSyntax", laid_strconv_ErrSyntax), ("bywash/lex.signs", laid_bywash_lex_signs), ("bywash/show.ranks", laid_bywash_show_ranks)] }
def ShowCommonSaid : Prop := showCommonRow.holds Tryz.pinned (OpenSpec.ofChange showCommonSpec)

/-- ITS FALSE NEIGHBOUR: 'it returns false'. Refute it at one input. -/
def showCommonWrong : ChangeSpec := { name := "showCommon", fn := fun _ => fun
  | [d1, d2, d3] => { results := [.lit (.bool false)], args := [d1, d2, d3] }
  | _ => none }
def ShowCommonWrongFalsely : Prop := showCommonRow.holds Tryz.pinned (OpenSpec.ofChange showCommonWrong)

/-- 'bywashlaw15.ShowTexts': WHATEVER THE INPUT: true; the input reads as it did. -/
def showTextsSpec : ChangeSpec := { name := "showTexts", fn := fun _ => fun
  | [d] => { results := [.lit (.bool true)], args := [d] }
  | _ => none }
def showTextsRow : OpenClaim := { program := "ytonkjhmkppeagaagreatdoor", sum := "38563ed7f9eb2999abf74de024cf5e122aaa0ffe30eda64c731969b8183db905", func := "bywash/bywashlaw15.ShowTexts", spec := "showTexts", inPlace := ["internal/abi.NoEscape", "internal/bytealg.MakeNoZero"], unfollowed := true, recurses := true, named := ["bywash/lex.signs", "strconv.ErrSyntax", "strconv.ErrRange", "internal/strconv.uint64pow10", "math/bits.deBruijn32tab", "math/bits.deBruijn64tab", "bywash/show.ranks"], apart := false, laid := [("math/bits.deBruijn32tab", laid_math_bits_deBruijn32tab), ("math/bits.deBruijn64tab", laid_math_bits_deBruijn64tab), ("internal/strconv.uint64pow10", laid_internal_strconv_uint64pow10), ("strconv.ErrRange", laid_strconv_ErrRange), ("strconv.ErrSyntax", laid_strconv_ErrSyntax), ("bywash/lex.signs", laid_bywash_lex_signs), ("bywash/show.ranks", laid_bywash_show_ranks)] }
def ShowTextsSaid : Prop := showTextsRow.holds Tryz.pinned (OpenSpec.ofChange showTextsSpec)

/-- ITS FALSE NEIGHBOUR: 'it returns false'. Refute it at one input. -/
def showTextsWrong : ChangeSpec := { name := "showTexts", fn := fun _ => fun
  | [d] => { results := [.lit (.bool false)], args := [d] }
  | _ => none }
def ShowTextsWrongFalsely : Prop := showTextsRow.holds Tryz.pinned (OpenSpec.ofChange showTextsWrong)

/-- 'bywashlaw15.ShowDefs': WHATEVER THE INPUT: true; the input reads as it did. -/
def showDefsSpec : ChangeSpec := { name := "showDefs", fn := fun _ => fun
  | [d1, d2] => { results := [.lit (.bool true)], args := [d1, d2] }
  | _ => none }
def showDefsRow : OpenClaim := { program := "ytonkjhmkppeagaagreatdoor", sum := "38563ed7f9eb2999abf74de024cf5e122aaa0ffe30eda64c731969b8183db905", func := "bywash/bywashlaw15.ShowDefs", spec := "showDefs", inPlace := ["internal/abi.NoEscape", "internal/bytealg.MakeNoZero"], unfollowed := true, recurses := true, named := ["bywash/lex.signs", "strconv.ErrSyntax", "strconv.ErrRange", "internal/strconv.uint64pow10", "math/bits.deBruijn32tab", "math/bits.deBruijn64tab", "bywash/show.ranks"], loops := true, apart := false, laid := [("math/bits.deBruijn32tab", laid_math_bits_deBruijn32tab), ("math/bits.deBruijn64tab", laid_math_bits_deBruijn64tab), ("internal/strconv.uint64pow10", laid_internal_strconv_uint64pow10), ("strconv.ErrRange", laid_strconv_ErrRange), ("strconv.ErrSyntax", laid_strconv_ErrSyntax), ("bywash/lex.signs", laid_bywash_lex_signs), ("bywash/show.ranks", laid_bywash_show_ranks)] }
def ShowDefsSaid : Prop := showDefsRow.holds Tryz.pinned (OpenSpec.ofChange showDefsSpec)

/-- ITS FALSE NEIGHBOUR: 'it returns false'. Refute it at one input. -/
def showDefsWrong : ChangeSpec := { name := "showDefs", fn := fun _ => fun
  | [d1, d2] => { results := [.lit (.bool false)], args := [d1, d2] }
  | _ => none }
def ShowDefsWrongFalsely : Prop := showDefsRow.holds Tryz.pinned (OpenSpec.ofChange showDefsWrong)

/- THE SECOND FORM. 'bulk': how many values and letters a reading holds, each counted each time it is reached (what is shared counts as often as it is met; a slice's spare places count too). A statement '..UptoSaid' is the law's where the arguments, and the package variables that the reading takes, are together of bulk at most 1048576: NARROWER than '..Said'. Prove '..Said' where nothing that the law and all that it calls make is longer than what came in: it says more and counts as full. Else prove '..UptoSaid'. A law counts once. -/
mutual
def uptoBulk {H : Type} : DataW H → Nat
  | .lit (.string bytes) => bytes.length + 1
  | .lit _ => 1
  | .nil => 1
  | .ptr d => uptoBulk d + 1
  | .slice elems spare => uptoBulkAll elems + uptoBulkAll spare + 1
  | .agg parts => uptoBulkAll parts + 1
  | .iface _ d => uptoBulk d + 1
  | .map entries => uptoBulkEntries entries + 1
  | .held _ => 1
def uptoBulkAll {H : Type} : List (DataW H) → Nat
  | [] => 0
  | d :: r => uptoBulk d + uptoBulkAll r
def uptoBulkEntries {H : Type} : List (Lit × DataW H) → Nat
  | [] => 0
  | x :: r => uptoBulkEntry x + uptoBulkEntries r
def uptoBulkEntry {H : Type} : Lit × DataW H → Nat
  | (.string bytes, d) => bytes.length + uptoBulk d + 1
  | (_, d) => uptoBulk d + 1
 end
def uptoSmall : (H : Type) → List (DataW H) → Bool := fun _ ds => decide (uptoBulkAll ds ≤ 1048576)
def OpenSpec.upto (s : _root_.Go.ChangeSpec) : _root_.Go.OpenSpec := { _root_.Go.OpenSpec.ofChange s with cond := some uptoSmall }

/-- 'bywashlaw15.ShowExprs', WHERE WHAT IT READS IS OF BULK AT MOST 1048576: true; the input reads as it did. -/
def showExprsUptoRow : OpenClaim := { program := "ytonkjhmkppeagaagreatdoor", sum := "38563ed7f9eb2999abf74de024cf5e122aaa0ffe30eda64c731969b8183db905", func := "bywash/bywashlaw15.ShowExprs", spec := "showExprs", inPlace := ["internal/abi.NoEscape", "internal/bytealg.MakeNoZero"], unfollowed := true, recurses := true, named := ["bywash/lex.signs", "strconv.ErrSyntax", "strconv.ErrRange", "internal/strconv.uint64pow10", "math/bits.deBruijn32tab", "math/bits.deBruijn64tab", "bywash/show.ranks"], apart := false, laid := [("math/bits.deBruijn32tab", laid_math_bits_deBruijn32tab), ("math/bits.deBruijn64tab", laid_math_bits_deBruijn64tab), ("internal/strconv.uint64pow10", laid_internal_strconv_uint64pow10), ("strconv.ErrRange", laid_strconv_ErrRange), ("strconv.ErrSyntax", laid_strconv_ErrSyntax), ("bywash/lex.signs", laid_bywash_lex_signs), ("bywash/show.ranks", laid_bywash_show_ranks)], narrowed := true }
def ShowExprsUptoSaid : Prop := showExprsUptoRow.holds Tryz.pinned (OpenSpec.upto showExprsSpec)

/-- 'bywashlaw15.ShowRaw', WHERE WHAT IT READS IS OF BULK AT MOST 1048576: true; the input reads as it did. -/
def showRawUptoRow : OpenClaim := { program := "ytonkjhmkppeagaagreatdoor", sum := "38563ed7f9eb2999abf74de024cf5e122aaa0ffe30eda64c731969b8183db905", func := "bywash/bywashlaw15.ShowRaw", spec := "showRaw", inPlace := ["internal/abi.NoEscape", "internal/bytealg.MakeNoZero"], unfollowed := true, recurses := true, named := ["bywash/lex.signs", "strconv.ErrSyntax", "strconv.ErrRange", "internal/strconv.uint64pow10", "math/bits.deBruijn32tab", "math/bits.deBruijn64tab", "bywash/show.ranks"], apart := false, laid := [("math/bits.deBruijn32tab", laid_math_bits_deBruijn32tab), ("math/bits.deBruijn64tab", laid_math_bits_deBruijn64tab), ("internal/strconv.uint64pow10", laid_internal_strconv_uint64pow10), ("strconv.ErrRange", laid_strconv_ErrRange), ("strconv.ErrSyntax", laid_strconv_ErrSyntax), ("bywash/lex.signs", laid_bywash_lex_signs), ("bywash/show.ranks", laid_bywash_show_ranks)], narrowed := true }
def ShowRawUptoSaid : Prop := showRawUptoRow.holds Tryz.pinned (OpenSpec.upto showRawSpec)

/-- 'bywashlaw14.ParseQueries', WHERE WHAT IT READS IS OF BULK AT MOST 1048576: true; the input reads as it did. -/
def parseQueriesUptoRow : OpenClaim := { program := "ytonkjhmkppeagaagreatdoor", sum := "38563ed7f9eb2999abf74de024cf5e122aaa0ffe30eda64c731969b8183db905", func := "bywash/bywashlaw14.ParseQueries", spec := "parseQueries", unfollowed := true, recurses := true, named := ["bywash/lex.signs", "strconv.ErrSyntax", "strconv.ErrRange", "internal/strconv.uint64pow10", "math/bits.deBruijn32tab", "math/bits.deBruijn64tab"], apart := false, laid := [("math/bits.deBruijn32tab", laid_math_bits_deBruijn32tab), ("math/bits.deBruijn64tab", laid_math_bits_deBruijn64tab), ("internal/strconv.uint64pow10", laid_internal_strconv_uint64pow10), ("strconv.ErrRange", laid_strconv_ErrRange), ("strconv.ErrSyntax", laid_strconv_ErrSyntax), ("bywash/lex.signs", laid_bywash_lex_signs)], narrowed := true }
def ParseQueriesUptoSaid : Prop := parseQueriesUptoRow.holds Tryz.pinned (OpenSpec.upto parseQueriesSpec)

/-- 'bywashlaw14.ParseTexts', WHERE WHAT IT READS IS OF BULK AT MOST 1048576: true; the input reads as it did. -/
def parseTextsUptoRow : OpenClaim := { program := "ytonkjhmkppeagaagreatdoor", sum := "38563ed7f9eb2999abf74de024cf5e122aaa0ffe30eda64c731969b8183db905", func := "bywash/bywashlaw14.ParseTexts", spec := "parseTexts", unfollowed := true, recurses := true, named := ["bywash/lex.signs", "strconv.ErrSyntax", "strconv.ErrRange", "internal/strconv.uint64pow10", "math/bits.deBruijn32tab", "math/bits.deBruijn64tab"], apart := false, laid := [("math/bits.deBruijn32tab", laid_math_bits_deBruijn32tab), ("math/bits.deBruijn64tab", laid_math_bits_deBruijn64tab), ("internal/strconv.uint64pow10", laid_internal_strconv_uint64pow10), ("strconv.ErrRange", laid_strconv_ErrRange), ("strconv.ErrSyntax", laid_strconv_ErrSyntax), ("bywash/lex.signs", laid_bywash_lex_signs)], narrowed := true }
def ParseTextsUptoSaid : Prop := parseTextsUptoRow.holds Tryz.pinned (OpenSpec.upto parseTextsSpec)

/-- 'bywashlaw14.ParseSources', WHERE WHAT IT READS IS OF BULK AT MOST 1048576: true; the input reads as it did. -/
def parseSourcesUptoRow : OpenClaim := { program := "ytonkjhmkppeagaagreatdoor", sum := "38563ed7f9eb2999abf74de024cf5e122aaa0ffe30eda64c731969b8183db905", func := "bywash/bywashlaw14.ParseSources", spec := "parseSources", unfollowed := true, recurses := true, named := ["bywash/lex.signs", "strconv.ErrSyntax", "strconv.ErrRange", "internal/strconv.uint64pow10", "math/bits.deBruijn32tab", "math/bits.deBruijn64tab"], apart := false, laid := [("math/bits.deBruijn32tab", laid_math_bits_deBruijn32tab), ("math/bits.deBruijn64tab", laid_math_bits_deBruijn64tab), ("internal/strconv.uint64pow10", laid_internal_strconv_uint64pow10), ("strconv.ErrRange", laid_strconv_ErrRange), ("strconv.ErrSyntax", laid_strconv_ErrSyntax), ("bywash/lex.signs", laid_bywash_lex_signs)], narrowed := true }
def ParseSourcesUptoSaid : Prop := parseSourcesUptoRow.holds Tryz.pinned (OpenSpec.upto parseSourcesSpec)

/-- 'bywashlaw14.ParseAssets', WHERE WHAT IT READS IS OF BULK AT MOST 1048576: true; the input reads as it did. -/
def parseAssetsUptoRow : OpenClaim := { program := "ytonkjhmkppeagaagreatdoor", sum := "38563ed7f9eb2999abf74de024cf5e122aaa0ffe30eda64c731969b8183db905", func := "bywash/bywashlaw14.ParseAssets", spec := "parseAssets", unfollowed := true, recurses := true, named := ["bywash/lex.signs", "strconv.ErrSyntax", "strconv.ErrRange", "internal/strconv.uint64pow10", "math/bits.deBruijn32tab", "math/bits.deBruijn64tab"], apart := false, laid := [("math/bits.deBruijn32tab", laid_math_bits_deBruijn32tab), ("math/bits.deBruijn64tab", laid_math_bits_deBruijn64tab), ("internal/strconv.uint64pow10", laid_internal_strconv_uint64pow10), ("strconv.ErrRange", laid_strconv_ErrRange), ("strconv.ErrSyntax", laid_strconv_ErrSyntax), ("bywash/lex.signs", laid_bywash_lex_signs)], narrowed := true }
def ParseAssetsUptoSaid : Prop := parseAssetsUptoRow.holds Tryz.pinned (OpenSpec.upto parseAssetsSpec)

/-- 'bywashlaw14.ParseSchedules', WHERE WHAT IT READS IS OF BULK AT MOST 1048576: true; the input reads as it did. -/
def parseSchedulesUptoRow : OpenClaim := { program := "ytonkjhmkppeagaagreatdoor", sum := "38563ed7f9eb2999abf74de024cf5e122aaa0ffe30eda64c731969b8183db905", func := "bywash/bywashlaw14.ParseSchedules", spec := "parseSchedules", unfollowed := true, recurses := true, named := ["bywash/lex.signs", "strconv.ErrSyntax", "strconv.ErrRange", "internal/strconv.uint64pow10", "math/bits.deBruijn32tab", "math/bits.deBruijn64tab"], apart := false, laid := [("math/bits.deBruijn32tab", laid_math_bits_deBruijn32tab), ("math/bits.deBruijn64tab", laid_math_bits_deBruijn64tab), ("internal/strconv.uint64pow10", laid_internal_strconv_uint64pow10), ("strconv.ErrRange", laid_strconv_ErrRange), ("strconv.ErrSyntax", laid_strconv_ErrSyntax), ("bywash/lex.signs", laid_bywash_lex_signs)], narrowed := true }
def ParseSchedulesUptoSaid : Prop := parseSchedulesUptoRow.holds Tryz.pinned (OpenSpec.upto parseSchedulesSpec)

/-- 'bywashlaw15.ShowQueries', WHERE WHAT IT READS IS OF BULK AT MOST 1048576: true; the input reads as it did. -/
def showQueriesUptoRow : OpenClaim := { program := "ytonkjhmkppeagaagreatdoor", sum := "38563ed7f9eb2999abf74de024cf5e122aaa0ffe30eda64c731969b8183db905", func := "bywash/bywashlaw15.ShowQueries", spec := "showQueries", inPlace := ["internal/abi.NoEscape", "internal/bytealg.MakeNoZero"], unfollowed := true, recurses := true, named := ["bywash/lex.signs", "strconv.ErrSyntax", "strconv.ErrRange", "internal/strconv.uint64pow10", "math/bits.deBruijn32tab", "math/bits.deBruijn64tab", "bywash/show.ranks"], apart := false, laid := [("math/bits.deBruijn32tab", laid_math_bits_deBruijn32tab), ("math/bits.deBruijn64tab", laid_math_bits_deBruijn64tab), ("internal/strconv.uint64pow10", laid_internal_strconv_uint64pow10), ("strconv.ErrRange", laid_strconv_ErrRange), ("strconv.ErrSyntax", laid_strconv_ErrSyntax), ("bywash/lex.signs", laid_bywash_lex_signs), ("bywash/show.ranks", laid_bywash_show_ranks)], narrowed := true }
def ShowQueriesUptoSaid : Prop := showQueriesUptoRow.holds Tryz.pinned (OpenSpec.upto showQueriesSpec)

/-- 'bywashlaw15.ShowCommon', WHERE WHAT IT READS IS OF BULK AT MOST 1048576: true; the input reads as it did. -/
def showCommonUptoRow : OpenClaim := { program := "ytonkjhmkppeagaagreatdoor", sum := "38563ed7f9eb2999abf74de024cf5e122aaa0ffe30eda64c731969b8183db905", func := "bywash/bywashlaw15.ShowCommon", spec := "showCommon", inPlace := ["internal/abi.NoEscape", "internal/bytealg.MakeNoZero"], unfollowed := true, recurses := true, named := ["internal/strconv.uint64pow10", "math/bits.deBruijn32tab", "math/bits.deBruijn64tab", "bywash/show.ranks", "bywash/lex.signs", "strconv.ErrSyntax", "strconv.ErrRange"], apart := false, laid := [("math/bits.deBruijn32tab", laid_math_bits_deBruijn32tab), ("math/bits.deBruijn64tab", laid_math_bits_deBruijn64tab), ("internal/strconv.uint64pow10", laid_internal_strconv_uint64pow10), ("strconv.ErrRange", laid_strconv_ErrRange), ("strconv.ErrSyntax", laid_strconv_ErrSyntax), ("bywash/lex.signs", laid_bywash_lex_signs), ("bywash/show.ranks", laid_bywash_show_ranks)], narrowed := true }
def ShowCommonUptoSaid : Prop := showCommonUptoRow.holds Tryz.pinned (OpenSpec.upto showCommonSpec)

/-- 'bywashlaw15.ShowTexts', WHERE WHAT IT READS IS OF BULK AT MOST 1048576: true; the input reads as it did. -/
def showTextsUptoRow : OpenClaim := { program := "ytonkjhmkppeagaagreatdoor", sum := "38563ed7f9eb2999abf74de024cf5e122aaa0ffe30eda64c731969b8183db905", func := "bywash/bywashlaw15.ShowTexts", spec := "showTexts", inPlace := ["internal/abi.NoEscape", "internal/bytealg.MakeNoZero"], unfollowed := true, recurses := true, named := ["bywash/lex.signs", "strconv.ErrSyntax", "strconv.ErrRange", "internal/strconv.uint64pow10", "math/bits.deBruijn32tab", "math/bits.deBruijn64tab", "bywash/show.ranks"], apart := false, laid := [("math/bits.deBruijn32tab", laid_math_bits_deBruijn32tab), ("math/bits.deBruijn64tab", laid_math_bits_deBruijn64tab), ("internal/strconv.uint64pow10", laid_internal_strconv_uint64pow10), ("strconv.ErrRange", laid_strconv_ErrRange), ("strconv.ErrSyntax", laid_strconv_ErrSyntax), ("bywash/lex.signs", laid_bywash_lex_signs), ("bywash/show.ranks", laid_bywash_show_ranks)], narrowed := true }
def ShowTextsUptoSaid : Prop := showTextsUptoRow.holds Tryz.pinned (OpenSpec.upto showTextsSpec)

/-- 'bywashlaw15.ShowDefs', WHERE WHAT IT READS IS OF BULK AT MOST 1048576: true; the input reads as it did. -/
def showDefsUptoRow : OpenClaim := { program := "ytonkjhmkppeagaagreatdoor", sum := "38563ed7f9eb2999abf74de024cf5e122aaa0ffe30eda64c731969b8183db905", func := "bywash/bywashlaw15.ShowDefs", spec := "showDefs", inPlace := ["internal/abi.NoEscape", "internal/bytealg.MakeNoZero"], unfollowed := true, recurses := true, named := ["bywash/lex.signs", "strconv.ErrSyntax", "strconv.ErrRange", "internal/strconv.uint64pow10", "math/bits.deBruijn32tab", "math/bits.deBruijn64tab", "bywash/show.ranks"], loops := true, apart := false, laid := [("math/bits.deBruijn32tab", laid_math_bits_deBruijn32tab), ("math/bits.deBruijn64tab", laid_math_bits_deBruijn64tab), ("internal/strconv.uint64pow10", laid_internal_strconv_uint64pow10), ("strconv.ErrRange", laid_strconv_ErrRange), ("strconv.ErrSyntax", laid_strconv_ErrSyntax), ("bywash/lex.signs", laid_bywash_lex_signs), ("bywash/show.ranks", laid_bywash_show_ranks)], narrowed := true }
def ShowDefsUptoSaid : Prop := showDefsUptoRow.holds Tryz.pinned (OpenSpec.upto showDefsSpec)

end Rows
end Go.Proofs.YtonkjhmkppeagaaGreatDoor
