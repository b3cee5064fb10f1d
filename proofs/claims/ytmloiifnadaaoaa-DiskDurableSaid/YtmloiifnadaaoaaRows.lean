/-
  No cell of these rows narrows 'for every input' (looked for: loops, veiled, ifaces, maps, wideKeys, modest, calm, conditions, laid).
  DERIVED. THE GIVEN ROWS OF THIS SEAT. 25 by the template 'for every input the law returns true; each argument reads behind the call as it read before'; 0 by the template 'total and deterministic' (their statements: YtmloiifnadaaoaaTotals.lean).
  GIVEN WITH THE SEED: the statements are not yours to turn. If you find one false, say at which input.
  Laid BY PROGRAM, IN A SANDBOX (cutbox-rows.mjs): the forced cells as the released guide's own fill.sh prints them over the translation ac5142ebe76155cd… (all of the seat's roots in one cut). By AI agents, Wed Nov 11 2026. No macro, syntax, notation, axiom, sorry.
-/
import Derived.Test.YtmloiifnadaaoaaChecked
import GoSem.Claim
import GoSem.ClaimJoined
import GoSem.ClaimMapViews
import Derived.JoinedTies
import Derived.KernelRfl
namespace Go.Proofs.Ytmloiifnadaaoaa
/- THE CELL 'sum', in the pinned program and in every row, IS THE sha256 OF THE DUMP (.gsa) THAT YtmloiifnadaaoaaProg.lean LOADS. Nothing in Lean hashes anything: it is a label: what it is worth is what the hold of that sum in a sandbox is worth. -/
noncomputable def Try.pinned : Pinned := { name := "ytmloiifnadaaoaa", sum := "ac5142ebe76155cdd19b3ecd8c6d881c43ef25a041ed43733f1118ffd626469f", checked := Try.checked }
namespace Rows
def none {H : Type} : Left H := { results := [], args := [] }

/-- 'tegulalaw10.GeometryValid': WHATEVER THE INPUT: true; the input reads as it did. -/
def geometryValidSpec : ChangeSpec := { name := "geometryValid", fn := fun _ => fun
  | [d] => { results := [.lit (.bool true)], args := [d] }
  | _ => none }
def geometryValidRow : OpenClaim := { program := "ytmloiifnadaaoaa", sum := "ac5142ebe76155cdd19b3ecd8c6d881c43ef25a041ed43733f1118ffd626469f", func := "tegula/tegulalaw10.GeometryValid", spec := "geometryValid", apart := false }
def GeometryValidSaid : Prop := geometryValidRow.holds Try.pinned (OpenSpec.ofChange geometryValidSpec)

/-- ITS FALSE NEIGHBOUR: 'it returns false'. Refute it at one input. -/
def geometryValidWrong : ChangeSpec := { name := "geometryValid", fn := fun _ => fun
  | [d] => { results := [.lit (.bool false)], args := [d] }
  | _ => none }
def GeometryValidWrongFalsely : Prop := geometryValidRow.holds Try.pinned (OpenSpec.ofChange geometryValidWrong)

/-- 'tegulalaw10.GeometryShadow': WHATEVER THE INPUT: true; the input reads as it did. -/
def geometryShadowSpec : ChangeSpec := { name := "geometryShadow", fn := fun _ => fun
  | [d1, d2] => { results := [.lit (.bool true)], args := [d1, d2] }
  | _ => none }
def geometryShadowRow : OpenClaim := { program := "ytmloiifnadaaoaa", sum := "ac5142ebe76155cdd19b3ecd8c6d881c43ef25a041ed43733f1118ffd626469f", func := "tegula/tegulalaw10.GeometryShadow", spec := "geometryShadow", apart := false }
def GeometryShadowSaid : Prop := geometryShadowRow.holds Try.pinned (OpenSpec.ofChange geometryShadowSpec)

/-- ITS FALSE NEIGHBOUR: 'it returns false'. Refute it at one input. -/
def geometryShadowWrong : ChangeSpec := { name := "geometryShadow", fn := fun _ => fun
  | [d1, d2] => { results := [.lit (.bool false)], args := [d1, d2] }
  | _ => none }
def GeometryShadowWrongFalsely : Prop := geometryShadowRow.holds Try.pinned (OpenSpec.ofChange geometryShadowWrong)

/-- 'tegulalaw10.GeometryOrder': WHATEVER THE INPUT: true; the input reads as it did. -/
def geometryOrderSpec : ChangeSpec := { name := "geometryOrder", fn := fun _ => fun
  | [d1, d2] => { results := [.lit (.bool true)], args := [d1, d2] }
  | _ => none }
def geometryOrderRow : OpenClaim := { program := "ytmloiifnadaaoaa", sum := "ac5142ebe76155cdd19b3ecd8c6d881c43ef25a041ed43733f1118ffd626469f", func := "tegula/tegulalaw10.GeometryOrder", spec := "geometryOrder", apart := false }
def GeometryOrderSaid : Prop := geometryOrderRow.holds Try.pinned (OpenSpec.ofChange geometryOrderSpec)

/-- ITS FALSE NEIGHBOUR: 'it returns false'. Refute it at one input. -/
def geometryOrderWrong : ChangeSpec := { name := "geometryOrder", fn := fun _ => fun
  | [d1, d2] => { results := [.lit (.bool false)], args := [d1, d2] }
  | _ => none }
def GeometryOrderWrongFalsely : Prop := geometryOrderRow.holds Try.pinned (OpenSpec.ofChange geometryOrderWrong)

/-- 'tegulalaw10.GeometryLocate': WHATEVER THE INPUT: true; the input reads as it did. -/
def geometryLocateSpec : ChangeSpec := { name := "geometryLocate", fn := fun _ => fun
  | [d1, d2] => { results := [.lit (.bool true)], args := [d1, d2] }
  | _ => none }
def geometryLocateRow : OpenClaim := { program := "ytmloiifnadaaoaa", sum := "ac5142ebe76155cdd19b3ecd8c6d881c43ef25a041ed43733f1118ffd626469f", func := "tegula/tegulalaw10.GeometryLocate", spec := "geometryLocate", apart := false }
def GeometryLocateSaid : Prop := geometryLocateRow.holds Try.pinned (OpenSpec.ofChange geometryLocateSpec)

/-- ITS FALSE NEIGHBOUR: 'it returns false'. Refute it at one input. -/
def geometryLocateWrong : ChangeSpec := { name := "geometryLocate", fn := fun _ => fun
  | [d1, d2] => { results := [.lit (.bool false)], args := [d1, d2] }
  | _ => none }
def GeometryLocateWrongFalsely : Prop := geometryLocateRow.holds Try.pinned (OpenSpec.ofChange geometryLocateWrong)

/-- 'tegulalaw10.GeometryAddress': WHATEVER THE INPUT: true; the input reads as it did. -/
def geometryAddressSpec : ChangeSpec := { name := "geometryAddress", fn := fun _ => fun
  | [d1, d2] => { results := [.lit (.bool true)], args := [d1, d2] }
  | _ => none }
def geometryAddressRow : OpenClaim := { program := "ytmloiifnadaaoaa", sum := "ac5142ebe76155cdd19b3ecd8c6d881c43ef25a041ed43733f1118ffd626469f", func := "tegula/tegulalaw10.GeometryAddress", spec := "geometryAddress", apart := false }
def GeometryAddressSaid : Prop := geometryAddressRow.holds Try.pinned (OpenSpec.ofChange geometryAddressSpec)

/-- ITS FALSE NEIGHBOUR: 'it returns false'. Refute it at one input. -/
def geometryAddressWrong : ChangeSpec := { name := "geometryAddress", fn := fun _ => fun
  | [d1, d2] => { results := [.lit (.bool false)], args := [d1, d2] }
  | _ => none }
def GeometryAddressWrongFalsely : Prop := geometryAddressRow.holds Try.pinned (OpenSpec.ofChange geometryAddressWrong)

/-- 'tegulalaw10.GeometryUnion': WHATEVER THE INPUT: true; the input reads as it did. -/
def geometryUnionSpec : ChangeSpec := { name := "geometryUnion", fn := fun _ => fun
  | [d1, d2] => { results := [.lit (.bool true)], args := [d1, d2] }
  | _ => none }
def geometryUnionRow : OpenClaim := { program := "ytmloiifnadaaoaa", sum := "ac5142ebe76155cdd19b3ecd8c6d881c43ef25a041ed43733f1118ffd626469f", func := "tegula/tegulalaw10.GeometryUnion", spec := "geometryUnion", apart := false }
def GeometryUnionSaid : Prop := geometryUnionRow.holds Try.pinned (OpenSpec.ofChange geometryUnionSpec)

/-- ITS FALSE NEIGHBOUR: 'it returns false'. Refute it at one input. -/
def geometryUnionWrong : ChangeSpec := { name := "geometryUnion", fn := fun _ => fun
  | [d1, d2] => { results := [.lit (.bool false)], args := [d1, d2] }
  | _ => none }
def GeometryUnionWrongFalsely : Prop := geometryUnionRow.holds Try.pinned (OpenSpec.ofChange geometryUnionWrong)

/-- 'tegulalaw10.GeometryInverse': WHATEVER THE INPUT: true; the input reads as it did. -/
def geometryInverseSpec : ChangeSpec := { name := "geometryInverse", fn := fun _ => fun
  | [d1, d2] => { results := [.lit (.bool true)], args := [d1, d2] }
  | _ => none }
def geometryInverseRow : OpenClaim := { program := "ytmloiifnadaaoaa", sum := "ac5142ebe76155cdd19b3ecd8c6d881c43ef25a041ed43733f1118ffd626469f", func := "tegula/tegulalaw10.GeometryInverse", spec := "geometryInverse", apart := false }
def GeometryInverseSaid : Prop := geometryInverseRow.holds Try.pinned (OpenSpec.ofChange geometryInverseSpec)

/-- ITS FALSE NEIGHBOUR: 'it returns false'. Refute it at one input. -/
def geometryInverseWrong : ChangeSpec := { name := "geometryInverse", fn := fun _ => fun
  | [d1, d2] => { results := [.lit (.bool false)], args := [d1, d2] }
  | _ => none }
def GeometryInverseWrongFalsely : Prop := geometryInverseRow.holds Try.pinned (OpenSpec.ofChange geometryInverseWrong)

/-- 'tegulalaw11.MediaApart': WHATEVER THE INPUT: true; the input reads as it did. -/
def mediaApartSpec : ChangeSpec := { name := "mediaApart", fn := fun _ => fun
  | [d1, d2, d3] => { results := [.lit (.bool true)], args := [d1, d2, d3] }
  | _ => none }
def mediaApartRow : OpenClaim := { program := "ytmloiifnadaaoaa", sum := "ac5142ebe76155cdd19b3ecd8c6d881c43ef25a041ed43733f1118ffd626469f", func := "tegula/tegulalaw11.MediaApart", spec := "mediaApart", apart := false }
def MediaApartSaid : Prop := mediaApartRow.holds Try.pinned (OpenSpec.ofChange mediaApartSpec)

/-- ITS FALSE NEIGHBOUR: 'it returns false'. Refute it at one input. -/
def mediaApartWrong : ChangeSpec := { name := "mediaApart", fn := fun _ => fun
  | [d1, d2, d3] => { results := [.lit (.bool false)], args := [d1, d2, d3] }
  | _ => none }
def MediaApartWrongFalsely : Prop := mediaApartRow.holds Try.pinned (OpenSpec.ofChange mediaApartWrong)

/-- 'tegulalaw11.MediaSequential': WHATEVER THE INPUT: true; the input reads as it did. -/
def mediaSequentialSpec : ChangeSpec := { name := "mediaSequential", fn := fun _ => fun
  | [d1, d2, d3] => { results := [.lit (.bool true)], args := [d1, d2, d3] }
  | _ => none }
def mediaSequentialRow : OpenClaim := { program := "ytmloiifnadaaoaa", sum := "ac5142ebe76155cdd19b3ecd8c6d881c43ef25a041ed43733f1118ffd626469f", func := "tegula/tegulalaw11.MediaSequential", spec := "mediaSequential", apart := false }
def MediaSequentialSaid : Prop := mediaSequentialRow.holds Try.pinned (OpenSpec.ofChange mediaSequentialSpec)

/-- ITS FALSE NEIGHBOUR: 'it returns false'. Refute it at one input. -/
def mediaSequentialWrong : ChangeSpec := { name := "mediaSequential", fn := fun _ => fun
  | [d1, d2, d3] => { results := [.lit (.bool false)], args := [d1, d2, d3] }
  | _ => none }
def MediaSequentialWrongFalsely : Prop := mediaSequentialRow.holds Try.pinned (OpenSpec.ofChange mediaSequentialWrong)

/-- 'tegulalaw11.MediaOps': WHATEVER THE INPUT: true; the input reads as it did. -/
def mediaOpsSpec : ChangeSpec := { name := "mediaOps", fn := fun _ => fun
  | [d1, d2] => { results := [.lit (.bool true)], args := [d1, d2] }
  | _ => none }
def mediaOpsRow : OpenClaim := { program := "ytmloiifnadaaoaa", sum := "ac5142ebe76155cdd19b3ecd8c6d881c43ef25a041ed43733f1118ffd626469f", func := "tegula/tegulalaw11.MediaOps", spec := "mediaOps", apart := false }
def MediaOpsSaid : Prop := mediaOpsRow.holds Try.pinned (OpenSpec.ofChange mediaOpsSpec)

/-- ITS FALSE NEIGHBOUR: 'it returns false'. Refute it at one input. -/
def mediaOpsWrong : ChangeSpec := { name := "mediaOps", fn := fun _ => fun
  | [d1, d2] => { results := [.lit (.bool false)], args := [d1, d2] }
  | _ => none }
def MediaOpsWrongFalsely : Prop := mediaOpsRow.holds Try.pinned (OpenSpec.ofChange mediaOpsWrong)

/-- 'tegulalaw11.MediaLocal': WHATEVER THE INPUT: true; the input reads as it did. -/
def mediaLocalSpec : ChangeSpec := { name := "mediaLocal", fn := fun _ => fun
  | [d1, d2, d3] => { results := [.lit (.bool true)], args := [d1, d2, d3] }
  | _ => none }
def mediaLocalRow : OpenClaim := { program := "ytmloiifnadaaoaa", sum := "ac5142ebe76155cdd19b3ecd8c6d881c43ef25a041ed43733f1118ffd626469f", func := "tegula/tegulalaw11.MediaLocal", spec := "mediaLocal", apart := false }
def MediaLocalSaid : Prop := mediaLocalRow.holds Try.pinned (OpenSpec.ofChange mediaLocalSpec)

/-- ITS FALSE NEIGHBOUR: 'it returns false'. Refute it at one input. -/
def mediaLocalWrong : ChangeSpec := { name := "mediaLocal", fn := fun _ => fun
  | [d1, d2, d3] => { results := [.lit (.bool false)], args := [d1, d2, d3] }
  | _ => none }
def MediaLocalWrongFalsely : Prop := mediaLocalRow.holds Try.pinned (OpenSpec.ofChange mediaLocalWrong)

/-- 'tegulalaw11.MediaClone': WHATEVER THE INPUT: true; the input reads as it did. -/
def mediaCloneSpec : ChangeSpec := { name := "mediaClone", fn := fun _ => fun
  | [d1, d2, d3] => { results := [.lit (.bool true)], args := [d1, d2, d3] }
  | _ => none }
def mediaCloneRow : OpenClaim := { program := "ytmloiifnadaaoaa", sum := "ac5142ebe76155cdd19b3ecd8c6d881c43ef25a041ed43733f1118ffd626469f", func := "tegula/tegulalaw11.MediaClone", spec := "mediaClone", apart := false }
def MediaCloneSaid : Prop := mediaCloneRow.holds Try.pinned (OpenSpec.ofChange mediaCloneSpec)

/-- ITS FALSE NEIGHBOUR: 'it returns false'. Refute it at one input. -/
def mediaCloneWrong : ChangeSpec := { name := "mediaClone", fn := fun _ => fun
  | [d1, d2, d3] => { results := [.lit (.bool false)], args := [d1, d2, d3] }
  | _ => none }
def MediaCloneWrongFalsely : Prop := mediaCloneRow.holds Try.pinned (OpenSpec.ofChange mediaCloneWrong)

/-- 'tegulalaw11.MediaNil': WHATEVER THE INPUT: true; the input reads as it did. -/
def mediaNilSpec : ChangeSpec := { name := "mediaNil", fn := fun _ => fun
  | [d] => { results := [.lit (.bool true)], args := [d] }
  | _ => none }
def mediaNilRow : OpenClaim := { program := "ytmloiifnadaaoaa", sum := "ac5142ebe76155cdd19b3ecd8c6d881c43ef25a041ed43733f1118ffd626469f", func := "tegula/tegulalaw11.MediaNil", spec := "mediaNil", apart := false }
def MediaNilSaid : Prop := mediaNilRow.holds Try.pinned (OpenSpec.ofChange mediaNilSpec)

/-- ITS FALSE NEIGHBOUR: 'it returns false'. Refute it at one input. -/
def mediaNilWrong : ChangeSpec := { name := "mediaNil", fn := fun _ => fun
  | [d] => { results := [.lit (.bool false)], args := [d] }
  | _ => none }
def MediaNilWrongFalsely : Prop := mediaNilRow.holds Try.pinned (OpenSpec.ofChange mediaNilWrong)

/-- 'tegulalaw12.CacheGiven': WHATEVER THE INPUT: true; the input reads as it did. -/
def cacheGivenSpec : ChangeSpec := { name := "cacheGiven", fn := fun _ => fun
  | [d1, d2] => { results := [.lit (.bool true)], args := [d1, d2] }
  | _ => none }
def cacheGivenRow : OpenClaim := { program := "ytmloiifnadaaoaa", sum := "ac5142ebe76155cdd19b3ecd8c6d881c43ef25a041ed43733f1118ffd626469f", func := "tegula/tegulalaw12.CacheGiven", spec := "cacheGiven", unfollowed := true, recurses := true, apart := false }
def CacheGivenSaid : Prop := cacheGivenRow.holds Try.pinned (OpenSpec.ofChange cacheGivenSpec)

/-- ITS FALSE NEIGHBOUR: 'it returns false'. Refute it at one input. -/
def cacheGivenWrong : ChangeSpec := { name := "cacheGiven", fn := fun _ => fun
  | [d1, d2] => { results := [.lit (.bool false)], args := [d1, d2] }
  | _ => none }
def CacheGivenWrongFalsely : Prop := cacheGivenRow.holds Try.pinned (OpenSpec.ofChange cacheGivenWrong)

/-- 'tegulalaw12.CacheSteps': WHATEVER THE INPUT: true; the input reads as it did. -/
def cacheStepsSpec : ChangeSpec := { name := "cacheSteps", fn := fun _ => fun
  | [d1, d2] => { results := [.lit (.bool true)], args := [d1, d2] }
  | _ => none }
def cacheStepsRow : OpenClaim := { program := "ytmloiifnadaaoaa", sum := "ac5142ebe76155cdd19b3ecd8c6d881c43ef25a041ed43733f1118ffd626469f", func := "tegula/tegulalaw12.CacheSteps", spec := "cacheSteps", unfollowed := true, recurses := true, apart := false }
def CacheStepsSaid : Prop := cacheStepsRow.holds Try.pinned (OpenSpec.ofChange cacheStepsSpec)

/-- ITS FALSE NEIGHBOUR: 'it returns false'. Refute it at one input. -/
def cacheStepsWrong : ChangeSpec := { name := "cacheSteps", fn := fun _ => fun
  | [d1, d2] => { results := [.lit (.bool false)], args := [d1, d2] }
  | _ => none }
def CacheStepsWrongFalsely : Prop := cacheStepsRow.holds Try.pinned (OpenSpec.ofChange cacheStepsWrong)

/-- 'tegulalaw12.CacheCut': WHATEVER THE INPUT: true; the input reads as it did. -/
def cacheCutSpec : ChangeSpec := { name := "cacheCut", fn := fun _ => fun
  | [d1, d2, d3] => { results := [.lit (.bool true)], args := [d1, d2, d3] }
  | _ => none }
def cacheCutRow : OpenClaim := { program := "ytmloiifnadaaoaa", sum := "ac5142ebe76155cdd19b3ecd8c6d881c43ef25a041ed43733f1118ffd626469f", func := "tegula/tegulalaw12.CacheCut", spec := "cacheCut", unfollowed := true, recurses := true, apart := false }
def CacheCutSaid : Prop := cacheCutRow.holds Try.pinned (OpenSpec.ofChange cacheCutSpec)

/-- ITS FALSE NEIGHBOUR: 'it returns false'. Refute it at one input. -/
def cacheCutWrong : ChangeSpec := { name := "cacheCut", fn := fun _ => fun
  | [d1, d2, d3] => { results := [.lit (.bool false)], args := [d1, d2, d3] }
  | _ => none }
def CacheCutWrongFalsely : Prop := cacheCutRow.holds Try.pinned (OpenSpec.ofChange cacheCutWrong)

/-- 'tegulalaw12.CacheFlush': WHATEVER THE INPUT: true; the input reads as it did. -/
def cacheFlushSpec : ChangeSpec := { name := "cacheFlush", fn := fun _ => fun
  | [d1, d2, d3] => { results := [.lit (.bool true)], args := [d1, d2, d3] }
  | _ => none }
def cacheFlushRow : OpenClaim := { program := "ytmloiifnadaaoaa", sum := "ac5142ebe76155cdd19b3ecd8c6d881c43ef25a041ed43733f1118ffd626469f", func := "tegula/tegulalaw12.CacheFlush", spec := "cacheFlush", unfollowed := true, recurses := true, apart := false }
def CacheFlushSaid : Prop := cacheFlushRow.holds Try.pinned (OpenSpec.ofChange cacheFlushSpec)

/-- ITS FALSE NEIGHBOUR: 'it returns false'. Refute it at one input. -/
def cacheFlushWrong : ChangeSpec := { name := "cacheFlush", fn := fun _ => fun
  | [d1, d2, d3] => { results := [.lit (.bool false)], args := [d1, d2, d3] }
  | _ => none }
def CacheFlushWrongFalsely : Prop := cacheFlushRow.holds Try.pinned (OpenSpec.ofChange cacheFlushWrong)

/-- 'tegulalaw12.CacheClone': WHATEVER THE INPUT: true; the input reads as it did. -/
def cacheCloneSpec : ChangeSpec := { name := "cacheClone", fn := fun _ => fun
  | [d1, d2, d3] => { results := [.lit (.bool true)], args := [d1, d2, d3] }
  | _ => none }
def cacheCloneRow : OpenClaim := { program := "ytmloiifnadaaoaa", sum := "ac5142ebe76155cdd19b3ecd8c6d881c43ef25a041ed43733f1118ffd626469f", func := "tegula/tegulalaw12.CacheClone", spec := "cacheClone", unfollowed := true, recurses := true, apart := false }
def CacheCloneSaid : Prop := cacheCloneRow.holds Try.pinned (OpenSpec.ofChange cacheCloneSpec)

/-- ITS FALSE NEIGHBOUR: 'it returns false'. Refute it at one input. -/
def cacheCloneWrong : ChangeSpec := { name := "cacheClone", fn := fun _ => fun
  | [d1, d2, d3] => { results := [.lit (.bool false)], args := [d1, d2, d3] }
  | _ => none }
def CacheCloneWrongFalsely : Prop := cacheCloneRow.holds Try.pinned (OpenSpec.ofChange cacheCloneWrong)

/-- 'tegulalaw12.CacheNil': WHATEVER THE INPUT: true; the input reads as it did. -/
def cacheNilSpec : ChangeSpec := { name := "cacheNil", fn := fun _ => fun
  | [d] => { results := [.lit (.bool true)], args := [d] }
  | _ => none }
def cacheNilRow : OpenClaim := { program := "ytmloiifnadaaoaa", sum := "ac5142ebe76155cdd19b3ecd8c6d881c43ef25a041ed43733f1118ffd626469f", func := "tegula/tegulalaw12.CacheNil", spec := "cacheNil", unfollowed := true, recurses := true, apart := false }
def CacheNilSaid : Prop := cacheNilRow.holds Try.pinned (OpenSpec.ofChange cacheNilSpec)

/-- ITS FALSE NEIGHBOUR: 'it returns false'. Refute it at one input. -/
def cacheNilWrong : ChangeSpec := { name := "cacheNil", fn := fun _ => fun
  | [d] => { results := [.lit (.bool false)], args := [d] }
  | _ => none }
def CacheNilWrongFalsely : Prop := cacheNilRow.holds Try.pinned (OpenSpec.ofChange cacheNilWrong)

/-- 'tegulalaw14.DiskNew': WHATEVER THE INPUT: true; the input reads as it did. -/
def diskNewSpec : ChangeSpec := { name := "diskNew", fn := fun _ => fun
  | [d1, d2] => { results := [.lit (.bool true)], args := [d1, d2] }
  | _ => none }
def diskNewRow : OpenClaim := { program := "ytmloiifnadaaoaa", sum := "ac5142ebe76155cdd19b3ecd8c6d881c43ef25a041ed43733f1118ffd626469f", func := "tegula/tegulalaw14.DiskNew", spec := "diskNew", unfollowed := true, recurses := true, apart := false }
def DiskNewSaid : Prop := diskNewRow.holds Try.pinned (OpenSpec.ofChange diskNewSpec)

/-- ITS FALSE NEIGHBOUR: 'it returns false'. Refute it at one input. -/
def diskNewWrong : ChangeSpec := { name := "diskNew", fn := fun _ => fun
  | [d1, d2] => { results := [.lit (.bool false)], args := [d1, d2] }
  | _ => none }
def DiskNewWrongFalsely : Prop := diskNewRow.holds Try.pinned (OpenSpec.ofChange diskNewWrong)

/-- 'tegulalaw14.DiskStays': WHATEVER THE INPUT: true; the input reads as it did. -/
def diskStaysSpec : ChangeSpec := { name := "diskStays", fn := fun _ => fun
  | [d] => { results := [.lit (.bool true)], args := [d] }
  | _ => none }
def diskStaysRow : OpenClaim := { program := "ytmloiifnadaaoaa", sum := "ac5142ebe76155cdd19b3ecd8c6d881c43ef25a041ed43733f1118ffd626469f", func := "tegula/tegulalaw14.DiskStays", spec := "diskStays", unfollowed := true, recurses := true, apart := false }
def DiskStaysSaid : Prop := diskStaysRow.holds Try.pinned (OpenSpec.ofChange diskStaysSpec)

/-- ITS FALSE NEIGHBOUR: 'it returns false'. Refute it at one input. -/
def diskStaysWrong : ChangeSpec := { name := "diskStays", fn := fun _ => fun
  | [d] => { results := [.lit (.bool false)], args := [d] }
  | _ => none }
def DiskStaysWrongFalsely : Prop := diskStaysRow.holds Try.pinned (OpenSpec.ofChange diskStaysWrong)

/-- 'tegulalaw14.DiskDurable': WHATEVER THE INPUT: true; the input reads as it did. -/
def diskDurableSpec : ChangeSpec := { name := "diskDurable", fn := fun _ => fun
  | [d1, d2, d3] => { results := [.lit (.bool true)], args := [d1, d2, d3] }
  | _ => none }
def diskDurableRow : OpenClaim := { program := "ytmloiifnadaaoaa", sum := "ac5142ebe76155cdd19b3ecd8c6d881c43ef25a041ed43733f1118ffd626469f", func := "tegula/tegulalaw14.DiskDurable", spec := "diskDurable", unfollowed := true, recurses := true, apart := false }
def DiskDurableSaid : Prop := diskDurableRow.holds Try.pinned (OpenSpec.ofChange diskDurableSpec)

/-- ITS FALSE NEIGHBOUR: 'it returns false'. Refute it at one input. -/
def diskDurableWrong : ChangeSpec := { name := "diskDurable", fn := fun _ => fun
  | [d1, d2, d3] => { results := [.lit (.bool false)], args := [d1, d2, d3] }
  | _ => none }
def DiskDurableWrongFalsely : Prop := diskDurableRow.holds Try.pinned (OpenSpec.ofChange diskDurableWrong)

/-- 'tegulalaw14.DiskFences': WHATEVER THE INPUT: true; the input reads as it did. -/
def diskFencesSpec : ChangeSpec := { name := "diskFences", fn := fun _ => fun
  | [d1, d2] => { results := [.lit (.bool true)], args := [d1, d2] }
  | _ => none }
def diskFencesRow : OpenClaim := { program := "ytmloiifnadaaoaa", sum := "ac5142ebe76155cdd19b3ecd8c6d881c43ef25a041ed43733f1118ffd626469f", func := "tegula/tegulalaw14.DiskFences", spec := "diskFences", unfollowed := true, recurses := true, apart := false }
def DiskFencesSaid : Prop := diskFencesRow.holds Try.pinned (OpenSpec.ofChange diskFencesSpec)

/-- ITS FALSE NEIGHBOUR: 'it returns false'. Refute it at one input. -/
def diskFencesWrong : ChangeSpec := { name := "diskFences", fn := fun _ => fun
  | [d1, d2] => { results := [.lit (.bool false)], args := [d1, d2] }
  | _ => none }
def DiskFencesWrongFalsely : Prop := diskFencesRow.holds Try.pinned (OpenSpec.ofChange diskFencesWrong)

/-- 'tegulalaw14.DiskActs': WHATEVER THE INPUT: true; the input reads as it did. -/
def diskActsSpec : ChangeSpec := { name := "diskActs", fn := fun _ => fun
  | [d] => { results := [.lit (.bool true)], args := [d] }
  | _ => none }
def diskActsRow : OpenClaim := { program := "ytmloiifnadaaoaa", sum := "ac5142ebe76155cdd19b3ecd8c6d881c43ef25a041ed43733f1118ffd626469f", func := "tegula/tegulalaw14.DiskActs", spec := "diskActs", unfollowed := true, recurses := true, apart := false }
def DiskActsSaid : Prop := diskActsRow.holds Try.pinned (OpenSpec.ofChange diskActsSpec)

/-- ITS FALSE NEIGHBOUR: 'it returns false'. Refute it at one input. -/
def diskActsWrong : ChangeSpec := { name := "diskActs", fn := fun _ => fun
  | [d] => { results := [.lit (.bool false)], args := [d] }
  | _ => none }
def DiskActsWrongFalsely : Prop := diskActsRow.holds Try.pinned (OpenSpec.ofChange diskActsWrong)

/-- 'tegulalaw14.DiskNil': WHATEVER THE INPUT: true; the input reads as it did. -/
def diskNilSpec : ChangeSpec := { name := "diskNil", fn := fun _ => fun
  | [d1, d2] => { results := [.lit (.bool true)], args := [d1, d2] }
  | _ => none }
def diskNilRow : OpenClaim := { program := "ytmloiifnadaaoaa", sum := "ac5142ebe76155cdd19b3ecd8c6d881c43ef25a041ed43733f1118ffd626469f", func := "tegula/tegulalaw14.DiskNil", spec := "diskNil", unfollowed := true, recurses := true, apart := false }
def DiskNilSaid : Prop := diskNilRow.holds Try.pinned (OpenSpec.ofChange diskNilSpec)

/-- ITS FALSE NEIGHBOUR: 'it returns false'. Refute it at one input. -/
def diskNilWrong : ChangeSpec := { name := "diskNil", fn := fun _ => fun
  | [d1, d2] => { results := [.lit (.bool false)], args := [d1, d2] }
  | _ => none }
def DiskNilWrongFalsely : Prop := diskNilRow.holds Try.pinned (OpenSpec.ofChange diskNilWrong)

/- THE SECOND FORM. 'bulk': how many values and letters a reading holds, each counted each time it is reached (what is shared counts as often as it is met; a slice's spare places count too). A statement '..UptoSaid' is the law's where the arguments, and the package variables that the reading takes, are together of bulk at most 1048576: NARROWER than '..Said'. Prove '..Said' where nothing that the law and all that it calls make is longer than what came in: it says more and counts as full. Else prove '..UptoSaid'. A law counts once. -/
mutual
def uptoBulk {H : Type} : DataW H → Nat
  | .lit (.string bytes) => bytes.length + 1
  | .lit _ => 1
  | .nil => 1
  | .ptr d => uptoBulk d + 1
  | .slice elems spare => uptoBulkAll elems + uptoBulkAll spare + 1
  | .agg parts => uptoBulkAll parts + 1
  | .iface _ d => uptoBulk d + 1
  | .map entries => uptoBulkEntries entries + 1
  | .held _ => 1
def uptoBulkAll {H : Type} : List (DataW H) → Nat
  | [] => 0
  | d :: r => uptoBulk d + uptoBulkAll r
def uptoBulkEntries {H : Type} : List (Lit × DataW H) → Nat
  | [] => 0
  | x :: r => uptoBulkEntry x + uptoBulkEntries r
def uptoBulkEntry {H : Type} : Lit × DataW H → Nat
  | (.string bytes, d) => bytes.length + uptoBulk d + 1
  | (_, d) => uptoBulk d + 1
 end
def uptoSmall : (H : Type) → List (DataW H) → Bool := fun _ ds => decide (uptoBulkAll ds ≤ 1048576)
def OpenSpec.upto (s : _root_.Go.ChangeSpec) : _root_.Go.OpenSpec := { _root_.Go.OpenSpec.ofChange s with cond := some uptoSmall }

/-- 'tegulalaw10.GeometryValid', WHERE WHAT IT READS IS OF BULK AT MOST 1048576: true; the input reads as it did. -/
def geometryValidUptoRow : OpenClaim := { program := "ytmloiifnadaaoaa", sum := "ac5142ebe76155cdd19b3ecd8c6d881c43ef25a041ed43733f1118ffd626469f", func := "tegula/tegulalaw10.GeometryValid", spec := "geometryValid", apart := false, narrowed := true }
def GeometryValidUptoSaid : Prop := geometryValidUptoRow.holds Try.pinned (OpenSpec.upto geometryValidSpec)

/-- 'tegulalaw10.GeometryShadow', WHERE WHAT IT READS IS OF BULK AT MOST 1048576: true; the input reads as it did. -/
def geometryShadowUptoRow : OpenClaim := { program := "ytmloiifnadaaoaa", sum := "ac5142ebe76155cdd19b3ecd8c6d881c43ef25a041ed43733f1118ffd626469f", func := "tegula/tegulalaw10.GeometryShadow", spec := "geometryShadow", apart := false, narrowed := true }
def GeometryShadowUptoSaid : Prop := geometryShadowUptoRow.holds Try.pinned (OpenSpec.upto geometryShadowSpec)

/-- 'tegulalaw10.GeometryOrder', WHERE WHAT IT READS IS OF BULK AT MOST 1048576: true; the input reads as it did. -/
def geometryOrderUptoRow : OpenClaim := { program := "ytmloiifnadaaoaa", sum := "ac5142ebe76155cdd19b3ecd8c6d881c43ef25a041ed43733f1118ffd626469f", func := "tegula/tegulalaw10.GeometryOrder", spec := "geometryOrder", apart := false, narrowed := true }
def GeometryOrderUptoSaid : Prop := geometryOrderUptoRow.holds Try.pinned (OpenSpec.upto geometryOrderSpec)

/-- 'tegulalaw10.GeometryLocate', WHERE WHAT IT READS IS OF BULK AT MOST 1048576: true; the input reads as it did. -/
def geometryLocateUptoRow : OpenClaim := { program := "ytmloiifnadaaoaa", sum := "ac5142ebe76155cdd19b3ecd8c6d881c43ef25a041ed43733f1118ffd626469f", func := "tegula/tegulalaw10.GeometryLocate", spec := "geometryLocate", apart := false, narrowed := true }
def GeometryLocateUptoSaid : Prop := geometryLocateUptoRow.holds Try.pinned (OpenSpec.upto geometryLocateSpec)

/-- 'tegulalaw10.GeometryAddress', WHERE WHAT IT READS IS OF BULK AT MOST 1048576: true; the input reads as it did. -/
def geometryAddressUptoRow : OpenClaim := { program := "ytmloiifnadaaoaa", sum := "ac5142ebe76155cdd19b3ecd8c6d881c43ef25a041ed43733f1118ffd626469f", func := "tegula/tegulalaw10.GeometryAddress", spec := "geometryAddress", apart := false, narrowed := true }
def GeometryAddressUptoSaid : Prop := geometryAddressUptoRow.holds Try.pinned (OpenSpec.upto geometryAddressSpec)

/-- 'tegulalaw10.GeometryUnion', WHERE WHAT IT READS IS OF BULK AT MOST 1048576: true; the input reads as it did. -/
def geometryUnionUptoRow : OpenClaim := { program := "ytmloiifnadaaoaa", sum := "ac5142ebe76155cdd19b3ecd8c6d881c43ef25a041ed43733f1118ffd626469f", func := "tegula/tegulalaw10.GeometryUnion", spec := "geometryUnion", apart := false, narrowed := true }
def GeometryUnionUptoSaid : Prop := geometryUnionUptoRow.holds Try.pinned (OpenSpec.upto geometryUnionSpec)

/-- 'tegulalaw10.GeometryInverse', WHERE WHAT IT READS IS OF BULK AT MOST 1048576: true; the input reads as it did. -/
def geometryInverseUptoRow : OpenClaim := { program := "ytmloiifnadaaoaa", sum := "ac5142ebe76155cdd19b3ecd8c6d881c43ef25a041ed43733f1118ffd626469f", func := "tegula/tegulalaw10.GeometryInverse", spec := "geometryInverse", apart := false, narrowed := true }
def GeometryInverseUptoSaid : Prop := geometryInverseUptoRow.holds Try.pinned (OpenSpec.upto geometryInverseSpec)

/-- 'tegulalaw11.MediaApart', WHERE WHAT IT READS IS OF BULK AT MOST 1048576: true; the input reads as it did. -/
def mediaApartUptoRow : OpenClaim := { program := "ytmloiifnadaaoaa", sum := "ac5142ebe76155cdd19b3ecd8c6d881c43ef25a041ed43733f1118ffd626469f", func := "tegula/tegulalaw11.MediaApart", spec := "mediaApart", apart := false, narrowed := true }
def MediaApartUptoSaid : Prop := mediaApartUptoRow.holds Try.pinned (OpenSpec.upto mediaApartSpec)

/-- 'tegulalaw11.MediaSequential', WHERE WHAT IT READS IS OF BULK AT MOST 1048576: true; the input reads as it did. -/
def mediaSequentialUptoRow : OpenClaim := { program := "ytmloiifnadaaoaa", sum := "ac5142ebe76155cdd19b3ecd8c6d881c43ef25a041ed43733f1118ffd626469f", func := "tegula/tegulalaw11.MediaSequential", spec := "mediaSequential", apart := false, narrowed := true }
def MediaSequentialUptoSaid : Prop := mediaSequentialUptoRow.holds Try.pinned (OpenSpec.upto mediaSequentialSpec)

/-- 'tegulalaw11.MediaOps', WHERE WHAT IT READS IS OF BULK AT MOST 1048576: true; the input reads as it did. -/
def mediaOpsUptoRow : OpenClaim := { program := "ytmloiifnadaaoaa", sum := "ac5142ebe76155cdd19b3ecd8c6d881c43ef25a041ed43733f1118ffd626469f", func := "tegula/tegulalaw11.MediaOps", spec := "mediaOps", apart := false, narrowed := true }
def MediaOpsUptoSaid : Prop := mediaOpsUptoRow.holds Try.pinned (OpenSpec.upto mediaOpsSpec)

/-- 'tegulalaw11.MediaLocal', WHERE WHAT IT READS IS OF BULK AT MOST 1048576: true; the input reads as it did. -/
def mediaLocalUptoRow : OpenClaim := { program := "ytmloiifnadaaoaa", sum := "ac5142ebe76155cdd19b3ecd8c6d881c43ef25a041ed43733f1118ffd626469f", func := "tegula/tegulalaw11.MediaLocal", spec := "mediaLocal", apart := false, narrowed := true }
def MediaLocalUptoSaid : Prop := mediaLocalUptoRow.holds Try.pinned (OpenSpec.upto mediaLocalSpec)

/-- 'tegulalaw11.MediaClone', WHERE WHAT IT READS IS OF BULK AT MOST 1048576: true; the input reads as it did. -/
def mediaCloneUptoRow : OpenClaim := { program := "ytmloiifnadaaoaa", sum := "ac5142ebe76155cdd19b3ecd8c6d881c43ef25a041ed43733f1118ffd626469f", func := "tegula/tegulalaw11.MediaClone", spec := "mediaClone", apart := false, narrowed := true }
def MediaCloneUptoSaid : Prop := mediaCloneUptoRow.holds Try.pinned (OpenSpec.upto mediaCloneSpec)

/-- 'tegulalaw11.MediaNil', WHERE WHAT IT READS IS OF BULK AT MOST 1048576: true; the input reads as it did. -/
def mediaNilUptoRow : OpenClaim := { program := "ytmloiifnadaaoaa", sum := "ac5142ebe76155cdd19b3ecd8c6d881c43ef25a041ed43733f1118ffd626469f", func := "tegula/tegulalaw11.MediaNil", spec := "mediaNil", apart := false, narrowed := true }
def MediaNilUptoSaid : Prop := mediaNilUptoRow.holds Try.pinned (OpenSpec.upto mediaNilSpec)

/-- 'tegulalaw12.CacheGiven', WHERE WHAT IT READS IS OF BULK AT MOST 1048576: true; the input reads as it did. -/
def cacheGivenUptoRow : OpenClaim := { program := "ytmloiifnadaaoaa", sum := "ac5142ebe76155cdd19b3ecd8c6d881c43ef25a041ed43733f1118ffd626469f", func := "tegula/tegulalaw12.CacheGiven", spec := "cacheGiven", unfollowed := true, recurses := true, apart := false, narrowed := true }
def CacheGivenUptoSaid : Prop := cacheGivenUptoRow.holds Try.pinned (OpenSpec.upto cacheGivenSpec)

/-- 'tegulalaw12.CacheSteps', WHERE WHAT IT READS IS OF BULK AT MOST 1048576: true; the input reads as it did. -/
def cacheStepsUptoRow : OpenClaim := { program := "ytmloiifnadaaoaa", sum := "ac5142ebe76155cdd19b3ecd8c6d881c43ef25a041ed43733f1118ffd626469f", func := "tegula/tegulalaw12.CacheSteps", spec := "cacheSteps", unfollowed := true, recurses := true, apart := false, narrowed := true }
def CacheStepsUptoSaid : Prop := cacheStepsUptoRow.holds Try.pinned (OpenSpec.upto cacheStepsSpec)

/-- 'tegulalaw12.CacheCut', WHERE WHAT IT READS IS OF BULK AT MOST 1048576: true; the input reads as it did. -/
def cacheCutUptoRow : OpenClaim := { program := "ytmloiifnadaaoaa", sum := "ac5142ebe76155cdd19b3ecd8c6d881c43ef25a041ed43733f1118ffd626469f", func := "tegula/tegulalaw12.CacheCut", spec := "cacheCut", unfollowed := true, recurses := true, apart := false, narrowed := true }
def CacheCutUptoSaid : Prop := cacheCutUptoRow.holds Try.pinned (OpenSpec.upto cacheCutSpec)

/-- 'tegulalaw12.CacheFlush', WHERE WHAT IT READS IS OF BULK AT MOST 1048576: true; the input reads as it did. -/
def cacheFlushUptoRow : OpenClaim := { program := "ytmloiifnadaaoaa", sum := "ac5142ebe76155cdd19b3ecd8c6d881c43ef25a041ed43733f1118ffd626469f", func := "tegula/tegulalaw12.CacheFlush", spec := "cacheFlush", unfollowed := true, recurses := true, apart := false, narrowed := true }
def CacheFlushUptoSaid : Prop := cacheFlushUptoRow.holds Try.pinned (OpenSpec.upto cacheFlushSpec)

/-- 'tegulalaw12.CacheClone', WHERE WHAT IT READS IS OF BULK AT MOST 1048576: true; the input reads as it did. -/
def cacheCloneUptoRow : OpenClaim := { program := "ytmloiifnadaaoaa", sum := "ac5142ebe76155cdd19b3ecd8c6d881c43ef25a041ed43733f1118ffd626469f", func := "tegula/tegulalaw12.CacheClone", spec := "cacheClone", unfollowed := true, recurses := true, apart := false, narrowed := true }
def CacheCloneUptoSaid : Prop := cacheCloneUptoRow.holds Try.pinned (OpenSpec.upto cacheCloneSpec)

/-- 'tegulalaw12.CacheNil', WHERE WHAT IT READS IS OF BULK AT MOST 1048576: true; the input reads as it did. -/
def cacheNilUptoRow : OpenClaim := { program := "ytmloiifnadaaoaa", sum := "ac5142ebe76155cdd19b3ecd8c6d881c43ef25a041ed43733f1118ffd626469f", func := "tegula/tegulalaw12.CacheNil", spec := "cacheNil", unfollowed := true, recurses := true, apart := false, narrowed := true }
def CacheNilUptoSaid : Prop := cacheNilUptoRow.holds Try.pinned (OpenSpec.upto cacheNilSpec)

/-- 'tegulalaw14.DiskNew', WHERE WHAT IT READS IS OF BULK AT MOST 1048576: true; the input reads as it did. -/
def diskNewUptoRow : OpenClaim := { program := "ytmloiifnadaaoaa", sum := "ac5142ebe76155cdd19b3ecd8c6d881c43ef25a041ed43733f1118ffd626469f", func := "tegula/tegulalaw14.DiskNew", spec := "diskNew", unfollowed := true, recurses := true, apart := false, narrowed := true }
def DiskNewUptoSaid : Prop := diskNewUptoRow.holds Try.pinned (OpenSpec.upto diskNewSpec)

/-- 'tegulalaw14.DiskStays', WHERE WHAT IT READS IS OF BULK AT MOST 1048576: true; the input reads as it did. -/
def diskStaysUptoRow : OpenClaim := { program := "ytmloiifnadaaoaa", sum := "ac5142ebe76155cdd19b3ecd8c6d881c43ef25a041ed43733f1118ffd626469f", func := "tegula/tegulalaw14.DiskStays", spec := "diskStays", unfollowed := true, recurses := true, apart := false, narrowed := true }
def DiskStaysUptoSaid : Prop := diskStaysUptoRow.holds Try.pinned (OpenSpec.upto diskStaysSpec)

/-- 'tegulalaw14.DiskDurable', WHERE WHAT IT READS IS OF BULK AT MOST 1048576: true; the input reads as it did. -/
def diskDurableUptoRow : OpenClaim := { program := "ytmloiifnadaaoaa", sum := "ac5142ebe76155cdd19b3ecd8c6d881c43ef25a041ed43733f1118ffd626469f", func := "tegula/tegulalaw14.DiskDurable", spec := "diskDurable", unfollowed := true, recurses := true, apart := false, narrowed := true }
def DiskDurableUptoSaid : Prop := diskDurableUptoRow.holds Try.pinned (OpenSpec.upto diskDurableSpec)

/-- 'tegulalaw14.DiskFences', WHERE WHAT IT READS IS OF BULK AT MOST 1048576: true; the input reads as it did. -/
def diskFencesUptoRow : OpenClaim := { program := "ytmloiifnadaaoaa", sum := "ac5142ebe76155cdd19b3ecd8c6d881c43ef25a041ed43733f1118ffd626469f", func := "tegula/tegulalaw14.DiskFences", spec := "diskFences", unfollowed := true, recurses := true, apart := false, narrowed := true }
def DiskFencesUptoSaid : Prop := diskFencesUptoRow.holds Try.pinned (OpenSpec.upto diskFencesSpec)

/-- 'tegulalaw14.DiskActs', WHERE WHAT IT READS IS OF BULK AT MOST 1048576: true; the input reads as it did. -/
def diskActsUptoRow : OpenClaim := { program := "ytmloiifnadaaoaa", sum := "ac5142ebe76155cdd19b3ecd8c6d881c43ef25a041ed43733f1118ffd626469f", func := "tegula/tegulalaw14.DiskActs", spec := "diskActs", unfollowed := true, recurses := true, apart := false, narrowed := true }
def DiskActsUptoSaid : Prop := diskActsUptoRow.holds Try.pinned (OpenSpec.upto diskActsSpec)

/-- 'tegulalaw14.DiskNil', WHERE WHAT IT READS IS OF BULK AT MOST 1048576: true; the input reads as it did. -/
def diskNilUptoRow : OpenClaim := { program := "ytmloiifnadaaoaa", sum := "ac5142ebe76155cdd19b3ecd8c6d881c43ef25a041ed43733f1118ffd626469f", func := "tegula/tegulalaw14.DiskNil", spec := "diskNil", unfollowed := true, recurses := true, apart := false, narrowed := true }
def DiskNilUptoSaid : Prop := diskNilUptoRow.holds Try.pinned (OpenSpec.upto diskNilSpec)

end Rows
end Go.Proofs.Ytmloiifnadaaoaa
