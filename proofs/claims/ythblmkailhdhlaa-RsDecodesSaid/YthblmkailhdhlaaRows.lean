/-
  No cell of these rows narrows 'for every input' (looked for: loops, veiled, ifaces, maps, wideKeys, modest, calm, conditions, laid).
  DERIVED. THE GIVEN ROWS OF THIS SEAT. 20 by the template 'for every input the law returns true; each argument reads behind the call as it read before'; 0 by the template 'total and deterministic' (their statements: YthblmkailhdhlaaTotals.lean).
  GIVEN WITH THE SEED: the statements are not yours to turn. If you find one false, say at which input.
  Laid BY PROGRAM, IN A SANDBOX (cutbox-rows.mjs): the forced cells as the released guide's own fill.sh prints them over the translation b7ceefb8d83c0cd4… (all of the seat's roots in one cut). By AI agents, Wed Nov 11 2026. No macro, syntax, notation, axiom, sorry.
-/
import Derived.Test.YthblmkailhdhlaaChecked
import GoSem.Claim
import GoSem.ClaimJoined
import GoSem.ClaimMapViews
import Derived.JoinedTies
import Derived.KernelRfl
namespace Go.Proofs.Ythblmkailhdhlaa
/- THE CELL 'sum', in the pinned program and in every row, IS THE sha256 OF THE DUMP (.gsa) THAT YthblmkailhdhlaaProg.lean LOADS. Nothing in Lean hashes anything: it is a label: what it is worth is what the hold of that sum in a sandbox is worth. -/
noncomputable def Try.pinned : Pinned := { name := "ythblmkailhdhlaa", sum := "b7ceefb8d83c0cd40f8ab35e60cacfd8d4c175f1bb087c5b1501ffb20e4e7ab0", checked := Try.checked }
namespace Rows
def none {H : Type} : Left H := { results := [], args := [] }

/-- 'quartermasterlaw01.GfParts': WHATEVER THE INPUT: true; the input reads as it did. -/
def gfPartsSpec : ChangeSpec := { name := "gfParts", fn := fun _ => fun
  | [d1, d2] => { results := [.lit (.bool true)], args := [d1, d2] }
  | _ => none }
def gfPartsRow : OpenClaim := { program := "ythblmkailhdhlaa", sum := "b7ceefb8d83c0cd40f8ab35e60cacfd8d4c175f1bb087c5b1501ffb20e4e7ab0", func := "quartermaster/quartermasterlaw01.GfParts", spec := "gfParts", unfollowed := true, recurses := true, apart := false }
def GfPartsSaid : Prop := gfPartsRow.holds Try.pinned (OpenSpec.ofChange gfPartsSpec)

/-- ITS FALSE NEIGHBOUR: 'it returns false'. Refute it at one input. -/
def gfPartsWrong : ChangeSpec := { name := "gfParts", fn := fun _ => fun
  | [d1, d2] => { results := [.lit (.bool false)], args := [d1, d2] }
  | _ => none }
def GfPartsWrongFalsely : Prop := gfPartsRow.holds Try.pinned (OpenSpec.ofChange gfPartsWrong)

/-- 'quartermasterlaw01.GfPowers': WHATEVER THE INPUT: true; the input reads as it did. -/
def gfPowersSpec : ChangeSpec := { name := "gfPowers", fn := fun _ => fun
  | [d1, d2] => { results := [.lit (.bool true)], args := [d1, d2] }
  | _ => none }
def gfPowersRow : OpenClaim := { program := "ythblmkailhdhlaa", sum := "b7ceefb8d83c0cd40f8ab35e60cacfd8d4c175f1bb087c5b1501ffb20e4e7ab0", func := "quartermaster/quartermasterlaw01.GfPowers", spec := "gfPowers", unfollowed := true, recurses := true, apart := false }
def GfPowersSaid : Prop := gfPowersRow.holds Try.pinned (OpenSpec.ofChange gfPowersSpec)

/-- ITS FALSE NEIGHBOUR: 'it returns false'. Refute it at one input. -/
def gfPowersWrong : ChangeSpec := { name := "gfPowers", fn := fun _ => fun
  | [d1, d2] => { results := [.lit (.bool false)], args := [d1, d2] }
  | _ => none }
def GfPowersWrongFalsely : Prop := gfPowersRow.holds Try.pinned (OpenSpec.ofChange gfPowersWrong)

/-- 'quartermasterlaw01.GfBack': WHATEVER THE INPUT: true; the input reads as it did. -/
def gfBackSpec : ChangeSpec := { name := "gfBack", fn := fun _ => fun
  | [d1, d2] => { results := [.lit (.bool true)], args := [d1, d2] }
  | _ => none }
def gfBackRow : OpenClaim := { program := "ythblmkailhdhlaa", sum := "b7ceefb8d83c0cd40f8ab35e60cacfd8d4c175f1bb087c5b1501ffb20e4e7ab0", func := "quartermaster/quartermasterlaw01.GfBack", spec := "gfBack", unfollowed := true, recurses := true, apart := false }
def GfBackSaid : Prop := gfBackRow.holds Try.pinned (OpenSpec.ofChange gfBackSpec)

/-- ITS FALSE NEIGHBOUR: 'it returns false'. Refute it at one input. -/
def gfBackWrong : ChangeSpec := { name := "gfBack", fn := fun _ => fun
  | [d1, d2] => { results := [.lit (.bool false)], args := [d1, d2] }
  | _ => none }
def GfBackWrongFalsely : Prop := gfBackRow.holds Try.pinned (OpenSpec.ofChange gfBackWrong)

/-- 'quartermasterlaw01.GfLogs': WHATEVER THE INPUT: true; the input reads as it did. -/
def gfLogsSpec : ChangeSpec := { name := "gfLogs", fn := fun _ => fun
  | [d1, d2] => { results := [.lit (.bool true)], args := [d1, d2] }
  | _ => none }
def gfLogsRow : OpenClaim := { program := "ythblmkailhdhlaa", sum := "b7ceefb8d83c0cd40f8ab35e60cacfd8d4c175f1bb087c5b1501ffb20e4e7ab0", func := "quartermaster/quartermasterlaw01.GfLogs", spec := "gfLogs", unfollowed := true, recurses := true, apart := false }
def GfLogsSaid : Prop := gfLogsRow.holds Try.pinned (OpenSpec.ofChange gfLogsSpec)

/-- ITS FALSE NEIGHBOUR: 'it returns false'. Refute it at one input. -/
def gfLogsWrong : ChangeSpec := { name := "gfLogs", fn := fun _ => fun
  | [d1, d2] => { results := [.lit (.bool false)], args := [d1, d2] }
  | _ => none }
def GfLogsWrongFalsely : Prop := gfLogsRow.holds Try.pinned (OpenSpec.ofChange gfLogsWrong)

/-- 'quartermasterlaw01.GfNone': WHATEVER THE INPUT: true; the input reads as it did. -/
def gfNoneSpec : ChangeSpec := { name := "gfNone", fn := fun _ => fun
  | [d1, d2, d3] => { results := [.lit (.bool true)], args := [d1, d2, d3] }
  | _ => none }
def gfNoneRow : OpenClaim := { program := "ythblmkailhdhlaa", sum := "b7ceefb8d83c0cd40f8ab35e60cacfd8d4c175f1bb087c5b1501ffb20e4e7ab0", func := "quartermaster/quartermasterlaw01.GfNone", spec := "gfNone", unfollowed := true, recurses := true, apart := false }
def GfNoneSaid : Prop := gfNoneRow.holds Try.pinned (OpenSpec.ofChange gfNoneSpec)

/-- ITS FALSE NEIGHBOUR: 'it returns false'. Refute it at one input. -/
def gfNoneWrong : ChangeSpec := { name := "gfNone", fn := fun _ => fun
  | [d1, d2, d3] => { results := [.lit (.bool false)], args := [d1, d2, d3] }
  | _ => none }
def GfNoneWrongFalsely : Prop := gfNoneRow.holds Try.pinned (OpenSpec.ofChange gfNoneWrong)

/-- 'quartermasterlaw01.GfSums': WHATEVER THE INPUT: true; the input reads as it did. -/
def gfSumsSpec : ChangeSpec := { name := "gfSums", fn := fun _ => fun
  | [d1, d2] => { results := [.lit (.bool true)], args := [d1, d2] }
  | _ => none }
def gfSumsRow : OpenClaim := { program := "ythblmkailhdhlaa", sum := "b7ceefb8d83c0cd40f8ab35e60cacfd8d4c175f1bb087c5b1501ffb20e4e7ab0", func := "quartermaster/quartermasterlaw01.GfSums", spec := "gfSums", unfollowed := true, recurses := true, apart := false }
def GfSumsSaid : Prop := gfSumsRow.holds Try.pinned (OpenSpec.ofChange gfSumsSpec)

/-- ITS FALSE NEIGHBOUR: 'it returns false'. Refute it at one input. -/
def gfSumsWrong : ChangeSpec := { name := "gfSums", fn := fun _ => fun
  | [d1, d2] => { results := [.lit (.bool false)], args := [d1, d2] }
  | _ => none }
def GfSumsWrongFalsely : Prop := gfSumsRow.holds Try.pinned (OpenSpec.ofChange gfSumsWrong)

/-- 'quartermasterlaw01.GfField': WHATEVER THE INPUT: true; the input reads as it did. -/
def gfFieldSpec : ChangeSpec := { name := "gfField", fn := fun _ => fun
  | [d1, d2, d3] => { results := [.lit (.bool true)], args := [d1, d2, d3] }
  | _ => none }
def gfFieldRow : OpenClaim := { program := "ythblmkailhdhlaa", sum := "b7ceefb8d83c0cd40f8ab35e60cacfd8d4c175f1bb087c5b1501ffb20e4e7ab0", func := "quartermaster/quartermasterlaw01.GfField", spec := "gfField", unfollowed := true, recurses := true, apart := false }
def GfFieldSaid : Prop := gfFieldRow.holds Try.pinned (OpenSpec.ofChange gfFieldSpec)

/-- ITS FALSE NEIGHBOUR: 'it returns false'. Refute it at one input. -/
def gfFieldWrong : ChangeSpec := { name := "gfField", fn := fun _ => fun
  | [d1, d2, d3] => { results := [.lit (.bool false)], args := [d1, d2, d3] }
  | _ => none }
def GfFieldWrongFalsely : Prop := gfFieldRow.holds Try.pinned (OpenSpec.ofChange gfFieldWrong)

/-- 'quartermasterlaw02.MatMakes': WHATEVER THE INPUT: true; the input reads as it did. -/
def matMakesSpec : ChangeSpec := { name := "matMakes", fn := fun _ => fun
  | [d1, d2, d3] => { results := [.lit (.bool true)], args := [d1, d2, d3] }
  | _ => none }
def matMakesRow : OpenClaim := { program := "ythblmkailhdhlaa", sum := "b7ceefb8d83c0cd40f8ab35e60cacfd8d4c175f1bb087c5b1501ffb20e4e7ab0", func := "quartermaster/quartermasterlaw02.MatMakes", spec := "matMakes", unfollowed := true, recurses := true, apart := false }
def MatMakesSaid : Prop := matMakesRow.holds Try.pinned (OpenSpec.ofChange matMakesSpec)

/-- ITS FALSE NEIGHBOUR: 'it returns false'. Refute it at one input. -/
def matMakesWrong : ChangeSpec := { name := "matMakes", fn := fun _ => fun
  | [d1, d2, d3] => { results := [.lit (.bool false)], args := [d1, d2, d3] }
  | _ => none }
def MatMakesWrongFalsely : Prop := matMakesRow.holds Try.pinned (OpenSpec.ofChange matMakesWrong)

/-- 'quartermasterlaw02.MatInverts': WHATEVER THE INPUT: true; the input reads as it did. -/
def matInvertsSpec : ChangeSpec := { name := "matInverts", fn := fun _ => fun
  | [d] => { results := [.lit (.bool true)], args := [d] }
  | _ => none }
def matInvertsRow : OpenClaim := { program := "ythblmkailhdhlaa", sum := "b7ceefb8d83c0cd40f8ab35e60cacfd8d4c175f1bb087c5b1501ffb20e4e7ab0", func := "quartermaster/quartermasterlaw02.MatInverts", spec := "matInverts", unfollowed := true, recurses := true, apart := false }
def MatInvertsSaid : Prop := matInvertsRow.holds Try.pinned (OpenSpec.ofChange matInvertsSpec)

/-- ITS FALSE NEIGHBOUR: 'it returns false'. Refute it at one input. -/
def matInvertsWrong : ChangeSpec := { name := "matInverts", fn := fun _ => fun
  | [d] => { results := [.lit (.bool false)], args := [d] }
  | _ => none }
def MatInvertsWrongFalsely : Prop := matInvertsRow.holds Try.pinned (OpenSpec.ofChange matInvertsWrong)

/-- 'quartermasterlaw02.MatProducts': WHATEVER THE INPUT: true; the input reads as it did. -/
def matProductsSpec : ChangeSpec := { name := "matProducts", fn := fun _ => fun
  | [d1, d2] => { results := [.lit (.bool true)], args := [d1, d2] }
  | _ => none }
def matProductsRow : OpenClaim := { program := "ythblmkailhdhlaa", sum := "b7ceefb8d83c0cd40f8ab35e60cacfd8d4c175f1bb087c5b1501ffb20e4e7ab0", func := "quartermaster/quartermasterlaw02.MatProducts", spec := "matProducts", unfollowed := true, recurses := true, apart := false }
def MatProductsSaid : Prop := matProductsRow.holds Try.pinned (OpenSpec.ofChange matProductsSpec)

/-- ITS FALSE NEIGHBOUR: 'it returns false'. Refute it at one input. -/
def matProductsWrong : ChangeSpec := { name := "matProducts", fn := fun _ => fun
  | [d1, d2] => { results := [.lit (.bool false)], args := [d1, d2] }
  | _ => none }
def MatProductsWrongFalsely : Prop := matProductsRow.holds Try.pinned (OpenSpec.ofChange matProductsWrong)

/-- 'quartermasterlaw02.MatRows': WHATEVER THE INPUT: true; the input reads as it did. -/
def matRowsSpec : ChangeSpec := { name := "matRows", fn := fun _ => fun
  | [d1, d2, d3] => { results := [.lit (.bool true)], args := [d1, d2, d3] }
  | _ => none }
def matRowsRow : OpenClaim := { program := "ythblmkailhdhlaa", sum := "b7ceefb8d83c0cd40f8ab35e60cacfd8d4c175f1bb087c5b1501ffb20e4e7ab0", func := "quartermaster/quartermasterlaw02.MatRows", spec := "matRows", unfollowed := true, recurses := true, apart := false }
def MatRowsSaid : Prop := matRowsRow.holds Try.pinned (OpenSpec.ofChange matRowsSpec)

/-- ITS FALSE NEIGHBOUR: 'it returns false'. Refute it at one input. -/
def matRowsWrong : ChangeSpec := { name := "matRows", fn := fun _ => fun
  | [d1, d2, d3] => { results := [.lit (.bool false)], args := [d1, d2, d3] }
  | _ => none }
def MatRowsWrongFalsely : Prop := matRowsRow.holds Try.pinned (OpenSpec.ofChange matRowsWrong)

/-- 'quartermasterlaw02.MatOrder': WHATEVER THE INPUT: true; the input reads as it did. -/
def matOrderSpec : ChangeSpec := { name := "matOrder", fn := fun _ => fun
  | [d1, d2, d3] => { results := [.lit (.bool true)], args := [d1, d2, d3] }
  | _ => none }
def matOrderRow : OpenClaim := { program := "ythblmkailhdhlaa", sum := "b7ceefb8d83c0cd40f8ab35e60cacfd8d4c175f1bb087c5b1501ffb20e4e7ab0", func := "quartermaster/quartermasterlaw02.MatOrder", spec := "matOrder", unfollowed := true, recurses := true, apart := false }
def MatOrderSaid : Prop := matOrderRow.holds Try.pinned (OpenSpec.ofChange matOrderSpec)

/-- ITS FALSE NEIGHBOUR: 'it returns false'. Refute it at one input. -/
def matOrderWrong : ChangeSpec := { name := "matOrder", fn := fun _ => fun
  | [d1, d2, d3] => { results := [.lit (.bool false)], args := [d1, d2, d3] }
  | _ => none }
def MatOrderWrongFalsely : Prop := matOrderRow.holds Try.pinned (OpenSpec.ofChange matOrderWrong)

/-- 'quartermasterlaw02.MatOne': WHATEVER THE INPUT: true; the input reads as it did. -/
def matOneSpec : ChangeSpec := { name := "matOne", fn := fun _ => fun
  | [d1, d2, d3] => { results := [.lit (.bool true)], args := [d1, d2, d3] }
  | _ => none }
def matOneRow : OpenClaim := { program := "ythblmkailhdhlaa", sum := "b7ceefb8d83c0cd40f8ab35e60cacfd8d4c175f1bb087c5b1501ffb20e4e7ab0", func := "quartermaster/quartermasterlaw02.MatOne", spec := "matOne", unfollowed := true, recurses := true, apart := false }
def MatOneSaid : Prop := matOneRow.holds Try.pinned (OpenSpec.ofChange matOneSpec)

/-- ITS FALSE NEIGHBOUR: 'it returns false'. Refute it at one input. -/
def matOneWrong : ChangeSpec := { name := "matOne", fn := fun _ => fun
  | [d1, d2, d3] => { results := [.lit (.bool false)], args := [d1, d2, d3] }
  | _ => none }
def MatOneWrongFalsely : Prop := matOneRow.holds Try.pinned (OpenSpec.ofChange matOneWrong)

/-- 'quartermasterlaw03.RsEncodes': WHATEVER THE INPUT: true; the input reads as it did. -/
def rsEncodesSpec : ChangeSpec := { name := "rsEncodes", fn := fun _ => fun
  | [d1, d2, d3] => { results := [.lit (.bool true)], args := [d1, d2, d3] }
  | _ => none }
def rsEncodesRow : OpenClaim := { program := "ythblmkailhdhlaa", sum := "b7ceefb8d83c0cd40f8ab35e60cacfd8d4c175f1bb087c5b1501ffb20e4e7ab0", func := "quartermaster/quartermasterlaw03.RsEncodes", spec := "rsEncodes", unfollowed := true, recurses := true, apart := false }
def RsEncodesSaid : Prop := rsEncodesRow.holds Try.pinned (OpenSpec.ofChange rsEncodesSpec)

/-- ITS FALSE NEIGHBOUR: 'it returns false'. Refute it at one input. -/
def rsEncodesWrong : ChangeSpec := { name := "rsEncodes", fn := fun _ => fun
  | [d1, d2, d3] => { results := [.lit (.bool false)], args := [d1, d2, d3] }
  | _ => none }
def RsEncodesWrongFalsely : Prop := rsEncodesRow.holds Try.pinned (OpenSpec.ofChange rsEncodesWrong)

/-- 'quartermasterlaw03.RsDecodes': WHATEVER THE INPUT: true; the input reads as it did. -/
def rsDecodesSpec : ChangeSpec := { name := "rsDecodes", fn := fun _ => fun
  | [d1, d2] => { results := [.lit (.bool true)], args := [d1, d2] }
  | _ => none }
def rsDecodesRow : OpenClaim := { program := "ythblmkailhdhlaa", sum := "b7ceefb8d83c0cd40f8ab35e60cacfd8d4c175f1bb087c5b1501ffb20e4e7ab0", func := "quartermaster/quartermasterlaw03.RsDecodes", spec := "rsDecodes", unfollowed := true, recurses := true, apart := false }
def RsDecodesSaid : Prop := rsDecodesRow.holds Try.pinned (OpenSpec.ofChange rsDecodesSpec)

/-- ITS FALSE NEIGHBOUR: 'it returns false'. Refute it at one input. -/
def rsDecodesWrong : ChangeSpec := { name := "rsDecodes", fn := fun _ => fun
  | [d1, d2] => { results := [.lit (.bool false)], args := [d1, d2] }
  | _ => none }
def RsDecodesWrongFalsely : Prop := rsDecodesRow.holds Try.pinned (OpenSpec.ofChange rsDecodesWrong)

/-- 'quartermasterlaw03.RsBack': WHATEVER THE INPUT: true; the input reads as it did. -/
def rsBackSpec : ChangeSpec := { name := "rsBack", fn := fun _ => fun
  | [d1, d2, d3] => { results := [.lit (.bool true)], args := [d1, d2, d3] }
  | _ => none }
def rsBackRow : OpenClaim := { program := "ythblmkailhdhlaa", sum := "b7ceefb8d83c0cd40f8ab35e60cacfd8d4c175f1bb087c5b1501ffb20e4e7ab0", func := "quartermaster/quartermasterlaw03.RsBack", spec := "rsBack", unfollowed := true, recurses := true, apart := false }
def RsBackSaid : Prop := rsBackRow.holds Try.pinned (OpenSpec.ofChange rsBackSpec)

/-- ITS FALSE NEIGHBOUR: 'it returns false'. Refute it at one input. -/
def rsBackWrong : ChangeSpec := { name := "rsBack", fn := fun _ => fun
  | [d1, d2, d3] => { results := [.lit (.bool false)], args := [d1, d2, d3] }
  | _ => none }
def RsBackWrongFalsely : Prop := rsBackRow.holds Try.pinned (OpenSpec.ofChange rsBackWrong)

/-- 'quartermasterlaw03.RsParts': WHATEVER THE INPUT: true; the input reads as it did. -/
def rsPartsSpec : ChangeSpec := { name := "rsParts", fn := fun _ => fun
  | [d1, d2, d3] => { results := [.lit (.bool true)], args := [d1, d2, d3] }
  | _ => none }
def rsPartsRow : OpenClaim := { program := "ythblmkailhdhlaa", sum := "b7ceefb8d83c0cd40f8ab35e60cacfd8d4c175f1bb087c5b1501ffb20e4e7ab0", func := "quartermaster/quartermasterlaw03.RsParts", spec := "rsParts", unfollowed := true, recurses := true, apart := false }
def RsPartsSaid : Prop := rsPartsRow.holds Try.pinned (OpenSpec.ofChange rsPartsSpec)

/-- ITS FALSE NEIGHBOUR: 'it returns false'. Refute it at one input. -/
def rsPartsWrong : ChangeSpec := { name := "rsParts", fn := fun _ => fun
  | [d1, d2, d3] => { results := [.lit (.bool false)], args := [d1, d2, d3] }
  | _ => none }
def RsPartsWrongFalsely : Prop := rsPartsRow.holds Try.pinned (OpenSpec.ofChange rsPartsWrong)

/-- 'quartermasterlaw03.RsOwn': WHATEVER THE INPUT: true; the input reads as it did. -/
def rsOwnSpec : ChangeSpec := { name := "rsOwn", fn := fun _ => fun
  | [d] => { results := [.lit (.bool true)], args := [d] }
  | _ => none }
def rsOwnRow : OpenClaim := { program := "ythblmkailhdhlaa", sum := "b7ceefb8d83c0cd40f8ab35e60cacfd8d4c175f1bb087c5b1501ffb20e4e7ab0", func := "quartermaster/quartermasterlaw03.RsOwn", spec := "rsOwn", unfollowed := true, recurses := true, apart := false }
def RsOwnSaid : Prop := rsOwnRow.holds Try.pinned (OpenSpec.ofChange rsOwnSpec)

/-- ITS FALSE NEIGHBOUR: 'it returns false'. Refute it at one input. -/
def rsOwnWrong : ChangeSpec := { name := "rsOwn", fn := fun _ => fun
  | [d] => { results := [.lit (.bool false)], args := [d] }
  | _ => none }
def RsOwnWrongFalsely : Prop := rsOwnRow.holds Try.pinned (OpenSpec.ofChange rsOwnWrong)

/-- 'quartermasterlaw03.RsAny': WHATEVER THE INPUT: true; the input reads as it did. -/
def rsAnySpec : ChangeSpec := { name := "rsAny", fn := fun _ => fun
  | [d1, d2, d3, d4] => { results := [.lit (.bool true)], args := [d1, d2, d3, d4] }
  | _ => none }
def rsAnyRow : OpenClaim := { program := "ythblmkailhdhlaa", sum := "b7ceefb8d83c0cd40f8ab35e60cacfd8d4c175f1bb087c5b1501ffb20e4e7ab0", func := "quartermaster/quartermasterlaw03.RsAny", spec := "rsAny", unfollowed := true, recurses := true, apart := false }
def RsAnySaid : Prop := rsAnyRow.holds Try.pinned (OpenSpec.ofChange rsAnySpec)

/-- ITS FALSE NEIGHBOUR: 'it returns false'. Refute it at one input. -/
def rsAnyWrong : ChangeSpec := { name := "rsAny", fn := fun _ => fun
  | [d1, d2, d3, d4] => { results := [.lit (.bool false)], args := [d1, d2, d3, d4] }
  | _ => none }
def RsAnyWrongFalsely : Prop := rsAnyRow.holds Try.pinned (OpenSpec.ofChange rsAnyWrong)

/-- 'quartermasterlaw03.RsSums': WHATEVER THE INPUT: true; the input reads as it did. -/
def rsSumsSpec : ChangeSpec := { name := "rsSums", fn := fun _ => fun
  | [d1, d2, d3] => { results := [.lit (.bool true)], args := [d1, d2, d3] }
  | _ => none }
def rsSumsRow : OpenClaim := { program := "ythblmkailhdhlaa", sum := "b7ceefb8d83c0cd40f8ab35e60cacfd8d4c175f1bb087c5b1501ffb20e4e7ab0", func := "quartermaster/quartermasterlaw03.RsSums", spec := "rsSums", unfollowed := true, recurses := true, apart := false }
def RsSumsSaid : Prop := rsSumsRow.holds Try.pinned (OpenSpec.ofChange rsSumsSpec)

/-- ITS FALSE NEIGHBOUR: 'it returns false'. Refute it at one input. -/
def rsSumsWrong : ChangeSpec := { name := "rsSums", fn := fun _ => fun
  | [d1, d2, d3] => { results := [.lit (.bool false)], args := [d1, d2, d3] }
  | _ => none }
def RsSumsWrongFalsely : Prop := rsSumsRow.holds Try.pinned (OpenSpec.ofChange rsSumsWrong)

/- THE SECOND FORM. 'bulk': how many values and letters a reading holds, each counted each time it is reached (what is shared counts as often as it is met; a slice's spare places count too). A statement '..UptoSaid' is the law's where the arguments, and the package variables that the reading takes, are together of bulk at most 1048576: NARROWER than '..Said'. Prove '..Said' where nothing that the law and all that it calls make is longer than what came in: it says more and counts as full. Else prove '..UptoSaid'. A law counts once. -/
mutual
def uptoBulk {H : Type} : DataW H → Nat
  | .lit (.string bytes) => bytes.length + 1
  | .lit _ => 1
  | .nil => 1
  | .ptr d => uptoBulk d + 1
  | .slice elems spare => uptoBulkAll elems + uptoBulkAll spare + 1
  | .agg parts => uptoBulkAll parts + 1
  | .iface _ d => uptoBulk d + 1
  | .map entries => uptoBulkEntries entries + 1
  | .held _ => 1
def uptoBulkAll {H : Type} : List (DataW H) → Nat
  | [] => 0
  | d :: r => uptoBulk d + uptoBulkAll r
def uptoBulkEntries {H : Type} : List (Lit × DataW H) → Nat
  | [] => 0
  | x :: r => uptoBulkEntry x + uptoBulkEntries r
def uptoBulkEntry {H : Type} : Lit × DataW H → Nat
  | (.string bytes, d) => bytes.length + uptoBulk d + 1
  | (_, d) => uptoBulk d + 1
 end
def uptoSmall : (H : Type) → List (DataW H) → Bool := fun _ ds => decide (uptoBulkAll ds ≤ 1048576)
def OpenSpec.upto (s : _root_.Go.ChangeSpec) : _root_.Go.OpenSpec := { _root_.Go.OpenSpec.ofChange s with cond := some uptoSmall }

/-- 'quartermasterlaw01.GfParts', WHERE WHAT IT READS IS OF BULK AT MOST 1048576: true; the input reads as it did. -/
def gfPartsUptoRow : OpenClaim := { program := "ythblmkailhdhlaa", sum := "b7ceefb8d83c0cd40f8ab35e60cacfd8d4c175f1bb087c5b1501ffb20e4e7ab0", func := "quartermaster/quartermasterlaw01.GfParts", spec := "gfParts", unfollowed := true, recurses := true, apart := false, narrowed := true }
def GfPartsUptoSaid : Prop := gfPartsUptoRow.holds Try.pinned (OpenSpec.upto gfPartsSpec)

/-- 'quartermasterlaw01.GfPowers', WHERE WHAT IT READS IS OF BULK AT MOST 1048576: true; the input reads as it did. -/
def gfPowersUptoRow : OpenClaim := { program := "ythblmkailhdhlaa", sum := "b7ceefb8d83c0cd40f8ab35e60cacfd8d4c175f1bb087c5b1501ffb20e4e7ab0", func := "quartermaster/quartermasterlaw01.GfPowers", spec := "gfPowers", unfollowed := true, recurses := true, apart := false, narrowed := true }
def GfPowersUptoSaid : Prop := gfPowersUptoRow.holds Try.pinned (OpenSpec.upto gfPowersSpec)

/-- 'quartermasterlaw01.GfBack', WHERE WHAT IT READS IS OF BULK AT MOST 1048576: true; the input reads as it did. -/
def gfBackUptoRow : OpenClaim := { program := "ythblmkailhdhlaa", sum := "b7ceefb8d83c0cd40f8ab35e60cacfd8d4c175f1bb087c5b1501ffb20e4e7ab0", func := "quartermaster/quartermasterlaw01.GfBack", spec := "gfBack", unfollowed := true, recurses := true, apart := false, narrowed := true }
def GfBackUptoSaid : Prop := gfBackUptoRow.holds Try.pinned (OpenSpec.upto gfBackSpec)

/-- 'quartermasterlaw01.GfLogs', WHERE WHAT IT READS IS OF BULK AT MOST 1048576: true; the input reads as it did. -/
def gfLogsUptoRow : OpenClaim := { program := "ythblmkailhdhlaa", sum := "b7ceefb8d83c0cd40f8ab35e60cacfd8d4c175f1bb087c5b1501ffb20e4e7ab0", func := "quartermaster/quartermasterlaw01.GfLogs", spec := "gfLogs", unfollowed := true, recurses := true, apart := false, narrowed := true }
def GfLogsUptoSaid : Prop := gfLogsUptoRow.holds Try.pinned (OpenSpec.upto gfLogsSpec)

/-- 'quartermasterlaw01.GfNone', WHERE WHAT IT READS IS OF BULK AT MOST 1048576: true; the input reads as it did. -/
def gfNoneUptoRow : OpenClaim := { program := "ythblmkailhdhlaa", sum := "b7ceefb8d83c0cd40f8ab35e60cacfd8d4c175f1bb087c5b1501ffb20e4e7ab0", func := "quartermaster/quartermasterlaw01.GfNone", spec := "gfNone", unfollowed := true, recurses := true, apart := false, narrowed := true }
def GfNoneUptoSaid : Prop := gfNoneUptoRow.holds Try.pinned (OpenSpec.upto gfNoneSpec)

/-- 'quartermasterlaw01.GfSums', WHERE WHAT IT READS IS OF BULK AT MOST 1048576: true; the input reads as it did. -/
def gfSumsUptoRow : OpenClaim := { program := "ythblmkailhdhlaa", sum := "b7ceefb8d83c0cd40f8ab35e60cacfd8d4c175f1bb087c5b1501ffb20e4e7ab0", func := "quartermaster/quartermasterlaw01.GfSums", spec := "gfSums", unfollowed := true, recurses := true, apart := false, narrowed := true }
def GfSumsUptoSaid : Prop := gfSumsUptoRow.holds Try.pinned (OpenSpec.upto gfSumsSpec)

/-- 'quartermasterlaw01.GfField', WHERE WHAT IT READS IS OF BULK AT MOST 1048576: true; the input reads as it did. -/
def gfFieldUptoRow : OpenClaim := { program := "ythblmkailhdhlaa", sum := "b7ceefb8d83c0cd40f8ab35e60cacfd8d4c175f1bb087c5b1501ffb20e4e7ab0", func := "quartermaster/quartermasterlaw01.GfField", spec := "gfField", unfollowed := true, recurses := true, apart := false, narrowed := true }
def GfFieldUptoSaid : Prop := gfFieldUptoRow.holds Try.pinned (OpenSpec.upto gfFieldSpec)

/-- 'quartermasterlaw02.MatMakes', WHERE WHAT IT READS IS OF BULK AT MOST 1048576: true; the input reads as it did. -/
def matMakesUptoRow : OpenClaim := { program := "ythblmkailhdhlaa", sum := "b7ceefb8d83c0cd40f8ab35e60cacfd8d4c175f1bb087c5b1501ffb20e4e7ab0", func := "quartermaster/quartermasterlaw02.MatMakes", spec := "matMakes", unfollowed := true, recurses := true, apart := false, narrowed := true }
def MatMakesUptoSaid : Prop := matMakesUptoRow.holds Try.pinned (OpenSpec.upto matMakesSpec)

/-- 'quartermasterlaw02.MatInverts', WHERE WHAT IT READS IS OF BULK AT MOST 1048576: true; the input reads as it did. -/
def matInvertsUptoRow : OpenClaim := { program := "ythblmkailhdhlaa", sum := "b7ceefb8d83c0cd40f8ab35e60cacfd8d4c175f1bb087c5b1501ffb20e4e7ab0", func := "quartermaster/quartermasterlaw02.MatInverts", spec := "matInverts", unfollowed := true, recurses := true, apart := false, narrowed := true }
def MatInvertsUptoSaid : Prop := matInvertsUptoRow.holds Try.pinned (OpenSpec.upto matInvertsSpec)

/-- 'quartermasterlaw02.MatProducts', WHERE WHAT IT READS IS OF BULK AT MOST 1048576: true; the input reads as it did. -/
def matProductsUptoRow : OpenClaim := { program := "ythblmkailhdhlaa", sum := "b7ceefb8d83c0cd40f8ab35e60cacfd8d4c175f1bb087c5b1501ffb20e4e7ab0", func := "quartermaster/quartermasterlaw02.MatProducts", spec := "matProducts", unfollowed := true, recurses := true, apart := false, narrowed := true }
def MatProductsUptoSaid : Prop := matProductsUptoRow.holds Try.pinned (OpenSpec.upto matProductsSpec)

/-- 'quartermasterlaw02.MatRows', WHERE WHAT IT READS IS OF BULK AT MOST 1048576: true; the input reads as it did. -/
def matRowsUptoRow : OpenClaim := { program := "ythblmkailhdhlaa", sum := "b7ceefb8d83c0cd40f8ab35e60cacfd8d4c175f1bb087c5b1501ffb20e4e7ab0", func := "quartermaster/quartermasterlaw02.MatRows", spec := "matRows", unfollowed := true, recurses := true, apart := false, narrowed := true }
def MatRowsUptoSaid : Prop := matRowsUptoRow.holds Try.pinned (OpenSpec.upto matRowsSpec)

/-- 'quartermasterlaw02.MatOrder', WHERE WHAT IT READS IS OF BULK AT MOST 1048576: true; the input reads as it did. -/
def matOrderUptoRow : OpenClaim := { program := "ythblmkailhdhlaa", sum := "b7ceefb8d83c0cd40f8ab35e60cacfd8d4c175f1bb087c5b1501ffb20e4e7ab0", func := "quartermaster/quartermasterlaw02.MatOrder", spec := "matOrder", unfollowed := true, recurses := true, apart := false, narrowed := true }
def MatOrderUptoSaid : Prop := matOrderUptoRow.holds Try.pinned (OpenSpec.upto matOrderSpec)

/-- 'quartermasterlaw02.MatOne', WHERE WHAT IT READS IS OF BULK AT MOST 1048576: true; the input reads as it did. -/
def matOneUptoRow : OpenClaim := { program := "ythblmkailhdhlaa", sum := "b7ceefb8d83c0cd40f8ab35e60cacfd8d4c175f1bb087c5b1501ffb20e4e7ab0", func := "quartermaster/quartermasterlaw02.MatOne", spec := "matOne", unfollowed := true, recurses := true, apart := false, narrowed := true }
def MatOneUptoSaid : Prop := matOneUptoRow.holds Try.pinned (OpenSpec.upto matOneSpec)

/-- 'quartermasterlaw03.RsEncodes', WHERE WHAT IT READS IS OF BULK AT MOST 1048576: true; the input reads as it did. -/
def rsEncodesUptoRow : OpenClaim := { program := "ythblmkailhdhlaa", sum := "b7ceefb8d83c0cd40f8ab35e60cacfd8d4c175f1bb087c5b1501ffb20e4e7ab0", func := "quartermaster/quartermasterlaw03.RsEncodes", spec := "rsEncodes", unfollowed := true, recurses := true, apart := false, narrowed := true }
def RsEncodesUptoSaid : Prop := rsEncodesUptoRow.holds Try.pinned (OpenSpec.upto rsEncodesSpec)

/-- 'quartermasterlaw03.RsDecodes', WHERE WHAT IT READS IS OF BULK AT MOST 1048576: true; the input reads as it did. -/
def rsDecodesUptoRow : OpenClaim := { program := "ythblmkailhdhlaa", sum := "b7ceefb8d83c0cd40f8ab35e60cacfd8d4c175f1bb087c5b1501ffb20e4e7ab0", func := "quartermaster/quartermasterlaw03.RsDecodes", spec := "rsDecodes", unfollowed := true, recurses := true, apart := false, narrowed := true }
def RsDecodesUptoSaid : Prop := rsDecodesUptoRow.holds Try.pinned (OpenSpec.upto rsDecodesSpec)

/-- 'quartermasterlaw03.RsBack', WHERE WHAT IT READS IS OF BULK AT MOST 1048576: true; the input reads as it did. -/
def rsBackUptoRow : OpenClaim := { program := "ythblmkailhdhlaa", sum := "b7ceefb8d83c0cd40f8ab35e60cacfd8d4c175f1bb087c5b1501ffb20e4e7ab0", func := "quartermaster/quartermasterlaw03.RsBack", spec := "rsBack", unfollowed := true, recurses := true, apart := false, narrowed := true }
def RsBackUptoSaid : Prop := rsBackUptoRow.holds Try.pinned (OpenSpec.upto rsBackSpec)

/-- 'quartermasterlaw03.RsParts', WHERE WHAT IT READS IS OF BULK AT MOST 1048576: true; the input reads as it did. -/
def rsPartsUptoRow : OpenClaim := { program := "ythblmkailhdhlaa", sum := "b7ceefb8d83c0cd40f8ab35e60cacfd8d4c175f1bb087c5b1501ffb20e4e7ab0", func := "quartermaster/quartermasterlaw03.RsParts", spec := "rsParts", unfollowed := true, recurses := true, apart := false, narrowed := true }
def RsPartsUptoSaid : Prop := rsPartsUptoRow.holds Try.pinned (OpenSpec.upto rsPartsSpec)

/-- 'quartermasterlaw03.RsOwn', WHERE WHAT IT READS IS OF BULK AT MOST 1048576: true; the input reads as it did. -/
def rsOwnUptoRow : OpenClaim := { program := "ythblmkailhdhlaa", sum := "b7ceefb8d83c0cd40f8ab35e60cacfd8d4c175f1bb087c5b1501ffb20e4e7ab0", func := "quartermaster/quartermasterlaw03.RsOwn", spec := "rsOwn", unfollowed := true, recurses := true, apart := false, narrowed := true }
def RsOwnUptoSaid : Prop := rsOwnUptoRow.holds Try.pinned (OpenSpec.upto rsOwnSpec)

/-- 'quartermasterlaw03.RsAny', WHERE WHAT IT READS IS OF BULK AT MOST 1048576: true; the input reads as it did. -/
def rsAnyUptoRow : OpenClaim := { program := "ythblmkailhdhlaa", sum := "b7ceefb8d83c0cd40f8ab35e60cacfd8d4c175f1bb087c5b1501ffb20e4e7ab0", func := "quartermaster/quartermasterlaw03.RsAny", spec := "rsAny", unfollowed := true, recurses := true, apart := false, narrowed := true }
def RsAnyUptoSaid : Prop := rsAnyUptoRow.holds Try.pinned (OpenSpec.upto rsAnySpec)

/-- 'quartermasterlaw03.RsSums', WHERE WHAT IT READS IS OF BULK AT MOST 1048576: true; the input reads as it did. -/
def rsSumsUptoRow : OpenClaim := { program := "ythblmkailhdhlaa", sum := "b7ceefb8d83c0cd40f8ab35e60cacfd8d4c175f1bb087c5b1501ffb20e4e7ab0", func := "quartermaster/quartermasterlaw03.RsSums", spec := "rsSums", unfollowed := true, recurses := true, apart := false, narrowed := true }
def RsSumsUptoSaid : Prop := rsSumsUptoRow.holds Try.pinned (OpenSpec.upto rsSumsSpec)

end Rows
end Go.Proofs.Ythblmkailhdhlaa
