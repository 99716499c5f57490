/-
  No cell of these rows narrows 'for every input' (looked for: loops, veiled, ifaces, maps, wideKeys, modest, calm, conditions, laid).
  DERIVED. THE GIVEN ROWS OF THIS SEAT. 21 by the template 'for every input the law returns true; each argument reads behind the call as it read before'; 0 by the template 'total and deterministic' (their statements: YtapedmpbgeoieaaGreatTotals.lean).
  GIVEN WITH THE SEED: the statements are not yours to turn. If you find one false, say at which input.
  Laid BY PROGRAM, IN A SANDBOX (cutbox-rows.mjs): the forced cells as the released guide's own fill.sh prints them over the translation cf4c002f4992e892… (all of the seat's roots in one cut). By AI agents, Wed Nov 11 2026. No macro, syntax, notation, axiom, sorry.
-/
import Derived.Test.YtapedmpbgeoieaaGreatChecked
import GoSem.Claim
import GoSem.ClaimJoined
import GoSem.ClaimMapViews
import Derived.JoinedTies
import Derived.KernelRfl
namespace Go.Proofs.YtapedmpbgeoieaaGreat
/- THE CELL 'sum', in the pinned program and in every row, IS THE sha256 OF THE DUMP (.gsa) THAT YtapedmpbgeoieaaGreatProg.lean LOADS. Nothing in Lean hashes anything: it is a label: what it is worth is what the hold of that sum in a sandbox is worth. -/
noncomputable def Tryz.pinned : Pinned := { name := "ytapedmpbgeoieaagreat", sum := "cf4c002f4992e892b54120c7b4d4dd59240881abc09d129237a6780a64c358a6", checked := Tryz.checked }
namespace Rows
def none {H : Type} : Left H := { results := [], args := [] }

/-- 'hopmeshlaw26.TransactionReceives': WHATEVER THE INPUT: true; the input reads as it did. -/
def transactionReceivesSpec : ChangeSpec := { name := "transactionReceives", fn := fun _ => fun
  | [d1, d2, d3, d4] => { results := [.lit (.bool true)], args := [d1, d2, d3, d4] }
  | _ => none }
def transactionReceivesRow : OpenClaim := { program := "ytapedmpbgeoieaagreat", sum := "cf4c002f4992e892b54120c7b4d4dd59240881abc09d129237a6780a64c358a6", func := "hopmesh/hopmeshlaw26.TransactionReceives", spec := "transactionReceives", inPlace := ["slices.overlaps[hopmesh/api.TableCell]"], unfollowed := true, recurses := true, apart := false }
def TransactionReceivesSaid : Prop := transactionReceivesRow.holds Tryz.pinned (OpenSpec.ofChange transactionReceivesSpec)

/-- ITS FALSE NEIGHBOUR: 'it returns false'. Refute it at one input. -/
def transactionReceivesWrong : ChangeSpec := { name := "transactionReceives", fn := fun _ => fun
  | [d1, d2, d3, d4] => { results := [.lit (.bool false)], args := [d1, d2, d3, d4] }
  | _ => none }
def TransactionReceivesWrongFalsely : Prop := transactionReceivesRow.holds Tryz.pinned (OpenSpec.ofChange transactionReceivesWrong)

/-- 'hopmeshlaw26.TransactionFinishes': WHATEVER THE INPUT: true; the input reads as it did. -/
def transactionFinishesSpec : ChangeSpec := { name := "transactionFinishes", fn := fun _ => fun
  | [d1, d2] => { results := [.lit (.bool true)], args := [d1, d2] }
  | _ => none }
def transactionFinishesRow : OpenClaim := { program := "ytapedmpbgeoieaagreat", sum := "cf4c002f4992e892b54120c7b4d4dd59240881abc09d129237a6780a64c358a6", func := "hopmesh/hopmeshlaw26.TransactionFinishes", spec := "transactionFinishes", inPlace := ["slices.overlaps[hopmesh/api.TableCell]"], unfollowed := true, recurses := true, apart := false }
def TransactionFinishesSaid : Prop := transactionFinishesRow.holds Tryz.pinned (OpenSpec.ofChange transactionFinishesSpec)

/-- ITS FALSE NEIGHBOUR: 'it returns false'. Refute it at one input. -/
def transactionFinishesWrong : ChangeSpec := { name := "transactionFinishes", fn := fun _ => fun
  | [d1, d2] => { results := [.lit (.bool false)], args := [d1, d2] }
  | _ => none }
def TransactionFinishesWrongFalsely : Prop := transactionFinishesRow.holds Tryz.pinned (OpenSpec.ofChange transactionFinishesWrong)

/-- 'hopmeshlaw26.TransactionMirrors': WHATEVER THE INPUT: true; the input reads as it did. -/
def transactionMirrorsSpec : ChangeSpec := { name := "transactionMirrors", fn := fun _ => fun
  | [d1, d2, d3, d4, d5, d6, d7] => { results := [.lit (.bool true)], args := [d1, d2, d3, d4, d5, d6, d7] }
  | _ => none }
def transactionMirrorsRow : OpenClaim := { program := "ytapedmpbgeoieaagreat", sum := "cf4c002f4992e892b54120c7b4d4dd59240881abc09d129237a6780a64c358a6", func := "hopmesh/hopmeshlaw26.TransactionMirrors", spec := "transactionMirrors", inPlace := ["slices.overlaps[hopmesh/api.TableCell]"], unfollowed := true, recurses := true, apart := false }
def TransactionMirrorsSaid : Prop := transactionMirrorsRow.holds Tryz.pinned (OpenSpec.ofChange transactionMirrorsSpec)

/-- ITS FALSE NEIGHBOUR: 'it returns false'. Refute it at one input. -/
def transactionMirrorsWrong : ChangeSpec := { name := "transactionMirrors", fn := fun _ => fun
  | [d1, d2, d3, d4, d5, d6, d7] => { results := [.lit (.bool false)], args := [d1, d2, d3, d4, d5, d6, d7] }
  | _ => none }
def TransactionMirrorsWrongFalsely : Prop := transactionMirrorsRow.holds Tryz.pinned (OpenSpec.ofChange transactionMirrorsWrong)

/-- 'hopmeshlaw26.TransactionDoubled': WHATEVER THE INPUT: true; the input reads as it did. -/
def transactionDoubledSpec : ChangeSpec := { name := "transactionDoubled", fn := fun _ => fun
  | [d1, d2, d3, d4] => { results := [.lit (.bool true)], args := [d1, d2, d3, d4] }
  | _ => none }
def transactionDoubledRow : OpenClaim := { program := "ytapedmpbgeoieaagreat", sum := "cf4c002f4992e892b54120c7b4d4dd59240881abc09d129237a6780a64c358a6", func := "hopmesh/hopmeshlaw26.TransactionDoubled", spec := "transactionDoubled", inPlace := ["slices.overlaps[hopmesh/api.TableCell]"], unfollowed := true, recurses := true, apart := false }
def TransactionDoubledSaid : Prop := transactionDoubledRow.holds Tryz.pinned (OpenSpec.ofChange transactionDoubledSpec)

/-- ITS FALSE NEIGHBOUR: 'it returns false'. Refute it at one input. -/
def transactionDoubledWrong : ChangeSpec := { name := "transactionDoubled", fn := fun _ => fun
  | [d1, d2, d3, d4] => { results := [.lit (.bool false)], args := [d1, d2, d3, d4] }
  | _ => none }
def TransactionDoubledWrongFalsely : Prop := transactionDoubledRow.holds Tryz.pinned (OpenSpec.ofChange transactionDoubledWrong)

/-- 'hopmeshlaw26.TransactionNumbers': WHATEVER THE INPUT: true; the input reads as it did. -/
def transactionNumbersSpec : ChangeSpec := { name := "transactionNumbers", fn := fun _ => fun
  | [d1, d2, d3, d4] => { results := [.lit (.bool true)], args := [d1, d2, d3, d4] }
  | _ => none }
def transactionNumbersRow : OpenClaim := { program := "ytapedmpbgeoieaagreat", sum := "cf4c002f4992e892b54120c7b4d4dd59240881abc09d129237a6780a64c358a6", func := "hopmesh/hopmeshlaw26.TransactionNumbers", spec := "transactionNumbers", inPlace := ["slices.overlaps[hopmesh/api.TableCell]"], unfollowed := true, recurses := true, apart := false }
def TransactionNumbersSaid : Prop := transactionNumbersRow.holds Tryz.pinned (OpenSpec.ofChange transactionNumbersSpec)

/-- ITS FALSE NEIGHBOUR: 'it returns false'. Refute it at one input. -/
def transactionNumbersWrong : ChangeSpec := { name := "transactionNumbers", fn := fun _ => fun
  | [d1, d2, d3, d4] => { results := [.lit (.bool false)], args := [d1, d2, d3, d4] }
  | _ => none }
def TransactionNumbersWrongFalsely : Prop := transactionNumbersRow.holds Tryz.pinned (OpenSpec.ofChange transactionNumbersWrong)

/-- 'hopmeshtop.TopAgreement': WHATEVER THE INPUT: true; the input reads as it did. -/
def topAgreementSpec : ChangeSpec := { name := "topAgreement", fn := fun _ => fun
  | [d1, d2, d3, d4] => { results := [.lit (.bool true)], args := [d1, d2, d3, d4] }
  | _ => none }
def topAgreementRow : OpenClaim := { program := "ytapedmpbgeoieaagreat", sum := "cf4c002f4992e892b54120c7b4d4dd59240881abc09d129237a6780a64c358a6", func := "hopmesh/hopmeshtop.TopAgreement", spec := "topAgreement", inPlace := ["slices.overlaps[hopmesh/api.TableCell]"], unfollowed := true, recurses := true, apart := false }
def TopAgreementSaid : Prop := topAgreementRow.holds Tryz.pinned (OpenSpec.ofChange topAgreementSpec)

/-- ITS FALSE NEIGHBOUR: 'it returns false'. Refute it at one input. -/
def topAgreementWrong : ChangeSpec := { name := "topAgreement", fn := fun _ => fun
  | [d1, d2, d3, d4] => { results := [.lit (.bool false)], args := [d1, d2, d3, d4] }
  | _ => none }
def TopAgreementWrongFalsely : Prop := topAgreementRow.holds Tryz.pinned (OpenSpec.ofChange topAgreementWrong)

/-- 'hopmeshlaw26.TransactionOrder': WHATEVER THE INPUT: true; the input reads as it did. -/
def transactionOrderSpec : ChangeSpec := { name := "transactionOrder", fn := fun _ => fun
  | [d1, d2, d3, d4, d5, d6, d7] => { results := [.lit (.bool true)], args := [d1, d2, d3, d4, d5, d6, d7] }
  | _ => none }
def transactionOrderRow : OpenClaim := { program := "ytapedmpbgeoieaagreat", sum := "cf4c002f4992e892b54120c7b4d4dd59240881abc09d129237a6780a64c358a6", func := "hopmesh/hopmeshlaw26.TransactionOrder", spec := "transactionOrder", inPlace := ["slices.overlaps[hopmesh/api.TableCell]"], unfollowed := true, recurses := true, apart := false }
def TransactionOrderSaid : Prop := transactionOrderRow.holds Tryz.pinned (OpenSpec.ofChange transactionOrderSpec)

/-- ITS FALSE NEIGHBOUR: 'it returns false'. Refute it at one input. -/
def transactionOrderWrong : ChangeSpec := { name := "transactionOrder", fn := fun _ => fun
  | [d1, d2, d3, d4, d5, d6, d7] => { results := [.lit (.bool false)], args := [d1, d2, d3, d4, d5, d6, d7] }
  | _ => none }
def TransactionOrderWrongFalsely : Prop := transactionOrderRow.holds Tryz.pinned (OpenSpec.ofChange transactionOrderWrong)

/-- 'hopmeshlaw26.TransactionEnds': WHATEVER THE INPUT: true; the input reads as it did. -/
def transactionEndsSpec : ChangeSpec := { name := "transactionEnds", fn := fun _ => fun
  | [d1, d2, d3, d4, d5] => { results := [.lit (.bool true)], args := [d1, d2, d3, d4, d5] }
  | _ => none }
def transactionEndsRow : OpenClaim := { program := "ytapedmpbgeoieaagreat", sum := "cf4c002f4992e892b54120c7b4d4dd59240881abc09d129237a6780a64c358a6", func := "hopmesh/hopmeshlaw26.TransactionEnds", spec := "transactionEnds", inPlace := ["slices.overlaps[hopmesh/api.TableCell]"], unfollowed := true, recurses := true, apart := false }
def TransactionEndsSaid : Prop := transactionEndsRow.holds Tryz.pinned (OpenSpec.ofChange transactionEndsSpec)

/-- ITS FALSE NEIGHBOUR: 'it returns false'. Refute it at one input. -/
def transactionEndsWrong : ChangeSpec := { name := "transactionEnds", fn := fun _ => fun
  | [d1, d2, d3, d4, d5] => { results := [.lit (.bool false)], args := [d1, d2, d3, d4, d5] }
  | _ => none }
def TransactionEndsWrongFalsely : Prop := transactionEndsRow.holds Tryz.pinned (OpenSpec.ofChange transactionEndsWrong)

/-- 'hopmeshlaw26.TransactionAsks': WHATEVER THE INPUT: true; the input reads as it did. -/
def transactionAsksSpec : ChangeSpec := { name := "transactionAsks", fn := fun _ => fun
  | [d1, d2, d3, d4, d5, d6, d7] => { results := [.lit (.bool true)], args := [d1, d2, d3, d4, d5, d6, d7] }
  | _ => none }
def transactionAsksRow : OpenClaim := { program := "ytapedmpbgeoieaagreat", sum := "cf4c002f4992e892b54120c7b4d4dd59240881abc09d129237a6780a64c358a6", func := "hopmesh/hopmeshlaw26.TransactionAsks", spec := "transactionAsks", inPlace := ["slices.overlaps[hopmesh/api.TableCell]"], unfollowed := true, recurses := true, apart := false }
def TransactionAsksSaid : Prop := transactionAsksRow.holds Tryz.pinned (OpenSpec.ofChange transactionAsksSpec)

/-- ITS FALSE NEIGHBOUR: 'it returns false'. Refute it at one input. -/
def transactionAsksWrong : ChangeSpec := { name := "transactionAsks", fn := fun _ => fun
  | [d1, d2, d3, d4, d5, d6, d7] => { results := [.lit (.bool false)], args := [d1, d2, d3, d4, d5, d6, d7] }
  | _ => none }
def TransactionAsksWrongFalsely : Prop := transactionAsksRow.holds Tryz.pinned (OpenSpec.ofChange transactionAsksWrong)

/-- 'hopmeshlaw27.ConsistencyPairs': WHATEVER THE INPUT: true; the input reads as it did. -/
def consistencyPairsSpec : ChangeSpec := { name := "consistencyPairs", fn := fun _ => fun
  | [d1, d2] => { results := [.lit (.bool true)], args := [d1, d2] }
  | _ => none }
def consistencyPairsRow : OpenClaim := { program := "ytapedmpbgeoieaagreat", sum := "cf4c002f4992e892b54120c7b4d4dd59240881abc09d129237a6780a64c358a6", func := "hopmesh/hopmeshlaw27.ConsistencyPairs", spec := "consistencyPairs", inPlace := ["slices.overlaps[hopmesh/api.TableCell]"], unfollowed := true, recurses := true, apart := false }
def ConsistencyPairsSaid : Prop := consistencyPairsRow.holds Tryz.pinned (OpenSpec.ofChange consistencyPairsSpec)

/-- ITS FALSE NEIGHBOUR: 'it returns false'. Refute it at one input. -/
def consistencyPairsWrong : ChangeSpec := { name := "consistencyPairs", fn := fun _ => fun
  | [d1, d2] => { results := [.lit (.bool false)], args := [d1, d2] }
  | _ => none }
def ConsistencyPairsWrongFalsely : Prop := consistencyPairsRow.holds Tryz.pinned (OpenSpec.ofChange consistencyPairsWrong)

/-- 'hopmeshlaw27.ConsistencyExchanges': WHATEVER THE INPUT: true; the input reads as it did. -/
def consistencyExchangesSpec : ChangeSpec := { name := "consistencyExchanges", fn := fun _ => fun
  | [d1, d2, d3, d4] => { results := [.lit (.bool true)], args := [d1, d2, d3, d4] }
  | _ => none }
def consistencyExchangesRow : OpenClaim := { program := "ytapedmpbgeoieaagreat", sum := "cf4c002f4992e892b54120c7b4d4dd59240881abc09d129237a6780a64c358a6", func := "hopmesh/hopmeshlaw27.ConsistencyExchanges", spec := "consistencyExchanges", inPlace := ["slices.overlaps[hopmesh/api.TableCell]"], unfollowed := true, recurses := true, apart := false }
def ConsistencyExchangesSaid : Prop := consistencyExchangesRow.holds Tryz.pinned (OpenSpec.ofChange consistencyExchangesSpec)

/-- ITS FALSE NEIGHBOUR: 'it returns false'. Refute it at one input. -/
def consistencyExchangesWrong : ChangeSpec := { name := "consistencyExchanges", fn := fun _ => fun
  | [d1, d2, d3, d4] => { results := [.lit (.bool false)], args := [d1, d2, d3, d4] }
  | _ => none }
def ConsistencyExchangesWrongFalsely : Prop := consistencyExchangesRow.holds Tryz.pinned (OpenSpec.ofChange consistencyExchangesWrong)

/-- 'hopmeshlaw27.ConsistencyPlays': WHATEVER THE INPUT: true; the input reads as it did. -/
def consistencyPlaysSpec : ChangeSpec := { name := "consistencyPlays", fn := fun _ => fun
  | [d1, d2] => { results := [.lit (.bool true)], args := [d1, d2] }
  | _ => none }
def consistencyPlaysRow : OpenClaim := { program := "ytapedmpbgeoieaagreat", sum := "cf4c002f4992e892b54120c7b4d4dd59240881abc09d129237a6780a64c358a6", func := "hopmesh/hopmeshlaw27.ConsistencyPlays", spec := "consistencyPlays", inPlace := ["slices.overlaps[hopmesh/api.TableCell]"], unfollowed := true, recurses := true, apart := false }
def ConsistencyPlaysSaid : Prop := consistencyPlaysRow.holds Tryz.pinned (OpenSpec.ofChange consistencyPlaysSpec)

/-- ITS FALSE NEIGHBOUR: 'it returns false'. Refute it at one input. -/
def consistencyPlaysWrong : ChangeSpec := { name := "consistencyPlays", fn := fun _ => fun
  | [d1, d2] => { results := [.lit (.bool false)], args := [d1, d2] }
  | _ => none }
def ConsistencyPlaysWrongFalsely : Prop := consistencyPlaysRow.holds Tryz.pinned (OpenSpec.ofChange consistencyPlaysWrong)

/-- 'hopmeshlaw27.ConsistencyDetects': WHATEVER THE INPUT: true; the input reads as it did. -/
def consistencyDetectsSpec : ChangeSpec := { name := "consistencyDetects", fn := fun _ => fun
  | [d1, d2, d3, d4] => { results := [.lit (.bool true)], args := [d1, d2, d3, d4] }
  | _ => none }
def consistencyDetectsRow : OpenClaim := { program := "ytapedmpbgeoieaagreat", sum := "cf4c002f4992e892b54120c7b4d4dd59240881abc09d129237a6780a64c358a6", func := "hopmesh/hopmeshlaw27.ConsistencyDetects", spec := "consistencyDetects", inPlace := ["slices.overlaps[hopmesh/api.TableCell]"], unfollowed := true, recurses := true, apart := false }
def ConsistencyDetectsSaid : Prop := consistencyDetectsRow.holds Tryz.pinned (OpenSpec.ofChange consistencyDetectsSpec)

/-- ITS FALSE NEIGHBOUR: 'it returns false'. Refute it at one input. -/
def consistencyDetectsWrong : ChangeSpec := { name := "consistencyDetects", fn := fun _ => fun
  | [d1, d2, d3, d4] => { results := [.lit (.bool false)], args := [d1, d2, d3, d4] }
  | _ => none }
def ConsistencyDetectsWrongFalsely : Prop := consistencyDetectsRow.holds Tryz.pinned (OpenSpec.ofChange consistencyDetectsWrong)

/-- 'hopmeshlaw27.ConsistencyLosses': WHATEVER THE INPUT: true; the input reads as it did. -/
def consistencyLossesSpec : ChangeSpec := { name := "consistencyLosses", fn := fun _ => fun
  | [d1, d2, d3, d4] => { results := [.lit (.bool true)], args := [d1, d2, d3, d4] }
  | _ => none }
def consistencyLossesRow : OpenClaim := { program := "ytapedmpbgeoieaagreat", sum := "cf4c002f4992e892b54120c7b4d4dd59240881abc09d129237a6780a64c358a6", func := "hopmesh/hopmeshlaw27.ConsistencyLosses", spec := "consistencyLosses", inPlace := ["slices.overlaps[hopmesh/api.TableCell]"], unfollowed := true, recurses := true, apart := false }
def ConsistencyLossesSaid : Prop := consistencyLossesRow.holds Tryz.pinned (OpenSpec.ofChange consistencyLossesSpec)

/-- ITS FALSE NEIGHBOUR: 'it returns false'. Refute it at one input. -/
def consistencyLossesWrong : ChangeSpec := { name := "consistencyLosses", fn := fun _ => fun
  | [d1, d2, d3, d4] => { results := [.lit (.bool false)], args := [d1, d2, d3, d4] }
  | _ => none }
def ConsistencyLossesWrongFalsely : Prop := consistencyLossesRow.holds Tryz.pinned (OpenSpec.ofChange consistencyLossesWrong)

/-- 'hopmeshlaw27.ConsistencyClears': WHATEVER THE INPUT: true; the input reads as it did. -/
def consistencyClearsSpec : ChangeSpec := { name := "consistencyClears", fn := fun _ => fun
  | [d1, d2] => { results := [.lit (.bool true)], args := [d1, d2] }
  | _ => none }
def consistencyClearsRow : OpenClaim := { program := "ytapedmpbgeoieaagreat", sum := "cf4c002f4992e892b54120c7b4d4dd59240881abc09d129237a6780a64c358a6", func := "hopmesh/hopmeshlaw27.ConsistencyClears", spec := "consistencyClears", inPlace := ["slices.overlaps[hopmesh/api.TableCell]"], unfollowed := true, recurses := true, apart := false }
def ConsistencyClearsSaid : Prop := consistencyClearsRow.holds Tryz.pinned (OpenSpec.ofChange consistencyClearsSpec)

/-- ITS FALSE NEIGHBOUR: 'it returns false'. Refute it at one input. -/
def consistencyClearsWrong : ChangeSpec := { name := "consistencyClears", fn := fun _ => fun
  | [d1, d2] => { results := [.lit (.bool false)], args := [d1, d2] }
  | _ => none }
def ConsistencyClearsWrongFalsely : Prop := consistencyClearsRow.holds Tryz.pinned (OpenSpec.ofChange consistencyClearsWrong)

/-- 'hopmeshlaw27.ConsistencyNumbers': WHATEVER THE INPUT: true; the input reads as it did. -/
def consistencyNumbersSpec : ChangeSpec := { name := "consistencyNumbers", fn := fun _ => fun
  | [d1, d2, d3, d4] => { results := [.lit (.bool true)], args := [d1, d2, d3, d4] }
  | _ => none }
def consistencyNumbersRow : OpenClaim := { program := "ytapedmpbgeoieaagreat", sum := "cf4c002f4992e892b54120c7b4d4dd59240881abc09d129237a6780a64c358a6", func := "hopmesh/hopmeshlaw27.ConsistencyNumbers", spec := "consistencyNumbers", inPlace := ["slices.overlaps[hopmesh/api.TableCell]"], unfollowed := true, recurses := true, apart := false }
def ConsistencyNumbersSaid : Prop := consistencyNumbersRow.holds Tryz.pinned (OpenSpec.ofChange consistencyNumbersSpec)

/-- ITS FALSE NEIGHBOUR: 'it returns false'. Refute it at one input. -/
def consistencyNumbersWrong : ChangeSpec := { name := "consistencyNumbers", fn := fun _ => fun
  | [d1, d2, d3, d4] => { results := [.lit (.bool false)], args := [d1, d2, d3, d4] }
  | _ => none }
def ConsistencyNumbersWrongFalsely : Prop := consistencyNumbersRow.holds Tryz.pinned (OpenSpec.ofChange consistencyNumbersWrong)

/-- 'hopmeshlaw28.RepairCouples': WHATEVER THE INPUT: true; the input reads as it did. -/
def repairCouplesSpec : ChangeSpec := { name := "repairCouples", fn := fun _ => fun
  | [d1, d2, d3, d4] => { results := [.lit (.bool true)], args := [d1, d2, d3, d4] }
  | _ => none }
def repairCouplesRow : OpenClaim := { program := "ytapedmpbgeoieaagreat", sum := "cf4c002f4992e892b54120c7b4d4dd59240881abc09d129237a6780a64c358a6", func := "hopmesh/hopmeshlaw28.RepairCouples", spec := "repairCouples", inPlace := ["slices.overlaps[hopmesh/api.TableCell]"], unfollowed := true, recurses := true, apart := false }
def RepairCouplesSaid : Prop := repairCouplesRow.holds Tryz.pinned (OpenSpec.ofChange repairCouplesSpec)

/-- ITS FALSE NEIGHBOUR: 'it returns false'. Refute it at one input. -/
def repairCouplesWrong : ChangeSpec := { name := "repairCouples", fn := fun _ => fun
  | [d1, d2, d3, d4] => { results := [.lit (.bool false)], args := [d1, d2, d3, d4] }
  | _ => none }
def RepairCouplesWrongFalsely : Prop := repairCouplesRow.holds Tryz.pinned (OpenSpec.ofChange repairCouplesWrong)

/-- 'hopmeshlaw28.RepairSteps': WHATEVER THE INPUT: true; the input reads as it did. -/
def repairStepsSpec : ChangeSpec := { name := "repairSteps", fn := fun _ => fun
  | [d1, d2] => { results := [.lit (.bool true)], args := [d1, d2] }
  | _ => none }
def repairStepsRow : OpenClaim := { program := "ytapedmpbgeoieaagreat", sum := "cf4c002f4992e892b54120c7b4d4dd59240881abc09d129237a6780a64c358a6", func := "hopmesh/hopmeshlaw28.RepairSteps", spec := "repairSteps", inPlace := ["slices.overlaps[hopmesh/api.TableCell]"], unfollowed := true, recurses := true, apart := false }
def RepairStepsSaid : Prop := repairStepsRow.holds Tryz.pinned (OpenSpec.ofChange repairStepsSpec)

/-- ITS FALSE NEIGHBOUR: 'it returns false'. Refute it at one input. -/
def repairStepsWrong : ChangeSpec := { name := "repairSteps", fn := fun _ => fun
  | [d1, d2] => { results := [.lit (.bool false)], args := [d1, d2] }
  | _ => none }
def RepairStepsWrongFalsely : Prop := repairStepsRow.holds Tryz.pinned (OpenSpec.ofChange repairStepsWrong)

/-- 'hopmeshlaw28.RepairQuiet': WHATEVER THE INPUT: true; the input reads as it did. -/
def repairQuietSpec : ChangeSpec := { name := "repairQuiet", fn := fun _ => fun
  | [d1, d2] => { results := [.lit (.bool true)], args := [d1, d2] }
  | _ => none }
def repairQuietRow : OpenClaim := { program := "ytapedmpbgeoieaagreat", sum := "cf4c002f4992e892b54120c7b4d4dd59240881abc09d129237a6780a64c358a6", func := "hopmesh/hopmeshlaw28.RepairQuiet", spec := "repairQuiet", inPlace := ["slices.overlaps[hopmesh/api.TableCell]"], unfollowed := true, recurses := true, apart := false }
def RepairQuietSaid : Prop := repairQuietRow.holds Tryz.pinned (OpenSpec.ofChange repairQuietSpec)

/-- ITS FALSE NEIGHBOUR: 'it returns false'. Refute it at one input. -/
def repairQuietWrong : ChangeSpec := { name := "repairQuiet", fn := fun _ => fun
  | [d1, d2] => { results := [.lit (.bool false)], args := [d1, d2] }
  | _ => none }
def RepairQuietWrongFalsely : Prop := repairQuietRow.holds Tryz.pinned (OpenSpec.ofChange repairQuietWrong)

/-- 'hopmeshlaw28.RepairRuns': WHATEVER THE INPUT: true; the input reads as it did. -/
def repairRunsSpec : ChangeSpec := { name := "repairRuns", fn := fun _ => fun
  | [d1, d2] => { results := [.lit (.bool true)], args := [d1, d2] }
  | _ => none }
def repairRunsRow : OpenClaim := { program := "ytapedmpbgeoieaagreat", sum := "cf4c002f4992e892b54120c7b4d4dd59240881abc09d129237a6780a64c358a6", func := "hopmesh/hopmeshlaw28.RepairRuns", spec := "repairRuns", inPlace := ["slices.overlaps[hopmesh/api.TableCell]"], unfollowed := true, recurses := true, apart := false }
def RepairRunsSaid : Prop := repairRunsRow.holds Tryz.pinned (OpenSpec.ofChange repairRunsSpec)

/-- ITS FALSE NEIGHBOUR: 'it returns false'. Refute it at one input. -/
def repairRunsWrong : ChangeSpec := { name := "repairRuns", fn := fun _ => fun
  | [d1, d2] => { results := [.lit (.bool false)], args := [d1, d2] }
  | _ => none }
def RepairRunsWrongFalsely : Prop := repairRunsRow.holds Tryz.pinned (OpenSpec.ofChange repairRunsWrong)

/-- 'hopmeshlaw28.RepairNothingLost': WHATEVER THE INPUT: true; the input reads as it did. -/
def repairNothingLostSpec : ChangeSpec := { name := "repairNothingLost", fn := fun _ => fun
  | [d1, d2, d3, d4, d5] => { results := [.lit (.bool true)], args := [d1, d2, d3, d4, d5] }
  | _ => none }
def repairNothingLostRow : OpenClaim := { program := "ytapedmpbgeoieaagreat", sum := "cf4c002f4992e892b54120c7b4d4dd59240881abc09d129237a6780a64c358a6", func := "hopmesh/hopmeshlaw28.RepairNothingLost", spec := "repairNothingLost", inPlace := ["slices.overlaps[hopmesh/api.TableCell]"], unfollowed := true, recurses := true, apart := false }
def RepairNothingLostSaid : Prop := repairNothingLostRow.holds Tryz.pinned (OpenSpec.ofChange repairNothingLostSpec)

/-- ITS FALSE NEIGHBOUR: 'it returns false'. Refute it at one input. -/
def repairNothingLostWrong : ChangeSpec := { name := "repairNothingLost", fn := fun _ => fun
  | [d1, d2, d3, d4, d5] => { results := [.lit (.bool false)], args := [d1, d2, d3, d4, d5] }
  | _ => none }
def RepairNothingLostWrongFalsely : Prop := repairNothingLostRow.holds Tryz.pinned (OpenSpec.ofChange repairNothingLostWrong)

/- THE SECOND FORM. 'bulk': how many values and letters a reading holds, each counted each time it is reached (what is shared counts as often as it is met; a slice's spare places count too). A statement '..UptoSaid' is the law's where the arguments, and the package variables that the reading takes, are together of bulk at most 1048576: NARROWER than '..Said'. Prove '..Said' where nothing that the law and all that it calls make is longer than what came in: it says more and counts as full. Else prove '..UptoSaid'. A law counts once. -/
mutual
def uptoBulk {H : Type} : DataW H → Nat
  | .lit (.string bytes) => bytes.length + 1
  | .lit _ => 1
  | .nil => 1
  | .ptr d => uptoBulk d + 1
  | .slice elems spare => uptoBulkAll elems + uptoBulkAll spare + 1
  | .agg parts => uptoBulkAll parts + 1
  | .iface _ d => uptoBulk d + 1
  | .map entries => uptoBulkEntries entries + 1
  | .held _ => 1
def uptoBulkAll {H : Type} : List (DataW H) → Nat
  | [] => 0
  | d :: r => uptoBulk d + uptoBulkAll r
def uptoBulkEntries {H : Type} : List (Lit × DataW H) → Nat
  | [] => 0
  | x :: r => uptoBulkEntry x + uptoBulkEntries r
def uptoBulkEntry {H : Type} : Lit × DataW H → Nat
  | (.string bytes, d) => bytes.length + uptoBulk d + 1
  | (_, d) => uptoBulk d + 1
 end
def uptoSmall : (H : Type) → List (DataW H) → Bool := fun _ ds => decide (uptoBulkAll ds ≤ 1048576)
def OpenSpec.upto (s : _root_.Go.ChangeSpec) : _root_.Go.OpenSpec := { _root_.Go.OpenSpec.ofChange s with cond := some uptoSmall }

/-- 'hopmeshlaw26.TransactionReceives', WHERE WHAT IT READS IS OF BULK AT MOST 1048576: true; the input reads as it did. -/
def transactionReceivesUptoRow : OpenClaim := { program := "ytapedmpbgeoieaagreat", sum := "cf4c002f4992e892b54120c7b4d4dd59240881abc09d129237a6780a64c358a6", func := "hopmesh/hopmeshlaw26.TransactionReceives", spec := "transactionReceives", inPlace := ["slices.overlaps[hopmesh/api.TableCell]"], unfollowed := true, recurses := true, apart := false, narrowed := true }
def TransactionReceivesUptoSaid : Prop := transactionReceivesUptoRow.holds Tryz.pinned (OpenSpec.upto transactionReceivesSpec)

/-- 'hopmeshlaw26.TransactionFinishes', WHERE WHAT IT READS IS OF BULK AT MOST 1048576: true; the input reads as it did. -/
def transactionFinishesUptoRow : OpenClaim := { program := "ytapedmpbgeoieaagreat", sum := "cf4c002f4992e892b54120c7b4d4dd59240881abc09d129237a6780a64c358a6", func := "hopmesh/hopmeshlaw26.TransactionFinishes", spec := "transactionFinishes", inPlace := ["slices.overlaps[hopmesh/api.TableCell]"], unfollowed := true, recurses := true, apart := false, narrowed := true }
def TransactionFinishesUptoSaid : Prop := transactionFinishesUptoRow.holds Tryz.pinned (OpenSpec.upto transactionFinishesSpec)

/-- 'hopmeshlaw26.TransactionMirrors', WHERE WHAT IT READS IS OF BULK AT MOST 1048576: true; the input reads as it did. -/
def transactionMirrorsUptoRow : OpenClaim := { program := "ytapedmpbgeoieaagreat", sum := "cf4c002f4992e892b54120c7b4d4dd59240881abc09d129237a6780a64c358a6", func := "hopmesh/hopmeshlaw26.TransactionMirrors", spec := "transactionMirrors", inPlace := ["slices.overlaps[hopmesh/api.TableCell]"], unfollowed := true, recurses := true, apart := false, narrowed := true }
def TransactionMirrorsUptoSaid : Prop := transactionMirrorsUptoRow.holds Tryz.pinned (OpenSpec.upto transactionMirrorsSpec)

/-- 'hopmeshlaw26.TransactionDoubled', WHERE WHAT IT READS IS OF BULK AT MOST 1048576: true; the input reads as it did. -/
def transactionDoubledUptoRow : OpenClaim := { program := "ytapedmpbgeoieaagreat", sum := "cf4c002f4992e892b54120c7b4d4dd59240881abc09d129237a6780a64c358a6", func := "hopmesh/hopmeshlaw26.TransactionDoubled", spec := "transactionDoubled", inPlace := ["slices.overlaps[hopmesh/api.TableCell]"], unfollowed := true, recurses := true, apart := false, narrowed := true }
def TransactionDoubledUptoSaid : Prop := transactionDoubledUptoRow.holds Tryz.pinned (OpenSpec.upto transactionDoubledSpec)

/-- 'hopmeshlaw26.TransactionNumbers', WHERE WHAT IT READS IS OF BULK AT MOST 1048576: true; the input reads as it did. -/
def transactionNumbersUptoRow : OpenClaim := { program := "ytapedmpbgeoieaagreat", sum := "cf4c002f4992e892b54120c7b4d4dd59240881abc09d129237a6780a64c358a6", func := "hopmesh/hopmeshlaw26.TransactionNumbers", spec := "transactionNumbers", inPlace := ["slices.overlaps[hopmesh/api.TableCell]"], unfollowed := true, recurses := true, apart := false, narrowed := true }
def TransactionNumbersUptoSaid : Prop := transactionNumbersUptoRow.holds Tryz.pinned (OpenSpec.upto transactionNumbersSpec)

/-- 'hopmeshtop.TopAgreement', WHERE WHAT IT READS IS OF BULK AT MOST 1048576: true; the input reads as it did. -/
def topAgreementUptoRow : OpenClaim := { program := "ytapedmpbgeoieaagreat", sum := "cf4c002f4992e892b54120c7b4d4dd59240881abc09d129237a6780a64c358a6", func := "hopmesh/hopmeshtop.TopAgreement", spec := "topAgreement", inPlace := ["slices.overlaps[hopmesh/api.TableCell]"], unfollowed := true, recurses := true, apart := false, narrowed := true }
def TopAgreementUptoSaid : Prop := topAgreementUptoRow.holds Tryz.pinned (OpenSpec.upto topAgreementSpec)

/-- 'hopmeshlaw26.TransactionOrder', WHERE WHAT IT READS IS OF BULK AT MOST 1048576: true; the input reads as it did. -/
def transactionOrderUptoRow : OpenClaim := { program := "ytapedmpbgeoieaagreat", sum := "cf4c002f4992e892b54120c7b4d4dd59240881abc09d129237a6780a64c358a6", func := "hopmesh/hopmeshlaw26.TransactionOrder", spec := "transactionOrder", inPlace := ["slices.overlaps[hopmesh/api.TableCell]"], unfollowed := true, recurses := true, apart := false, narrowed := true }
def TransactionOrderUptoSaid : Prop := transactionOrderUptoRow.holds Tryz.pinned (OpenSpec.upto transactionOrderSpec)

/-- 'hopmeshlaw26.TransactionEnds', WHERE WHAT IT READS IS OF BULK AT MOST 1048576: true; the input reads as it did. -/
def transactionEndsUptoRow : OpenClaim := { program := "ytapedmpbgeoieaagreat", sum := "cf4c002f4992e892b54120c7b4d4dd59240881abc09d129237a6780a64c358a6", func := "hopmesh/hopmeshlaw26.TransactionEnds", spec := "transactionEnds", inPlace := ["slices.overlaps[hopmesh/api.TableCell]"], unfollowed := true, recurses := true, apart := false, narrowed := true }
def TransactionEndsUptoSaid : Prop := transactionEndsUptoRow.holds Tryz.pinned (OpenSpec.upto transactionEndsSpec)

/-- 'hopmeshlaw26.TransactionAsks', WHERE WHAT IT READS IS OF BULK AT MOST 1048576: true; the input reads as it did. -/
def transactionAsksUptoRow : OpenClaim := { program := "ytapedmpbgeoieaagreat", sum := "cf4c002f4992e892b54120c7b4d4dd59240881abc09d129237a6780a64c358a6", func := "hopmesh/hopmeshlaw26.TransactionAsks", spec := "transactionAsks", inPlace := ["slices.overlaps[hopmesh/api.TableCell]"], unfollowed := true, recurses := true, apart := false, narrowed := true }
def TransactionAsksUptoSaid : Prop := transactionAsksUptoRow.holds Tryz.pinned (OpenSpec.upto transactionAsksSpec)

/-- 'hopmeshlaw27.ConsistencyPairs', WHERE WHAT IT READS IS OF BULK AT MOST 1048576: true; the input reads as it did. -/
def consistencyPairsUptoRow : OpenClaim := { program := "ytapedmpbgeoieaagreat", sum := "cf4c002f4992e892b54120c7b4d4dd59240881abc09d129237a6780a64c358a6", func := "hopmesh/hopmeshlaw27.ConsistencyPairs", spec := "consistencyPairs", inPlace := ["slices.overlaps[hopmesh/api.TableCell]"], unfollowed := true, recurses := true, apart := false, narrowed := true }
def ConsistencyPairsUptoSaid : Prop := consistencyPairsUptoRow.holds Tryz.pinned (OpenSpec.upto consistencyPairsSpec)

/-- 'hopmeshlaw27.ConsistencyExchanges', WHERE WHAT IT READS IS OF BULK AT MOST 1048576: true; the input reads as it did. -/
def consistencyExchangesUptoRow : OpenClaim := { program := "ytapedmpbgeoieaagreat", sum := "cf4c002f4992e892b54120c7b4d4dd59240881abc09d129237a6780a64c358a6", func := "hopmesh/hopmeshlaw27.ConsistencyExchanges", spec := "consistencyExchanges", inPlace := ["slices.overlaps[hopmesh/api.TableCell]"], unfollowed := true, recurses := true, apart := false, narrowed := true }
def ConsistencyExchangesUptoSaid : Prop := consistencyExchangesUptoRow.holds Tryz.pinned (OpenSpec.upto consistencyExchangesSpec)

/-- 'hopmeshlaw27.ConsistencyPlays', WHERE WHAT IT READS IS OF BULK AT MOST 1048576: true; the input reads as it did. -/
def consistencyPlaysUptoRow : OpenClaim := { program := "ytapedmpbgeoieaagreat", sum := "cf4c002f4992e892b54120c7b4d4dd59240881abc09d129237a6780a64c358a6", func := "hopmesh/hopmeshlaw27.ConsistencyPlays", spec := "consistencyPlays", inPlace := ["slices.overlaps[hopmesh/api.TableCell]"], unfollowed := true, recurses := true, apart := false, narrowed := true }
def ConsistencyPlaysUptoSaid : Prop := consistencyPlaysUptoRow.holds Tryz.pinned (OpenSpec.upto consistencyPlaysSpec)

/-- 'hopmeshlaw27.ConsistencyDetects', WHERE WHAT IT READS IS OF BULK AT MOST 1048576: true; the input reads as it did. -/
def consistencyDetectsUptoRow : OpenClaim := { program := "ytapedmpbgeoieaagreat", sum := "cf4c002f4992e892b54120c7b4d4dd59240881abc09d129237a6780a64c358a6", func := "hopmesh/hopmeshlaw27.ConsistencyDetects", spec := "consistencyDetects", inPlace := ["slices.overlaps[hopmesh/api.TableCell]"], unfollowed := true, recurses := true, apart := false, narrowed := true }
def ConsistencyDetectsUptoSaid : Prop := consistencyDetectsUptoRow.holds Tryz.pinned (OpenSpec.upto consistencyDetectsSpec)

/-- 'hopmeshlaw27.ConsistencyLosses', WHERE WHAT IT READS IS OF BULK AT MOST 1048576: true; the input reads as it did. -/
def consistencyLossesUptoRow : OpenClaim := { program := "ytapedmpbgeoieaagreat", sum := "cf4c002f4992e892b54120c7b4d4dd59240881abc09d129237a6780a64c358a6", func := "hopmesh/hopmeshlaw27.ConsistencyLosses", spec := "consistencyLosses", inPlace := ["slices.overlaps[hopmesh/api.TableCell]"], unfollowed := true, recurses := true, apart := false, narrowed := true }
def ConsistencyLossesUptoSaid : Prop := consistencyLossesUptoRow.holds Tryz.pinned (OpenSpec.upto consistencyLossesSpec)

/-- 'hopmeshlaw27.ConsistencyClears', WHERE WHAT IT READS IS OF BULK AT MOST 1048576: true; the input reads as it did. -/
def consistencyClearsUptoRow : OpenClaim := { program := "ytapedmpbgeoieaagreat", sum := "cf4c002f4992e892b54120c7b4d4dd59240881abc09d129237a6780a64c358a6", func := "hopmesh/hopmeshlaw27.ConsistencyClears", spec := "consistencyClears", inPlace := ["slices.overlaps[hopmesh/api.TableCell]"], unfollowed := true, recurses := true, apart := false, narrowed := true }
def ConsistencyClearsUptoSaid : Prop := consistencyClearsUptoRow.holds Tryz.pinned (OpenSpec.upto consistencyClearsSpec)

/-- 'hopmeshlaw27.ConsistencyNumbers', WHERE WHAT IT READS IS OF BULK AT MOST 1048576: true; the input reads as it did. -/
def consistencyNumbersUptoRow : OpenClaim := { program := "ytapedmpbgeoieaagreat", sum := "cf4c002f4992e892b54120c7b4d4dd59240881abc09d129237a6780a64c358a6", func := "hopmesh/hopmeshlaw27.ConsistencyNumbers", spec := "consistencyNumbers", inPlace := ["slices.overlaps[hopmesh/api.TableCell]"], unfollowed := true, recurses := true, apart := false, narrowed := true }
def ConsistencyNumbersUptoSaid : Prop := consistencyNumbersUptoRow.holds Tryz.pinned (OpenSpec.upto consistencyNumbersSpec)

/-- 'hopmeshlaw28.RepairCouples', WHERE WHAT IT READS IS OF BULK AT MOST 1048576: true; the input reads as it did. -/
def repairCouplesUptoRow : OpenClaim := { program := "ytapedmpbgeoieaagreat", sum := "cf4c002f4992e892b54120c7b4d4dd59240881abc09d129237a6780a64c358a6", func := "hopmesh/hopmeshlaw28.RepairCouples", spec := "repairCouples", inPlace := ["slices.overlaps[hopmesh/api.TableCell]"], unfollowed := true, recurses := true, apart := false, narrowed := true }
def RepairCouplesUptoSaid : Prop := repairCouplesUptoRow.holds Tryz.pinned (OpenSpec.upto repairCouplesSpec)

/-- 'hopmeshlaw28.RepairSteps', WHERE WHAT IT READS IS OF BULK AT MOST 1048576: true; the input reads as it did. -/
def repairStepsUptoRow : OpenClaim := { program := "ytapedmpbgeoieaagreat", sum := "cf4c002f4992e892b54120c7b4d4dd59240881abc09d129237a6780a64c358a6", func := "hopmesh/hopmeshlaw28.RepairSteps", spec := "repairSteps", inPlace := ["slices.overlaps[hopmesh/api.TableCell]"], unfollowed := true, recurses := true, apart := false, narrowed := true }
def RepairStepsUptoSaid : Prop := repairStepsUptoRow.holds Tryz.pinned (OpenSpec.upto repairStepsSpec)

/-- 'hopmeshlaw28.RepairQuiet', WHERE WHAT IT READS IS OF BULK AT MOST 1048576: true; the input reads as it did. -/
def repairQuietUptoRow : OpenClaim := { program := "ytapedmpbgeoieaagreat", sum := "cf4c002f4992e892b54120c7b4d4dd59240881abc09d129237a6780a64c358a6", func := "hopmesh/hopmeshlaw28.RepairQuiet", spec := "repairQuiet", inPlace := ["slices.overlaps[hopmesh/api.TableCell]"], unfollowed := true, recurses := true, apart := false, narrowed := true }
def RepairQuietUptoSaid : Prop := repairQuietUptoRow.holds Tryz.pinned (OpenSpec.upto repairQuietSpec)

/-- 'hopmeshlaw28.RepairRuns', WHERE WHAT IT READS IS OF BULK AT MOST 1048576: true; the input reads as it did. -/
def repairRunsUptoRow : OpenClaim := { program := "ytapedmpbgeoieaagreat", sum := "cf4c002f4992e892b54120c7b4d4dd59240881abc09d129237a6780a64c358a6", func := "hopmesh/hopmeshlaw28.RepairRuns", spec := "repairRuns", inPlace := ["slices.overlaps[hopmesh/api.TableCell]"], unfollowed := true, recurses := true, apart := false, narrowed := true }
def RepairRunsUptoSaid : Prop := repairRunsUptoRow.holds Tryz.pinned (OpenSpec.upto repairRunsSpec)

/-- 'hopmeshlaw28.RepairNothingLost', WHERE WHAT IT READS IS OF BULK AT MOST 1048576: true; the input reads as it did. -/
def repairNothingLostUptoRow : OpenClaim := { program := "ytapedmpbgeoieaagreat", sum := "cf4c002f4992e892b54120c7b4d4dd59240881abc09d129237a6780a64c358a6", func := "hopmesh/hopmeshlaw28.RepairNothingLost", spec := "repairNothingLost", inPlace := ["slices.overlaps[hopmesh/api.TableCell]"], unfollowed := true, recurses := true, apart := false, narrowed := true }
def RepairNothingLostUptoSaid : Prop := repairNothingLostUptoRow.holds Tryz.pinned (OpenSpec.upto repairNothingLostSpec)

end Rows
end Go.Proofs.YtapedmpbgeoieaaGreat
