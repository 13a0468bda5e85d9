/-
  No cell of these rows narrows 'for every input' (looked for: loops, veiled, ifaces, maps, wideKeys, modest, calm, conditions, laid).
  DERIVED. THE GIVEN ROWS OF THIS SEAT. 21 by the template 'for every input the law returns true; each argument reads behind the call as it read before'; 0 by the template 'total and deterministic' (their statements: YtieddikacnmhlaaTotals.lean).
  GIVEN WITH THE SEED: the statements are not yours to turn. If you find one false, say at which input.
  Laid BY PROGRAM, IN A SANDBOX (cutbox-rows.mjs): the forced cells as the released guide's own fill.sh prints them over the translation 0b9bffbe24dafc14… (all of the seat's roots in one cut). By AI agents, Wed Nov 11 2026. No macro, syntax, notation, axiom, sorry.
-/
import Derived.Test.YtieddikacnmhlaaChecked
import GoSem.Claim
import GoSem.ClaimJoined
import GoSem.ClaimMapViews
import Derived.JoinedTies
import Derived.KernelRfl
namespace Go.Proofs.Ytieddikacnmhlaa
/- THE CELL 'sum', in the pinned program and in every row, IS THE sha256 OF THE DUMP (.gsa) THAT YtieddikacnmhlaaProg.lean LOADS. Nothing in Lean hashes anything: it is a label: what it is worth is what the hold of that sum in a sandbox is worth. -/
noncomputable def Try.pinned : Pinned := { name := "ytieddikacnmhlaa", sum := "0b9bffbe24dafc140236d78c915e6a648cd4c5cc2c3d45687ba420bb4fd9f6aa", checked := Try.checked }
namespace Rows
def none {H : Type} : Left H := { results := [], args := [] }

/-- 'casketlaw2.SoftOrders': WHATEVER THE INPUT: true; the input reads as it did. -/
def softOrdersSpec : ChangeSpec := { name := "softOrders", fn := fun _ => fun
  | [d1, d2] => { results := [.lit (.bool true)], args := [d1, d2] }
  | _ => none }
def softOrdersRow : OpenClaim := { program := "ytieddikacnmhlaa", sum := "0b9bffbe24dafc140236d78c915e6a648cd4c5cc2c3d45687ba420bb4fd9f6aa", func := "casket/casketlaw2.SoftOrders", spec := "softOrders", inPlace := ["math.Float64frombits", "math.Float64bits"], apart := false }
def SoftOrdersSaid : Prop := softOrdersRow.holds Try.pinned (OpenSpec.ofChange softOrdersSpec)

/-- ITS FALSE NEIGHBOUR: 'it returns false'. Refute it at one input. -/
def softOrdersWrong : ChangeSpec := { name := "softOrders", fn := fun _ => fun
  | [d1, d2] => { results := [.lit (.bool false)], args := [d1, d2] }
  | _ => none }
def SoftOrdersWrongFalsely : Prop := softOrdersRow.holds Try.pinned (OpenSpec.ofChange softOrdersWrong)

/-- 'casketlaw2.SoftConverts': WHATEVER THE INPUT: true; the input reads as it did. -/
def softConvertsSpec : ChangeSpec := { name := "softConverts", fn := fun _ => fun
  | [d1, d2, d3] => { results := [.lit (.bool true)], args := [d1, d2, d3] }
  | _ => none }
def softConvertsRow : OpenClaim := { program := "ytieddikacnmhlaa", sum := "0b9bffbe24dafc140236d78c915e6a648cd4c5cc2c3d45687ba420bb4fd9f6aa", func := "casket/casketlaw2.SoftConverts", spec := "softConverts", inPlace := ["math.Float64frombits", "math.Float64bits", "math.Float32bits", "math.Float32frombits"], apart := false }
def SoftConvertsSaid : Prop := softConvertsRow.holds Try.pinned (OpenSpec.ofChange softConvertsSpec)

/-- ITS FALSE NEIGHBOUR: 'it returns false'. Refute it at one input. -/
def softConvertsWrong : ChangeSpec := { name := "softConverts", fn := fun _ => fun
  | [d1, d2, d3] => { results := [.lit (.bool false)], args := [d1, d2, d3] }
  | _ => none }
def SoftConvertsWrongFalsely : Prop := softConvertsRow.holds Try.pinned (OpenSpec.ofChange softConvertsWrong)

/-- 'casketlaw2.SoftFloors': WHATEVER THE INPUT: true; the input reads as it did. -/
def softFloorsSpec : ChangeSpec := { name := "softFloors", fn := fun _ => fun
  | [d] => { results := [.lit (.bool true)], args := [d] }
  | _ => none }
def softFloorsRow : OpenClaim := { program := "ytieddikacnmhlaa", sum := "0b9bffbe24dafc140236d78c915e6a648cd4c5cc2c3d45687ba420bb4fd9f6aa", func := "casket/casketlaw2.SoftFloors", spec := "softFloors", inPlace := ["math.Float64frombits", "math.archFloor", "math.Float64bits", "math.archTrunc"], apart := false }
def SoftFloorsSaid : Prop := softFloorsRow.holds Try.pinned (OpenSpec.ofChange softFloorsSpec)

/-- ITS FALSE NEIGHBOUR: 'it returns false'. Refute it at one input. -/
def softFloorsWrong : ChangeSpec := { name := "softFloors", fn := fun _ => fun
  | [d] => { results := [.lit (.bool false)], args := [d] }
  | _ => none }
def SoftFloorsWrongFalsely : Prop := softFloorsRow.holds Try.pinned (OpenSpec.ofChange softFloorsWrong)

/-- 'casketlaw2.SoftOnes': WHATEVER THE INPUT: true; the input reads as it did. -/
def softOnesSpec : ChangeSpec := { name := "softOnes", fn := fun _ => fun
  | [d] => { results := [.lit (.bool true)], args := [d] }
  | _ => none }
def softOnesRow : OpenClaim := { program := "ytieddikacnmhlaa", sum := "0b9bffbe24dafc140236d78c915e6a648cd4c5cc2c3d45687ba420bb4fd9f6aa", func := "casket/casketlaw2.SoftOnes", spec := "softOnes", inPlace := ["math.Float64frombits", "math.Float64bits", "math.archFloor", "math.archTrunc"], apart := false }
def SoftOnesSaid : Prop := softOnesRow.holds Try.pinned (OpenSpec.ofChange softOnesSpec)

/-- ITS FALSE NEIGHBOUR: 'it returns false'. Refute it at one input. -/
def softOnesWrong : ChangeSpec := { name := "softOnes", fn := fun _ => fun
  | [d] => { results := [.lit (.bool false)], args := [d] }
  | _ => none }
def SoftOnesWrongFalsely : Prop := softOnesRow.holds Try.pinned (OpenSpec.ofChange softOnesWrong)

/-- 'casketlaw2.SoftWhole': WHATEVER THE INPUT: true; the input reads as it did. -/
def softWholeSpec : ChangeSpec := { name := "softWhole", fn := fun _ => fun
  | [d1, d2] => { results := [.lit (.bool true)], args := [d1, d2] }
  | _ => none }
def softWholeRow : OpenClaim := { program := "ytieddikacnmhlaa", sum := "0b9bffbe24dafc140236d78c915e6a648cd4c5cc2c3d45687ba420bb4fd9f6aa", func := "casket/casketlaw2.SoftWhole", spec := "softWhole", inPlace := ["math.Float64bits", "math.Float64frombits", "math.archFloor", "math.archTrunc"], apart := false }
def SoftWholeSaid : Prop := softWholeRow.holds Try.pinned (OpenSpec.ofChange softWholeSpec)

/-- ITS FALSE NEIGHBOUR: 'it returns false'. Refute it at one input. -/
def softWholeWrong : ChangeSpec := { name := "softWhole", fn := fun _ => fun
  | [d1, d2] => { results := [.lit (.bool false)], args := [d1, d2] }
  | _ => none }
def SoftWholeWrongFalsely : Prop := softWholeRow.holds Try.pinned (OpenSpec.ofChange softWholeWrong)

/-- 'casketlaw2.SoftReckons': WHATEVER THE INPUT: true; the input reads as it did. -/
def softReckonsSpec : ChangeSpec := { name := "softReckons", fn := fun _ => fun
  | [d1, d2] => { results := [.lit (.bool true)], args := [d1, d2] }
  | _ => none }
def softReckonsRow : OpenClaim := { program := "ytieddikacnmhlaa", sum := "0b9bffbe24dafc140236d78c915e6a648cd4c5cc2c3d45687ba420bb4fd9f6aa", func := "casket/casketlaw2.SoftReckons", spec := "softReckons", inPlace := ["math.Float64frombits", "math.Float64bits", "math.archFloor", "math.archTrunc"], apart := false }
def SoftReckonsSaid : Prop := softReckonsRow.holds Try.pinned (OpenSpec.ofChange softReckonsSpec)

/-- ITS FALSE NEIGHBOUR: 'it returns false'. Refute it at one input. -/
def softReckonsWrong : ChangeSpec := { name := "softReckons", fn := fun _ => fun
  | [d1, d2] => { results := [.lit (.bool false)], args := [d1, d2] }
  | _ => none }
def SoftReckonsWrongFalsely : Prop := softReckonsRow.holds Try.pinned (OpenSpec.ofChange softReckonsWrong)

/-- 'casketlaw2.SoftCanon': WHATEVER THE INPUT: true; the input reads as it did. -/
def softCanonSpec : ChangeSpec := { name := "softCanon", fn := fun _ => fun
  | [d1, d2, d3, d4] => { results := [.lit (.bool true)], args := [d1, d2, d3, d4] }
  | _ => none }
def softCanonRow : OpenClaim := { program := "ytieddikacnmhlaa", sum := "0b9bffbe24dafc140236d78c915e6a648cd4c5cc2c3d45687ba420bb4fd9f6aa", func := "casket/casketlaw2.SoftCanon", spec := "softCanon", inPlace := ["math.Float64frombits", "math.Float64bits", "math.archFloor", "math.archTrunc", "math.Float32frombits"], apart := false }
def SoftCanonSaid : Prop := softCanonRow.holds Try.pinned (OpenSpec.ofChange softCanonSpec)

/-- ITS FALSE NEIGHBOUR: 'it returns false'. Refute it at one input. -/
def softCanonWrong : ChangeSpec := { name := "softCanon", fn := fun _ => fun
  | [d1, d2, d3, d4] => { results := [.lit (.bool false)], args := [d1, d2, d3, d4] }
  | _ => none }
def SoftCanonWrongFalsely : Prop := softCanonRow.holds Try.pinned (OpenSpec.ofChange softCanonWrong)

/-- 'casketlaw2.SoftBack': WHATEVER THE INPUT: true; the input reads as it did. -/
def softBackSpec : ChangeSpec := { name := "softBack", fn := fun _ => fun
  | [d1, d2, d3, d4] => { results := [.lit (.bool true)], args := [d1, d2, d3, d4] }
  | _ => none }
def softBackRow : OpenClaim := { program := "ytieddikacnmhlaa", sum := "0b9bffbe24dafc140236d78c915e6a648cd4c5cc2c3d45687ba420bb4fd9f6aa", func := "casket/casketlaw2.SoftBack", spec := "softBack", inPlace := ["math.Float32frombits", "math.Float64bits", "math.Float64frombits", "math.Float32bits", "math.archFloor", "math.archTrunc"], apart := false }
def SoftBackSaid : Prop := softBackRow.holds Try.pinned (OpenSpec.ofChange softBackSpec)

/-- ITS FALSE NEIGHBOUR: 'it returns false'. Refute it at one input. -/
def softBackWrong : ChangeSpec := { name := "softBack", fn := fun _ => fun
  | [d1, d2, d3, d4] => { results := [.lit (.bool false)], args := [d1, d2, d3, d4] }
  | _ => none }
def SoftBackWrongFalsely : Prop := softBackRow.holds Try.pinned (OpenSpec.ofChange softBackWrong)

/-- 'casketlaw2.SoftGrows': WHATEVER THE INPUT: true; the input reads as it did. -/
def softGrowsSpec : ChangeSpec := { name := "softGrows", fn := fun _ => fun
  | [d1, d2, d3] => { results := [.lit (.bool true)], args := [d1, d2, d3] }
  | _ => none }
def softGrowsRow : OpenClaim := { program := "ytieddikacnmhlaa", sum := "0b9bffbe24dafc140236d78c915e6a648cd4c5cc2c3d45687ba420bb4fd9f6aa", func := "casket/casketlaw2.SoftGrows", spec := "softGrows", inPlace := ["math.Float64frombits", "math.Float64bits", "math.Float32bits", "math.Float32frombits", "math.archFloor", "math.archTrunc"], apart := false }
def SoftGrowsSaid : Prop := softGrowsRow.holds Try.pinned (OpenSpec.ofChange softGrowsSpec)

/-- ITS FALSE NEIGHBOUR: 'it returns false'. Refute it at one input. -/
def softGrowsWrong : ChangeSpec := { name := "softGrows", fn := fun _ => fun
  | [d1, d2, d3] => { results := [.lit (.bool false)], args := [d1, d2, d3] }
  | _ => none }
def SoftGrowsWrongFalsely : Prop := softGrowsRow.holds Try.pinned (OpenSpec.ofChange softGrowsWrong)

/-- 'casketlaw3.NumOrders': WHATEVER THE INPUT: true; the input reads as it did. -/
def numOrdersSpec : ChangeSpec := { name := "numOrders", fn := fun _ => fun
  | [d1, d2] => { results := [.lit (.bool true)], args := [d1, d2] }
  | _ => none }
def numOrdersRow : OpenClaim := { program := "ytieddikacnmhlaa", sum := "0b9bffbe24dafc140236d78c915e6a648cd4c5cc2c3d45687ba420bb4fd9f6aa", func := "casket/casketlaw3.NumOrders", spec := "numOrders", inPlace := ["math.Float64frombits", "math.archFloor", "math.Float64bits", "math.archTrunc"], unfollowed := true, recurses := true, apart := false }
def NumOrdersSaid : Prop := numOrdersRow.holds Try.pinned (OpenSpec.ofChange numOrdersSpec)

/-- ITS FALSE NEIGHBOUR: 'it returns false'. Refute it at one input. -/
def numOrdersWrong : ChangeSpec := { name := "numOrders", fn := fun _ => fun
  | [d1, d2] => { results := [.lit (.bool false)], args := [d1, d2] }
  | _ => none }
def NumOrdersWrongFalsely : Prop := numOrdersRow.holds Try.pinned (OpenSpec.ofChange numOrdersWrong)

/-- 'casketlaw3.NumThree': WHATEVER THE INPUT: true; the input reads as it did. -/
def numThreeSpec : ChangeSpec := { name := "numThree", fn := fun _ => fun
  | [d1, d2, d3] => { results := [.lit (.bool true)], args := [d1, d2, d3] }
  | _ => none }
def numThreeRow : OpenClaim := { program := "ytieddikacnmhlaa", sum := "0b9bffbe24dafc140236d78c915e6a648cd4c5cc2c3d45687ba420bb4fd9f6aa", func := "casket/casketlaw3.NumThree", spec := "numThree", inPlace := ["math.Float64frombits", "math.archFloor", "math.Float64bits", "math.archTrunc"], unfollowed := true, recurses := true, apart := false }
def NumThreeSaid : Prop := numThreeRow.holds Try.pinned (OpenSpec.ofChange numThreeSpec)

/-- ITS FALSE NEIGHBOUR: 'it returns false'. Refute it at one input. -/
def numThreeWrong : ChangeSpec := { name := "numThree", fn := fun _ => fun
  | [d1, d2, d3] => { results := [.lit (.bool false)], args := [d1, d2, d3] }
  | _ => none }
def NumThreeWrongFalsely : Prop := numThreeRow.holds Try.pinned (OpenSpec.ofChange numThreeWrong)

/-- 'casketlaw3.NumSpreads': WHATEVER THE INPUT: true; the input reads as it did. -/
def numSpreadsSpec : ChangeSpec := { name := "numSpreads", fn := fun _ => fun
  | [d1, d2, d3] => { results := [.lit (.bool true)], args := [d1, d2, d3] }
  | _ => none }
def numSpreadsRow : OpenClaim := { program := "ytieddikacnmhlaa", sum := "0b9bffbe24dafc140236d78c915e6a648cd4c5cc2c3d45687ba420bb4fd9f6aa", func := "casket/casketlaw3.NumSpreads", spec := "numSpreads", inPlace := ["math.Float64bits", "math.Float64frombits", "math.archFloor", "math.archTrunc"], unfollowed := true, recurses := true, apart := false }
def NumSpreadsSaid : Prop := numSpreadsRow.holds Try.pinned (OpenSpec.ofChange numSpreadsSpec)

/-- ITS FALSE NEIGHBOUR: 'it returns false'. Refute it at one input. -/
def numSpreadsWrong : ChangeSpec := { name := "numSpreads", fn := fun _ => fun
  | [d1, d2, d3] => { results := [.lit (.bool false)], args := [d1, d2, d3] }
  | _ => none }
def NumSpreadsWrongFalsely : Prop := numSpreadsRow.holds Try.pinned (OpenSpec.ofChange numSpreadsWrong)

/-- 'casketlaw3.NumShifts': WHATEVER THE INPUT: true; the input reads as it did. -/
def numShiftsSpec : ChangeSpec := { name := "numShifts", fn := fun _ => fun
  | [d1, d2] => { results := [.lit (.bool true)], args := [d1, d2] }
  | _ => none }
def numShiftsRow : OpenClaim := { program := "ytieddikacnmhlaa", sum := "0b9bffbe24dafc140236d78c915e6a648cd4c5cc2c3d45687ba420bb4fd9f6aa", func := "casket/casketlaw3.NumShifts", spec := "numShifts", inPlace := ["math.Float64bits", "math.Float64frombits", "math.archFloor", "math.archTrunc"], unfollowed := true, recurses := true, apart := false }
def NumShiftsSaid : Prop := numShiftsRow.holds Try.pinned (OpenSpec.ofChange numShiftsSpec)

/-- ITS FALSE NEIGHBOUR: 'it returns false'. Refute it at one input. -/
def numShiftsWrong : ChangeSpec := { name := "numShifts", fn := fun _ => fun
  | [d1, d2] => { results := [.lit (.bool false)], args := [d1, d2] }
  | _ => none }
def NumShiftsWrongFalsely : Prop := numShiftsRow.holds Try.pinned (OpenSpec.ofChange numShiftsWrong)

/-- 'casketlaw3.NumWhere': WHATEVER THE INPUT: true; the input reads as it did. -/
def numWhereSpec : ChangeSpec := { name := "numWhere", fn := fun _ => fun
  | [d1, d2] => { results := [.lit (.bool true)], args := [d1, d2] }
  | _ => none }
def numWhereRow : OpenClaim := { program := "ytieddikacnmhlaa", sum := "0b9bffbe24dafc140236d78c915e6a648cd4c5cc2c3d45687ba420bb4fd9f6aa", func := "casket/casketlaw3.NumWhere", spec := "numWhere", inPlace := ["math.Float64bits", "math.Float64frombits", "math.archFloor", "math.archTrunc"], unfollowed := true, recurses := true, apart := false }
def NumWhereSaid : Prop := numWhereRow.holds Try.pinned (OpenSpec.ofChange numWhereSpec)

/-- ITS FALSE NEIGHBOUR: 'it returns false'. Refute it at one input. -/
def numWhereWrong : ChangeSpec := { name := "numWhere", fn := fun _ => fun
  | [d1, d2] => { results := [.lit (.bool false)], args := [d1, d2] }
  | _ => none }
def NumWhereWrongFalsely : Prop := numWhereRow.holds Try.pinned (OpenSpec.ofChange numWhereWrong)

/-- 'casketlaw3.NumDoubles': WHATEVER THE INPUT: true; the input reads as it did. -/
def numDoublesSpec : ChangeSpec := { name := "numDoubles", fn := fun _ => fun
  | [d1, d2] => { results := [.lit (.bool true)], args := [d1, d2] }
  | _ => none }
def numDoublesRow : OpenClaim := { program := "ytieddikacnmhlaa", sum := "0b9bffbe24dafc140236d78c915e6a648cd4c5cc2c3d45687ba420bb4fd9f6aa", func := "casket/casketlaw3.NumDoubles", spec := "numDoubles", inPlace := ["math.Float64bits", "math.Float64frombits", "math.archFloor", "math.archTrunc"], unfollowed := true, recurses := true, apart := false }
def NumDoublesSaid : Prop := numDoublesRow.holds Try.pinned (OpenSpec.ofChange numDoublesSpec)

/-- ITS FALSE NEIGHBOUR: 'it returns false'. Refute it at one input. -/
def numDoublesWrong : ChangeSpec := { name := "numDoubles", fn := fun _ => fun
  | [d1, d2] => { results := [.lit (.bool false)], args := [d1, d2] }
  | _ => none }
def NumDoublesWrongFalsely : Prop := numDoublesRow.holds Try.pinned (OpenSpec.ofChange numDoublesWrong)

/-- 'casketlaw3.NumFloors': WHATEVER THE INPUT: true; the input reads as it did. -/
def numFloorsSpec : ChangeSpec := { name := "numFloors", fn := fun _ => fun
  | [d1, d2] => { results := [.lit (.bool true)], args := [d1, d2] }
  | _ => none }
def numFloorsRow : OpenClaim := { program := "ytieddikacnmhlaa", sum := "0b9bffbe24dafc140236d78c915e6a648cd4c5cc2c3d45687ba420bb4fd9f6aa", func := "casket/casketlaw3.NumFloors", spec := "numFloors", inPlace := ["math.Float64bits", "math.Float64frombits", "math.archFloor", "math.archTrunc"], unfollowed := true, recurses := true, apart := false }
def NumFloorsSaid : Prop := numFloorsRow.holds Try.pinned (OpenSpec.ofChange numFloorsSpec)

/-- ITS FALSE NEIGHBOUR: 'it returns false'. Refute it at one input. -/
def numFloorsWrong : ChangeSpec := { name := "numFloors", fn := fun _ => fun
  | [d1, d2] => { results := [.lit (.bool false)], args := [d1, d2] }
  | _ => none }
def NumFloorsWrongFalsely : Prop := numFloorsRow.holds Try.pinned (OpenSpec.ofChange numFloorsWrong)

/-- 'casketlaw3.NumRests': WHATEVER THE INPUT: true; the input reads as it did. -/
def numRestsSpec : ChangeSpec := { name := "numRests", fn := fun _ => fun
  | [d1, d2] => { results := [.lit (.bool true)], args := [d1, d2] }
  | _ => none }
def numRestsRow : OpenClaim := { program := "ytieddikacnmhlaa", sum := "0b9bffbe24dafc140236d78c915e6a648cd4c5cc2c3d45687ba420bb4fd9f6aa", func := "casket/casketlaw3.NumRests", spec := "numRests", inPlace := ["math.Float64bits", "math.Float64frombits", "math.archFloor", "math.archTrunc"], unfollowed := true, recurses := true, apart := false }
def NumRestsSaid : Prop := numRestsRow.holds Try.pinned (OpenSpec.ofChange numRestsSpec)

/-- ITS FALSE NEIGHBOUR: 'it returns false'. Refute it at one input. -/
def numRestsWrong : ChangeSpec := { name := "numRests", fn := fun _ => fun
  | [d1, d2] => { results := [.lit (.bool false)], args := [d1, d2] }
  | _ => none }
def NumRestsWrongFalsely : Prop := numRestsRow.holds Try.pinned (OpenSpec.ofChange numRestsWrong)

/-- 'casketlaw3.NumDown': WHATEVER THE INPUT: true; the input reads as it did. -/
def numDownSpec : ChangeSpec := { name := "numDown", fn := fun _ => fun
  | [d1, d2] => { results := [.lit (.bool true)], args := [d1, d2] }
  | _ => none }
def numDownRow : OpenClaim := { program := "ytieddikacnmhlaa", sum := "0b9bffbe24dafc140236d78c915e6a648cd4c5cc2c3d45687ba420bb4fd9f6aa", func := "casket/casketlaw3.NumDown", spec := "numDown", inPlace := ["math.Float64bits", "math.Float64frombits", "math.archFloor", "math.archTrunc"], unfollowed := true, recurses := true, apart := false }
def NumDownSaid : Prop := numDownRow.holds Try.pinned (OpenSpec.ofChange numDownSpec)

/-- ITS FALSE NEIGHBOUR: 'it returns false'. Refute it at one input. -/
def numDownWrong : ChangeSpec := { name := "numDown", fn := fun _ => fun
  | [d1, d2] => { results := [.lit (.bool false)], args := [d1, d2] }
  | _ => none }
def NumDownWrongFalsely : Prop := numDownRow.holds Try.pinned (OpenSpec.ofChange numDownWrong)

/-- 'casketlaw3.NumRing': WHATEVER THE INPUT: true; the input reads as it did. -/
def numRingSpec : ChangeSpec := { name := "numRing", fn := fun _ => fun
  | [d1, d2] => { results := [.lit (.bool true)], args := [d1, d2] }
  | _ => none }
def numRingRow : OpenClaim := { program := "ytieddikacnmhlaa", sum := "0b9bffbe24dafc140236d78c915e6a648cd4c5cc2c3d45687ba420bb4fd9f6aa", func := "casket/casketlaw3.NumRing", spec := "numRing", inPlace := ["math.Float64bits", "math.Float64frombits", "math.archFloor", "math.archTrunc"], unfollowed := true, recurses := true, apart := false }
def NumRingSaid : Prop := numRingRow.holds Try.pinned (OpenSpec.ofChange numRingSpec)

/-- ITS FALSE NEIGHBOUR: 'it returns false'. Refute it at one input. -/
def numRingWrong : ChangeSpec := { name := "numRing", fn := fun _ => fun
  | [d1, d2] => { results := [.lit (.bool false)], args := [d1, d2] }
  | _ => none }
def NumRingWrongFalsely : Prop := numRingRow.holds Try.pinned (OpenSpec.ofChange numRingWrong)

/-- 'casketlaw3.NumMixes': WHATEVER THE INPUT: true; the input reads as it did. -/
def numMixesSpec : ChangeSpec := { name := "numMixes", fn := fun _ => fun
  | [d1, d2] => { results := [.lit (.bool true)], args := [d1, d2] }
  | _ => none }
def numMixesRow : OpenClaim := { program := "ytieddikacnmhlaa", sum := "0b9bffbe24dafc140236d78c915e6a648cd4c5cc2c3d45687ba420bb4fd9f6aa", func := "casket/casketlaw3.NumMixes", spec := "numMixes", inPlace := ["math.Float64bits", "math.Float64frombits", "math.archFloor", "math.archTrunc"], unfollowed := true, recurses := true, apart := false }
def NumMixesSaid : Prop := numMixesRow.holds Try.pinned (OpenSpec.ofChange numMixesSpec)

/-- ITS FALSE NEIGHBOUR: 'it returns false'. Refute it at one input. -/
def numMixesWrong : ChangeSpec := { name := "numMixes", fn := fun _ => fun
  | [d1, d2] => { results := [.lit (.bool false)], args := [d1, d2] }
  | _ => none }
def NumMixesWrongFalsely : Prop := numMixesRow.holds Try.pinned (OpenSpec.ofChange numMixesWrong)

/-- 'casketlaw3.NumReckons': WHATEVER THE INPUT: true; the input reads as it did. -/
def numReckonsSpec : ChangeSpec := { name := "numReckons", fn := fun _ => fun
  | [d1, d2] => { results := [.lit (.bool true)], args := [d1, d2] }
  | _ => none }
def numReckonsRow : OpenClaim := { program := "ytieddikacnmhlaa", sum := "0b9bffbe24dafc140236d78c915e6a648cd4c5cc2c3d45687ba420bb4fd9f6aa", func := "casket/casketlaw3.NumReckons", spec := "numReckons", inPlace := ["math.Float64bits", "math.Float64frombits", "math.archFloor", "math.archTrunc"], unfollowed := true, recurses := true, apart := false }
def NumReckonsSaid : Prop := numReckonsRow.holds Try.pinned (OpenSpec.ofChange numReckonsSpec)

/-- ITS FALSE NEIGHBOUR: 'it returns false'. Refute it at one input. -/
def numReckonsWrong : ChangeSpec := { name := "numReckons", fn := fun _ => fun
  | [d1, d2] => { results := [.lit (.bool false)], args := [d1, d2] }
  | _ => none }
def NumReckonsWrongFalsely : Prop := numReckonsRow.holds Try.pinned (OpenSpec.ofChange numReckonsWrong)

/- THE SECOND FORM. 'bulk': how many values and letters a reading holds, each counted each time it is reached (what is shared counts as often as it is met; a slice's spare places count too). A statement '..UptoSaid' is the law's where the arguments, and the package variables that the reading takes, are together of bulk at most 1048576: NARROWER than '..Said'. Prove '..Said' where nothing that the law and all that it calls make is longer than what came in: it says more and counts as full. Else prove '..UptoSaid'. A law counts once. -/
mutual
def uptoBulk {H : Type} : DataW H → Nat
  | .lit (.string bytes) => bytes.length + 1
  | .lit _ => 1
  | .nil => 1
  | .ptr d => uptoBulk d + 1
  | .slice elems spare => uptoBulkAll elems + uptoBulkAll spare + 1
  | .agg parts => uptoBulkAll parts + 1
  | .iface _ d => uptoBulk d + 1
  | .map entries => uptoBulkEntries entries + 1
  | .held _ => 1
def uptoBulkAll {H : Type} : List (DataW H) → Nat
  | [] => 0
  | d :: r => uptoBulk d + uptoBulkAll r
def uptoBulkEntries {H : Type} : List (Lit × DataW H) → Nat
  | [] => 0
  | x :: r => uptoBulkEntry x + uptoBulkEntries r
def uptoBulkEntry {H : Type} : Lit × DataW H → Nat
  | (.string bytes, d) => bytes.length + uptoBulk d + 1
  | (_, d) => uptoBulk d + 1
 end
def uptoSmall : (H : Type) → List (DataW H) → Bool := fun _ ds => decide (uptoBulkAll ds ≤ 1048576)
def OpenSpec.upto (s : _root_.Go.ChangeSpec) : _root_.Go.OpenSpec := { _root_.Go.OpenSpec.ofChange s with cond := some uptoSmall }

/-- 'casketlaw2.SoftOrders', WHERE WHAT IT READS IS OF BULK AT MOST 1048576: true; the input reads as it did. -/
def softOrdersUptoRow : OpenClaim := { program := "ytieddikacnmhlaa", sum := "0b9bffbe24dafc140236d78c915e6a648cd4c5cc2c3d45687ba420bb4fd9f6aa", func := "casket/casketlaw2.SoftOrders", spec := "softOrders", inPlace := ["math.Float64frombits", "math.Float64bits"], apart := false, narrowed := true }
def SoftOrdersUptoSaid : Prop := softOrdersUptoRow.holds Try.pinned (OpenSpec.upto softOrdersSpec)

/-- 'casketlaw2.SoftConverts', WHERE WHAT IT READS IS OF BULK AT MOST 1048576: true; the input reads as it did. -/
def softConvertsUptoRow : OpenClaim := { program := "ytieddikacnmhlaa", sum := "0b9bffbe24dafc140236d78c915e6a648cd4c5cc2c3d45687ba420bb4fd9f6aa", func := "casket/casketlaw2.SoftConverts", spec := "softConverts", inPlace := ["math.Float64frombits", "math.Float64bits", "math.Float32bits", "math.Float32frombits"], apart := false, narrowed := true }
def SoftConvertsUptoSaid : Prop := softConvertsUptoRow.holds Try.pinned (OpenSpec.upto softConvertsSpec)

/-- 'casketlaw2.SoftFloors', WHERE WHAT IT READS IS OF BULK AT MOST 1048576: true; the input reads as it did. -/
def softFloorsUptoRow : OpenClaim := { program := "ytieddikacnmhlaa", sum := "0b9bffbe24dafc140236d78c915e6a648cd4c5cc2c3d45687ba420bb4fd9f6aa", func := "casket/casketlaw2.SoftFloors", spec := "softFloors", inPlace := ["math.Float64frombits", "math.archFloor", "math.Float64bits", "math.archTrunc"], apart := false, narrowed := true }
def SoftFloorsUptoSaid : Prop := softFloorsUptoRow.holds Try.pinned (OpenSpec.upto softFloorsSpec)

/-- 'casketlaw2.SoftOnes', WHERE WHAT IT READS IS OF BULK AT MOST 1048576: true; the input reads as it did. -/
def softOnesUptoRow : OpenClaim := { program := "ytieddikacnmhlaa", sum := "0b9bffbe24dafc140236d78c915e6a648cd4c5cc2c3d45687ba420bb4fd9f6aa", func := "casket/casketlaw2.SoftOnes", spec := "softOnes", inPlace := ["math.Float64frombits", "math.Float64bits", "math.archFloor", "math.archTrunc"], apart := false, narrowed := true }
def SoftOnesUptoSaid : Prop := softOnesUptoRow.holds Try.pinned (OpenSpec.upto softOnesSpec)

/-- 'casketlaw2.SoftWhole', WHERE WHAT IT READS IS OF BULK AT MOST 1048576: true; the input reads as it did. -/
def softWholeUptoRow : OpenClaim := { program := "ytieddikacnmhlaa", sum := "0b9bffbe24dafc140236d78c915e6a648cd4c5cc2c3d45687ba420bb4fd9f6aa", func := "casket/casketlaw2.SoftWhole", spec := "softWhole", inPlace := ["math.Float64bits", "math.Float64frombits", "math.archFloor", "math.archTrunc"], apart := false, narrowed := true }
def SoftWholeUptoSaid : Prop := softWholeUptoRow.holds Try.pinned (OpenSpec.upto softWholeSpec)

/-- 'casketlaw2.SoftReckons', WHERE WHAT IT READS IS OF BULK AT MOST 1048576: true; the input reads as it did. -/
def softReckonsUptoRow : OpenClaim := { program := "ytieddikacnmhlaa", sum := "0b9bffbe24dafc140236d78c915e6a648cd4c5cc2c3d45687ba420bb4fd9f6aa", func := "casket/casketlaw2.SoftReckons", spec := "softReckons", inPlace := ["math.Float64frombits", "math.Float64bits", "math.archFloor", "math.archTrunc"], apart := false, narrowed := true }
def SoftReckonsUptoSaid : Prop := softReckonsUptoRow.holds Try.pinned (OpenSpec.upto softReckonsSpec)

/-- 'casketlaw2.SoftCanon', WHERE WHAT IT READS IS OF BULK AT MOST 1048576: true; the input reads as it did. -/
def softCanonUptoRow : OpenClaim := { program := "ytieddikacnmhlaa", sum := "0b9bffbe24dafc140236d78c915e6a648cd4c5cc2c3d45687ba420bb4fd9f6aa", func := "casket/casketlaw2.SoftCanon", spec := "softCanon", inPlace := ["math.Float64frombits", "math.Float64bits", "math.archFloor", "math.archTrunc", "math.Float32frombits"], apart := false, narrowed := true }
def SoftCanonUptoSaid : Prop := softCanonUptoRow.holds Try.pinned (OpenSpec.upto softCanonSpec)

/-- 'casketlaw2.SoftBack', WHERE WHAT IT READS IS OF BULK AT MOST 1048576: true; the input reads as it did. -/
def softBackUptoRow : OpenClaim := { program := "ytieddikacnmhlaa", sum := "0b9bffbe24dafc140236d78c915e6a648cd4c5cc2c3d45687ba420bb4fd9f6aa", func := "casket/casketlaw2.SoftBack", spec := "softBack", inPlace := ["math.Float32frombits", "math.Float64bits", "math.Float64frombits", "math.Float32bits", "math.archFloor", "math.archTrunc"], apart := false, narrowed := true }
def SoftBackUptoSaid : Prop := softBackUptoRow.holds Try.pinned (OpenSpec.upto softBackSpec)

/-- 'casketlaw2.SoftGrows', WHERE WHAT IT READS IS OF BULK AT MOST 1048576: true; the input reads as it did. -/
def softGrowsUptoRow : OpenClaim := { program := "ytieddikacnmhlaa", sum := "0b9bffbe24dafc140236d78c915e6a648cd4c5cc2c3d45687ba420bb4fd9f6aa", func := "casket/casketlaw2.SoftGrows", spec := "softGrows", inPlace := ["math.Float64frombits", "math.Float64bits", "math.Float32bits", "math.Float32frombits", "math.archFloor", "math.archTrunc"], apart := false, narrowed := true }
def SoftGrowsUptoSaid : Prop := softGrowsUptoRow.holds Try.pinned (OpenSpec.upto softGrowsSpec)

/-- 'casketlaw3.NumOrders', WHERE WHAT IT READS IS OF BULK AT MOST 1048576: true; the input reads as it did. -/
def numOrdersUptoRow : OpenClaim := { program := "ytieddikacnmhlaa", sum := "0b9bffbe24dafc140236d78c915e6a648cd4c5cc2c3d45687ba420bb4fd9f6aa", func := "casket/casketlaw3.NumOrders", spec := "numOrders", inPlace := ["math.Float64frombits", "math.archFloor", "math.Float64bits", "math.archTrunc"], unfollowed := true, recurses := true, apart := false, narrowed := true }
def NumOrdersUptoSaid : Prop := numOrdersUptoRow.holds Try.pinned (OpenSpec.upto numOrdersSpec)

/-- 'casketlaw3.NumThree', WHERE WHAT IT READS IS OF BULK AT MOST 1048576: true; the input reads as it did. -/
def numThreeUptoRow : OpenClaim := { program := "ytieddikacnmhlaa", sum := "0b9bffbe24dafc140236d78c915e6a648cd4c5cc2c3d45687ba420bb4fd9f6aa", func := "casket/casketlaw3.NumThree", spec := "numThree", inPlace := ["math.Float64frombits", "math.archFloor", "math.Float64bits", "math.archTrunc"], unfollowed := true, recurses := true, apart := false, narrowed := true }
def NumThreeUptoSaid : Prop := numThreeUptoRow.holds Try.pinned (OpenSpec.upto numThreeSpec)

/-- 'casketlaw3.NumSpreads', WHERE WHAT IT READS IS OF BULK AT MOST 1048576: true; the input reads as it did. -/
def numSpreadsUptoRow : OpenClaim := { program := "ytieddikacnmhlaa", sum := "0b9bffbe24dafc140236d78c915e6a648cd4c5cc2c3d45687ba420bb4fd9f6aa", func := "casket/casketlaw3.NumSpreads", spec := "numSpreads", inPlace := ["math.Float64bits", "math.Float64frombits", "math.archFloor", "math.archTrunc"], unfollowed := true, recurses := true, apart := false, narrowed := true }
def NumSpreadsUptoSaid : Prop := numSpreadsUptoRow.holds Try.pinned (OpenSpec.upto numSpreadsSpec)

/-- 'casketlaw3.NumShifts', WHERE WHAT IT READS IS OF BULK AT MOST 1048576: true; the input reads as it did. -/
def numShiftsUptoRow : OpenClaim := { program := "ytieddikacnmhlaa", sum := "0b9bffbe24dafc140236d78c915e6a648cd4c5cc2c3d45687ba420bb4fd9f6aa", func := "casket/casketlaw3.NumShifts", spec := "numShifts", inPlace := ["math.Float64bits", "math.Float64frombits", "math.archFloor", "math.archTrunc"], unfollowed := true, recurses := true, apart := false, narrowed := true }
def NumShiftsUptoSaid : Prop := numShiftsUptoRow.holds Try.pinned (OpenSpec.upto numShiftsSpec)

/-- 'casketlaw3.NumWhere', WHERE WHAT IT READS IS OF BULK AT MOST 1048576: true; the input reads as it did. -/
def numWhereUptoRow : OpenClaim := { program := "ytieddikacnmhlaa", sum := "0b9bffbe24dafc140236d78c915e6a648cd4c5cc2c3d45687ba420bb4fd9f6aa", func := "casket/casketlaw3.NumWhere", spec := "numWhere", inPlace := ["math.Float64bits", "math.Float64frombits", "math.archFloor", "math.archTrunc"], unfollowed := true, recurses := true, apart := false, narrowed := true }
def NumWhereUptoSaid : Prop := numWhereUptoRow.holds Try.pinned (OpenSpec.upto numWhereSpec)

/-- 'casketlaw3.NumDoubles', WHERE WHAT IT READS IS OF BULK AT MOST 1048576: true; the input reads as it did. -/
def numDoublesUptoRow : OpenClaim := { program := "ytieddikacnmhlaa", sum := "0b9bffbe24dafc140236d78c915e6a648cd4c5cc2c3d45687ba420bb4fd9f6aa", func := "casket/casketlaw3.NumDoubles", spec := "numDoubles", inPlace := ["math.Float64bits", "math.Float64frombits", "math.archFloor", "math.archTrunc"], unfollowed := true, recurses := true, apart := false, narrowed := true }
def NumDoublesUptoSaid : Prop := numDoublesUptoRow.holds Try.pinned (OpenSpec.upto numDoublesSpec)

/-- 'casketlaw3.NumFloors', WHERE WHAT IT READS IS OF BULK AT MOST 1048576: true; the input reads as it did. -/
def numFloorsUptoRow : OpenClaim := { program := "ytieddikacnmhlaa", sum := "0b9bffbe24dafc140236d78c915e6a648cd4c5cc2c3d45687ba420bb4fd9f6aa", func := "casket/casketlaw3.NumFloors", spec := "numFloors", inPlace := ["math.Float64bits", "math.Float64frombits", "math.archFloor", "math.archTrunc"], unfollowed := true, recurses := true, apart := false, narrowed := true }
def NumFloorsUptoSaid : Prop := numFloorsUptoRow.holds Try.pinned (OpenSpec.upto numFloorsSpec)

/-- 'casketlaw3.NumRests', WHERE WHAT IT READS IS OF BULK AT MOST 1048576: true; the input reads as it did. -/
def numRestsUptoRow : OpenClaim := { program := "ytieddikacnmhlaa", sum := "0b9bffbe24dafc140236d78c915e6a648cd4c5cc2c3d45687ba420bb4fd9f6aa", func := "casket/casketlaw3.NumRests", spec := "numRests", inPlace := ["math.Float64bits", "math.Float64frombits", "math.archFloor", "math.archTrunc"], unfollowed := true, recurses := true, apart := false, narrowed := true }
def NumRestsUptoSaid : Prop := numRestsUptoRow.holds Try.pinned (OpenSpec.upto numRestsSpec)

/-- 'casketlaw3.NumDown', WHERE WHAT IT READS IS OF BULK AT MOST 1048576: true; the input reads as it did. -/
def numDownUptoRow : OpenClaim := { program := "ytieddikacnmhlaa", sum := "0b9bffbe24dafc140236d78c915e6a648cd4c5cc2c3d45687ba420bb4fd9f6aa", func := "casket/casketlaw3.NumDown", spec := "numDown", inPlace := ["math.Float64bits", "math.Float64frombits", "math.archFloor", "math.archTrunc"], unfollowed := true, recurses := true, apart := false, narrowed := true }
def NumDownUptoSaid : Prop := numDownUptoRow.holds Try.pinned (OpenSpec.upto numDownSpec)

/-- 'casketlaw3.NumRing', WHERE WHAT IT READS IS OF BULK AT MOST 1048576: true; the input reads as it did. -/
def numRingUptoRow : OpenClaim := { program := "ytieddikacnmhlaa", sum := "0b9bffbe24dafc140236d78c915e6a648cd4c5cc2c3d45687ba420bb4fd9f6aa", func := "casket/casketlaw3.NumRing", spec := "numRing", inPlace := ["math.Float64bits", "math.Float64frombits", "math.archFloor", "math.archTrunc"], unfollowed := true, recurses := true, apart := false, narrowed := true }
def NumRingUptoSaid : Prop := numRingUptoRow.holds Try.pinned (OpenSpec.upto numRingSpec)

/-- 'casketlaw3.NumMixes', WHERE WHAT IT READS IS OF BULK AT MOST 1048576: true; the input reads as it did. -/
def numMixesUptoRow : OpenClaim := { program := "ytieddikacnmhlaa", sum := "0b9bffbe24dafc140236d78c915e6a648cd4c5cc2c3d45687ba420bb4fd9f6aa", func := "casket/casketlaw3.NumMixes", spec := "numMixes", inPlace := ["math.Float64bits", "math.Float64frombits", "math.archFloor", "math.archTrunc"], unfollowed := true, recurses := true, apart := false, narrowed := true }
def NumMixesUptoSaid : Prop := numMixesUptoRow.holds Try.pinned (OpenSpec.upto numMixesSpec)

/-- 'casketlaw3.NumReckons', WHERE WHAT IT READS IS OF BULK AT MOST 1048576: true; the input reads as it did. -/
def numReckonsUptoRow : OpenClaim := { program := "ytieddikacnmhlaa", sum := "0b9bffbe24dafc140236d78c915e6a648cd4c5cc2c3d45687ba420bb4fd9f6aa", func := "casket/casketlaw3.NumReckons", spec := "numReckons", inPlace := ["math.Float64bits", "math.Float64frombits", "math.archFloor", "math.archTrunc"], unfollowed := true, recurses := true, apart := false, narrowed := true }
def NumReckonsUptoSaid : Prop := numReckonsUptoRow.holds Try.pinned (OpenSpec.upto numReckonsSpec)

end Rows
end Go.Proofs.Ytieddikacnmhlaa
