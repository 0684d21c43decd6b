/- Part KE of the proof that a law of this program answers yes at every input: no conditions beyond the given statement. -/
import Derived.KernelRfl
import Derived.Test.YtalicejjbahmpaaGreatDoorProg
import Derived.WalkKit
import Derived.Lib.Builder
import Derived.Lib.UnsafeStr
import Derived.Laws.Externs
import Derived.Shelf.Strings.OnBuilder
import Derived.Test.YtalicejjbahmpaaGreatDoorKU
import Derived.Test.YtalicejjbahmpaaGreatDoorKD
import Derived.Test.YtalicejjbahmpaaGreatDoorKC
set_option linter.unusedSimpArgs false
set_option linter.unusedVariables false
set_option linter.all false
namespace Go.Ai.T
open Go Go.Proofs
noncomputable def prim : Nat → Option (Id → List A → Heap → Option (A × Heap))
 | 10 => some T0.attrSortL
 | 12 => some T0.attrTwice
 | 21 => some (builderString 5)
 | 42 => some (builderCheck [53, 129])
 | 105 => some stringsJoin
 | 131 => some (errorsAs 47 74 178 [(177, 74)])
 | _ => none
def drawTab : List ((Nat × Nat) × List (Nat × Nat)) := [((3, 12), []), ((9, 6), []), ((13, 6), [(12, 7)]), ((14, 1), [(10, 12)]), ((15, 6), [(3, 4)]), ((17, 2), [(5, 1)]), ((17, 5), [(4, 5)]), ((21, 1), []), ((29, 3), [(6, 4), (10, 4), (10, 8)]), ((33, 1), [(14, 16)]), ((33, 6), [(17, 20)]), ((34, 8), []), ((35, 14), [(5, 4)]), ((39, 4), []), ((39, 15), [(1, 2)]), ((39, 16), [(3, 5)]), ((39, 18), [(1, 2)]), ((39, 19), [(3, 5)]), ((39, 21), [(4, 5)]), ((45, 6), []), ((54, 4), []), ((59, 2), [(6, 10)]), ((64, 8), [(3, 5)]), ((65, 1), [(2, 5)]), ((67, 1), [(2, 5)]), ((95, 3), []), ((98, 1), []), ((98, 6), []), ((106, 3), [(9, 10)]), ((110, 3), [(9, 10)]), ((133, 3), []), ((152, 0), [(12, 8)]), ((153, 2), [])]
def liveTab : List ((Nat × Nat) × List Nat) := [((3, 10), [0, 1, 4, 7, 8]), ((3, 16), [0, 1, 7, 9, 10]), ((6, 2), [0, 1, 4, 5]), ((7, 7), [1, 4, 5, 8, 9, 23, 24, 25]), ((8, 3), [3, 8, 9, 10]), ((9, 4), [0, 1, 4, 5]), ((13, 4), [0, 1, 2, 7]), ((15, 3), [0, 4, 5, 6, 7]), ((29, 5), [1, 2, 3, 7]), ((31, 3), [2, 6, 7, 8, 9]), ((33, 9), [1, 2, 4, 6]), ((35, 11), [2, 7, 10, 37, 38, 39]), ((38, 4), [0, 1, 2, 6, 8, 9, 16, 17, 18]), ((44, 2), [0, 3]), ((45, 4), [2, 3, 4, 5]), ((52, 2), [0, 2, 3]), ((54, 2), [0, 3, 4, 5]), ((60, 1), [0, 1, 9, 10, 11]), ((61, 2), [0, 1, 4, 5]), ((64, 3), [1, 4, 5, 11, 12, 13]), ((70, 3), [2, 6, 8, 17, 18, 19]), ((71, 8), [1, 2, 4, 40, 41, 42]), ((93, 22), [0, 1, 4, 6, 7, 8, 9]), ((94, 3), [0, 1, 4, 5, 6, 7]), ((97, 3), [5, 12, 13, 14]), ((99, 3), [0, 1]), ((105, 12), [0, 1, 5, 39, 40, 41]), ((105, 22), [1, 8, 63, 64, 65]), ((108, 3), [0, 1, 2, 7, 13, 14, 15]), ((111, 3), [0, 1, 2, 7, 13, 14, 15]), ((114, 2), [1, 4, 7, 8, 9]), ((115, 4), [1, 2, 6, 15, 16, 17]), ((119, 3), [1, 2, 7, 10, 11, 12]), ((120, 3), [1, 2, 7, 10, 11, 12]), ((132, 2), [0, 1, 4, 7, 8]), ((135, 2), [0, 1, 5]), ((138, 4), [1, 2, 6, 15, 16, 17]), ((144, 5), [0, 1, 4, 5, 6, 7, 8]), ((145, 3), [0, 3, 4]), ((146, 3), [0, 1, 2, 3, 8, 9]), ((147, 3), [0, 2, 3, 4, 5, 10, 11]), ((151, 1), [0, 1, 3, 6, 8]), ((151, 18), [1, 3, 6, 8, 48, 49, 50]), ((153, 5), [0, 2, 3, 4]), ((154, 3), [0, 3, 7, 8])]
noncomputable def E : Env where
 P := Tryz.prog
 frz t := [74, 178].contains t
 prim := prim
 keep f := [35, 66, 68].contains f
 raw f := false
 draw f i := (drawTab.find? fun q => q.1.1 == f && q.1.2 == i).map (·.2)
 live f i := ((liveTab.find? fun q => q.1.1 == f && q.1.2 == i).map (·.2)).getD []
theorem E_P : E.P = Tryz.prog := rfl
@[simp] theorem raw_E (f : Nat) : E.raw f = false := rfl
@[simp] theorem bytesT_103 : bytesT E.P 103 = some 56 := by kernel_rfl
@[simp] theorem bytesT_27 : bytesT E.P 27 = some 16 := by kernel_rfl
@[simp] theorem bytesT_3 : bytesT E.P 3 = some 8 := by kernel_rfl
@[simp] theorem bytesT_36 : bytesT E.P 36 = some 120 := by kernel_rfl
@[simp] theorem bytesT_38 : bytesT E.P 38 = some 160 := by kernel_rfl
@[simp] theorem bytesT_45 : bytesT E.P 45 = some 56 := by kernel_rfl
@[simp] theorem bytesT_5 : bytesT E.P 5 = some 1 := by kernel_rfl
@[simp] theorem bytesT_9 : bytesT E.P 9 = some 16 := by kernel_rfl
@[simp] theorem concrete_177 : E.P.concrete 177 = true := by kernel_rfl
@[simp] theorem concrete_178 : E.P.concrete 178 = true := by kernel_rfl
@[simp] theorem concrete_249 : E.P.concrete 249 = true := by kernel_rfl
@[simp] theorem concrete_47 : E.P.concrete 47 = true := by kernel_rfl
@[simp] theorem concrete_74 : E.P.concrete 74 = true := by kernel_rfl
@[simp] theorem concrete_9 : E.P.concrete 9 = true := by kernel_rfl
@[simp] theorem fieldT_103_0 : fieldT E.P 103 0 = some 0 := by kernel_rfl
@[simp] theorem fieldT_103_1 : fieldT E.P 103 1 = some 1 := by kernel_rfl
@[simp] theorem fieldT_103_2 : fieldT E.P 103 2 = some 2 := by kernel_rfl
@[simp] theorem fieldT_103_3 : fieldT E.P 103 3 = some 3 := by kernel_rfl
@[simp] theorem fieldT_103_4 : fieldT E.P 103 4 = some 4 := by kernel_rfl
@[simp] theorem fieldT_115_0 : fieldT E.P 115 0 = some 0 := by kernel_rfl
@[simp] theorem fieldT_115_1 : fieldT E.P 115 1 = some 1 := by kernel_rfl
@[simp] theorem fieldT_115_2 : fieldT E.P 115 2 = some 2 := by kernel_rfl
@[simp] theorem fieldT_115_3 : fieldT E.P 115 3 = some 3 := by kernel_rfl
@[simp] theorem fieldT_118_0 : fieldT E.P 118 0 = some 0 := by kernel_rfl
@[simp] theorem fieldT_118_1 : fieldT E.P 118 1 = some 1 := by kernel_rfl
@[simp] theorem fieldT_123_0 : fieldT E.P 123 0 = some 0 := by kernel_rfl
@[simp] theorem fieldT_123_1 : fieldT E.P 123 1 = some 1 := by kernel_rfl
@[simp] theorem fieldT_129_0 : fieldT E.P 129 0 = some 0 := by kernel_rfl
@[simp] theorem fieldT_180_1 : fieldT E.P 180 1 = some 1 := by kernel_rfl
@[simp] theorem fieldT_36_0 : fieldT E.P 36 0 = some 0 := by kernel_rfl
@[simp] theorem fieldT_36_1 : fieldT E.P 36 1 = some 1 := by kernel_rfl
@[simp] theorem fieldT_36_2 : fieldT E.P 36 2 = some 2 := by kernel_rfl
@[simp] theorem fieldT_36_3 : fieldT E.P 36 3 = some 3 := by kernel_rfl
@[simp] theorem fieldT_36_4 : fieldT E.P 36 4 = some 4 := by kernel_rfl
@[simp] theorem fieldT_36_5 : fieldT E.P 36 5 = some 5 := by kernel_rfl
@[simp] theorem fieldT_36_6 : fieldT E.P 36 6 = some 6 := by kernel_rfl
@[simp] theorem fieldT_36_7 : fieldT E.P 36 7 = some 7 := by kernel_rfl
@[simp] theorem fieldT_38_0 : fieldT E.P 38 0 = some 0 := by kernel_rfl
@[simp] theorem fieldT_38_1 : fieldT E.P 38 1 = some 1 := by kernel_rfl
@[simp] theorem fieldT_38_2 : fieldT E.P 38 2 = some 2 := by kernel_rfl
@[simp] theorem fieldT_38_3 : fieldT E.P 38 3 = some 10 := by kernel_rfl
@[simp] theorem fieldT_45_0 : fieldT E.P 45 0 = some 0 := by kernel_rfl
@[simp] theorem fieldT_45_1 : fieldT E.P 45 1 = some 1 := by kernel_rfl
@[simp] theorem fieldT_45_2 : fieldT E.P 45 2 = some 2 := by kernel_rfl
@[simp] theorem fieldT_45_3 : fieldT E.P 45 3 = some 3 := by kernel_rfl
@[simp] theorem fieldT_45_4 : fieldT E.P 45 4 = some 4 := by kernel_rfl
@[simp] theorem fieldT_53_0 : fieldT E.P 53 0 = some 0 := by kernel_rfl
@[simp] theorem fieldT_53_1 : fieldT E.P 53 1 = some 1 := by kernel_rfl
@[simp] theorem fieldT_72_0 : fieldT E.P 72 0 = some 0 := by kernel_rfl
@[simp] theorem fieldT_72_1 : fieldT E.P 72 1 = some 1 := by kernel_rfl
@[simp] theorem fieldT_72_2 : fieldT E.P 72 2 = some 2 := by kernel_rfl
@[simp] theorem fieldT_72_3 : fieldT E.P 72 3 = some 3 := by kernel_rfl
@[simp] theorem fieldT_76_0 : fieldT E.P 76 0 = some 0 := by kernel_rfl
@[simp] theorem fieldT_76_1 : fieldT E.P 76 1 = some 1 := by kernel_rfl
@[simp] theorem fieldT_82_0 : fieldT E.P 82 0 = some 0 := by kernel_rfl
@[simp] theorem fieldT_82_1 : fieldT E.P 82 1 = some 1 := by kernel_rfl
@[simp] theorem fieldT_82_2 : fieldT E.P 82 2 = some 2 := by kernel_rfl
@[simp] theorem fieldT_82_3 : fieldT E.P 82 3 = some 3 := by kernel_rfl
@[simp] theorem fieldT_82_4 : fieldT E.P 82 4 = some 4 := by kernel_rfl
@[simp] theorem kindT_103 : kindT E.P 103 = Kd.struct := by kernel_rfl
@[simp] theorem kindT_113 : kindT E.P 113 = Kd.slice 9 := by kernel_rfl
@[simp] theorem kindT_133 : kindT E.P 133 = Kd.other := by kernel_rfl
@[simp] theorem kindT_177 : kindT E.P 177 = Kd.ptr := by kernel_rfl
@[simp] theorem kindT_178 : kindT E.P 178 = Kd.ptr := by kernel_rfl
@[simp] theorem kindT_20 : kindT E.P 20 = Kd.iface := by kernel_rfl
@[simp] theorem kindT_201 : kindT E.P 201 = Kd.int IntKind.u8 := by kernel_rfl
@[simp] theorem kindT_217 : kindT E.P 217 = Kd.slice 27 := by kernel_rfl
@[simp] theorem kindT_22 : kindT E.P 22 = Kd.slice 38 := by kernel_rfl
@[simp] theorem kindT_249 : kindT E.P 249 = Kd.ptr := by kernel_rfl
@[simp] theorem kindT_27 : kindT E.P 27 = Kd.iface := by kernel_rfl
@[simp] theorem kindT_3 : kindT E.P 3 = Kd.int IntKind.i64 := by kernel_rfl
@[simp] theorem kindT_33 : kindT E.P 33 = Kd.int IntKind.u64 := by kernel_rfl
@[simp] theorem kindT_34 : kindT E.P 34 = Kd.slice 36 := by kernel_rfl
@[simp] theorem kindT_36 : kindT E.P 36 = Kd.struct := by kernel_rfl
@[simp] theorem kindT_38 : kindT E.P 38 = Kd.struct := by kernel_rfl
@[simp] theorem kindT_4 : kindT E.P 4 = Kd.bool := by kernel_rfl
@[simp] theorem kindT_41 : kindT E.P 41 = Kd.slice 45 := by kernel_rfl
@[simp] theorem kindT_45 : kindT E.P 45 = Kd.struct := by kernel_rfl
@[simp] theorem kindT_47 : kindT E.P 47 = Kd.int IntKind.i64 := by kernel_rfl
@[simp] theorem kindT_5 : kindT E.P 5 = Kd.int IntKind.u8 := by kernel_rfl
@[simp] theorem kindT_50 : kindT E.P 50 = Kd.ptr := by kernel_rfl
@[simp] theorem kindT_51 : kindT E.P 51 = Kd.slice 5 := by kernel_rfl
@[simp] theorem kindT_67 : kindT E.P 67 = Kd.slice 3 := by kernel_rfl
@[simp] theorem kindT_74 : kindT E.P 74 = Kd.ptr := by kernel_rfl
@[simp] theorem kindT_89 : kindT E.P 89 = Kd.ptr := by kernel_rfl
@[simp] theorem kindT_9 : kindT E.P 9 = Kd.str := by kernel_rfl
@[simp] theorem kindT_97 : kindT E.P 97 = Kd.int IntKind.u64 := by kernel_rfl
@[simp] theorem kindT_99 : kindT E.P 99 = Kd.slice 103 := by kernel_rfl
@[simp] theorem partT_45_3 : partT E.P 45 3 = some (3, 1, false) := by kernel_rfl
@[simp] theorem placesT_103 : placesT E.P 103 = some [(0, 1), (1, 1), (2, 1), (3, 1), (4, 1)] := by kernel_rfl
@[simp] theorem placesT_115 : placesT E.P 115 = some [(0, 1), (1, 1), (2, 1), (3, 1)] := by kernel_rfl
@[simp] theorem placesT_118 : placesT E.P 118 = some [(0, 1), (1, 1)] := by kernel_rfl
@[simp] theorem placesT_123 : placesT E.P 123 = some [(0, 1), (1, 1)] := by kernel_rfl
@[simp] theorem placesT_180 : placesT E.P 180 = some [(0, 1), (1, 1)] := by kernel_rfl
@[simp] theorem placesT_36 : placesT E.P 36 = some [(0, 1), (1, 1), (2, 1), (3, 1), (4, 1), (5, 1), (6, 1), (7, 1)] := by kernel_rfl
@[simp] theorem placesT_38 : placesT E.P 38 = some [(0, 1), (1, 1), (2, 8), (10, 1)] := by kernel_rfl
@[simp] theorem placesT_45 : placesT E.P 45 = some [(0, 1), (1, 1), (2, 1), (3, 1), (4, 1)] := by kernel_rfl
@[simp] theorem placesT_72 : placesT E.P 72 = some [(0, 1), (1, 1), (2, 1), (3, 1)] := by kernel_rfl
@[simp] theorem placesT_76 : placesT E.P 76 = some [(0, 1), (1, 1)] := by kernel_rfl
@[simp] theorem placesT_82 : placesT E.P 82 = some [(0, 1), (1, 1), (2, 1), (3, 1), (4, 1)] := by kernel_rfl
@[simp] theorem shapeT_103 : shapeT E.P 103 = some (5, true) := by kernel_rfl
@[simp] theorem shapeT_113 : shapeT E.P 113 = some (1, false) := by kernel_rfl
@[simp] theorem shapeT_115 : shapeT E.P 115 = some (4, true) := by kernel_rfl
@[simp] theorem shapeT_118 : shapeT E.P 118 = some (2, true) := by kernel_rfl
@[simp] theorem shapeT_123 : shapeT E.P 123 = some (2, true) := by kernel_rfl
@[simp] theorem shapeT_196 : shapeT E.P 196 = some (3, true) := by kernel_rfl
@[simp] theorem shapeT_199 : shapeT E.P 199 = some (1, false) := by kernel_rfl
@[simp] theorem shapeT_22 : shapeT E.P 22 = some (1, false) := by kernel_rfl
@[simp] theorem shapeT_27 : shapeT E.P 27 = some (1, false) := by kernel_rfl
@[simp] theorem shapeT_3 : shapeT E.P 3 = some (1, false) := by kernel_rfl
@[simp] theorem shapeT_33 : shapeT E.P 33 = some (1, false) := by kernel_rfl
@[simp] theorem shapeT_34 : shapeT E.P 34 = some (1, false) := by kernel_rfl
@[simp] theorem shapeT_36 : shapeT E.P 36 = some (8, true) := by kernel_rfl
@[simp] theorem shapeT_38 : shapeT E.P 38 = some (11, true) := by kernel_rfl
@[simp] theorem shapeT_4 : shapeT E.P 4 = some (1, false) := by kernel_rfl
@[simp] theorem shapeT_41 : shapeT E.P 41 = some (1, false) := by kernel_rfl
@[simp] theorem shapeT_45 : shapeT E.P 45 = some (5, true) := by kernel_rfl
@[simp] theorem shapeT_49 : shapeT E.P 49 = some (1, false) := by kernel_rfl
@[simp] theorem shapeT_5 : shapeT E.P 5 = some (1, false) := by kernel_rfl
@[simp] theorem shapeT_50 : shapeT E.P 50 = some (1, false) := by kernel_rfl
@[simp] theorem shapeT_51 : shapeT E.P 51 = some (1, false) := by kernel_rfl
@[simp] theorem shapeT_74 : shapeT E.P 74 = some (1, false) := by kernel_rfl
@[simp] theorem shapeT_85 : shapeT E.P 85 = some (1, false) := by kernel_rfl
@[simp] theorem shapeT_9 : shapeT E.P 9 = some (1, false) := by kernel_rfl
@[simp] theorem szT_103 : szT E.P 103 = some 5 := by kernel_rfl
@[simp] theorem szT_113 : szT E.P 113 = some 1 := by kernel_rfl
@[simp] theorem szT_115 : szT E.P 115 = some 4 := by kernel_rfl
@[simp] theorem szT_118 : szT E.P 118 = some 2 := by kernel_rfl
@[simp] theorem szT_123 : szT E.P 123 = some 2 := by kernel_rfl
@[simp] theorem szT_196 : szT E.P 196 = some 3 := by kernel_rfl
@[simp] theorem szT_199 : szT E.P 199 = some 1 := by kernel_rfl
@[simp] theorem szT_22 : szT E.P 22 = some 1 := by kernel_rfl
@[simp] theorem szT_27 : szT E.P 27 = some 1 := by kernel_rfl
@[simp] theorem szT_3 : szT E.P 3 = some 1 := by kernel_rfl
@[simp] theorem szT_33 : szT E.P 33 = some 1 := by kernel_rfl
@[simp] theorem szT_34 : szT E.P 34 = some 1 := by kernel_rfl
@[simp] theorem szT_36 : szT E.P 36 = some 8 := by kernel_rfl
@[simp] theorem szT_38 : szT E.P 38 = some 11 := by kernel_rfl
@[simp] theorem szT_4 : szT E.P 4 = some 1 := by kernel_rfl
@[simp] theorem szT_41 : szT E.P 41 = some 1 := by kernel_rfl
@[simp] theorem szT_45 : szT E.P 45 = some 5 := by kernel_rfl
@[simp] theorem szT_5 : szT E.P 5 = some 1 := by kernel_rfl
@[simp] theorem szT_50 : szT E.P 50 = some 1 := by kernel_rfl
@[simp] theorem szT_51 : szT E.P 51 = some 1 := by kernel_rfl
@[simp] theorem szT_9 : szT E.P 9 = some 1 := by kernel_rfl
@[simp] theorem und_133 : (E.P.underlying 133).isSome = true := by kernel_rfl
@[simp] theorem und_3 : (E.P.underlying 3).isSome = true := by kernel_rfl
@[simp] theorem und_33 : (E.P.underlying 33).isSome = true := by kernel_rfl
@[simp] theorem und_5 : (E.P.underlying 5).isSome = true := by kernel_rfl
@[simp] theorem und_50 : (E.P.underlying 50).isSome = true := by kernel_rfl
@[simp] theorem und_51 : (E.P.underlying 51).isSome = true := by kernel_rfl
@[simp] theorem und_9 : (E.P.underlying 9).isSome = true := by kernel_rfl
@[simp] theorem zeroT_103 : zeroT E.P 103 = some [A.int IntKind.i64 0, A.int IntKind.i64 0, A.int IntKind.u64 0, A.str [], A.str []] := by kernel_rfl
@[simp] theorem zeroT_115 : zeroT E.P 115 = some [A.int IntKind.i64 0, A.int IntKind.u64 0, A.str [], A.nils] := by kernel_rfl
@[simp] theorem zeroT_118 : zeroT E.P 118 = some [A.nils, A.str []] := by kernel_rfl
@[simp] theorem zeroT_123 : zeroT E.P 123 = some [A.nils, A.str []] := by kernel_rfl
@[simp] theorem zeroT_129 : zeroT E.P 129 = some [A.nilp, A.nils] := by kernel_rfl
@[simp] theorem zeroT_180 : zeroT E.P 180 = some [A.int IntKind.i64 0, A.nili] := by kernel_rfl
@[simp] theorem zeroT_196 : zeroT E.P 196 = some [A.nilp, A.nilp, A.int IntKind.u64 0] := by kernel_rfl
@[simp] theorem zeroT_27 : zeroT E.P 27 = some [A.nili] := by kernel_rfl
@[simp] theorem zeroT_3 : zeroT E.P 3 = some [A.int IntKind.i64 0] := by kernel_rfl
@[simp] theorem zeroT_36 : zeroT E.P 36 = some [A.int IntKind.i64 0, A.str [], A.bool false, A.int IntKind.u64 0, A.nils, A.nils, A.str [], A.str []] := by kernel_rfl
@[simp] theorem zeroT_38 : zeroT E.P 38 = some [A.str [], A.bool false, A.int IntKind.i64 0, A.str [], A.bool false, A.int IntKind.u64 0, A.nils, A.nils, A.str [], A.str [], A.str []] := by kernel_rfl
@[simp] theorem zeroT_45 : zeroT E.P 45 = some [A.int IntKind.i64 0, A.int IntKind.i64 0, A.int IntKind.u64 0, A.str [], A.str []] := by kernel_rfl
@[simp] theorem zeroT_5 : zeroT E.P 5 = some [A.int IntKind.u8 0] := by kernel_rfl
@[simp] theorem zeroT_53 : zeroT E.P 53 = some [A.nilp, A.nils] := by kernel_rfl
@[simp] theorem zeroT_72 : zeroT E.P 72 = some [A.str [], A.int IntKind.i64 0, A.nili, A.int IntKind.i64 0] := by kernel_rfl
@[simp] theorem zeroT_74 : zeroT E.P 74 = some [A.nilp] := by kernel_rfl
@[simp] theorem zeroT_76 : zeroT E.P 76 = some [A.int IntKind.i64 0, A.nili] := by kernel_rfl
@[simp] theorem zeroT_82 : zeroT E.P 82 = some [A.nili, A.str [], A.int IntKind.i64 0, A.int IntKind.i64 0, A.nils] := by kernel_rfl
@[simp] theorem zeroT_9 : zeroT E.P 9 = some [A.str []] := by kernel_rfl
@[simp] theorem frz_177 : E.frz 177 = false := by kernel_rfl
@[simp] theorem frz_178 : E.frz 178 = true := by kernel_rfl
@[simp] theorem frz_249 : E.frz 249 = false := by kernel_rfl
@[simp] theorem frz_47 : E.frz 47 = false := by kernel_rfl
@[simp] theorem frz_74 : E.frz 74 = true := by kernel_rfl
@[simp] theorem frz_9 : E.frz 9 = false := by kernel_rfl
@[simp] theorem draw_3_12 : E.draw 3 12 = some [] := by kernel_rfl
@[simp] theorem draw_9_6 : E.draw 9 6 = some [] := by kernel_rfl
@[simp] theorem draw_13_6 : E.draw 13 6 = some [(12, 7)] := by kernel_rfl
@[simp] theorem draw_14_1 : E.draw 14 1 = some [(10, 12)] := by kernel_rfl
@[simp] theorem draw_15_6 : E.draw 15 6 = some [(3, 4)] := by kernel_rfl
@[simp] theorem draw_17_2 : E.draw 17 2 = some [(5, 1)] := by kernel_rfl
@[simp] theorem draw_17_5 : E.draw 17 5 = some [(4, 5)] := by kernel_rfl
@[simp] theorem draw_21_1 : E.draw 21 1 = some [] := by kernel_rfl
@[simp] theorem draw_29_3 : E.draw 29 3 = some [(6, 4), (10, 4), (10, 8)] := by kernel_rfl
@[simp] theorem draw_33_1 : E.draw 33 1 = some [(14, 16)] := by kernel_rfl
@[simp] theorem draw_33_6 : E.draw 33 6 = some [(17, 20)] := by kernel_rfl
@[simp] theorem draw_34_8 : E.draw 34 8 = some [] := by kernel_rfl
@[simp] theorem draw_35_14 : E.draw 35 14 = some [(5, 4)] := by kernel_rfl
@[simp] theorem draw_39_4 : E.draw 39 4 = some [] := by kernel_rfl
@[simp] theorem draw_39_15 : E.draw 39 15 = some [(1, 2)] := by kernel_rfl
@[simp] theorem draw_39_16 : E.draw 39 16 = some [(3, 5)] := by kernel_rfl
@[simp] theorem draw_39_18 : E.draw 39 18 = some [(1, 2)] := by kernel_rfl
@[simp] theorem draw_39_19 : E.draw 39 19 = some [(3, 5)] := by kernel_rfl
@[simp] theorem draw_39_21 : E.draw 39 21 = some [(4, 5)] := by kernel_rfl
@[simp] theorem draw_45_6 : E.draw 45 6 = some [] := by kernel_rfl
@[simp] theorem draw_54_4 : E.draw 54 4 = some [] := by kernel_rfl
@[simp] theorem draw_59_2 : E.draw 59 2 = some [(6, 10)] := by kernel_rfl
@[simp] theorem draw_64_8 : E.draw 64 8 = some [(3, 5)] := by kernel_rfl
@[simp] theorem draw_65_1 : E.draw 65 1 = some [(2, 5)] := by kernel_rfl
@[simp] theorem draw_67_1 : E.draw 67 1 = some [(2, 5)] := by kernel_rfl
@[simp] theorem draw_95_3 : E.draw 95 3 = some [] := by kernel_rfl
@[simp] theorem draw_98_1 : E.draw 98 1 = some [] := by kernel_rfl
@[simp] theorem draw_98_6 : E.draw 98 6 = some [] := by kernel_rfl
@[simp] theorem draw_106_3 : E.draw 106 3 = some [(9, 10)] := by kernel_rfl
@[simp] theorem draw_110_3 : E.draw 110 3 = some [(9, 10)] := by kernel_rfl
@[simp] theorem draw_133_3 : E.draw 133 3 = some [] := by kernel_rfl
@[simp] theorem draw_152_0 : E.draw 152 0 = some [(12, 8)] := by kernel_rfl
@[simp] theorem draw_153_2 : E.draw 153 2 = some [] := by kernel_rfl
@[simp] theorem live_3_10 : E.live 3 10 = [0, 1, 4, 7, 8] := by kernel_rfl
@[simp] theorem live_3_16 : E.live 3 16 = [0, 1, 7, 9, 10] := by kernel_rfl
@[simp] theorem live_6_2 : E.live 6 2 = [0, 1, 4, 5] := by kernel_rfl
@[simp] theorem live_7_7 : E.live 7 7 = [1, 4, 5, 8, 9, 23, 24, 25] := by kernel_rfl
@[simp] theorem live_8_3 : E.live 8 3 = [3, 8, 9, 10] := by kernel_rfl
@[simp] theorem live_9_4 : E.live 9 4 = [0, 1, 4, 5] := by kernel_rfl
@[simp] theorem live_13_4 : E.live 13 4 = [0, 1, 2, 7] := by kernel_rfl
@[simp] theorem live_15_3 : E.live 15 3 = [0, 4, 5, 6, 7] := by kernel_rfl
@[simp] theorem live_29_5 : E.live 29 5 = [1, 2, 3, 7] := by kernel_rfl
@[simp] theorem live_31_3 : E.live 31 3 = [2, 6, 7, 8, 9] := by kernel_rfl
@[simp] theorem live_33_9 : E.live 33 9 = [1, 2, 4, 6] := by kernel_rfl
@[simp] theorem live_35_11 : E.live 35 11 = [2, 7, 10, 37, 38, 39] := by kernel_rfl
@[simp] theorem live_38_4 : E.live 38 4 = [0, 1, 2, 6, 8, 9, 16, 17, 18] := by kernel_rfl
@[simp] theorem live_44_2 : E.live 44 2 = [0, 3] := by kernel_rfl
@[simp] theorem live_45_4 : E.live 45 4 = [2, 3, 4, 5] := by kernel_rfl
@[simp] theorem live_52_2 : E.live 52 2 = [0, 2, 3] := by kernel_rfl
@[simp] theorem live_54_2 : E.live 54 2 = [0, 3, 4, 5] := by kernel_rfl
@[simp] theorem live_60_1 : E.live 60 1 = [0, 1, 9, 10, 11] := by kernel_rfl
@[simp] theorem live_61_2 : E.live 61 2 = [0, 1, 4, 5] := by kernel_rfl
@[simp] theorem live_64_3 : E.live 64 3 = [1, 4, 5, 11, 12, 13] := by kernel_rfl
@[simp] theorem live_70_3 : E.live 70 3 = [2, 6, 8, 17, 18, 19] := by kernel_rfl
@[simp] theorem live_71_8 : E.live 71 8 = [1, 2, 4, 40, 41, 42] := by kernel_rfl
@[simp] theorem live_93_22 : E.live 93 22 = [0, 1, 4, 6, 7, 8, 9] := by kernel_rfl
@[simp] theorem live_94_3 : E.live 94 3 = [0, 1, 4, 5, 6, 7] := by kernel_rfl
@[simp] theorem live_97_3 : E.live 97 3 = [5, 12, 13, 14] := by kernel_rfl
@[simp] theorem live_99_3 : E.live 99 3 = [0, 1] := by kernel_rfl
@[simp] theorem live_105_12 : E.live 105 12 = [0, 1, 5, 39, 40, 41] := by kernel_rfl
@[simp] theorem live_105_22 : E.live 105 22 = [1, 8, 63, 64, 65] := by kernel_rfl
@[simp] theorem live_108_3 : E.live 108 3 = [0, 1, 2, 7, 13, 14, 15] := by kernel_rfl
@[simp] theorem live_111_3 : E.live 111 3 = [0, 1, 2, 7, 13, 14, 15] := by kernel_rfl
@[simp] theorem live_114_2 : E.live 114 2 = [1, 4, 7, 8, 9] := by kernel_rfl
@[simp] theorem live_115_4 : E.live 115 4 = [1, 2, 6, 15, 16, 17] := by kernel_rfl
@[simp] theorem live_119_3 : E.live 119 3 = [1, 2, 7, 10, 11, 12] := by kernel_rfl
@[simp] theorem live_120_3 : E.live 120 3 = [1, 2, 7, 10, 11, 12] := by kernel_rfl
@[simp] theorem live_132_2 : E.live 132 2 = [0, 1, 4, 7, 8] := by kernel_rfl
@[simp] theorem live_135_2 : E.live 135 2 = [0, 1, 5] := by kernel_rfl
@[simp] theorem live_138_4 : E.live 138 4 = [1, 2, 6, 15, 16, 17] := by kernel_rfl
@[simp] theorem live_144_5 : E.live 144 5 = [0, 1, 4, 5, 6, 7, 8] := by kernel_rfl
@[simp] theorem live_145_3 : E.live 145 3 = [0, 3, 4] := by kernel_rfl
@[simp] theorem live_146_3 : E.live 146 3 = [0, 1, 2, 3, 8, 9] := by kernel_rfl
@[simp] theorem live_147_3 : E.live 147 3 = [0, 2, 3, 4, 5, 10, 11] := by kernel_rfl
@[simp] theorem live_151_1 : E.live 151 1 = [0, 1, 3, 6, 8] := by kernel_rfl
@[simp] theorem live_151_18 : E.live 151 18 = [1, 3, 6, 8, 48, 49, 50] := by kernel_rfl
@[simp] theorem live_153_5 : E.live 153 5 = [0, 2, 3, 4] := by kernel_rfl
@[simp] theorem live_154_3 : E.live 154 3 = [0, 3, 7, 8] := by kernel_rfl
noncomputable def L_3_10 : Code := ((Tryz.f3.body.getD .skip).loopAt 10).getD .skip
noncomputable def L_3_16 : Code := ((Tryz.f3.body.getD .skip).loopAt 16).getD .skip
noncomputable def L_6_2 : Code := ((Tryz.f6.body.getD .skip).loopAt 2).getD .skip
noncomputable def L_7_7 : Code := ((Tryz.f7.body.getD .skip).loopAt 7).getD .skip
noncomputable def L_8_3 : Code := ((Tryz.f8.body.getD .skip).loopAt 3).getD .skip
noncomputable def L_9_4 : Code := ((Tryz.f9.body.getD .skip).loopAt 4).getD .skip
noncomputable def L_13_4 : Code := ((Tryz.f13.body.getD .skip).loopAt 4).getD .skip
noncomputable def L_15_3 : Code := ((Tryz.f15.body.getD .skip).loopAt 3).getD .skip
noncomputable def L_29_5 : Code := ((Tryz.f29.body.getD .skip).loopAt 5).getD .skip
noncomputable def L_31_3 : Code := ((Tryz.f31.body.getD .skip).loopAt 3).getD .skip
noncomputable def L_33_9 : Code := ((Tryz.f33.body.getD .skip).loopAt 9).getD .skip
noncomputable def L_35_11 : Code := ((Tryz.f35.body.getD .skip).loopAt 11).getD .skip
noncomputable def L_38_4 : Code := ((Tryz.f38.body.getD .skip).loopAt 4).getD .skip
noncomputable def L_44_2 : Code := ((Tryz.f44.body.getD .skip).loopAt 2).getD .skip
noncomputable def L_45_4 : Code := ((Tryz.f45.body.getD .skip).loopAt 4).getD .skip
noncomputable def L_52_2 : Code := ((Tryz.f52.body.getD .skip).loopAt 2).getD .skip
noncomputable def L_54_2 : Code := ((Tryz.f54.body.getD .skip).loopAt 2).getD .skip
noncomputable def L_60_1 : Code := ((Tryz.f60.body.getD .skip).loopAt 1).getD .skip
noncomputable def L_61_2 : Code := ((Tryz.f61.body.getD .skip).loopAt 2).getD .skip
noncomputable def L_64_3 : Code := ((Tryz.f64.body.getD .skip).loopAt 3).getD .skip
noncomputable def L_70_3 : Code := ((Tryz.f70.body.getD .skip).loopAt 3).getD .skip
noncomputable def L_71_8 : Code := ((Tryz.f71.body.getD .skip).loopAt 8).getD .skip
noncomputable def L_93_22 : Code := ((Tryz.f93.body.getD .skip).loopAt 22).getD .skip
noncomputable def L_94_3 : Code := ((Tryz.f94.body.getD .skip).loopAt 3).getD .skip
noncomputable def L_97_3 : Code := ((Tryz.f97.body.getD .skip).loopAt 3).getD .skip
noncomputable def L_99_3 : Code := ((Tryz.f99.body.getD .skip).loopAt 3).getD .skip
noncomputable def L_105_12 : Code := ((Tryz.f105.body.getD .skip).loopAt 12).getD .skip
noncomputable def L_105_22 : Code := ((Tryz.f105.body.getD .skip).loopAt 22).getD .skip
noncomputable def L_108_3 : Code := ((Tryz.f108.body.getD .skip).loopAt 3).getD .skip
noncomputable def L_111_3 : Code := ((Tryz.f111.body.getD .skip).loopAt 3).getD .skip
noncomputable def L_114_2 : Code := ((Tryz.f114.body.getD .skip).loopAt 2).getD .skip
noncomputable def L_115_4 : Code := ((Tryz.f115.body.getD .skip).loopAt 4).getD .skip
noncomputable def L_119_3 : Code := ((Tryz.f119.body.getD .skip).loopAt 3).getD .skip
noncomputable def L_120_3 : Code := ((Tryz.f120.body.getD .skip).loopAt 3).getD .skip
noncomputable def L_132_2 : Code := ((Tryz.f132.body.getD .skip).loopAt 2).getD .skip
noncomputable def L_135_2 : Code := ((Tryz.f135.body.getD .skip).loopAt 2).getD .skip
noncomputable def L_138_4 : Code := ((Tryz.f138.body.getD .skip).loopAt 4).getD .skip
noncomputable def L_144_5 : Code := ((Tryz.f144.body.getD .skip).loopAt 5).getD .skip
noncomputable def L_145_3 : Code := ((Tryz.f145.body.getD .skip).loopAt 3).getD .skip
noncomputable def L_146_3 : Code := ((Tryz.f146.body.getD .skip).loopAt 3).getD .skip
noncomputable def L_147_3 : Code := ((Tryz.f147.body.getD .skip).loopAt 3).getD .skip
noncomputable def L_151_1 : Code := ((Tryz.f151.body.getD .skip).loopAt 1).getD .skip
noncomputable def L_151_18 : Code := ((Tryz.f151.body.getD .skip).loopAt 18).getD .skip
noncomputable def L_153_5 : Code := ((Tryz.f153.body.getD .skip).loopAt 5).getD .skip
noncomputable def L_154_3 : Code := ((Tryz.f154.body.getD .skip).loopAt 3).getD .skip
@[simp] theorem key_3_10 : L_3_10.key = 10 := by kernel_rfl
@[simp] theorem key_3_16 : L_3_16.key = 16 := by kernel_rfl
@[simp] theorem key_6_2 : L_6_2.key = 2 := by kernel_rfl
@[simp] theorem key_7_7 : L_7_7.key = 7 := by kernel_rfl
@[simp] theorem key_8_3 : L_8_3.key = 3 := by kernel_rfl
@[simp] theorem key_9_4 : L_9_4.key = 4 := by kernel_rfl
@[simp] theorem key_13_4 : L_13_4.key = 4 := by kernel_rfl
@[simp] theorem key_15_3 : L_15_3.key = 3 := by kernel_rfl
@[simp] theorem key_29_5 : L_29_5.key = 5 := by kernel_rfl
@[simp] theorem key_31_3 : L_31_3.key = 3 := by kernel_rfl
@[simp] theorem key_33_9 : L_33_9.key = 9 := by kernel_rfl
@[simp] theorem key_35_11 : L_35_11.key = 11 := by kernel_rfl
@[simp] theorem key_38_4 : L_38_4.key = 4 := by kernel_rfl
@[simp] theorem key_44_2 : L_44_2.key = 2 := by kernel_rfl
@[simp] theorem key_45_4 : L_45_4.key = 4 := by kernel_rfl
@[simp] theorem key_52_2 : L_52_2.key = 2 := by kernel_rfl
@[simp] theorem key_54_2 : L_54_2.key = 2 := by kernel_rfl
@[simp] theorem key_60_1 : L_60_1.key = 1 := by kernel_rfl
@[simp] theorem key_61_2 : L_61_2.key = 2 := by kernel_rfl
@[simp] theorem key_64_3 : L_64_3.key = 3 := by kernel_rfl
@[simp] theorem key_70_3 : L_70_3.key = 3 := by kernel_rfl
@[simp] theorem key_71_8 : L_71_8.key = 8 := by kernel_rfl
@[simp] theorem key_93_22 : L_93_22.key = 22 := by kernel_rfl
@[simp] theorem key_94_3 : L_94_3.key = 3 := by kernel_rfl
@[simp] theorem key_97_3 : L_97_3.key = 3 := by kernel_rfl
@[simp] theorem key_99_3 : L_99_3.key = 3 := by kernel_rfl
@[simp] theorem key_105_12 : L_105_12.key = 12 := by kernel_rfl
@[simp] theorem key_105_22 : L_105_22.key = 22 := by kernel_rfl
@[simp] theorem key_108_3 : L_108_3.key = 3 := by kernel_rfl
@[simp] theorem key_111_3 : L_111_3.key = 3 := by kernel_rfl
@[simp] theorem key_114_2 : L_114_2.key = 2 := by kernel_rfl
@[simp] theorem key_115_4 : L_115_4.key = 4 := by kernel_rfl
@[simp] theorem key_119_3 : L_119_3.key = 3 := by kernel_rfl
@[simp] theorem key_120_3 : L_120_3.key = 3 := by kernel_rfl
@[simp] theorem key_132_2 : L_132_2.key = 2 := by kernel_rfl
@[simp] theorem key_135_2 : L_135_2.key = 2 := by kernel_rfl
@[simp] theorem key_138_4 : L_138_4.key = 4 := by kernel_rfl
@[simp] theorem key_144_5 : L_144_5.key = 5 := by kernel_rfl
@[simp] theorem key_145_3 : L_145_3.key = 3 := by kernel_rfl
@[simp] theorem key_146_3 : L_146_3.key = 3 := by kernel_rfl
@[simp] theorem key_147_3 : L_147_3.key = 3 := by kernel_rfl
@[simp] theorem key_151_1 : L_151_1.key = 1 := by kernel_rfl
@[simp] theorem key_151_18 : L_151_18.key = 18 := by kernel_rfl
@[simp] theorem key_153_5 : L_153_5.key = 5 := by kernel_rfl
@[simp] theorem key_154_3 : L_154_3.key = 3 := by kernel_rfl
theorem eq_2 {p : Id} {args : List A} {h : Heap} : callW E p 2 args h = (execW E 2 p ((Tryz.f2.body).getD .skip) (initFr args) 0 h).bind (resX E.P false p Tryz.f2.results.toList) := callW_eq Tryz.f2 (by kernel_rfl) (by kernel_rfl) (by kernel_rfl) rfl (by kernel_rfl)
theorem rd_3_10 {p : Id} {L : List Nat} {c0 c : Nat} {fr : Fr} {h : Heap} : iterW E 3 p L L_3_10 c0 fr c h = (execW E 3 p ((((Tryz.f3.body).getD .skip).loopAt 10).getD .skip) fr c h).bind (loopX E 3 p L L_3_10 c0) := iterW_eq2 (by kernel_rfl)
theorem rd_3_16 {p : Id} {L : List Nat} {c0 c : Nat} {fr : Fr} {h : Heap} : iterW E 3 p L L_3_16 c0 fr c h = (execW E 3 p ((((Tryz.f3.body).getD .skip).loopAt 16).getD .skip) fr c h).bind (loopX E 3 p L L_3_16 c0) := iterW_eq2 (by kernel_rfl)
theorem eq_3 {p : Id} {args : List A} {h : Heap} : callW E p 3 args h = (execW E 3 p (((Tryz.f3.body).getD .skip).hide [(10, L_3_10), (16, L_3_16)]) (initFr args) 0 h).bind (resX E.P false p Tryz.f3.results.toList) := callW_eq Tryz.f3 (by kernel_rfl) (by kernel_rfl) (by kernel_rfl) rfl (by kernel_rfl)
theorem eq_4 {p : Id} {args : List A} {h : Heap} : callW E p 4 args h = (execW E 4 p ((Tryz.f4.body).getD .skip) (initFr args) 0 h).bind (resX E.P false p Tryz.f4.results.toList) := callW_eq Tryz.f4 (by kernel_rfl) (by kernel_rfl) (by kernel_rfl) rfl (by kernel_rfl)
theorem eq_5 {p : Id} {args : List A} {h : Heap} : callW E p 5 args h = (execW E 5 p ((Tryz.f5.body).getD .skip) (initFr args) 0 h).bind (resX E.P false p Tryz.f5.results.toList) := callW_eq Tryz.f5 (by kernel_rfl) (by kernel_rfl) (by kernel_rfl) rfl (by kernel_rfl)
theorem rd_6_2 {p : Id} {L : List Nat} {c0 c : Nat} {fr : Fr} {h : Heap} : iterW E 6 p L L_6_2 c0 fr c h = (execW E 6 p ((((Tryz.f6.body).getD .skip).loopAt 2).getD .skip) fr c h).bind (loopX E 6 p L L_6_2 c0) := iterW_eq2 (by kernel_rfl)
theorem eq_6 {p : Id} {args : List A} {h : Heap} : callW E p 6 args h = (execW E 6 p (((Tryz.f6.body).getD .skip).hide [(2, L_6_2)]) (initFr args) 0 h).bind (resX E.P false p Tryz.f6.results.toList) := callW_eq Tryz.f6 (by kernel_rfl) (by kernel_rfl) (by kernel_rfl) rfl (by kernel_rfl)
theorem rd_7_7 {p : Id} {L : List Nat} {c0 c : Nat} {fr : Fr} {h : Heap} : iterW E 7 p L L_7_7 c0 fr c h = (execW E 7 p ((((Tryz.f7.body).getD .skip).loopAt 7).getD .skip) fr c h).bind (loopX E 7 p L L_7_7 c0) := iterW_eq2 (by kernel_rfl)
theorem eq_7 {p : Id} {args : List A} {h : Heap} : callW E p 7 args h = (execW E 7 p (((Tryz.f7.body).getD .skip).hide [(7, L_7_7)]) (initFr args) 0 h).bind (resX E.P false p Tryz.f7.results.toList) := callW_eq Tryz.f7 (by kernel_rfl) (by kernel_rfl) (by kernel_rfl) rfl (by kernel_rfl)
theorem rd_8_3 {p : Id} {L : List Nat} {c0 c : Nat} {fr : Fr} {h : Heap} : iterW E 8 p L L_8_3 c0 fr c h = (execW E 8 p ((((Tryz.f8.body).getD .skip).loopAt 3).getD .skip) fr c h).bind (loopX E 8 p L L_8_3 c0) := iterW_eq2 (by kernel_rfl)
theorem eq_8 {p : Id} {args : List A} {h : Heap} : callW E p 8 args h = (execW E 8 p (((Tryz.f8.body).getD .skip).hide [(3, L_8_3)]) (initFr args) 0 h).bind (resX E.P false p Tryz.f8.results.toList) := callW_eq Tryz.f8 (by kernel_rfl) (by kernel_rfl) (by kernel_rfl) rfl (by kernel_rfl)
theorem rd_9_4 {p : Id} {L : List Nat} {c0 c : Nat} {fr : Fr} {h : Heap} : iterW E 9 p L L_9_4 c0 fr c h = (execW E 9 p ((((Tryz.f9.body).getD .skip).loopAt 4).getD .skip) fr c h).bind (loopX E 9 p L L_9_4 c0) := iterW_eq2 (by kernel_rfl)
theorem eq_9 {p : Id} {args : List A} {h : Heap} : callW E p 9 args h = (execW E 9 p (((Tryz.f9.body).getD .skip).hide [(4, L_9_4)]) (initFr args) 0 h).bind (resX E.P false p Tryz.f9.results.toList) := callW_eq Tryz.f9 (by kernel_rfl) (by kernel_rfl) (by kernel_rfl) rfl (by kernel_rfl)
theorem eq_11 {p : Id} {args : List A} {h : Heap} : callW E p 11 args h = (execW E 11 p ((Tryz.f11.body).getD .skip) (initFr args) 0 h).bind (resX E.P false p Tryz.f11.results.toList) := callW_eq Tryz.f11 (by kernel_rfl) (by kernel_rfl) (by kernel_rfl) rfl (by kernel_rfl)
theorem rd_13_4 {p : Id} {L : List Nat} {c0 c : Nat} {fr : Fr} {h : Heap} : iterW E 13 p L L_13_4 c0 fr c h = (execW E 13 p ((((Tryz.f13.body).getD .skip).loopAt 4).getD .skip) fr c h).bind (loopX E 13 p L L_13_4 c0) := iterW_eq2 (by kernel_rfl)
theorem eq_13 {p : Id} {args : List A} {h : Heap} : callW E p 13 args h = (execW E 13 p (((Tryz.f13.body).getD .skip).hide [(4, L_13_4)]) (initFr args) 0 h).bind (resX E.P false p Tryz.f13.results.toList) := callW_eq Tryz.f13 (by kernel_rfl) (by kernel_rfl) (by kernel_rfl) rfl (by kernel_rfl)
theorem eq_14 {p : Id} {args : List A} {h : Heap} : callW E p 14 args h = (execW E 14 p ((Tryz.f14.body).getD .skip) (initFr args) 0 h).bind (resX E.P false p Tryz.f14.results.toList) := callW_eq Tryz.f14 (by kernel_rfl) (by kernel_rfl) (by kernel_rfl) rfl (by kernel_rfl)
theorem rd_15_3 {p : Id} {L : List Nat} {c0 c : Nat} {fr : Fr} {h : Heap} : iterW E 15 p L L_15_3 c0 fr c h = (execW E 15 p ((((Tryz.f15.body).getD .skip).loopAt 3).getD .skip) fr c h).bind (loopX E 15 p L L_15_3 c0) := iterW_eq2 (by kernel_rfl)
theorem eq_15 {p : Id} {args : List A} {h : Heap} : callW E p 15 args h = (execW E 15 p (((Tryz.f15.body).getD .skip).hide [(3, L_15_3)]) (initFr args) 0 h).bind (resX E.P false p Tryz.f15.results.toList) := callW_eq Tryz.f15 (by kernel_rfl) (by kernel_rfl) (by kernel_rfl) rfl (by kernel_rfl)
theorem eq_16 {p : Id} {args : List A} {h : Heap} : callW E p 16 args h = (execW E 16 p ((Tryz.f16.body).getD .skip) (initFr args) 0 h).bind (resX E.P false p Tryz.f16.results.toList) := callW_eq Tryz.f16 (by kernel_rfl) (by kernel_rfl) (by kernel_rfl) rfl (by kernel_rfl)
theorem eq_17 {p : Id} {args : List A} {h : Heap} : callW E p 17 args h = (execW E 17 p ((Tryz.f17.body).getD .skip) (initFr args) 0 h).bind (resX E.P false p Tryz.f17.results.toList) := callW_eq Tryz.f17 (by kernel_rfl) (by kernel_rfl) (by kernel_rfl) rfl (by kernel_rfl)
theorem eq_18 {p : Id} {args : List A} {h : Heap} : callW E p 18 args h = (execW E 18 p ((Tryz.f18.body).getD .skip) (initFr args) 0 h).bind (resX E.P false p Tryz.f18.results.toList) := callW_eq Tryz.f18 (by kernel_rfl) (by kernel_rfl) (by kernel_rfl) rfl (by kernel_rfl)
theorem eq_19 {p : Id} {args : List A} {h : Heap} : callW E p 19 args h = (execW E 19 p ((Tryz.f19.body).getD .skip) (initFr args) 0 h).bind (resX E.P false p Tryz.f19.results.toList) := callW_eq Tryz.f19 (by kernel_rfl) (by kernel_rfl) (by kernel_rfl) rfl (by kernel_rfl)
theorem eq_20 {p : Id} {args : List A} {h : Heap} : callW E p 20 args h = (execW E 20 p ((Tryz.f20.body).getD .skip) (initFr args) 0 h).bind (resX E.P false p Tryz.f20.results.toList) := callW_eq Tryz.f20 (by kernel_rfl) (by kernel_rfl) (by kernel_rfl) rfl (by kernel_rfl)
theorem eq_22 {p : Id} {args : List A} {h : Heap} : callW E p 22 args h = (execW E 22 p ((Tryz.f22.body).getD .skip) (initFr args) 0 h).bind (resX E.P false p Tryz.f22.results.toList) := callW_eq Tryz.f22 (by kernel_rfl) (by kernel_rfl) (by kernel_rfl) rfl (by kernel_rfl)
theorem eq_28 {p : Id} {args : List A} {h : Heap} : callW E p 28 args h = (execW E 28 p ((Tryz.f28.body).getD .skip) (initFr args) 0 h).bind (resX E.P false p Tryz.f28.results.toList) := callW_eq Tryz.f28 (by kernel_rfl) (by kernel_rfl) (by kernel_rfl) rfl (by kernel_rfl)
theorem rd_29_5 {p : Id} {L : List Nat} {c0 c : Nat} {fr : Fr} {h : Heap} : iterW E 29 p L L_29_5 c0 fr c h = (execW E 29 p ((((Tryz.f29.body).getD .skip).loopAt 5).getD .skip) fr c h).bind (loopX E 29 p L L_29_5 c0) := iterW_eq2 (by kernel_rfl)
theorem eq_29 {p : Id} {args : List A} {h : Heap} : callW E p 29 args h = (execW E 29 p (((Tryz.f29.body).getD .skip).hide [(5, L_29_5)]) (initFr args) 0 h).bind (resX E.P false p Tryz.f29.results.toList) := callW_eq Tryz.f29 (by kernel_rfl) (by kernel_rfl) (by kernel_rfl) rfl (by kernel_rfl)
theorem eq_30 {p : Id} {args : List A} {h : Heap} : callW E p 30 args h = (execW E 30 p ((Tryz.f30.body).getD .skip) (initFr args) 0 h).bind (resX E.P false p Tryz.f30.results.toList) := callW_eq Tryz.f30 (by kernel_rfl) (by kernel_rfl) (by kernel_rfl) rfl (by kernel_rfl)
theorem rd_31_3 {p : Id} {L : List Nat} {c0 c : Nat} {fr : Fr} {h : Heap} : iterW E 31 p L L_31_3 c0 fr c h = (execW E 31 p ((((Tryz.f31.body).getD .skip).loopAt 3).getD .skip) fr c h).bind (loopX E 31 p L L_31_3 c0) := iterW_eq2 (by kernel_rfl)
theorem eq_31 {p : Id} {args : List A} {h : Heap} : callW E p 31 args h = (execW E 31 p (((Tryz.f31.body).getD .skip).hide [(3, L_31_3)]) (initFr args) 0 h).bind (resX E.P false p Tryz.f31.results.toList) := callW_eq Tryz.f31 (by kernel_rfl) (by kernel_rfl) (by kernel_rfl) rfl (by kernel_rfl)
theorem eq_32 {p : Id} {args : List A} {h : Heap} : callW E p 32 args h = (execW E 32 p ((Tryz.f32.body).getD .skip) (initFr args) 0 h).bind (resX E.P false p Tryz.f32.results.toList) := callW_eq Tryz.f32 (by kernel_rfl) (by kernel_rfl) (by kernel_rfl) rfl (by kernel_rfl)
theorem rd_33_9 {p : Id} {L : List Nat} {c0 c : Nat} {fr : Fr} {h : Heap} : iterW E 33 p L L_33_9 c0 fr c h = (execW E 33 p ((((Tryz.f33.body).getD .skip).loopAt 9).getD .skip) fr c h).bind (loopX E 33 p L L_33_9 c0) := iterW_eq2 (by kernel_rfl)
theorem eq_33 {p : Id} {args : List A} {h : Heap} : callW E p 33 args h = (execW E 33 p (((Tryz.f33.body).getD .skip).hide [(9, L_33_9)]) (initFr args) 0 h).bind (resX E.P false p Tryz.f33.results.toList) := callW_eq Tryz.f33 (by kernel_rfl) (by kernel_rfl) (by kernel_rfl) rfl (by kernel_rfl)
theorem eq_34 {p : Id} {args : List A} {h : Heap} : callW E p 34 args h = (execW E 34 p ((Tryz.f34.body).getD .skip) (initFr args) 0 h).bind (resX E.P false p Tryz.f34.results.toList) := callW_eq Tryz.f34 (by kernel_rfl) (by kernel_rfl) (by kernel_rfl) rfl (by kernel_rfl)
theorem rd_35_11 {p : Id} {L : List Nat} {c0 c : Nat} {fr : Fr} {h : Heap} : iterW E 35 p L L_35_11 c0 fr c h = (execW E 35 p ((((Tryz.f35.body).getD .skip).loopAt 11).getD .skip) fr c h).bind (loopX E 35 p L L_35_11 c0) := iterW_eq2 (by kernel_rfl)
theorem eq_35 {p : Id} {args : List A} {h : Heap} : callW E p 35 args h = (execW E 35 p (((Tryz.f35.body).getD .skip).hide [(11, L_35_11)]) (initFr args) 0 h).bind (resX E.P true p Tryz.f35.results.toList) := callW_eq Tryz.f35 (by kernel_rfl) (by kernel_rfl) (by kernel_rfl) rfl (by kernel_rfl)
theorem eq_36 {p : Id} {args : List A} {h : Heap} : callW E p 36 args h = (execW E 36 p ((Tryz.f36.body).getD .skip) (initFr args) 0 h).bind (resX E.P false p Tryz.f36.results.toList) := callW_eq Tryz.f36 (by kernel_rfl) (by kernel_rfl) (by kernel_rfl) rfl (by kernel_rfl)
theorem eq_37 {p : Id} {args : List A} {h : Heap} : callW E p 37 args h = (execW E 37 p ((Tryz.f37.body).getD .skip) (initFr args) 0 h).bind (resX E.P false p Tryz.f37.results.toList) := callW_eq Tryz.f37 (by kernel_rfl) (by kernel_rfl) (by kernel_rfl) rfl (by kernel_rfl)
theorem rd_38_4 {p : Id} {L : List Nat} {c0 c : Nat} {fr : Fr} {h : Heap} : iterW E 38 p L L_38_4 c0 fr c h = (execW E 38 p ((((Tryz.f38.body).getD .skip).loopAt 4).getD .skip) fr c h).bind (loopX E 38 p L L_38_4 c0) := iterW_eq2 (by kernel_rfl)
theorem eq_38 {p : Id} {args : List A} {h : Heap} : callW E p 38 args h = (execW E 38 p (((Tryz.f38.body).getD .skip).hide [(4, L_38_4)]) (initFr args) 0 h).bind (resX E.P false p Tryz.f38.results.toList) := callW_eq Tryz.f38 (by kernel_rfl) (by kernel_rfl) (by kernel_rfl) rfl (by kernel_rfl)
theorem eq_39 {p : Id} {args : List A} {h : Heap} : callW E p 39 args h = (execW E 39 p ((Tryz.f39.body).getD .skip) (initFr args) 0 h).bind (resX E.P false p Tryz.f39.results.toList) := callW_eq Tryz.f39 (by kernel_rfl) (by kernel_rfl) (by kernel_rfl) rfl (by kernel_rfl)
theorem eq_40 {p : Id} {args : List A} {h : Heap} : callW E p 40 args h = (execW E 40 p ((Tryz.f40.body).getD .skip) (initFr args) 0 h).bind (resX E.P false p Tryz.f40.results.toList) := callW_eq Tryz.f40 (by kernel_rfl) (by kernel_rfl) (by kernel_rfl) rfl (by kernel_rfl)
theorem eq_41 {p : Id} {args : List A} {h : Heap} : callW E p 41 args h = (execW E 41 p ((Tryz.f41.body).getD .skip) (initFr args) 0 h).bind (resX E.P false p Tryz.f41.results.toList) := callW_eq Tryz.f41 (by kernel_rfl) (by kernel_rfl) (by kernel_rfl) rfl (by kernel_rfl)
theorem eq_43 {p : Id} {args : List A} {h : Heap} : callW E p 43 args h = (execW E 43 p ((Tryz.f43.body).getD .skip) (initFr args) 0 h).bind (resX E.P false p Tryz.f43.results.toList) := callW_eq Tryz.f43 (by kernel_rfl) (by kernel_rfl) (by kernel_rfl) rfl (by kernel_rfl)
theorem rd_44_2 {p : Id} {L : List Nat} {c0 c : Nat} {fr : Fr} {h : Heap} : iterW E 44 p L L_44_2 c0 fr c h = (execW E 44 p ((((Tryz.f44.body).getD .skip).loopAt 2).getD .skip) fr c h).bind (loopX E 44 p L L_44_2 c0) := iterW_eq2 (by kernel_rfl)
theorem eq_44 {p : Id} {args : List A} {h : Heap} : callW E p 44 args h = (execW E 44 p (((Tryz.f44.body).getD .skip).hide [(2, L_44_2)]) (initFr args) 0 h).bind (resX E.P false p Tryz.f44.results.toList) := callW_eq Tryz.f44 (by kernel_rfl) (by kernel_rfl) (by kernel_rfl) rfl (by kernel_rfl)
theorem rd_45_4 {p : Id} {L : List Nat} {c0 c : Nat} {fr : Fr} {h : Heap} : iterW E 45 p L L_45_4 c0 fr c h = (execW E 45 p ((((Tryz.f45.body).getD .skip).loopAt 4).getD .skip) fr c h).bind (loopX E 45 p L L_45_4 c0) := iterW_eq2 (by kernel_rfl)
theorem eq_45 {p : Id} {args : List A} {h : Heap} : callW E p 45 args h = (execW E 45 p (((Tryz.f45.body).getD .skip).hide [(4, L_45_4)]) (initFr args) 0 h).bind (resX E.P false p Tryz.f45.results.toList) := callW_eq Tryz.f45 (by kernel_rfl) (by kernel_rfl) (by kernel_rfl) rfl (by kernel_rfl)
theorem rd_52_2 {p : Id} {L : List Nat} {c0 c : Nat} {fr : Fr} {h : Heap} : iterW E 52 p L L_52_2 c0 fr c h = (execW E 52 p ((((Tryz.f52.body).getD .skip).loopAt 2).getD .skip) fr c h).bind (loopX E 52 p L L_52_2 c0) := iterW_eq2 (by kernel_rfl)
theorem eq_52 {p : Id} {args : List A} {h : Heap} : callW E p 52 args h = (execW E 52 p (((Tryz.f52.body).getD .skip).hide [(2, L_52_2)]) (initFr args) 0 h).bind (resX E.P false p Tryz.f52.results.toList) := callW_eq Tryz.f52 (by kernel_rfl) (by kernel_rfl) (by kernel_rfl) rfl (by kernel_rfl)
theorem eq_53 {p : Id} {args : List A} {h : Heap} : callW E p 53 args h = (execW E 53 p ((Tryz.f53.body).getD .skip) (initFr args) 0 h).bind (resX E.P false p Tryz.f53.results.toList) := callW_eq Tryz.f53 (by kernel_rfl) (by kernel_rfl) (by kernel_rfl) rfl (by kernel_rfl)
theorem rd_54_2 {p : Id} {L : List Nat} {c0 c : Nat} {fr : Fr} {h : Heap} : iterW E 54 p L L_54_2 c0 fr c h = (execW E 54 p ((((Tryz.f54.body).getD .skip).loopAt 2).getD .skip) fr c h).bind (loopX E 54 p L L_54_2 c0) := iterW_eq2 (by kernel_rfl)
theorem eq_54 {p : Id} {args : List A} {h : Heap} : callW E p 54 args h = (execW E 54 p (((Tryz.f54.body).getD .skip).hide [(2, L_54_2)]) (initFr args) 0 h).bind (resX E.P false p Tryz.f54.results.toList) := callW_eq Tryz.f54 (by kernel_rfl) (by kernel_rfl) (by kernel_rfl) rfl (by kernel_rfl)
theorem eq_55 {p : Id} {args : List A} {h : Heap} : callW E p 55 args h = (execW E 55 p ((Tryz.f55.body).getD .skip) (initFr args) 0 h).bind (resX E.P false p Tryz.f55.results.toList) := callW_eq Tryz.f55 (by kernel_rfl) (by kernel_rfl) (by kernel_rfl) rfl (by kernel_rfl)
theorem eq_56 {p : Id} {args : List A} {h : Heap} : callW E p 56 args h = (execW E 56 p ((Tryz.f56.body).getD .skip) (initFr args) 0 h).bind (resX E.P false p Tryz.f56.results.toList) := callW_eq Tryz.f56 (by kernel_rfl) (by kernel_rfl) (by kernel_rfl) rfl (by kernel_rfl)
theorem eq_57 {p : Id} {args : List A} {h : Heap} : callW E p 57 args h = (execW E 57 p ((Tryz.f57.body).getD .skip) (initFr args) 0 h).bind (resX E.P false p Tryz.f57.results.toList) := callW_eq Tryz.f57 (by kernel_rfl) (by kernel_rfl) (by kernel_rfl) rfl (by kernel_rfl)
theorem eq_58 {p : Id} {args : List A} {h : Heap} : callW E p 58 args h = (execW E 58 p ((Tryz.f58.body).getD .skip) (initFr args) 0 h).bind (resX E.P false p Tryz.f58.results.toList) := callW_eq Tryz.f58 (by kernel_rfl) (by kernel_rfl) (by kernel_rfl) rfl (by kernel_rfl)
theorem eq_59 {p : Id} {args : List A} {h : Heap} : callW E p 59 args h = (execW E 59 p ((Tryz.f59.body).getD .skip) (initFr args) 0 h).bind (resX E.P false p Tryz.f59.results.toList) := callW_eq Tryz.f59 (by kernel_rfl) (by kernel_rfl) (by kernel_rfl) rfl (by kernel_rfl)
theorem rd_60_1 {p : Id} {L : List Nat} {c0 c : Nat} {fr : Fr} {h : Heap} : iterW E 60 p L L_60_1 c0 fr c h = (execW E 60 p ((((Tryz.f60.body).getD .skip).loopAt 1).getD .skip) fr c h).bind (loopX E 60 p L L_60_1 c0) := iterW_eq2 (by kernel_rfl)
theorem eq_60 {p : Id} {args : List A} {h : Heap} : callW E p 60 args h = (execW E 60 p (((Tryz.f60.body).getD .skip).hide [(1, L_60_1)]) (initFr args) 0 h).bind (resX E.P false p Tryz.f60.results.toList) := callW_eq Tryz.f60 (by kernel_rfl) (by kernel_rfl) (by kernel_rfl) rfl (by kernel_rfl)
theorem rd_61_2 {p : Id} {L : List Nat} {c0 c : Nat} {fr : Fr} {h : Heap} : iterW E 61 p L L_61_2 c0 fr c h = (execW E 61 p ((((Tryz.f61.body).getD .skip).loopAt 2).getD .skip) fr c h).bind (loopX E 61 p L L_61_2 c0) := iterW_eq2 (by kernel_rfl)
theorem eq_61 {p : Id} {args : List A} {h : Heap} : callW E p 61 args h = (execW E 61 p (((Tryz.f61.body).getD .skip).hide [(2, L_61_2)]) (initFr args) 0 h).bind (resX E.P false p Tryz.f61.results.toList) := callW_eq Tryz.f61 (by kernel_rfl) (by kernel_rfl) (by kernel_rfl) rfl (by kernel_rfl)
theorem eq_62 {p : Id} {args : List A} {h : Heap} : callW E p 62 args h = (execW E 62 p ((Tryz.f62.body).getD .skip) (initFr args) 0 h).bind (resX E.P false p Tryz.f62.results.toList) := callW_eq Tryz.f62 (by kernel_rfl) (by kernel_rfl) (by kernel_rfl) rfl (by kernel_rfl)
theorem eq_63 {p : Id} {args : List A} {h : Heap} : callW E p 63 args h = (execW E 63 p ((Tryz.f63.body).getD .skip) (initFr args) 0 h).bind (resX E.P false p Tryz.f63.results.toList) := callW_eq Tryz.f63 (by kernel_rfl) (by kernel_rfl) (by kernel_rfl) rfl (by kernel_rfl)
theorem rd_64_3 {p : Id} {L : List Nat} {c0 c : Nat} {fr : Fr} {h : Heap} : iterW E 64 p L L_64_3 c0 fr c h = (execW E 64 p ((((Tryz.f64.body).getD .skip).loopAt 3).getD .skip) fr c h).bind (loopX E 64 p L L_64_3 c0) := iterW_eq2 (by kernel_rfl)
theorem eq_64 {p : Id} {args : List A} {h : Heap} : callW E p 64 args h = (execW E 64 p (((Tryz.f64.body).getD .skip).hide [(3, L_64_3)]) (initFr args) 0 h).bind (resX E.P false p Tryz.f64.results.toList) := callW_eq Tryz.f64 (by kernel_rfl) (by kernel_rfl) (by kernel_rfl) rfl (by kernel_rfl)
theorem eq_65 {p : Id} {args : List A} {h : Heap} : callW E p 65 args h = (execW E 65 p ((Tryz.f65.body).getD .skip) (initFr args) 0 h).bind (resX E.P false p Tryz.f65.results.toList) := callW_eq Tryz.f65 (by kernel_rfl) (by kernel_rfl) (by kernel_rfl) rfl (by kernel_rfl)
theorem eq_66 {p : Id} {args : List A} {h : Heap} : callW E p 66 args h = (execW E 66 p ((Tryz.f66.body).getD .skip) (initFr args) 0 h).bind (resX E.P true p Tryz.f66.results.toList) := callW_eq Tryz.f66 (by kernel_rfl) (by kernel_rfl) (by kernel_rfl) rfl (by kernel_rfl)
theorem eq_67 {p : Id} {args : List A} {h : Heap} : callW E p 67 args h = (execW E 67 p ((Tryz.f67.body).getD .skip) (initFr args) 0 h).bind (resX E.P false p Tryz.f67.results.toList) := callW_eq Tryz.f67 (by kernel_rfl) (by kernel_rfl) (by kernel_rfl) rfl (by kernel_rfl)
theorem eq_68 {p : Id} {args : List A} {h : Heap} : callW E p 68 args h = (execW E 68 p ((Tryz.f68.body).getD .skip) (initFr args) 0 h).bind (resX E.P true p Tryz.f68.results.toList) := callW_eq Tryz.f68 (by kernel_rfl) (by kernel_rfl) (by kernel_rfl) rfl (by kernel_rfl)
theorem eq_69 {p : Id} {args : List A} {h : Heap} : callW E p 69 args h = (execW E 69 p ((Tryz.f69.body).getD .skip) (initFr args) 0 h).bind (resX E.P false p Tryz.f69.results.toList) := callW_eq Tryz.f69 (by kernel_rfl) (by kernel_rfl) (by kernel_rfl) rfl (by kernel_rfl)
theorem rd_70_3 {p : Id} {L : List Nat} {c0 c : Nat} {fr : Fr} {h : Heap} : iterW E 70 p L L_70_3 c0 fr c h = (execW E 70 p ((((Tryz.f70.body).getD .skip).loopAt 3).getD .skip) fr c h).bind (loopX E 70 p L L_70_3 c0) := iterW_eq2 (by kernel_rfl)
theorem eq_70 {p : Id} {args : List A} {h : Heap} : callW E p 70 args h = (execW E 70 p (((Tryz.f70.body).getD .skip).hide [(3, L_70_3)]) (initFr args) 0 h).bind (resX E.P false p Tryz.f70.results.toList) := callW_eq Tryz.f70 (by kernel_rfl) (by kernel_rfl) (by kernel_rfl) rfl (by kernel_rfl)
theorem rd_71_8 {p : Id} {L : List Nat} {c0 c : Nat} {fr : Fr} {h : Heap} : iterW E 71 p L L_71_8 c0 fr c h = (execW E 71 p ((((Tryz.f71.body).getD .skip).loopAt 8).getD .skip) fr c h).bind (loopX E 71 p L L_71_8 c0) := iterW_eq2 (by kernel_rfl)
theorem eq_71 {p : Id} {args : List A} {h : Heap} : callW E p 71 args h = (execW E 71 p (((Tryz.f71.body).getD .skip).hide [(8, L_71_8)]) (initFr args) 0 h).bind (resX E.P false p Tryz.f71.results.toList) := callW_eq Tryz.f71 (by kernel_rfl) (by kernel_rfl) (by kernel_rfl) rfl (by kernel_rfl)
theorem eq_72 {p : Id} {args : List A} {h : Heap} : callW E p 72 args h = (execW E 72 p ((Tryz.f72.body).getD .skip) (initFr args) 0 h).bind (resX E.P false p Tryz.f72.results.toList) := callW_eq Tryz.f72 (by kernel_rfl) (by kernel_rfl) (by kernel_rfl) rfl (by kernel_rfl)
theorem eq_73 {p : Id} {args : List A} {h : Heap} : callW E p 73 args h = (execW E 73 p ((Tryz.f73.body).getD .skip) (initFr args) 0 h).bind (resX E.P false p Tryz.f73.results.toList) := callW_eq Tryz.f73 (by kernel_rfl) (by kernel_rfl) (by kernel_rfl) rfl (by kernel_rfl)
theorem eq_74 {p : Id} {args : List A} {h : Heap} : callW E p 74 args h = (execW E 74 p ((Tryz.f74.body).getD .skip) (initFr args) 0 h).bind (resX E.P false p Tryz.f74.results.toList) := callW_eq Tryz.f74 (by kernel_rfl) (by kernel_rfl) (by kernel_rfl) rfl (by kernel_rfl)
theorem eq_75 {p : Id} {args : List A} {h : Heap} : callW E p 75 args h = (execW E 75 p ((Tryz.f75.body).getD .skip) (initFr args) 0 h).bind (resX E.P false p Tryz.f75.results.toList) := callW_eq Tryz.f75 (by kernel_rfl) (by kernel_rfl) (by kernel_rfl) rfl (by kernel_rfl)
theorem eq_76 {p : Id} {args : List A} {h : Heap} : callW E p 76 args h = (execW E 76 p ((Tryz.f76.body).getD .skip) (initFr args) 0 h).bind (resX E.P false p Tryz.f76.results.toList) := callW_eq Tryz.f76 (by kernel_rfl) (by kernel_rfl) (by kernel_rfl) rfl (by kernel_rfl)
theorem eq_77 {p : Id} {args : List A} {h : Heap} : callW E p 77 args h = (execW E 77 p ((Tryz.f77.body).getD .skip) (initFr args) 0 h).bind (resX E.P false p Tryz.f77.results.toList) := callW_eq Tryz.f77 (by kernel_rfl) (by kernel_rfl) (by kernel_rfl) rfl (by kernel_rfl)
theorem eq_79 {p : Id} {args : List A} {h : Heap} : callW E p 79 args h = (execW E 79 p ((Tryz.f79.body).getD .skip) (initFr args) 0 h).bind (resX E.P false p Tryz.f79.results.toList) := callW_eq Tryz.f79 (by kernel_rfl) (by kernel_rfl) (by kernel_rfl) rfl (by kernel_rfl)
theorem rd_93_22 {p : Id} {L : List Nat} {c0 c : Nat} {fr : Fr} {h : Heap} : iterW E 93 p L L_93_22 c0 fr c h = (execW E 93 p ((((Tryz.f93.body).getD .skip).loopAt 22).getD .skip) fr c h).bind (loopX E 93 p L L_93_22 c0) := iterW_eq2 (by kernel_rfl)
theorem eq_93 {p : Id} {args : List A} {h : Heap} : callW E p 93 args h = (execW E 93 p (((Tryz.f93.body).getD .skip).hide [(22, L_93_22)]) (initFr args) 0 h).bind (resX E.P false p Tryz.f93.results.toList) := callW_eq Tryz.f93 (by kernel_rfl) (by kernel_rfl) (by kernel_rfl) rfl (by kernel_rfl)
theorem rd_94_3 {p : Id} {L : List Nat} {c0 c : Nat} {fr : Fr} {h : Heap} : iterW E 94 p L L_94_3 c0 fr c h = (execW E 94 p ((((Tryz.f94.body).getD .skip).loopAt 3).getD .skip) fr c h).bind (loopX E 94 p L L_94_3 c0) := iterW_eq2 (by kernel_rfl)
theorem eq_94 {p : Id} {args : List A} {h : Heap} : callW E p 94 args h = (execW E 94 p (((Tryz.f94.body).getD .skip).hide [(3, L_94_3)]) (initFr args) 0 h).bind (resX E.P false p Tryz.f94.results.toList) := callW_eq Tryz.f94 (by kernel_rfl) (by kernel_rfl) (by kernel_rfl) rfl (by kernel_rfl)
theorem eq_95 {p : Id} {args : List A} {h : Heap} : callW E p 95 args h = (execW E 95 p ((Tryz.f95.body).getD .skip) (initFr args) 0 h).bind (resX E.P false p Tryz.f95.results.toList) := callW_eq Tryz.f95 (by kernel_rfl) (by kernel_rfl) (by kernel_rfl) rfl (by kernel_rfl)
theorem eq_96 {p : Id} {args : List A} {h : Heap} : callW E p 96 args h = (execW E 96 p ((Tryz.f96.body).getD .skip) (initFr args) 0 h).bind (resX E.P false p Tryz.f96.results.toList) := callW_eq Tryz.f96 (by kernel_rfl) (by kernel_rfl) (by kernel_rfl) rfl (by kernel_rfl)
theorem rd_97_3 {p : Id} {L : List Nat} {c0 c : Nat} {fr : Fr} {h : Heap} : iterW E 97 p L L_97_3 c0 fr c h = (execW E 97 p ((((Tryz.f97.body).getD .skip).loopAt 3).getD .skip) fr c h).bind (loopX E 97 p L L_97_3 c0) := iterW_eq2 (by kernel_rfl)
theorem eq_97 {p : Id} {args : List A} {h : Heap} : callW E p 97 args h = (execW E 97 p (((Tryz.f97.body).getD .skip).hide [(3, L_97_3)]) (initFr args) 0 h).bind (resX E.P false p Tryz.f97.results.toList) := callW_eq Tryz.f97 (by kernel_rfl) (by kernel_rfl) (by kernel_rfl) rfl (by kernel_rfl)
theorem eq_98 {p : Id} {args : List A} {h : Heap} : callW E p 98 args h = (execW E 98 p ((Tryz.f98.body).getD .skip) (initFr args) 0 h).bind (resX E.P false p Tryz.f98.results.toList) := callW_eq Tryz.f98 (by kernel_rfl) (by kernel_rfl) (by kernel_rfl) rfl (by kernel_rfl)
theorem rd_99_3 {p : Id} {L : List Nat} {c0 c : Nat} {fr : Fr} {h : Heap} : iterW E 99 p L L_99_3 c0 fr c h = (execW E 99 p ((((Tryz.f99.body).getD .skip).loopAt 3).getD .skip) fr c h).bind (loopX E 99 p L L_99_3 c0) := iterW_eq2 (by kernel_rfl)
theorem eq_99 {p : Id} {args : List A} {h : Heap} : callW E p 99 args h = (execW E 99 p (((Tryz.f99.body).getD .skip).hide [(3, L_99_3)]) (initFr args) 0 h).bind (resX E.P false p Tryz.f99.results.toList) := callW_eq Tryz.f99 (by kernel_rfl) (by kernel_rfl) (by kernel_rfl) rfl (by kernel_rfl)
theorem eq_100 {p : Id} {args : List A} {h : Heap} : callW E p 100 args h = (execW E 100 p ((Tryz.f100.body).getD .skip) (initFr args) 0 h).bind (resX E.P false p Tryz.f100.results.toList) := callW_eq Tryz.f100 (by kernel_rfl) (by kernel_rfl) (by kernel_rfl) rfl (by kernel_rfl)
theorem eq_101 {p : Id} {args : List A} {h : Heap} : callW E p 101 args h = (execW E 101 p ((Tryz.f101.body).getD .skip) (initFr args) 0 h).bind (resX E.P false p Tryz.f101.results.toList) := callW_eq Tryz.f101 (by kernel_rfl) (by kernel_rfl) (by kernel_rfl) rfl (by kernel_rfl)
theorem eq_102 {p : Id} {args : List A} {h : Heap} : callW E p 102 args h = (execW E 102 p ((Tryz.f102.body).getD .skip) (initFr args) 0 h).bind (resX E.P false p Tryz.f102.results.toList) := callW_eq Tryz.f102 (by kernel_rfl) (by kernel_rfl) (by kernel_rfl) rfl (by kernel_rfl)
theorem eq_103 {p : Id} {args : List A} {h : Heap} : callW E p 103 args h = (execW E 103 p ((Tryz.f103.body).getD .skip) (initFr args) 0 h).bind (resX E.P false p Tryz.f103.results.toList) := callW_eq Tryz.f103 (by kernel_rfl) (by kernel_rfl) (by kernel_rfl) rfl (by kernel_rfl)
theorem eq_104 {p : Id} {args : List A} {h : Heap} : callW E p 104 args h = (execW E 104 p ((Tryz.f104.body).getD .skip) (initFr args) 0 h).bind (resX E.P false p Tryz.f104.results.toList) := callW_eq Tryz.f104 (by kernel_rfl) (by kernel_rfl) (by kernel_rfl) rfl (by kernel_rfl)
theorem rd_105_12 {p : Id} {L : List Nat} {c0 c : Nat} {fr : Fr} {h : Heap} : iterW E 105 p L L_105_12 c0 fr c h = (execW E 105 p ((((Tryz.f105.body).getD .skip).loopAt 12).getD .skip) fr c h).bind (loopX E 105 p L L_105_12 c0) := iterW_eq2 (by kernel_rfl)
theorem rd_105_22 {p : Id} {L : List Nat} {c0 c : Nat} {fr : Fr} {h : Heap} : iterW E 105 p L L_105_22 c0 fr c h = (execW E 105 p ((((Tryz.f105.body).getD .skip).loopAt 22).getD .skip) fr c h).bind (loopX E 105 p L L_105_22 c0) := iterW_eq2 (by kernel_rfl)
theorem eq_106 {p : Id} {args : List A} {h : Heap} : callW E p 106 args h = (execW E 106 p ((Tryz.f106.body).getD .skip) (initFr args) 0 h).bind (resX E.P false p Tryz.f106.results.toList) := callW_eq Tryz.f106 (by kernel_rfl) (by kernel_rfl) (by kernel_rfl) rfl (by kernel_rfl)
theorem eq_107 {p : Id} {args : List A} {h : Heap} : callW E p 107 args h = (execW E 107 p ((Tryz.f107.body).getD .skip) (initFr args) 0 h).bind (resX E.P false p Tryz.f107.results.toList) := callW_eq Tryz.f107 (by kernel_rfl) (by kernel_rfl) (by kernel_rfl) rfl (by kernel_rfl)
theorem rd_108_3 {p : Id} {L : List Nat} {c0 c : Nat} {fr : Fr} {h : Heap} : iterW E 108 p L L_108_3 c0 fr c h = (execW E 108 p ((((Tryz.f108.body).getD .skip).loopAt 3).getD .skip) fr c h).bind (loopX E 108 p L L_108_3 c0) := iterW_eq2 (by kernel_rfl)
theorem eq_108 {p : Id} {args : List A} {h : Heap} : callW E p 108 args h = (execW E 108 p (((Tryz.f108.body).getD .skip).hide [(3, L_108_3)]) (initFr args) 0 h).bind (resX E.P false p Tryz.f108.results.toList) := callW_eq Tryz.f108 (by kernel_rfl) (by kernel_rfl) (by kernel_rfl) rfl (by kernel_rfl)
theorem eq_109 {p : Id} {args : List A} {h : Heap} : callW E p 109 args h = (execW E 109 p ((Tryz.f109.body).getD .skip) (initFr args) 0 h).bind (resX E.P false p Tryz.f109.results.toList) := callW_eq Tryz.f109 (by kernel_rfl) (by kernel_rfl) (by kernel_rfl) rfl (by kernel_rfl)
theorem eq_110 {p : Id} {args : List A} {h : Heap} : callW E p 110 args h = (execW E 110 p ((Tryz.f110.body).getD .skip) (initFr args) 0 h).bind (resX E.P false p Tryz.f110.results.toList) := callW_eq Tryz.f110 (by kernel_rfl) (by kernel_rfl) (by kernel_rfl) rfl (by kernel_rfl)
theorem rd_111_3 {p : Id} {L : List Nat} {c0 c : Nat} {fr : Fr} {h : Heap} : iterW E 111 p L L_111_3 c0 fr c h = (execW E 111 p ((((Tryz.f111.body).getD .skip).loopAt 3).getD .skip) fr c h).bind (loopX E 111 p L L_111_3 c0) := iterW_eq2 (by kernel_rfl)
theorem eq_111 {p : Id} {args : List A} {h : Heap} : callW E p 111 args h = (execW E 111 p (((Tryz.f111.body).getD .skip).hide [(3, L_111_3)]) (initFr args) 0 h).bind (resX E.P false p Tryz.f111.results.toList) := callW_eq Tryz.f111 (by kernel_rfl) (by kernel_rfl) (by kernel_rfl) rfl (by kernel_rfl)
theorem eq_112 {p : Id} {args : List A} {h : Heap} : callW E p 112 args h = (execW E 112 p ((Tryz.f112.body).getD .skip) (initFr args) 0 h).bind (resX E.P false p Tryz.f112.results.toList) := callW_eq Tryz.f112 (by kernel_rfl) (by kernel_rfl) (by kernel_rfl) rfl (by kernel_rfl)
theorem eq_113 {p : Id} {args : List A} {h : Heap} : callW E p 113 args h = (execW E 113 p ((Tryz.f113.body).getD .skip) (initFr args) 0 h).bind (resX E.P false p Tryz.f113.results.toList) := callW_eq Tryz.f113 (by kernel_rfl) (by kernel_rfl) (by kernel_rfl) rfl (by kernel_rfl)
theorem rd_114_2 {p : Id} {L : List Nat} {c0 c : Nat} {fr : Fr} {h : Heap} : iterW E 114 p L L_114_2 c0 fr c h = (execW E 114 p ((((Tryz.f114.body).getD .skip).loopAt 2).getD .skip) fr c h).bind (loopX E 114 p L L_114_2 c0) := iterW_eq2 (by kernel_rfl)
theorem eq_114 {p : Id} {args : List A} {h : Heap} : callW E p 114 args h = (execW E 114 p (((Tryz.f114.body).getD .skip).hide [(2, L_114_2)]) (initFr args) 0 h).bind (resX E.P false p Tryz.f114.results.toList) := callW_eq Tryz.f114 (by kernel_rfl) (by kernel_rfl) (by kernel_rfl) rfl (by kernel_rfl)
theorem rd_115_4 {p : Id} {L : List Nat} {c0 c : Nat} {fr : Fr} {h : Heap} : iterW E 115 p L L_115_4 c0 fr c h = (execW E 115 p ((((Tryz.f115.body).getD .skip).loopAt 4).getD .skip) fr c h).bind (loopX E 115 p L L_115_4 c0) := iterW_eq2 (by kernel_rfl)
theorem eq_115 {p : Id} {args : List A} {h : Heap} : callW E p 115 args h = (execW E 115 p (((Tryz.f115.body).getD .skip).hide [(4, L_115_4)]) (initFr args) 0 h).bind (resX E.P false p Tryz.f115.results.toList) := callW_eq Tryz.f115 (by kernel_rfl) (by kernel_rfl) (by kernel_rfl) rfl (by kernel_rfl)
theorem eq_116 {p : Id} {args : List A} {h : Heap} : callW E p 116 args h = (execW E 116 p ((Tryz.f116.body).getD .skip) (initFr args) 0 h).bind (resX E.P false p Tryz.f116.results.toList) := callW_eq Tryz.f116 (by kernel_rfl) (by kernel_rfl) (by kernel_rfl) rfl (by kernel_rfl)
theorem eq_117 {p : Id} {args : List A} {h : Heap} : callW E p 117 args h = (execW E 117 p ((Tryz.f117.body).getD .skip) (initFr args) 0 h).bind (resX E.P false p Tryz.f117.results.toList) := callW_eq Tryz.f117 (by kernel_rfl) (by kernel_rfl) (by kernel_rfl) rfl (by kernel_rfl)
theorem eq_118 {p : Id} {args : List A} {h : Heap} : callW E p 118 args h = (execW E 118 p ((Tryz.f118.body).getD .skip) (initFr args) 0 h).bind (resX E.P false p Tryz.f118.results.toList) := callW_eq Tryz.f118 (by kernel_rfl) (by kernel_rfl) (by kernel_rfl) rfl (by kernel_rfl)
theorem rd_119_3 {p : Id} {L : List Nat} {c0 c : Nat} {fr : Fr} {h : Heap} : iterW E 119 p L L_119_3 c0 fr c h = (execW E 119 p ((((Tryz.f119.body).getD .skip).loopAt 3).getD .skip) fr c h).bind (loopX E 119 p L L_119_3 c0) := iterW_eq2 (by kernel_rfl)
theorem eq_119 {p : Id} {args : List A} {h : Heap} : callW E p 119 args h = (execW E 119 p (((Tryz.f119.body).getD .skip).hide [(3, L_119_3)]) (initFr args) 0 h).bind (resX E.P false p Tryz.f119.results.toList) := callW_eq Tryz.f119 (by kernel_rfl) (by kernel_rfl) (by kernel_rfl) rfl (by kernel_rfl)
theorem rd_120_3 {p : Id} {L : List Nat} {c0 c : Nat} {fr : Fr} {h : Heap} : iterW E 120 p L L_120_3 c0 fr c h = (execW E 120 p ((((Tryz.f120.body).getD .skip).loopAt 3).getD .skip) fr c h).bind (loopX E 120 p L L_120_3 c0) := iterW_eq2 (by kernel_rfl)
theorem eq_120 {p : Id} {args : List A} {h : Heap} : callW E p 120 args h = (execW E 120 p (((Tryz.f120.body).getD .skip).hide [(3, L_120_3)]) (initFr args) 0 h).bind (resX E.P false p Tryz.f120.results.toList) := callW_eq Tryz.f120 (by kernel_rfl) (by kernel_rfl) (by kernel_rfl) rfl (by kernel_rfl)
theorem eq_129 {p : Id} {args : List A} {h : Heap} : callW E p 129 args h = (execW E 129 p ((Tryz.f129.body).getD .skip) (initFr args) 0 h).bind (resX E.P false p Tryz.f129.results.toList) := callW_eq Tryz.f129 (by kernel_rfl) (by kernel_rfl) (by kernel_rfl) rfl (by kernel_rfl)
theorem eq_130 {p : Id} {args : List A} {h : Heap} : callW E p 130 args h = (execW E 130 p ((Tryz.f130.body).getD .skip) (initFr args) 0 h).bind (resX E.P false p Tryz.f130.results.toList) := callW_eq Tryz.f130 (by kernel_rfl) (by kernel_rfl) (by kernel_rfl) rfl (by kernel_rfl)
theorem rd_132_2 {p : Id} {L : List Nat} {c0 c : Nat} {fr : Fr} {h : Heap} : iterW E 132 p L L_132_2 c0 fr c h = (execW E 132 p ((((Tryz.f132.body).getD .skip).loopAt 2).getD .skip) fr c h).bind (loopX E 132 p L L_132_2 c0) := iterW_eq2 (by kernel_rfl)
theorem eq_132 {p : Id} {args : List A} {h : Heap} : callW E p 132 args h = (execW E 132 p (((Tryz.f132.body).getD .skip).hide [(2, L_132_2)]) (initFr args) 0 h).bind (resX E.P false p Tryz.f132.results.toList) := callW_eq Tryz.f132 (by kernel_rfl) (by kernel_rfl) (by kernel_rfl) rfl (by kernel_rfl)
theorem eq_133 {p : Id} {args : List A} {h : Heap} : callW E p 133 args h = (execW E 133 p ((Tryz.f133.body).getD .skip) (initFr args) 0 h).bind (resX E.P false p Tryz.f133.results.toList) := callW_eq Tryz.f133 (by kernel_rfl) (by kernel_rfl) (by kernel_rfl) rfl (by kernel_rfl)
theorem eq_134 {p : Id} {args : List A} {h : Heap} : callW E p 134 args h = (execW E 134 p ((Tryz.f134.body).getD .skip) (initFr args) 0 h).bind (resX E.P false p Tryz.f134.results.toList) := callW_eq Tryz.f134 (by kernel_rfl) (by kernel_rfl) (by kernel_rfl) rfl (by kernel_rfl)
theorem rd_135_2 {p : Id} {L : List Nat} {c0 c : Nat} {fr : Fr} {h : Heap} : iterW E 135 p L L_135_2 c0 fr c h = (execW E 135 p ((((Tryz.f135.body).getD .skip).loopAt 2).getD .skip) fr c h).bind (loopX E 135 p L L_135_2 c0) := iterW_eq2 (by kernel_rfl)
theorem eq_135 {p : Id} {args : List A} {h : Heap} : callW E p 135 args h = (execW E 135 p (((Tryz.f135.body).getD .skip).hide [(2, L_135_2)]) (initFr args) 0 h).bind (resX E.P false p Tryz.f135.results.toList) := callW_eq Tryz.f135 (by kernel_rfl) (by kernel_rfl) (by kernel_rfl) rfl (by kernel_rfl)
theorem eq_136 {p : Id} {args : List A} {h : Heap} : callW E p 136 args h = (execW E 136 p ((Tryz.f136.body).getD .skip) (initFr args) 0 h).bind (resX E.P false p Tryz.f136.results.toList) := callW_eq Tryz.f136 (by kernel_rfl) (by kernel_rfl) (by kernel_rfl) rfl (by kernel_rfl)
theorem eq_137 {p : Id} {args : List A} {h : Heap} : callW E p 137 args h = (execW E 137 p ((Tryz.f137.body).getD .skip) (initFr args) 0 h).bind (resX E.P false p Tryz.f137.results.toList) := callW_eq Tryz.f137 (by kernel_rfl) (by kernel_rfl) (by kernel_rfl) rfl (by kernel_rfl)
theorem rd_138_4 {p : Id} {L : List Nat} {c0 c : Nat} {fr : Fr} {h : Heap} : iterW E 138 p L L_138_4 c0 fr c h = (execW E 138 p ((((Tryz.f138.body).getD .skip).loopAt 4).getD .skip) fr c h).bind (loopX E 138 p L L_138_4 c0) := iterW_eq2 (by kernel_rfl)
theorem eq_138 {p : Id} {args : List A} {h : Heap} : callW E p 138 args h = (execW E 138 p (((Tryz.f138.body).getD .skip).hide [(4, L_138_4)]) (initFr args) 0 h).bind (resX E.P false p Tryz.f138.results.toList) := callW_eq Tryz.f138 (by kernel_rfl) (by kernel_rfl) (by kernel_rfl) rfl (by kernel_rfl)
theorem eq_139 {p : Id} {args : List A} {h : Heap} : callW E p 139 args h = (execW E 139 p ((Tryz.f139.body).getD .skip) (initFr args) 0 h).bind (resX E.P false p Tryz.f139.results.toList) := callW_eq Tryz.f139 (by kernel_rfl) (by kernel_rfl) (by kernel_rfl) rfl (by kernel_rfl)
theorem eq_140 {p : Id} {args : List A} {h : Heap} : callW E p 140 args h = (execW E 140 p ((Tryz.f140.body).getD .skip) (initFr args) 0 h).bind (resX E.P false p Tryz.f140.results.toList) := callW_eq Tryz.f140 (by kernel_rfl) (by kernel_rfl) (by kernel_rfl) rfl (by kernel_rfl)
theorem eq_141 {p : Id} {args : List A} {h : Heap} : callW E p 141 args h = (execW E 141 p ((Tryz.f141.body).getD .skip) (initFr args) 0 h).bind (resX E.P false p Tryz.f141.results.toList) := callW_eq Tryz.f141 (by kernel_rfl) (by kernel_rfl) (by kernel_rfl) rfl (by kernel_rfl)
theorem rd_144_5 {p : Id} {L : List Nat} {c0 c : Nat} {fr : Fr} {h : Heap} : iterW E 144 p L L_144_5 c0 fr c h = (execW E 144 p ((((Tryz.f144.body).getD .skip).loopAt 5).getD .skip) fr c h).bind (loopX E 144 p L L_144_5 c0) := iterW_eq2 (by kernel_rfl)
theorem eq_144 {p : Id} {args : List A} {h : Heap} : callW E p 144 args h = (execW E 144 p (((Tryz.f144.body).getD .skip).hide [(5, L_144_5)]) (initFr args) 0 h).bind (resX E.P false p Tryz.f144.results.toList) := callW_eq Tryz.f144 (by kernel_rfl) (by kernel_rfl) (by kernel_rfl) rfl (by kernel_rfl)
theorem rd_145_3 {p : Id} {L : List Nat} {c0 c : Nat} {fr : Fr} {h : Heap} : iterW E 145 p L L_145_3 c0 fr c h = (execW E 145 p ((((Tryz.f145.body).getD .skip).loopAt 3).getD .skip) fr c h).bind (loopX E 145 p L L_145_3 c0) := iterW_eq2 (by kernel_rfl)
theorem eq_145 {p : Id} {args : List A} {h : Heap} : callW E p 145 args h = (execW E 145 p (((Tryz.f145.body).getD .skip).hide [(3, L_145_3)]) (initFr args) 0 h).bind (resX E.P false p Tryz.f145.results.toList) := callW_eq Tryz.f145 (by kernel_rfl) (by kernel_rfl) (by kernel_rfl) rfl (by kernel_rfl)
theorem rd_146_3 {p : Id} {L : List Nat} {c0 c : Nat} {fr : Fr} {h : Heap} : iterW E 146 p L L_146_3 c0 fr c h = (execW E 146 p ((((Tryz.f146.body).getD .skip).loopAt 3).getD .skip) fr c h).bind (loopX E 146 p L L_146_3 c0) := iterW_eq2 (by kernel_rfl)
theorem eq_146 {p : Id} {args : List A} {h : Heap} : callW E p 146 args h = (execW E 146 p (((Tryz.f146.body).getD .skip).hide [(3, L_146_3)]) (initFr args) 0 h).bind (resX E.P false p Tryz.f146.results.toList) := callW_eq Tryz.f146 (by kernel_rfl) (by kernel_rfl) (by kernel_rfl) rfl (by kernel_rfl)
theorem rd_147_3 {p : Id} {L : List Nat} {c0 c : Nat} {fr : Fr} {h : Heap} : iterW E 147 p L L_147_3 c0 fr c h = (execW E 147 p ((((Tryz.f147.body).getD .skip).loopAt 3).getD .skip) fr c h).bind (loopX E 147 p L L_147_3 c0) := iterW_eq2 (by kernel_rfl)
theorem eq_147 {p : Id} {args : List A} {h : Heap} : callW E p 147 args h = (execW E 147 p (((Tryz.f147.body).getD .skip).hide [(3, L_147_3)]) (initFr args) 0 h).bind (resX E.P false p Tryz.f147.results.toList) := callW_eq Tryz.f147 (by kernel_rfl) (by kernel_rfl) (by kernel_rfl) rfl (by kernel_rfl)
theorem rd_151_1 {p : Id} {L : List Nat} {c0 c : Nat} {fr : Fr} {h : Heap} : iterW E 151 p L L_151_1 c0 fr c h = (execW E 151 p (((((Tryz.f151.body).getD .skip).loopAt 1).getD .skip).hide [(18, L_151_18)]) fr c h).bind (loopX E 151 p L L_151_1 c0) := iterW_eq2 (by kernel_rfl)
theorem rd_151_18 {p : Id} {L : List Nat} {c0 c : Nat} {fr : Fr} {h : Heap} : iterW E 151 p L L_151_18 c0 fr c h = (execW E 151 p ((((Tryz.f151.body).getD .skip).loopAt 18).getD .skip) fr c h).bind (loopX E 151 p L L_151_18 c0) := iterW_eq2 (by kernel_rfl)
theorem eq_151 {p : Id} {args : List A} {h : Heap} : callW E p 151 args h = (execW E 151 p (((Tryz.f151.body).getD .skip).hide [(1, L_151_1)]) (initFr args) 0 h).bind (resX E.P false p Tryz.f151.results.toList) := callW_eq Tryz.f151 (by kernel_rfl) (by kernel_rfl) (by kernel_rfl) rfl (by kernel_rfl)
theorem eq_152 {p : Id} {args : List A} {h : Heap} : callW E p 152 args h = (execW E 152 p ((Tryz.f152.body).getD .skip) (initFr args) 0 h).bind (resX E.P false p Tryz.f152.results.toList) := callW_eq Tryz.f152 (by kernel_rfl) (by kernel_rfl) (by kernel_rfl) rfl (by kernel_rfl)
theorem rd_153_5 {p : Id} {L : List Nat} {c0 c : Nat} {fr : Fr} {h : Heap} : iterW E 153 p L L_153_5 c0 fr c h = (execW E 153 p ((((Tryz.f153.body).getD .skip).loopAt 5).getD .skip) fr c h).bind (loopX E 153 p L L_153_5 c0) := iterW_eq2 (by kernel_rfl)
theorem eq_153 {p : Id} {args : List A} {h : Heap} : callW E p 153 args h = (execW E 153 p (((Tryz.f153.body).getD .skip).hide [(5, L_153_5)]) (initFr args) 0 h).bind (resX E.P false p Tryz.f153.results.toList) := callW_eq Tryz.f153 (by kernel_rfl) (by kernel_rfl) (by kernel_rfl) rfl (by kernel_rfl)
theorem rd_154_3 {p : Id} {L : List Nat} {c0 c : Nat} {fr : Fr} {h : Heap} : iterW E 154 p L L_154_3 c0 fr c h = (execW E 154 p ((((Tryz.f154.body).getD .skip).loopAt 3).getD .skip) fr c h).bind (loopX E 154 p L L_154_3 c0) := iterW_eq2 (by kernel_rfl)
theorem eq_154 {p : Id} {args : List A} {h : Heap} : callW E p 154 args h = (execW E 154 p (((Tryz.f154.body).getD .skip).hide [(3, L_154_3)]) (initFr args) 0 h).bind (resX E.P false p Tryz.f154.results.toList) := callW_eq Tryz.f154 (by kernel_rfl) (by kernel_rfl) (by kernel_rfl) rfl (by kernel_rfl)
theorem eq_159 {p : Id} {args : List A} {h : Heap} : callW E p 159 args h = (execW E 159 p ((Tryz.f159.body).getD .skip) (initFr args) 0 h).bind (resX E.P false p Tryz.f159.results.toList) := callW_eq Tryz.f159 (by kernel_rfl) (by kernel_rfl) (by kernel_rfl) rfl (by kernel_rfl)
theorem eq_160 {p : Id} {args : List A} {h : Heap} : callW E p 160 args h = (execW E 160 p ((Tryz.f160.body).getD .skip) (initFr args) 0 h).bind (resX E.P false p Tryz.f160.results.toList) := callW_eq Tryz.f160 (by kernel_rfl) (by kernel_rfl) (by kernel_rfl) rfl (by kernel_rfl)
theorem eq_161 {p : Id} {args : List A} {h : Heap} : callW E p 161 args h = (execW E 161 p ((Tryz.f161.body).getD .skip) (initFr args) 0 h).bind (resX E.P false p Tryz.f161.results.toList) := callW_eq Tryz.f161 (by kernel_rfl) (by kernel_rfl) (by kernel_rfl) rfl (by kernel_rfl)
theorem eq_182 {p : Id} {args : List A} {h : Heap} : callW E p 182 args h = (execW E 182 p ((Tryz.f182.body).getD .skip) (initFr args) 0 h).bind (resX E.P false p Tryz.f182.results.toList) := callW_eq Tryz.f182 (by kernel_rfl) (by kernel_rfl) (by kernel_rfl) rfl (by kernel_rfl)
theorem eq_184 {p : Id} {args : List A} {h : Heap} : callW E p 184 args h = (execW E 184 p ((Tryz.f184.body).getD .skip) (initFr args) 0 h).bind (resX E.P false p Tryz.f184.results.toList) := callW_eq Tryz.f184 (by kernel_rfl) (by kernel_rfl) (by kernel_rfl) rfl (by kernel_rfl)
theorem eq_203 {p : Id} {args : List A} {h : Heap} : callW E p 203 args h = (execW E 203 p ((Tryz.f203.body).getD .skip) (initFr args) 0 h).bind (resX E.P false p Tryz.f203.results.toList) := callW_eq Tryz.f203 (by kernel_rfl) (by kernel_rfl) (by kernel_rfl) rfl (by kernel_rfl)
end Go.Ai.T

namespace Go.Ai.T
theorem envB_ok : envB E = true := by kernel_rfl
end Go.Ai.T

namespace Go.Proofs.Tryz
open Go.RowKit
set_option maxHeartbeats 1000000 in
set_option maxRecDepth 100000 in
theorem check_used (b : Nat) (w : World) (h0 : w.cell? ⟨b, 0, none⟩ = some (.pointer (some ⟨b, 0, none⟩))) :
  Calls prog 42 #[.pointer (some ⟨b, 0, none⟩)] w fun e w' => e = .returned (.tuple #[]) ∧ w' = w := by
 have hp : prog.underlying 50 = some (.pointer 53) := by kernel_rfl
 obtain ⟨j, hj⟩ : ∃ j, prog.info? 53 = some j := Option.isSome_iff_exists.1 (by kernel_rfl)
 go_enter func42, ntmps42
 go_wp2
 rw [Lib.run_neq_ptr_same w _ hp hj]
 go_wp2
 go_end0
 exact ⟨rfl, rfl⟩
set_option maxHeartbeats 1000000 in
set_option maxRecDepth 100000 in
theorem check_fresh (b : Nat) (w : World) (t : Nat) (h0 : w.cell? ⟨b, 0, none⟩ = some (.pointer none)) (hsh : w.shape? b = some (t, 2)) (hlies : liesAt prog prog.depth t (2 / prog.cellsOf t) 0 53 1 = true) (hfz : w.frozen? ⟨b, 0, none⟩ = false) :
  Calls prog 42 #[.pointer (some ⟨b, 0, none⟩)] w fun e w' => e = .returned (.tuple #[]) ∧ w' = w.setCell ⟨b, 0, none⟩ (.pointer (some ⟨b, 0, none⟩)) := by
 have hp : prog.underlying 50 = some (.pointer 53) := by kernel_rfl
 have hu : prog.underlying 133 = some .unsafePointer := by kernel_rfl
 obtain ⟨j, hj, hjs⟩ : ∃ j, prog.info? 53 = some j ∧ j.size = 2 := Option.map_eq_some_iff.1 (show (prog.info? 53).map (·.size) = some 2 by kernel_rfl)
 have h131 : prog.funcs[78]? = some f78 := by kernel_rfl
 go_enter func42, ntmps42
 go_wp2
 rw [Lib.run_to_unsafe w ⟨b, 0, none⟩ hp hu hj (by rw [hjs]; decide) hsh (Nat.zero_lt_succ 1)]
 simp only [Result.andThen]
 rw [Oper.upon_value]
 go_wp2
 rw [run_callFunc_extern h131 (by kernel_rfl) (by kernel_rfl) (by kernel_rfl) (e := Extern.AbiNoEscape.same) (by kernel_rfl)]
 rw [Lib.run_noEscape]
 simp only [Result.andThen]
 rw [Oper.upon_value]
 go_wp2
 rw [Lib.run_from_unsafe w ⟨b, 0, none⟩ hu hp hj hsh hlies]
 simp only [Result.andThen]
 rw [Oper.upon_value]
 go_wp2
 go_end0
 exact ⟨rfl, rfl⟩
theorem lies_B : liesAt prog prog.depth 53 (2 / prog.cellsOf 53) 0 53 1 = true := by kernel_rfl
theorem lies_W : liesAt prog prog.depth 129 (2 / prog.cellsOf 129) 0 53 1 = true := by kernel_rfl
end Go.Proofs.Tryz

namespace Go.Proofs.Tryz
open Go.RowKit
set_option maxHeartbeats 2000000
set_option maxRecDepth 100000
theorem cellsByte : prog.cellsOf 5 = 1 := by kernel_rfl
theorem string_nil (b : Nat) (w : World) (h0 : w.cell? ⟨b, 1, none⟩ = some (.slice none 0 0)) :
  Calls prog 21 #[.pointer (some ⟨b, 0, none⟩)] w fun e w' => e = .returned (.string ⟨#[]⟩) ∧ Go.Ai.Ext w w' := by
 have hUS := fun W q => Lib.run_unsafeString_none (P := prog) W 89 3 9 q
 have c1 : w.drew.cell? ⟨b, 1, none⟩ = some (.slice none 0 0) := h0
 have hSD : (Builtin.unsafeSliceData_ #[51] 89 #[.slice none 0 0]).run prog w.drew = .ok (.pointer none) w.drew := rfl
 go_enter func21, ntmps21
 go_wp2
 go_region
 all_goals (go_wp2; go_ret; exact ⟨rfl, (Go.Ai.Ext.refl w).drew⟩)
theorem string_zero (b g : Nat) (w : World) (sh : TypeId × Nat) (h0 : w.cell? ⟨b, 1, none⟩ = some (.slice (some ⟨g, 0, none⟩) 0 0)) (hsh : w.shape? g = some sh) :
  Calls prog 21 #[.pointer (some ⟨b, 0, none⟩)] w fun e w' => e = .returned (.string ⟨#[]⟩) ∧ Go.Ai.Ext w w' := by
 have hUS := fun W q => Lib.run_unsafeString_none (P := prog) W 89 3 9 q
 have c1 : w.drew.cell? ⟨b, 1, none⟩ = some (.slice (some ⟨g, 0, none⟩) 0 0) := h0
 have hlt : b < w.heap.size := by
  rcases Nat.lt_or_ge b w.heap.size with h' | h'
  ·exact h'
  ·simp [World.cell?, Array.getElem?_eq_none h'] at h0
 have hSD : (Builtin.unsafeSliceData_ #[51] 89 #[.slice (some ⟨g, 0, none⟩) 0 0]).run prog w.drew = .ok (.pointer (some ⟨w.drew.heap.size, 0, none⟩)) (w.drew.alloc (.view ⟨g, 0, none⟩ 5)) :=
  Lib.run_unsafeSliceData_zero w.drew _ _ 5 underlying89 ⟨g, 0, none⟩ 0 sh hsh
 have c2 : (w.drew.alloc (.view ⟨g, 0, none⟩ 5)).cell? ⟨b, 1, none⟩ = some (.slice (some ⟨g, 0, none⟩) 0 0) := by
  exact (World.cell?_alloc_lt w.drew _ ⟨b, 1, none⟩ hlt).trans h0
 have c3 : (w.alloc (.view ⟨g, 0, none⟩ 5)).drew.cell? ⟨b, 1, none⟩ = some (.slice (some ⟨g, 0, none⟩) 0 0) := c2
 have c0 : w.cell? ⟨b, 1, none⟩ = some (.slice (some ⟨g, 0, none⟩) 0 0) := c1
 go_enter func21, ntmps21
 go_wp2
 go_region
 all_goals (go_wp2; go_ret; exact ⟨rfl, (Go.Ai.Ext.alloc w _).drew⟩)
theorem string_room (b g cap : Nat) (w : World) (h0 : w.cell? ⟨b, 1, none⟩ = some (.slice (some ⟨g, 0, none⟩) 0 cap)) (hc0 : cap ≠ 0) :
  Calls prog 21 #[.pointer (some ⟨b, 0, none⟩)] w fun e w' => e = .returned (.string ⟨#[]⟩) ∧ Go.Ai.Ext w w' := by
 have hUS := fun W q => Lib.run_unsafeString_none (P := prog) W 89 3 9 q
 have c1 : w.drew.cell? ⟨b, 1, none⟩ = some (.slice (some ⟨g, 0, none⟩) 0 cap) := h0
 have hSD : (Builtin.unsafeSliceData_ #[51] 89 #[.slice (some ⟨g, 0, none⟩) 0 cap]).run prog w.drew = .ok (.pointer (some ⟨g, 0, none⟩)) w.drew :=
  Lib.run_unsafeSliceData_row _ _ _ _ _ _ hc0
 clear hc0
 go_enter func21, ntmps21
 go_wp2
 go_region
 all_goals (go_wp2; go_ret; exact ⟨rfl, (Go.Ai.Ext.refl w).drew⟩)
theorem string_some (b g cap cells : Nat) (l : List UInt8) (w : World) (h0 : w.cell? ⟨b, 1, none⟩ = some (.slice (some ⟨g, 0, none⟩) l.length cap)) (hl : l ≠ []) (hcap : l.length ≤ cap) (hsh : w.shape? g = some (5, cells)) (hn : l.length ≤ cells)
  (h63 : l.length ≤ 9223372036854775807) (hcell : ∀ j x, l[j]? = some x → w.cell? ⟨g, j, none⟩ = some (.int .u8 x.toNat)) :
  Calls prog 21 #[.pointer (some ⟨b, 0, none⟩)] w fun e w' => e = .returned (.string ⟨l.toArray⟩) ∧ w' = (w.freeze ⟨g, 0, none⟩ l.length).drew := by
 have hl0 : l.length ≠ 0 := by simpa using hl
 have c1 : w.drew.cell? ⟨b, 1, none⟩ = some (.slice (some ⟨g, 0, none⟩) l.length cap) := h0
 have hSD : (Builtin.unsafeSliceData_ #[51] 89 #[.slice (some ⟨g, 0, none⟩) l.length cap]).run prog w.drew = .ok (.pointer (some ⟨g, 0, none⟩)) w.drew :=
  Lib.run_unsafeSliceData_row _ _ _ _ _ _ (by omega)
 have hUS : (Builtin.unsafeString_ #[89, 3] 9 #[.pointer (some ⟨g, 0, none⟩), .int .i64 l.length]).run prog w.drew = .ok (.string ⟨l.toArray⟩) (w.drew.freeze ⟨g, 0, none⟩ l.length) :=
  Lib.run_unsafeString_row w.drew 89 3 9 5 underlying89 cellsByte g cells hsh l hl hn h63 (fun j x hx => by
   have := hcell j x hx
   have e : (⟨g, 0, none⟩ : Addr).add j = ⟨g, j, none⟩ := by
    unfold Addr.add
    by_cases hj : j = 0
    ·subst hj; simp
    ·simp [hj]
   rw [e]; exact this)
 go_enter func21, ntmps21
 go_wp2
 go_region
 all_goals (go_wp2; go_ret; first | exact ⟨rfl, rfl⟩ | exact ⟨rfl, by unfold World.freeze; split <;> rfl⟩)
end Go.Proofs.Tryz

namespace Go.Proofs
open Go.Shelf
def Tryz.lays156_ren : Go.Shelf.Ren := ⟨fun | 156 => 105 | 165 => 133 | 166 => 19 | 169 => 21 | 240 => 42 | 241 => 152 | 276 => 78 | 277 => 158 | n => n, fun | 31 => 113 | 9 => 9 | 3 => 3 | 4 => 4 | 0 => 0 | 20 => 20 | 72 => 53 | 76 => 56 | 70 => 50 | 37 => 51 | 75 => 27 | 127 => 89 | 164 => 133 | 5 => 5 | 80 => 59 | n => n, fun | n => n⟩
theorem Tryz.lays156 : Go.Proofs.Lays.n156 Tryz.prog Tryz.lays156_ren := {
 mixed := by kernel_rfl
 f156 := Tryz.func105.trans (congrArg some (by kernel_rfl))
 f165 := Tryz.func133.trans (congrArg some (by kernel_rfl))
 f166 := Tryz.func19.trans (congrArg some (by kernel_rfl))
 f169 := Tryz.func21.trans (congrArg some (by kernel_rfl))
 f240 := Tryz.func42.trans (congrArg some (by kernel_rfl))
 f241 := Tryz.func152.trans (congrArg some (by kernel_rfl))
 f276 := Tryz.func78.trans (congrArg some (by kernel_rfl))
 f277 := Tryz.func158.trans (congrArg some (by kernel_rfl))
 t0 := Tryz.underlying0
 a0 := Tryz.isAgg0
 z0 := Tryz.sizeOf0
 v0 := Tryz.zeroValue0
 t3 := Tryz.underlying3
 a3 := Tryz.isAgg3
 z3 := Tryz.sizeOf3
 v3 := Tryz.zeroValue3
 t4 := Tryz.underlying4
 a4 := Tryz.isAgg4
 z4 := Tryz.sizeOf4
 v4 := Tryz.zeroValue4
 t9 := Tryz.underlying9
 a9 := Tryz.isAgg9
 z9 := Tryz.sizeOf9
 v9 := Tryz.zeroValue9
 t20 := Tryz.underlying20
 a20 := Tryz.isAgg20
 z20 := Tryz.sizeOf20
 v20 := Tryz.zeroValue20
 t31 := Tryz.underlying113
 a31 := Tryz.isAgg113
 z31 := Tryz.sizeOf113
 v31 := Tryz.zeroValue113
 t37 := Tryz.underlying51
 a37 := Tryz.isAgg51
 z37 := Tryz.sizeOf51
 v37 := Tryz.zeroValue51
 t70 := Tryz.underlying50
 a70 := Tryz.isAgg50
 z70 := Tryz.sizeOf50
 v70 := Tryz.zeroValue50
 t72 := Tryz.underlying53
 a72 := Tryz.isAgg53
 z72 := Tryz.sizeOf53
 v72 := Tryz.zeroValue53
 t75 := Tryz.underlying27
 a75 := Tryz.isAgg27
 z75 := Tryz.sizeOf27
 v75 := Tryz.zeroValue27
 t76 := Tryz.underlying56
 a76 := Tryz.isAgg56
 z76 := Tryz.sizeOf56
 v76 := Tryz.zeroValue56
 t127 := Tryz.underlying89
 a127 := Tryz.isAgg89
 z127 := Tryz.sizeOf89
 v127 := Tryz.zeroValue89
 t164 := Tryz.underlying133
 a164 := Tryz.isAgg133
 z164 := Tryz.sizeOf133
 v164 := Tryz.zeroValue133 }
theorem Tryz.Builder_Extra_156 : Builder.Extra Tryz.prog Tryz.lays156_ren := {
 sizeBuilder := by kernel_rfl
 liesBuilder := by kernel_rfl
 t5 := Tryz.underlying5
 a5 := Tryz.isAgg5
 z5 := Tryz.sizeOf5
 v5 := Tryz.zeroValue5
 infoByte := by kernel_rfl
 cellsByte := by kernel_rfl
 sizeByte := by kernel_rfl
 neB5 := by decide }
open Go.RowKit in
theorem Tryz.strings_Join_none (a : Option Addr) (c : Nat) (sep : ByteArray) (w : World) :
  Calls Tryz.prog 105 #[.slice a 0 c, .string sep] w fun e w' => e = .returned (.string ⟨#[]⟩) ∧ w' = w := Any.strings_Join_none Tryz.lays156 Tryz.Builder_Extra_156 a c sep w
open Go.RowKit in
theorem Tryz.strings_Join (bk o c : Nat) (xs : List ByteArray) (sep : ByteArray) (w : World) (hcells : ∀ (j : Nat) x, xs[j]? = some x → w.cell? ⟨bk, o + j, none⟩ = some (.string x)) (hbk : bk < w.heap.size) (hN : xs.length ≤ 140737488355328) (hcap : xs.length ≤ c) (hlen : (Lib.join (xs.map (·.data.toList)) sep.data.toList).length ≤ 140737488355328) :
  Calls Tryz.prog 105 #[.slice (some ⟨bk, o, none⟩) xs.length c, .string sep] w fun e w' => e = .returned (.string ⟨(Lib.join (xs.map (·.data.toList)) sep.data.toList).toArray⟩) ∧ Below w.heap.size w w' := Any.strings_Join Tryz.lays156 Tryz.Builder_Extra_156 bk o c xs sep w hcells hbk hN hcap hlen
end Go.Proofs

