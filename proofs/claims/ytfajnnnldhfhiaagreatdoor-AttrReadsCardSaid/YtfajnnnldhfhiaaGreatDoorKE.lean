/- Part KE of the proof that a law of this program answers yes at every input: no conditions beyond the given statement. -/
import Derived.KernelRfl
import Derived.Test.YtfajnnnldhfhiaaGreatDoorProg
import Derived.WalkKit
import Derived.Lib.Builder
import Derived.Lib.UnsafeStr
import Derived.Laws.Externs
import Derived.Shelf.Strings.OnBuilder
import Derived.Test.YtfajnnnldhfhiaaGreatDoorKD
import Derived.Test.YtfajnnnldhfhiaaGreatDoorKC
set_option linter.unusedSimpArgs false
set_option linter.unusedVariables false
set_option linter.all false
namespace Go.Ai.T
open Go Go.Proofs
noncomputable def prim : Nat → Option (Id → List A → Heap → Option (A × Heap))
 | 8 => some attrSort
 | 25 => some (builderString 5)
 | 26 => some (slicesClone 11 160)
 | 43 => some stringsCompare
 | 46 => some (builderCheck [65, 140])
 | 103 => some stringsJoin
 | 129 => some (errorsAs 47 76 185 [(184, 76)])
 | _ => none
def drawTab : List ((Nat × Nat) × List (Nat × Nat)) := [((6, 7), [(4, 0)]), ((7, 6), []), ((10, 6), []), ((11, 6), [(3, 4)]), ((13, 2), [(5, 1)]), ((13, 5), [(4, 5)]), ((15, 10), [(1, 0)]), ((16, 4), []), ((25, 1), []), ((28, 8), []), ((29, 14), [(5, 4)]), ((33, 4), []), ((33, 15), [(1, 2)]), ((33, 16), [(3, 5)]), ((33, 18), [(1, 2)]), ((33, 19), [(3, 5)]), ((33, 21), [(4, 5)]), ((38, 10), [(1, 0)]), ((39, 6), []), ((49, 17), []), ((53, 2), [(6, 10)]), ((58, 8), [(3, 5)]), ((59, 1), [(2, 5)]), ((61, 1), [(2, 5)]), ((68, 5), [(4, 0)]), ((68, 6), []), ((70, 4), []), ((70, 6), []), ((93, 3), []), ((96, 1), []), ((96, 6), []), ((104, 3), [(9, 10)]), ((108, 3), [(9, 10)]), ((131, 3), []), ((147, 0), [(12, 8)]), ((148, 2), [])]
def liveTab : List ((Nat × Nat) × List Nat) := [((5, 7), [1, 4, 5, 8, 9, 23, 24, 25]), ((6, 4), [1, 4, 5, 6, 7, 8, 9]), ((7, 4), [0, 1, 4, 5]), ((9, 3), [3, 8, 9, 10]), ((10, 4), [0, 2, 3]), ((11, 3), [0, 4, 5, 6, 7]), ((14, 3), [0, 1, 4, 5, 6, 7]), ((15, 5), [1, 4, 6, 7, 8, 9, 10]), ((16, 2), [0, 3, 4, 5]), ((29, 11), [2, 7, 10, 37, 38, 39]), ((32, 4), [0, 1, 2, 6, 8, 9, 16, 17, 18]), ((38, 7), [1, 4, 5, 6, 8, 9, 10]), ((39, 4), [2, 3, 4, 5]), ((48, 2), [0, 3]), ((49, 2), [0, 1, 2, 3, 4, 10, 11]), ((54, 1), [0, 1, 9, 10, 11]), ((55, 2), [0, 1, 4, 5]), ((58, 3), [1, 4, 5, 11, 12, 13]), ((63, 5), [0, 1, 4, 5, 6, 7, 8]), ((64, 3), [0, 3, 4]), ((65, 3), [0, 1, 2, 3, 8, 9]), ((66, 2), [0, 2, 3]), ((68, 3), [2, 3, 6, 8, 9, 10]), ((70, 1), [0, 1, 2, 3, 8]), ((70, 4), [0, 1, 2, 3, 8, 9]), ((74, 3), [2, 6, 8, 17, 18, 19]), ((75, 8), [1, 2, 4, 40, 41, 42]), ((95, 3), [5, 12, 13, 14]), ((97, 3), [0, 1]), ((103, 12), [0, 1, 5, 39, 40, 41]), ((103, 22), [1, 8, 63, 64, 65]), ((106, 3), [0, 1, 2, 7, 13, 14, 15]), ((109, 3), [0, 1, 2, 7, 13, 14, 15]), ((110, 22), [0, 1, 4, 6, 7, 8, 9]), ((116, 2), [1, 4, 7, 8, 9]), ((117, 4), [1, 2, 6, 15, 16, 17]), ((121, 3), [1, 2, 7, 10, 11, 12]), ((122, 3), [1, 2, 7, 10, 11, 12]), ((130, 2), [0, 1, 4, 7, 8]), ((134, 2), [0, 1, 5]), ((137, 4), [1, 2, 6, 15, 16, 17]), ((142, 3), [0, 2, 3, 4, 5, 10, 11]), ((146, 1), [0, 1, 3, 6, 8]), ((146, 18), [1, 3, 6, 8, 48, 49, 50]), ((148, 5), [0, 2, 3, 4]), ((149, 3), [0, 3, 7, 8])]
noncomputable def E : Env where
 P := Tryz.prog
 frz t := [76, 185].contains t
 prim := prim
 keep f := [29, 60, 62].contains f
 raw f := f == 68
 draw f i := (drawTab.find? fun q => q.1.1 == f && q.1.2 == i).map (·.2)
 live f i := ((liveTab.find? fun q => q.1.1 == f && q.1.2 == i).map (·.2)).getD []
theorem E_P : E.P = Tryz.prog := rfl
@[simp] theorem raw_E (f : Nat) : E.raw f = (f == 68) := rfl
@[simp] theorem bytesT_25 : bytesT E.P 25 = some 16 := by kernel_rfl
@[simp] theorem bytesT_3 : bytesT E.P 3 = some 8 := by kernel_rfl
@[simp] theorem bytesT_36 : bytesT E.P 36 = some 120 := by kernel_rfl
@[simp] theorem bytesT_38 : bytesT E.P 38 = some 160 := by kernel_rfl
@[simp] theorem bytesT_45 : bytesT E.P 45 = some 56 := by kernel_rfl
@[simp] theorem bytesT_5 : bytesT E.P 5 = some 1 := by kernel_rfl
@[simp] theorem bytesT_55 : bytesT E.P 55 = some 56 := by kernel_rfl
@[simp] theorem bytesT_9 : bytesT E.P 9 = some 16 := by kernel_rfl
@[simp] theorem concrete_184 : E.P.concrete 184 = true := by kernel_rfl
@[simp] theorem concrete_185 : E.P.concrete 185 = true := by kernel_rfl
@[simp] theorem concrete_252 : E.P.concrete 252 = true := by kernel_rfl
@[simp] theorem concrete_47 : E.P.concrete 47 = true := by kernel_rfl
@[simp] theorem concrete_76 : E.P.concrete 76 = true := by kernel_rfl
@[simp] theorem concrete_9 : E.P.concrete 9 = true := by kernel_rfl
@[simp] theorem fieldT_116_0 : fieldT E.P 116 0 = some 0 := by kernel_rfl
@[simp] theorem fieldT_116_1 : fieldT E.P 116 1 = some 1 := by kernel_rfl
@[simp] theorem fieldT_116_2 : fieldT E.P 116 2 = some 2 := by kernel_rfl
@[simp] theorem fieldT_116_3 : fieldT E.P 116 3 = some 3 := by kernel_rfl
@[simp] theorem fieldT_119_0 : fieldT E.P 119 0 = some 0 := by kernel_rfl
@[simp] theorem fieldT_119_1 : fieldT E.P 119 1 = some 1 := by kernel_rfl
@[simp] theorem fieldT_124_0 : fieldT E.P 124 0 = some 0 := by kernel_rfl
@[simp] theorem fieldT_124_1 : fieldT E.P 124 1 = some 1 := by kernel_rfl
@[simp] theorem fieldT_140_0 : fieldT E.P 140 0 = some 0 := by kernel_rfl
@[simp] theorem fieldT_187_1 : fieldT E.P 187 1 = some 1 := by kernel_rfl
@[simp] theorem fieldT_36_0 : fieldT E.P 36 0 = some 0 := by kernel_rfl
@[simp] theorem fieldT_36_1 : fieldT E.P 36 1 = some 1 := by kernel_rfl
@[simp] theorem fieldT_36_2 : fieldT E.P 36 2 = some 2 := by kernel_rfl
@[simp] theorem fieldT_36_3 : fieldT E.P 36 3 = some 3 := by kernel_rfl
@[simp] theorem fieldT_36_4 : fieldT E.P 36 4 = some 4 := by kernel_rfl
@[simp] theorem fieldT_36_5 : fieldT E.P 36 5 = some 5 := by kernel_rfl
@[simp] theorem fieldT_36_6 : fieldT E.P 36 6 = some 6 := by kernel_rfl
@[simp] theorem fieldT_36_7 : fieldT E.P 36 7 = some 7 := by kernel_rfl
@[simp] theorem fieldT_38_0 : fieldT E.P 38 0 = some 0 := by kernel_rfl
@[simp] theorem fieldT_38_1 : fieldT E.P 38 1 = some 1 := by kernel_rfl
@[simp] theorem fieldT_38_2 : fieldT E.P 38 2 = some 2 := by kernel_rfl
@[simp] theorem fieldT_38_3 : fieldT E.P 38 3 = some 10 := by kernel_rfl
@[simp] theorem fieldT_45_0 : fieldT E.P 45 0 = some 0 := by kernel_rfl
@[simp] theorem fieldT_45_1 : fieldT E.P 45 1 = some 1 := by kernel_rfl
@[simp] theorem fieldT_45_2 : fieldT E.P 45 2 = some 2 := by kernel_rfl
@[simp] theorem fieldT_45_3 : fieldT E.P 45 3 = some 3 := by kernel_rfl
@[simp] theorem fieldT_45_4 : fieldT E.P 45 4 = some 4 := by kernel_rfl
@[simp] theorem fieldT_55_0 : fieldT E.P 55 0 = some 0 := by kernel_rfl
@[simp] theorem fieldT_55_1 : fieldT E.P 55 1 = some 1 := by kernel_rfl
@[simp] theorem fieldT_55_2 : fieldT E.P 55 2 = some 2 := by kernel_rfl
@[simp] theorem fieldT_55_3 : fieldT E.P 55 3 = some 3 := by kernel_rfl
@[simp] theorem fieldT_55_4 : fieldT E.P 55 4 = some 4 := by kernel_rfl
@[simp] theorem fieldT_65_0 : fieldT E.P 65 0 = some 0 := by kernel_rfl
@[simp] theorem fieldT_65_1 : fieldT E.P 65 1 = some 1 := by kernel_rfl
@[simp] theorem fieldT_74_0 : fieldT E.P 74 0 = some 0 := by kernel_rfl
@[simp] theorem fieldT_74_1 : fieldT E.P 74 1 = some 1 := by kernel_rfl
@[simp] theorem fieldT_74_2 : fieldT E.P 74 2 = some 2 := by kernel_rfl
@[simp] theorem fieldT_74_3 : fieldT E.P 74 3 = some 3 := by kernel_rfl
@[simp] theorem fieldT_78_0 : fieldT E.P 78 0 = some 0 := by kernel_rfl
@[simp] theorem fieldT_78_1 : fieldT E.P 78 1 = some 1 := by kernel_rfl
@[simp] theorem fieldT_84_0 : fieldT E.P 84 0 = some 0 := by kernel_rfl
@[simp] theorem fieldT_84_1 : fieldT E.P 84 1 = some 1 := by kernel_rfl
@[simp] theorem fieldT_84_2 : fieldT E.P 84 2 = some 2 := by kernel_rfl
@[simp] theorem fieldT_84_3 : fieldT E.P 84 3 = some 3 := by kernel_rfl
@[simp] theorem fieldT_84_4 : fieldT E.P 84 4 = some 4 := by kernel_rfl
@[simp] theorem kindT_101 : kindT E.P 101 = Kd.ptr := by kernel_rfl
@[simp] theorem kindT_104 : kindT E.P 104 = Kd.int IntKind.u64 := by kernel_rfl
@[simp] theorem kindT_114 : kindT E.P 114 = Kd.slice 9 := by kernel_rfl
@[simp] theorem kindT_144 : kindT E.P 144 = Kd.other := by kernel_rfl
@[simp] theorem kindT_147 : kindT E.P 147 = Kd.int IntKind.i64 := by kernel_rfl
@[simp] theorem kindT_154 : kindT E.P 154 = Kd.int IntKind.u32 := by kernel_rfl
@[simp] theorem kindT_184 : kindT E.P 184 = Kd.ptr := by kernel_rfl
@[simp] theorem kindT_185 : kindT E.P 185 = Kd.ptr := by kernel_rfl
@[simp] theorem kindT_20 : kindT E.P 20 = Kd.iface := by kernel_rfl
@[simp] theorem kindT_204 : kindT E.P 204 = Kd.int IntKind.u8 := by kernel_rfl
@[simp] theorem kindT_220 : kindT E.P 220 = Kd.slice 25 := by kernel_rfl
@[simp] theorem kindT_23 : kindT E.P 23 = Kd.slice 38 := by kernel_rfl
@[simp] theorem kindT_25 : kindT E.P 25 = Kd.iface := by kernel_rfl
@[simp] theorem kindT_252 : kindT E.P 252 = Kd.ptr := by kernel_rfl
@[simp] theorem kindT_3 : kindT E.P 3 = Kd.int IntKind.i64 := by kernel_rfl
@[simp] theorem kindT_33 : kindT E.P 33 = Kd.int IntKind.u64 := by kernel_rfl
@[simp] theorem kindT_34 : kindT E.P 34 = Kd.slice 36 := by kernel_rfl
@[simp] theorem kindT_36 : kindT E.P 36 = Kd.struct := by kernel_rfl
@[simp] theorem kindT_38 : kindT E.P 38 = Kd.struct := by kernel_rfl
@[simp] theorem kindT_4 : kindT E.P 4 = Kd.bool := by kernel_rfl
@[simp] theorem kindT_41 : kindT E.P 41 = Kd.slice 45 := by kernel_rfl
@[simp] theorem kindT_45 : kindT E.P 45 = Kd.struct := by kernel_rfl
@[simp] theorem kindT_47 : kindT E.P 47 = Kd.int IntKind.i64 := by kernel_rfl
@[simp] theorem kindT_5 : kindT E.P 5 = Kd.int IntKind.u8 := by kernel_rfl
@[simp] theorem kindT_50 : kindT E.P 50 = Kd.slice 55 := by kernel_rfl
@[simp] theorem kindT_55 : kindT E.P 55 = Kd.struct := by kernel_rfl
@[simp] theorem kindT_57 : kindT E.P 57 = Kd.slice 3 := by kernel_rfl
@[simp] theorem kindT_62 : kindT E.P 62 = Kd.ptr := by kernel_rfl
@[simp] theorem kindT_63 : kindT E.P 63 = Kd.slice 5 := by kernel_rfl
@[simp] theorem kindT_76 : kindT E.P 76 = Kd.ptr := by kernel_rfl
@[simp] theorem kindT_9 : kindT E.P 9 = Kd.str := by kernel_rfl
@[simp] theorem partT_45_3 : partT E.P 45 3 = some (3, 1, false) := by kernel_rfl
@[simp] theorem placesT_116 : placesT E.P 116 = some [(0, 1), (1, 1), (2, 1), (3, 1)] := by kernel_rfl
@[simp] theorem placesT_119 : placesT E.P 119 = some [(0, 1), (1, 1)] := by kernel_rfl
@[simp] theorem placesT_124 : placesT E.P 124 = some [(0, 1), (1, 1)] := by kernel_rfl
@[simp] theorem placesT_187 : placesT E.P 187 = some [(0, 1), (1, 1)] := by kernel_rfl
@[simp] theorem placesT_36 : placesT E.P 36 = some [(0, 1), (1, 1), (2, 1), (3, 1), (4, 1), (5, 1), (6, 1), (7, 1)] := by kernel_rfl
@[simp] theorem placesT_38 : placesT E.P 38 = some [(0, 1), (1, 1), (2, 8), (10, 1)] := by kernel_rfl
@[simp] theorem placesT_45 : placesT E.P 45 = some [(0, 1), (1, 1), (2, 1), (3, 1), (4, 1)] := by kernel_rfl
@[simp] theorem placesT_55 : placesT E.P 55 = some [(0, 1), (1, 1), (2, 1), (3, 1), (4, 1)] := by kernel_rfl
@[simp] theorem placesT_74 : placesT E.P 74 = some [(0, 1), (1, 1), (2, 1), (3, 1)] := by kernel_rfl
@[simp] theorem placesT_78 : placesT E.P 78 = some [(0, 1), (1, 1)] := by kernel_rfl
@[simp] theorem placesT_84 : placesT E.P 84 = some [(0, 1), (1, 1), (2, 1), (3, 1), (4, 1)] := by kernel_rfl
@[simp] theorem shapeT_114 : shapeT E.P 114 = some (1, false) := by kernel_rfl
@[simp] theorem shapeT_116 : shapeT E.P 116 = some (4, true) := by kernel_rfl
@[simp] theorem shapeT_119 : shapeT E.P 119 = some (2, true) := by kernel_rfl
@[simp] theorem shapeT_124 : shapeT E.P 124 = some (2, true) := by kernel_rfl
@[simp] theorem shapeT_199 : shapeT E.P 199 = some (3, true) := by kernel_rfl
@[simp] theorem shapeT_202 : shapeT E.P 202 = some (1, false) := by kernel_rfl
@[simp] theorem shapeT_23 : shapeT E.P 23 = some (1, false) := by kernel_rfl
@[simp] theorem shapeT_25 : shapeT E.P 25 = some (1, false) := by kernel_rfl
@[simp] theorem shapeT_3 : shapeT E.P 3 = some (1, false) := by kernel_rfl
@[simp] theorem shapeT_33 : shapeT E.P 33 = some (1, false) := by kernel_rfl
@[simp] theorem shapeT_34 : shapeT E.P 34 = some (1, false) := by kernel_rfl
@[simp] theorem shapeT_36 : shapeT E.P 36 = some (8, true) := by kernel_rfl
@[simp] theorem shapeT_38 : shapeT E.P 38 = some (11, true) := by kernel_rfl
@[simp] theorem shapeT_4 : shapeT E.P 4 = some (1, false) := by kernel_rfl
@[simp] theorem shapeT_41 : shapeT E.P 41 = some (1, false) := by kernel_rfl
@[simp] theorem shapeT_45 : shapeT E.P 45 = some (5, true) := by kernel_rfl
@[simp] theorem shapeT_49 : shapeT E.P 49 = some (1, false) := by kernel_rfl
@[simp] theorem shapeT_5 : shapeT E.P 5 = some (1, false) := by kernel_rfl
@[simp] theorem shapeT_55 : shapeT E.P 55 = some (5, true) := by kernel_rfl
@[simp] theorem shapeT_62 : shapeT E.P 62 = some (1, false) := by kernel_rfl
@[simp] theorem shapeT_63 : shapeT E.P 63 = some (1, false) := by kernel_rfl
@[simp] theorem shapeT_76 : shapeT E.P 76 = some (1, false) := by kernel_rfl
@[simp] theorem shapeT_87 : shapeT E.P 87 = some (1, false) := by kernel_rfl
@[simp] theorem shapeT_9 : shapeT E.P 9 = some (1, false) := by kernel_rfl
@[simp] theorem szT_114 : szT E.P 114 = some 1 := by kernel_rfl
@[simp] theorem szT_116 : szT E.P 116 = some 4 := by kernel_rfl
@[simp] theorem szT_119 : szT E.P 119 = some 2 := by kernel_rfl
@[simp] theorem szT_124 : szT E.P 124 = some 2 := by kernel_rfl
@[simp] theorem szT_199 : szT E.P 199 = some 3 := by kernel_rfl
@[simp] theorem szT_202 : szT E.P 202 = some 1 := by kernel_rfl
@[simp] theorem szT_23 : szT E.P 23 = some 1 := by kernel_rfl
@[simp] theorem szT_25 : szT E.P 25 = some 1 := by kernel_rfl
@[simp] theorem szT_3 : szT E.P 3 = some 1 := by kernel_rfl
@[simp] theorem szT_33 : szT E.P 33 = some 1 := by kernel_rfl
@[simp] theorem szT_34 : szT E.P 34 = some 1 := by kernel_rfl
@[simp] theorem szT_36 : szT E.P 36 = some 8 := by kernel_rfl
@[simp] theorem szT_38 : szT E.P 38 = some 11 := by kernel_rfl
@[simp] theorem szT_4 : szT E.P 4 = some 1 := by kernel_rfl
@[simp] theorem szT_41 : szT E.P 41 = some 1 := by kernel_rfl
@[simp] theorem szT_45 : szT E.P 45 = some 5 := by kernel_rfl
@[simp] theorem szT_5 : szT E.P 5 = some 1 := by kernel_rfl
@[simp] theorem szT_55 : szT E.P 55 = some 5 := by kernel_rfl
@[simp] theorem szT_62 : szT E.P 62 = some 1 := by kernel_rfl
@[simp] theorem szT_63 : szT E.P 63 = some 1 := by kernel_rfl
@[simp] theorem szT_9 : szT E.P 9 = some 1 := by kernel_rfl
@[simp] theorem und_104 : (E.P.underlying 104).isSome = true := by kernel_rfl
@[simp] theorem und_144 : (E.P.underlying 144).isSome = true := by kernel_rfl
@[simp] theorem und_154 : (E.P.underlying 154).isSome = true := by kernel_rfl
@[simp] theorem und_3 : (E.P.underlying 3).isSome = true := by kernel_rfl
@[simp] theorem und_33 : (E.P.underlying 33).isSome = true := by kernel_rfl
@[simp] theorem und_5 : (E.P.underlying 5).isSome = true := by kernel_rfl
@[simp] theorem und_62 : (E.P.underlying 62).isSome = true := by kernel_rfl
@[simp] theorem und_63 : (E.P.underlying 63).isSome = true := by kernel_rfl
@[simp] theorem und_9 : (E.P.underlying 9).isSome = true := by kernel_rfl
@[simp] theorem zeroT_116 : zeroT E.P 116 = some [A.int IntKind.i64 0, A.int IntKind.u64 0, A.str [], A.nils] := by kernel_rfl
@[simp] theorem zeroT_119 : zeroT E.P 119 = some [A.nils, A.str []] := by kernel_rfl
@[simp] theorem zeroT_124 : zeroT E.P 124 = some [A.nils, A.str []] := by kernel_rfl
@[simp] theorem zeroT_140 : zeroT E.P 140 = some [A.nilp, A.nils] := by kernel_rfl
@[simp] theorem zeroT_187 : zeroT E.P 187 = some [A.int IntKind.i64 0, A.nili] := by kernel_rfl
@[simp] theorem zeroT_199 : zeroT E.P 199 = some [A.nilp, A.nilp, A.int IntKind.u64 0] := by kernel_rfl
@[simp] theorem zeroT_25 : zeroT E.P 25 = some [A.nili] := by kernel_rfl
@[simp] theorem zeroT_3 : zeroT E.P 3 = some [A.int IntKind.i64 0] := by kernel_rfl
@[simp] theorem zeroT_36 : zeroT E.P 36 = some [A.int IntKind.i64 0, A.str [], A.bool false, A.int IntKind.u64 0, A.nils, A.nils, A.str [], A.str []] := by kernel_rfl
@[simp] theorem zeroT_38 : zeroT E.P 38 = some [A.str [], A.bool false, A.int IntKind.i64 0, A.str [], A.bool false, A.int IntKind.u64 0, A.nils, A.nils, A.str [], A.str [], A.str []] := by kernel_rfl
@[simp] theorem zeroT_45 : zeroT E.P 45 = some [A.int IntKind.i64 0, A.int IntKind.i64 0, A.int IntKind.u64 0, A.str [], A.str []] := by kernel_rfl
@[simp] theorem zeroT_5 : zeroT E.P 5 = some [A.int IntKind.u8 0] := by kernel_rfl
@[simp] theorem zeroT_55 : zeroT E.P 55 = some [A.int IntKind.i64 0, A.int IntKind.i64 0, A.int IntKind.u64 0, A.str [], A.str []] := by kernel_rfl
@[simp] theorem zeroT_65 : zeroT E.P 65 = some [A.nilp, A.nils] := by kernel_rfl
@[simp] theorem zeroT_74 : zeroT E.P 74 = some [A.str [], A.int IntKind.i64 0, A.nili, A.int IntKind.i64 0] := by kernel_rfl
@[simp] theorem zeroT_76 : zeroT E.P 76 = some [A.nilp] := by kernel_rfl
@[simp] theorem zeroT_78 : zeroT E.P 78 = some [A.int IntKind.i64 0, A.nili] := by kernel_rfl
@[simp] theorem zeroT_84 : zeroT E.P 84 = some [A.nili, A.str [], A.int IntKind.i64 0, A.int IntKind.i64 0, A.nils] := by kernel_rfl
@[simp] theorem zeroT_9 : zeroT E.P 9 = some [A.str []] := by kernel_rfl
@[simp] theorem frz_184 : E.frz 184 = false := by kernel_rfl
@[simp] theorem frz_185 : E.frz 185 = true := by kernel_rfl
@[simp] theorem frz_252 : E.frz 252 = false := by kernel_rfl
@[simp] theorem frz_47 : E.frz 47 = false := by kernel_rfl
@[simp] theorem frz_76 : E.frz 76 = true := by kernel_rfl
@[simp] theorem frz_9 : E.frz 9 = false := by kernel_rfl
@[simp] theorem draw_6_7 : E.draw 6 7 = some [(4, 0)] := by kernel_rfl
@[simp] theorem draw_7_6 : E.draw 7 6 = some [] := by kernel_rfl
@[simp] theorem draw_10_6 : E.draw 10 6 = some [] := by kernel_rfl
@[simp] theorem draw_11_6 : E.draw 11 6 = some [(3, 4)] := by kernel_rfl
@[simp] theorem draw_13_2 : E.draw 13 2 = some [(5, 1)] := by kernel_rfl
@[simp] theorem draw_13_5 : E.draw 13 5 = some [(4, 5)] := by kernel_rfl
@[simp] theorem draw_15_10 : E.draw 15 10 = some [(1, 0)] := by kernel_rfl
@[simp] theorem draw_16_4 : E.draw 16 4 = some [] := by kernel_rfl
@[simp] theorem draw_25_1 : E.draw 25 1 = some [] := by kernel_rfl
@[simp] theorem draw_28_8 : E.draw 28 8 = some [] := by kernel_rfl
@[simp] theorem draw_29_14 : E.draw 29 14 = some [(5, 4)] := by kernel_rfl
@[simp] theorem draw_33_4 : E.draw 33 4 = some [] := by kernel_rfl
@[simp] theorem draw_33_15 : E.draw 33 15 = some [(1, 2)] := by kernel_rfl
@[simp] theorem draw_33_16 : E.draw 33 16 = some [(3, 5)] := by kernel_rfl
@[simp] theorem draw_33_18 : E.draw 33 18 = some [(1, 2)] := by kernel_rfl
@[simp] theorem draw_33_19 : E.draw 33 19 = some [(3, 5)] := by kernel_rfl
@[simp] theorem draw_33_21 : E.draw 33 21 = some [(4, 5)] := by kernel_rfl
@[simp] theorem draw_38_10 : E.draw 38 10 = some [(1, 0)] := by kernel_rfl
@[simp] theorem draw_39_6 : E.draw 39 6 = some [] := by kernel_rfl
@[simp] theorem draw_49_17 : E.draw 49 17 = some [] := by kernel_rfl
@[simp] theorem draw_53_2 : E.draw 53 2 = some [(6, 10)] := by kernel_rfl
@[simp] theorem draw_58_8 : E.draw 58 8 = some [(3, 5)] := by kernel_rfl
@[simp] theorem draw_59_1 : E.draw 59 1 = some [(2, 5)] := by kernel_rfl
@[simp] theorem draw_61_1 : E.draw 61 1 = some [(2, 5)] := by kernel_rfl
@[simp] theorem draw_68_5 : E.draw 68 5 = some [(4, 0)] := by kernel_rfl
@[simp] theorem draw_68_6 : E.draw 68 6 = some [] := by kernel_rfl
@[simp] theorem draw_70_4 : E.draw 70 4 = some [] := by kernel_rfl
@[simp] theorem draw_70_6 : E.draw 70 6 = some [] := by kernel_rfl
@[simp] theorem draw_93_3 : E.draw 93 3 = some [] := by kernel_rfl
@[simp] theorem draw_96_1 : E.draw 96 1 = some [] := by kernel_rfl
@[simp] theorem draw_96_6 : E.draw 96 6 = some [] := by kernel_rfl
@[simp] theorem draw_104_3 : E.draw 104 3 = some [(9, 10)] := by kernel_rfl
@[simp] theorem draw_108_3 : E.draw 108 3 = some [(9, 10)] := by kernel_rfl
@[simp] theorem draw_131_3 : E.draw 131 3 = some [] := by kernel_rfl
@[simp] theorem draw_147_0 : E.draw 147 0 = some [(12, 8)] := by kernel_rfl
@[simp] theorem draw_148_2 : E.draw 148 2 = some [] := by kernel_rfl
@[simp] theorem live_5_7 : E.live 5 7 = [1, 4, 5, 8, 9, 23, 24, 25] := by kernel_rfl
@[simp] theorem live_6_4 : E.live 6 4 = [1, 4, 5, 6, 7, 8, 9] := by kernel_rfl
@[simp] theorem live_7_4 : E.live 7 4 = [0, 1, 4, 5] := by kernel_rfl
@[simp] theorem live_9_3 : E.live 9 3 = [3, 8, 9, 10] := by kernel_rfl
@[simp] theorem live_10_4 : E.live 10 4 = [0, 2, 3] := by kernel_rfl
@[simp] theorem live_11_3 : E.live 11 3 = [0, 4, 5, 6, 7] := by kernel_rfl
@[simp] theorem live_14_3 : E.live 14 3 = [0, 1, 4, 5, 6, 7] := by kernel_rfl
@[simp] theorem live_15_5 : E.live 15 5 = [1, 4, 6, 7, 8, 9, 10] := by kernel_rfl
@[simp] theorem live_16_2 : E.live 16 2 = [0, 3, 4, 5] := by kernel_rfl
@[simp] theorem live_29_11 : E.live 29 11 = [2, 7, 10, 37, 38, 39] := by kernel_rfl
@[simp] theorem live_32_4 : E.live 32 4 = [0, 1, 2, 6, 8, 9, 16, 17, 18] := by kernel_rfl
@[simp] theorem live_38_7 : E.live 38 7 = [1, 4, 5, 6, 8, 9, 10] := by kernel_rfl
@[simp] theorem live_39_4 : E.live 39 4 = [2, 3, 4, 5] := by kernel_rfl
@[simp] theorem live_48_2 : E.live 48 2 = [0, 3] := by kernel_rfl
@[simp] theorem live_49_2 : E.live 49 2 = [0, 1, 2, 3, 4, 10, 11] := by kernel_rfl
@[simp] theorem live_54_1 : E.live 54 1 = [0, 1, 9, 10, 11] := by kernel_rfl
@[simp] theorem live_55_2 : E.live 55 2 = [0, 1, 4, 5] := by kernel_rfl
@[simp] theorem live_58_3 : E.live 58 3 = [1, 4, 5, 11, 12, 13] := by kernel_rfl
@[simp] theorem live_63_5 : E.live 63 5 = [0, 1, 4, 5, 6, 7, 8] := by kernel_rfl
@[simp] theorem live_64_3 : E.live 64 3 = [0, 3, 4] := by kernel_rfl
@[simp] theorem live_65_3 : E.live 65 3 = [0, 1, 2, 3, 8, 9] := by kernel_rfl
@[simp] theorem live_66_2 : E.live 66 2 = [0, 2, 3] := by kernel_rfl
@[simp] theorem live_68_3 : E.live 68 3 = [2, 3, 6, 8, 9, 10] := by kernel_rfl
@[simp] theorem live_70_1 : E.live 70 1 = [0, 1, 2, 3, 8] := by kernel_rfl
@[simp] theorem live_70_4 : E.live 70 4 = [0, 1, 2, 3, 8, 9] := by kernel_rfl
@[simp] theorem live_74_3 : E.live 74 3 = [2, 6, 8, 17, 18, 19] := by kernel_rfl
@[simp] theorem live_75_8 : E.live 75 8 = [1, 2, 4, 40, 41, 42] := by kernel_rfl
@[simp] theorem live_95_3 : E.live 95 3 = [5, 12, 13, 14] := by kernel_rfl
@[simp] theorem live_97_3 : E.live 97 3 = [0, 1] := by kernel_rfl
@[simp] theorem live_103_12 : E.live 103 12 = [0, 1, 5, 39, 40, 41] := by kernel_rfl
@[simp] theorem live_103_22 : E.live 103 22 = [1, 8, 63, 64, 65] := by kernel_rfl
@[simp] theorem live_106_3 : E.live 106 3 = [0, 1, 2, 7, 13, 14, 15] := by kernel_rfl
@[simp] theorem live_109_3 : E.live 109 3 = [0, 1, 2, 7, 13, 14, 15] := by kernel_rfl
@[simp] theorem live_110_22 : E.live 110 22 = [0, 1, 4, 6, 7, 8, 9] := by kernel_rfl
@[simp] theorem live_116_2 : E.live 116 2 = [1, 4, 7, 8, 9] := by kernel_rfl
@[simp] theorem live_117_4 : E.live 117 4 = [1, 2, 6, 15, 16, 17] := by kernel_rfl
@[simp] theorem live_121_3 : E.live 121 3 = [1, 2, 7, 10, 11, 12] := by kernel_rfl
@[simp] theorem live_122_3 : E.live 122 3 = [1, 2, 7, 10, 11, 12] := by kernel_rfl
@[simp] theorem live_130_2 : E.live 130 2 = [0, 1, 4, 7, 8] := by kernel_rfl
@[simp] theorem live_134_2 : E.live 134 2 = [0, 1, 5] := by kernel_rfl
@[simp] theorem live_137_4 : E.live 137 4 = [1, 2, 6, 15, 16, 17] := by kernel_rfl
@[simp] theorem live_142_3 : E.live 142 3 = [0, 2, 3, 4, 5, 10, 11] := by kernel_rfl
@[simp] theorem live_146_1 : E.live 146 1 = [0, 1, 3, 6, 8] := by kernel_rfl
@[simp] theorem live_146_18 : E.live 146 18 = [1, 3, 6, 8, 48, 49, 50] := by kernel_rfl
@[simp] theorem live_148_5 : E.live 148 5 = [0, 2, 3, 4] := by kernel_rfl
@[simp] theorem live_149_3 : E.live 149 3 = [0, 3, 7, 8] := by kernel_rfl
noncomputable def L_5_7 : Code := ((Tryz.f5.body.getD .skip).loopAt 7).getD .skip
noncomputable def L_6_4 : Code := ((Tryz.f6.body.getD .skip).loopAt 4).getD .skip
noncomputable def L_7_4 : Code := ((Tryz.f7.body.getD .skip).loopAt 4).getD .skip
noncomputable def L_9_3 : Code := ((Tryz.f9.body.getD .skip).loopAt 3).getD .skip
noncomputable def L_10_4 : Code := ((Tryz.f10.body.getD .skip).loopAt 4).getD .skip
noncomputable def L_11_3 : Code := ((Tryz.f11.body.getD .skip).loopAt 3).getD .skip
noncomputable def L_14_3 : Code := ((Tryz.f14.body.getD .skip).loopAt 3).getD .skip
noncomputable def L_15_5 : Code := ((Tryz.f15.body.getD .skip).loopAt 5).getD .skip
noncomputable def L_16_2 : Code := ((Tryz.f16.body.getD .skip).loopAt 2).getD .skip
noncomputable def L_29_11 : Code := ((Tryz.f29.body.getD .skip).loopAt 11).getD .skip
noncomputable def L_32_4 : Code := ((Tryz.f32.body.getD .skip).loopAt 4).getD .skip
noncomputable def L_38_7 : Code := ((Tryz.f38.body.getD .skip).loopAt 7).getD .skip
noncomputable def L_39_4 : Code := ((Tryz.f39.body.getD .skip).loopAt 4).getD .skip
noncomputable def L_48_2 : Code := ((Tryz.f48.body.getD .skip).loopAt 2).getD .skip
noncomputable def L_49_2 : Code := ((Tryz.f49.body.getD .skip).loopAt 2).getD .skip
noncomputable def L_54_1 : Code := ((Tryz.f54.body.getD .skip).loopAt 1).getD .skip
noncomputable def L_55_2 : Code := ((Tryz.f55.body.getD .skip).loopAt 2).getD .skip
noncomputable def L_58_3 : Code := ((Tryz.f58.body.getD .skip).loopAt 3).getD .skip
noncomputable def L_63_5 : Code := ((Tryz.f63.body.getD .skip).loopAt 5).getD .skip
noncomputable def L_64_3 : Code := ((Tryz.f64.body.getD .skip).loopAt 3).getD .skip
noncomputable def L_65_3 : Code := ((Tryz.f65.body.getD .skip).loopAt 3).getD .skip
noncomputable def L_66_2 : Code := ((Tryz.f66.body.getD .skip).loopAt 2).getD .skip
noncomputable def L_68_3 : Code := ((Tryz.f68.body.getD .skip).loopAt 3).getD .skip
noncomputable def L_70_1 : Code := ((Tryz.f70.body.getD .skip).loopAt 1).getD .skip
noncomputable def L_70_4 : Code := ((Tryz.f70.body.getD .skip).loopAt 4).getD .skip
noncomputable def L_74_3 : Code := ((Tryz.f74.body.getD .skip).loopAt 3).getD .skip
noncomputable def L_75_8 : Code := ((Tryz.f75.body.getD .skip).loopAt 8).getD .skip
noncomputable def L_95_3 : Code := ((Tryz.f95.body.getD .skip).loopAt 3).getD .skip
noncomputable def L_97_3 : Code := ((Tryz.f97.body.getD .skip).loopAt 3).getD .skip
noncomputable def L_103_12 : Code := ((Tryz.f103.body.getD .skip).loopAt 12).getD .skip
noncomputable def L_103_22 : Code := ((Tryz.f103.body.getD .skip).loopAt 22).getD .skip
noncomputable def L_106_3 : Code := ((Tryz.f106.body.getD .skip).loopAt 3).getD .skip
noncomputable def L_109_3 : Code := ((Tryz.f109.body.getD .skip).loopAt 3).getD .skip
noncomputable def L_110_22 : Code := ((Tryz.f110.body.getD .skip).loopAt 22).getD .skip
noncomputable def L_116_2 : Code := ((Tryz.f116.body.getD .skip).loopAt 2).getD .skip
noncomputable def L_117_4 : Code := ((Tryz.f117.body.getD .skip).loopAt 4).getD .skip
noncomputable def L_121_3 : Code := ((Tryz.f121.body.getD .skip).loopAt 3).getD .skip
noncomputable def L_122_3 : Code := ((Tryz.f122.body.getD .skip).loopAt 3).getD .skip
noncomputable def L_130_2 : Code := ((Tryz.f130.body.getD .skip).loopAt 2).getD .skip
noncomputable def L_134_2 : Code := ((Tryz.f134.body.getD .skip).loopAt 2).getD .skip
noncomputable def L_137_4 : Code := ((Tryz.f137.body.getD .skip).loopAt 4).getD .skip
noncomputable def L_142_3 : Code := ((Tryz.f142.body.getD .skip).loopAt 3).getD .skip
noncomputable def L_146_1 : Code := ((Tryz.f146.body.getD .skip).loopAt 1).getD .skip
noncomputable def L_146_18 : Code := ((Tryz.f146.body.getD .skip).loopAt 18).getD .skip
noncomputable def L_148_5 : Code := ((Tryz.f148.body.getD .skip).loopAt 5).getD .skip
noncomputable def L_149_3 : Code := ((Tryz.f149.body.getD .skip).loopAt 3).getD .skip
@[simp] theorem key_5_7 : L_5_7.key = 7 := by kernel_rfl
@[simp] theorem key_6_4 : L_6_4.key = 4 := by kernel_rfl
@[simp] theorem key_7_4 : L_7_4.key = 4 := by kernel_rfl
@[simp] theorem key_9_3 : L_9_3.key = 3 := by kernel_rfl
@[simp] theorem key_10_4 : L_10_4.key = 4 := by kernel_rfl
@[simp] theorem key_11_3 : L_11_3.key = 3 := by kernel_rfl
@[simp] theorem key_14_3 : L_14_3.key = 3 := by kernel_rfl
@[simp] theorem key_15_5 : L_15_5.key = 5 := by kernel_rfl
@[simp] theorem key_16_2 : L_16_2.key = 2 := by kernel_rfl
@[simp] theorem key_29_11 : L_29_11.key = 11 := by kernel_rfl
@[simp] theorem key_32_4 : L_32_4.key = 4 := by kernel_rfl
@[simp] theorem key_38_7 : L_38_7.key = 7 := by kernel_rfl
@[simp] theorem key_39_4 : L_39_4.key = 4 := by kernel_rfl
@[simp] theorem key_48_2 : L_48_2.key = 2 := by kernel_rfl
@[simp] theorem key_49_2 : L_49_2.key = 2 := by kernel_rfl
@[simp] theorem key_54_1 : L_54_1.key = 1 := by kernel_rfl
@[simp] theorem key_55_2 : L_55_2.key = 2 := by kernel_rfl
@[simp] theorem key_58_3 : L_58_3.key = 3 := by kernel_rfl
@[simp] theorem key_63_5 : L_63_5.key = 5 := by kernel_rfl
@[simp] theorem key_64_3 : L_64_3.key = 3 := by kernel_rfl
@[simp] theorem key_65_3 : L_65_3.key = 3 := by kernel_rfl
@[simp] theorem key_66_2 : L_66_2.key = 2 := by kernel_rfl
@[simp] theorem key_68_3 : L_68_3.key = 3 := by kernel_rfl
@[simp] theorem key_70_1 : L_70_1.key = 1 := by kernel_rfl
@[simp] theorem key_70_4 : L_70_4.key = 4 := by kernel_rfl
@[simp] theorem key_74_3 : L_74_3.key = 3 := by kernel_rfl
@[simp] theorem key_75_8 : L_75_8.key = 8 := by kernel_rfl
@[simp] theorem key_95_3 : L_95_3.key = 3 := by kernel_rfl
@[simp] theorem key_97_3 : L_97_3.key = 3 := by kernel_rfl
@[simp] theorem key_103_12 : L_103_12.key = 12 := by kernel_rfl
@[simp] theorem key_103_22 : L_103_22.key = 22 := by kernel_rfl
@[simp] theorem key_106_3 : L_106_3.key = 3 := by kernel_rfl
@[simp] theorem key_109_3 : L_109_3.key = 3 := by kernel_rfl
@[simp] theorem key_110_22 : L_110_22.key = 22 := by kernel_rfl
@[simp] theorem key_116_2 : L_116_2.key = 2 := by kernel_rfl
@[simp] theorem key_117_4 : L_117_4.key = 4 := by kernel_rfl
@[simp] theorem key_121_3 : L_121_3.key = 3 := by kernel_rfl
@[simp] theorem key_122_3 : L_122_3.key = 3 := by kernel_rfl
@[simp] theorem key_130_2 : L_130_2.key = 2 := by kernel_rfl
@[simp] theorem key_134_2 : L_134_2.key = 2 := by kernel_rfl
@[simp] theorem key_137_4 : L_137_4.key = 4 := by kernel_rfl
@[simp] theorem key_142_3 : L_142_3.key = 3 := by kernel_rfl
@[simp] theorem key_146_1 : L_146_1.key = 1 := by kernel_rfl
@[simp] theorem key_146_18 : L_146_18.key = 18 := by kernel_rfl
@[simp] theorem key_148_5 : L_148_5.key = 5 := by kernel_rfl
@[simp] theorem key_149_3 : L_149_3.key = 3 := by kernel_rfl
theorem eq_2 {p : Id} {args : List A} {h : Heap} : callW E p 2 args h = (execW E 2 p ((Tryz.f2.body).getD .skip) (initFr args) 0 h).bind (resX E.P false p Tryz.f2.results.toList) := callW_eq Tryz.f2 (by kernel_rfl) (by kernel_rfl) (by kernel_rfl) rfl (by kernel_rfl)
theorem eq_3 {p : Id} {args : List A} {h : Heap} : callW E p 3 args h = (execW E 3 p ((Tryz.f3.body).getD .skip) (initFr args) 0 h).bind (resX E.P false p Tryz.f3.results.toList) := callW_eq Tryz.f3 (by kernel_rfl) (by kernel_rfl) (by kernel_rfl) rfl (by kernel_rfl)
theorem eq_4 {p : Id} {args : List A} {h : Heap} : callW E p 4 args h = (execW E 4 p ((Tryz.f4.body).getD .skip) (initFr args) 0 h).bind (resX E.P false p Tryz.f4.results.toList) := callW_eq Tryz.f4 (by kernel_rfl) (by kernel_rfl) (by kernel_rfl) rfl (by kernel_rfl)
theorem rd_5_7 {p : Id} {L : List Nat} {c0 c : Nat} {fr : Fr} {h : Heap} : iterW E 5 p L L_5_7 c0 fr c h = (execW E 5 p ((((Tryz.f5.body).getD .skip).loopAt 7).getD .skip) fr c h).bind (loopX E 5 p L L_5_7 c0) := iterW_eq2 (by kernel_rfl)
theorem eq_5 {p : Id} {args : List A} {h : Heap} : callW E p 5 args h = (execW E 5 p (((Tryz.f5.body).getD .skip).hide [(7, L_5_7)]) (initFr args) 0 h).bind (resX E.P false p Tryz.f5.results.toList) := callW_eq Tryz.f5 (by kernel_rfl) (by kernel_rfl) (by kernel_rfl) rfl (by kernel_rfl)
theorem rd_6_4 {p : Id} {L : List Nat} {c0 c : Nat} {fr : Fr} {h : Heap} : iterW E 6 p L L_6_4 c0 fr c h = (execW E 6 p ((((Tryz.f6.body).getD .skip).loopAt 4).getD .skip) fr c h).bind (loopX E 6 p L L_6_4 c0) := iterW_eq2 (by kernel_rfl)
theorem eq_6 {p : Id} {args : List A} {h : Heap} : callW E p 6 args h = (execW E 6 p (((Tryz.f6.body).getD .skip).hide [(4, L_6_4)]) (initFr args) 0 h).bind (resX E.P false p Tryz.f6.results.toList) := callW_eq Tryz.f6 (by kernel_rfl) (by kernel_rfl) (by kernel_rfl) rfl (by kernel_rfl)
theorem rd_7_4 {p : Id} {L : List Nat} {c0 c : Nat} {fr : Fr} {h : Heap} : iterW E 7 p L L_7_4 c0 fr c h = (execW E 7 p ((((Tryz.f7.body).getD .skip).loopAt 4).getD .skip) fr c h).bind (loopX E 7 p L L_7_4 c0) := iterW_eq2 (by kernel_rfl)
theorem eq_7 {p : Id} {args : List A} {h : Heap} : callW E p 7 args h = (execW E 7 p (((Tryz.f7.body).getD .skip).hide [(4, L_7_4)]) (initFr args) 0 h).bind (resX E.P false p Tryz.f7.results.toList) := callW_eq Tryz.f7 (by kernel_rfl) (by kernel_rfl) (by kernel_rfl) rfl (by kernel_rfl)
theorem rd_9_3 {p : Id} {L : List Nat} {c0 c : Nat} {fr : Fr} {h : Heap} : iterW E 9 p L L_9_3 c0 fr c h = (execW E 9 p ((((Tryz.f9.body).getD .skip).loopAt 3).getD .skip) fr c h).bind (loopX E 9 p L L_9_3 c0) := iterW_eq2 (by kernel_rfl)
theorem eq_9 {p : Id} {args : List A} {h : Heap} : callW E p 9 args h = (execW E 9 p (((Tryz.f9.body).getD .skip).hide [(3, L_9_3)]) (initFr args) 0 h).bind (resX E.P false p Tryz.f9.results.toList) := callW_eq Tryz.f9 (by kernel_rfl) (by kernel_rfl) (by kernel_rfl) rfl (by kernel_rfl)
theorem rd_10_4 {p : Id} {L : List Nat} {c0 c : Nat} {fr : Fr} {h : Heap} : iterW E 10 p L L_10_4 c0 fr c h = (execW E 10 p ((((Tryz.f10.body).getD .skip).loopAt 4).getD .skip) fr c h).bind (loopX E 10 p L L_10_4 c0) := iterW_eq2 (by kernel_rfl)
theorem eq_10 {p : Id} {args : List A} {h : Heap} : callW E p 10 args h = (execW E 10 p (((Tryz.f10.body).getD .skip).hide [(4, L_10_4)]) (initFr args) 0 h).bind (resX E.P false p Tryz.f10.results.toList) := callW_eq Tryz.f10 (by kernel_rfl) (by kernel_rfl) (by kernel_rfl) rfl (by kernel_rfl)
theorem rd_11_3 {p : Id} {L : List Nat} {c0 c : Nat} {fr : Fr} {h : Heap} : iterW E 11 p L L_11_3 c0 fr c h = (execW E 11 p ((((Tryz.f11.body).getD .skip).loopAt 3).getD .skip) fr c h).bind (loopX E 11 p L L_11_3 c0) := iterW_eq2 (by kernel_rfl)
theorem eq_11 {p : Id} {args : List A} {h : Heap} : callW E p 11 args h = (execW E 11 p (((Tryz.f11.body).getD .skip).hide [(3, L_11_3)]) (initFr args) 0 h).bind (resX E.P false p Tryz.f11.results.toList) := callW_eq Tryz.f11 (by kernel_rfl) (by kernel_rfl) (by kernel_rfl) rfl (by kernel_rfl)
theorem eq_12 {p : Id} {args : List A} {h : Heap} : callW E p 12 args h = (execW E 12 p ((Tryz.f12.body).getD .skip) (initFr args) 0 h).bind (resX E.P false p Tryz.f12.results.toList) := callW_eq Tryz.f12 (by kernel_rfl) (by kernel_rfl) (by kernel_rfl) rfl (by kernel_rfl)
theorem eq_13 {p : Id} {args : List A} {h : Heap} : callW E p 13 args h = (execW E 13 p ((Tryz.f13.body).getD .skip) (initFr args) 0 h).bind (resX E.P false p Tryz.f13.results.toList) := callW_eq Tryz.f13 (by kernel_rfl) (by kernel_rfl) (by kernel_rfl) rfl (by kernel_rfl)
theorem rd_14_3 {p : Id} {L : List Nat} {c0 c : Nat} {fr : Fr} {h : Heap} : iterW E 14 p L L_14_3 c0 fr c h = (execW E 14 p ((((Tryz.f14.body).getD .skip).loopAt 3).getD .skip) fr c h).bind (loopX E 14 p L L_14_3 c0) := iterW_eq2 (by kernel_rfl)
theorem eq_14 {p : Id} {args : List A} {h : Heap} : callW E p 14 args h = (execW E 14 p (((Tryz.f14.body).getD .skip).hide [(3, L_14_3)]) (initFr args) 0 h).bind (resX E.P false p Tryz.f14.results.toList) := callW_eq Tryz.f14 (by kernel_rfl) (by kernel_rfl) (by kernel_rfl) rfl (by kernel_rfl)
theorem rd_15_5 {p : Id} {L : List Nat} {c0 c : Nat} {fr : Fr} {h : Heap} : iterW E 15 p L L_15_5 c0 fr c h = (execW E 15 p ((((Tryz.f15.body).getD .skip).loopAt 5).getD .skip) fr c h).bind (loopX E 15 p L L_15_5 c0) := iterW_eq2 (by kernel_rfl)
theorem eq_15 {p : Id} {args : List A} {h : Heap} : callW E p 15 args h = (execW E 15 p (((Tryz.f15.body).getD .skip).hide [(5, L_15_5)]) (initFr args) 0 h).bind (resX E.P false p Tryz.f15.results.toList) := callW_eq Tryz.f15 (by kernel_rfl) (by kernel_rfl) (by kernel_rfl) rfl (by kernel_rfl)
theorem rd_16_2 {p : Id} {L : List Nat} {c0 c : Nat} {fr : Fr} {h : Heap} : iterW E 16 p L L_16_2 c0 fr c h = (execW E 16 p ((((Tryz.f16.body).getD .skip).loopAt 2).getD .skip) fr c h).bind (loopX E 16 p L L_16_2 c0) := iterW_eq2 (by kernel_rfl)
theorem eq_16 {p : Id} {args : List A} {h : Heap} : callW E p 16 args h = (execW E 16 p (((Tryz.f16.body).getD .skip).hide [(2, L_16_2)]) (initFr args) 0 h).bind (resX E.P false p Tryz.f16.results.toList) := callW_eq Tryz.f16 (by kernel_rfl) (by kernel_rfl) (by kernel_rfl) rfl (by kernel_rfl)
theorem eq_17 {p : Id} {args : List A} {h : Heap} : callW E p 17 args h = (execW E 17 p ((Tryz.f17.body).getD .skip) (initFr args) 0 h).bind (resX E.P false p Tryz.f17.results.toList) := callW_eq Tryz.f17 (by kernel_rfl) (by kernel_rfl) (by kernel_rfl) rfl (by kernel_rfl)
theorem eq_18 {p : Id} {args : List A} {h : Heap} : callW E p 18 args h = (execW E 18 p ((Tryz.f18.body).getD .skip) (initFr args) 0 h).bind (resX E.P false p Tryz.f18.results.toList) := callW_eq Tryz.f18 (by kernel_rfl) (by kernel_rfl) (by kernel_rfl) rfl (by kernel_rfl)
theorem eq_21 {p : Id} {args : List A} {h : Heap} : callW E p 21 args h = (execW E 21 p ((Tryz.f21.body).getD .skip) (initFr args) 0 h).bind (resX E.P false p Tryz.f21.results.toList) := callW_eq Tryz.f21 (by kernel_rfl) (by kernel_rfl) (by kernel_rfl) rfl (by kernel_rfl)
theorem eq_22 {p : Id} {args : List A} {h : Heap} : callW E p 22 args h = (execW E 22 p ((Tryz.f22.body).getD .skip) (initFr args) 0 h).bind (resX E.P false p Tryz.f22.results.toList) := callW_eq Tryz.f22 (by kernel_rfl) (by kernel_rfl) (by kernel_rfl) rfl (by kernel_rfl)
theorem eq_23 {p : Id} {args : List A} {h : Heap} : callW E p 23 args h = (execW E 23 p ((Tryz.f23.body).getD .skip) (initFr args) 0 h).bind (resX E.P false p Tryz.f23.results.toList) := callW_eq Tryz.f23 (by kernel_rfl) (by kernel_rfl) (by kernel_rfl) rfl (by kernel_rfl)
theorem eq_24 {p : Id} {args : List A} {h : Heap} : callW E p 24 args h = (execW E 24 p ((Tryz.f24.body).getD .skip) (initFr args) 0 h).bind (resX E.P false p Tryz.f24.results.toList) := callW_eq Tryz.f24 (by kernel_rfl) (by kernel_rfl) (by kernel_rfl) rfl (by kernel_rfl)
theorem eq_27 {p : Id} {args : List A} {h : Heap} : callW E p 27 args h = (execW E 27 p ((Tryz.f27.body).getD .skip) (initFr args) 0 h).bind (resX E.P false p Tryz.f27.results.toList) := callW_eq Tryz.f27 (by kernel_rfl) (by kernel_rfl) (by kernel_rfl) rfl (by kernel_rfl)
theorem eq_28 {p : Id} {args : List A} {h : Heap} : callW E p 28 args h = (execW E 28 p ((Tryz.f28.body).getD .skip) (initFr args) 0 h).bind (resX E.P false p Tryz.f28.results.toList) := callW_eq Tryz.f28 (by kernel_rfl) (by kernel_rfl) (by kernel_rfl) rfl (by kernel_rfl)
theorem rd_29_11 {p : Id} {L : List Nat} {c0 c : Nat} {fr : Fr} {h : Heap} : iterW E 29 p L L_29_11 c0 fr c h = (execW E 29 p ((((Tryz.f29.body).getD .skip).loopAt 11).getD .skip) fr c h).bind (loopX E 29 p L L_29_11 c0) := iterW_eq2 (by kernel_rfl)
theorem eq_29 {p : Id} {args : List A} {h : Heap} : callW E p 29 args h = (execW E 29 p (((Tryz.f29.body).getD .skip).hide [(11, L_29_11)]) (initFr args) 0 h).bind (resX E.P true p Tryz.f29.results.toList) := callW_eq Tryz.f29 (by kernel_rfl) (by kernel_rfl) (by kernel_rfl) rfl (by kernel_rfl)
theorem eq_30 {p : Id} {args : List A} {h : Heap} : callW E p 30 args h = (execW E 30 p ((Tryz.f30.body).getD .skip) (initFr args) 0 h).bind (resX E.P false p Tryz.f30.results.toList) := callW_eq Tryz.f30 (by kernel_rfl) (by kernel_rfl) (by kernel_rfl) rfl (by kernel_rfl)
theorem eq_31 {p : Id} {args : List A} {h : Heap} : callW E p 31 args h = (execW E 31 p ((Tryz.f31.body).getD .skip) (initFr args) 0 h).bind (resX E.P false p Tryz.f31.results.toList) := callW_eq Tryz.f31 (by kernel_rfl) (by kernel_rfl) (by kernel_rfl) rfl (by kernel_rfl)
theorem rd_32_4 {p : Id} {L : List Nat} {c0 c : Nat} {fr : Fr} {h : Heap} : iterW E 32 p L L_32_4 c0 fr c h = (execW E 32 p ((((Tryz.f32.body).getD .skip).loopAt 4).getD .skip) fr c h).bind (loopX E 32 p L L_32_4 c0) := iterW_eq2 (by kernel_rfl)
theorem eq_32 {p : Id} {args : List A} {h : Heap} : callW E p 32 args h = (execW E 32 p (((Tryz.f32.body).getD .skip).hide [(4, L_32_4)]) (initFr args) 0 h).bind (resX E.P false p Tryz.f32.results.toList) := callW_eq Tryz.f32 (by kernel_rfl) (by kernel_rfl) (by kernel_rfl) rfl (by kernel_rfl)
theorem eq_33 {p : Id} {args : List A} {h : Heap} : callW E p 33 args h = (execW E 33 p ((Tryz.f33.body).getD .skip) (initFr args) 0 h).bind (resX E.P false p Tryz.f33.results.toList) := callW_eq Tryz.f33 (by kernel_rfl) (by kernel_rfl) (by kernel_rfl) rfl (by kernel_rfl)
theorem eq_34 {p : Id} {args : List A} {h : Heap} : callW E p 34 args h = (execW E 34 p ((Tryz.f34.body).getD .skip) (initFr args) 0 h).bind (resX E.P false p Tryz.f34.results.toList) := callW_eq Tryz.f34 (by kernel_rfl) (by kernel_rfl) (by kernel_rfl) rfl (by kernel_rfl)
theorem eq_35 {p : Id} {args : List A} {h : Heap} : callW E p 35 args h = (execW E 35 p ((Tryz.f35.body).getD .skip) (initFr args) 0 h).bind (resX E.P false p Tryz.f35.results.toList) := callW_eq Tryz.f35 (by kernel_rfl) (by kernel_rfl) (by kernel_rfl) rfl (by kernel_rfl)
theorem eq_36 {p : Id} {args : List A} {h : Heap} : callW E p 36 args h = (execW E 36 p ((Tryz.f36.body).getD .skip) (initFr args) 0 h).bind (resX E.P false p Tryz.f36.results.toList) := callW_eq Tryz.f36 (by kernel_rfl) (by kernel_rfl) (by kernel_rfl) rfl (by kernel_rfl)
theorem eq_37 {p : Id} {args : List A} {h : Heap} : callW E p 37 args h = (execW E 37 p ((Tryz.f37.body).getD .skip) (initFr args) 0 h).bind (resX E.P false p Tryz.f37.results.toList) := callW_eq Tryz.f37 (by kernel_rfl) (by kernel_rfl) (by kernel_rfl) rfl (by kernel_rfl)
theorem rd_38_7 {p : Id} {L : List Nat} {c0 c : Nat} {fr : Fr} {h : Heap} : iterW E 38 p L L_38_7 c0 fr c h = (execW E 38 p ((((Tryz.f38.body).getD .skip).loopAt 7).getD .skip) fr c h).bind (loopX E 38 p L L_38_7 c0) := iterW_eq2 (by kernel_rfl)
theorem eq_38 {p : Id} {args : List A} {h : Heap} : callW E p 38 args h = (execW E 38 p (((Tryz.f38.body).getD .skip).hide [(7, L_38_7)]) (initFr args) 0 h).bind (resX E.P false p Tryz.f38.results.toList) := callW_eq Tryz.f38 (by kernel_rfl) (by kernel_rfl) (by kernel_rfl) rfl (by kernel_rfl)
theorem rd_39_4 {p : Id} {L : List Nat} {c0 c : Nat} {fr : Fr} {h : Heap} : iterW E 39 p L L_39_4 c0 fr c h = (execW E 39 p ((((Tryz.f39.body).getD .skip).loopAt 4).getD .skip) fr c h).bind (loopX E 39 p L L_39_4 c0) := iterW_eq2 (by kernel_rfl)
theorem eq_39 {p : Id} {args : List A} {h : Heap} : callW E p 39 args h = (execW E 39 p (((Tryz.f39.body).getD .skip).hide [(4, L_39_4)]) (initFr args) 0 h).bind (resX E.P false p Tryz.f39.results.toList) := callW_eq Tryz.f39 (by kernel_rfl) (by kernel_rfl) (by kernel_rfl) rfl (by kernel_rfl)
theorem eq_44 {p : Id} {args : List A} {h : Heap} : callW E p 44 args h = (execW E 44 p ((Tryz.f44.body).getD .skip) (initFr args) 0 h).bind (resX E.P false p Tryz.f44.results.toList) := callW_eq Tryz.f44 (by kernel_rfl) (by kernel_rfl) (by kernel_rfl) rfl (by kernel_rfl)
theorem eq_45 {p : Id} {args : List A} {h : Heap} : callW E p 45 args h = (execW E 45 p ((Tryz.f45.body).getD .skip) (initFr args) 0 h).bind (resX E.P false p Tryz.f45.results.toList) := callW_eq Tryz.f45 (by kernel_rfl) (by kernel_rfl) (by kernel_rfl) rfl (by kernel_rfl)
theorem eq_47 {p : Id} {args : List A} {h : Heap} : callW E p 47 args h = (execW E 47 p ((Tryz.f47.body).getD .skip) (initFr args) 0 h).bind (resX E.P false p Tryz.f47.results.toList) := callW_eq Tryz.f47 (by kernel_rfl) (by kernel_rfl) (by kernel_rfl) rfl (by kernel_rfl)
theorem rd_48_2 {p : Id} {L : List Nat} {c0 c : Nat} {fr : Fr} {h : Heap} : iterW E 48 p L L_48_2 c0 fr c h = (execW E 48 p ((((Tryz.f48.body).getD .skip).loopAt 2).getD .skip) fr c h).bind (loopX E 48 p L L_48_2 c0) := iterW_eq2 (by kernel_rfl)
theorem eq_48 {p : Id} {args : List A} {h : Heap} : callW E p 48 args h = (execW E 48 p (((Tryz.f48.body).getD .skip).hide [(2, L_48_2)]) (initFr args) 0 h).bind (resX E.P false p Tryz.f48.results.toList) := callW_eq Tryz.f48 (by kernel_rfl) (by kernel_rfl) (by kernel_rfl) rfl (by kernel_rfl)
theorem rd_49_2 {p : Id} {L : List Nat} {c0 c : Nat} {fr : Fr} {h : Heap} : iterW E 49 p L L_49_2 c0 fr c h = (execW E 49 p ((((Tryz.f49.body).getD .skip).loopAt 2).getD .skip) fr c h).bind (loopX E 49 p L L_49_2 c0) := iterW_eq2 (by kernel_rfl)
theorem eq_49 {p : Id} {args : List A} {h : Heap} : callW E p 49 args h = (execW E 49 p (((Tryz.f49.body).getD .skip).hide [(2, L_49_2)]) (initFr args) 0 h).bind (resX E.P false p Tryz.f49.results.toList) := callW_eq Tryz.f49 (by kernel_rfl) (by kernel_rfl) (by kernel_rfl) rfl (by kernel_rfl)
theorem eq_50 {p : Id} {args : List A} {h : Heap} : callW E p 50 args h = (execW E 50 p ((Tryz.f50.body).getD .skip) (initFr args) 0 h).bind (resX E.P false p Tryz.f50.results.toList) := callW_eq Tryz.f50 (by kernel_rfl) (by kernel_rfl) (by kernel_rfl) rfl (by kernel_rfl)
theorem eq_51 {p : Id} {args : List A} {h : Heap} : callW E p 51 args h = (execW E 51 p ((Tryz.f51.body).getD .skip) (initFr args) 0 h).bind (resX E.P false p Tryz.f51.results.toList) := callW_eq Tryz.f51 (by kernel_rfl) (by kernel_rfl) (by kernel_rfl) rfl (by kernel_rfl)
theorem eq_52 {p : Id} {args : List A} {h : Heap} : callW E p 52 args h = (execW E 52 p ((Tryz.f52.body).getD .skip) (initFr args) 0 h).bind (resX E.P false p Tryz.f52.results.toList) := callW_eq Tryz.f52 (by kernel_rfl) (by kernel_rfl) (by kernel_rfl) rfl (by kernel_rfl)
theorem eq_53 {p : Id} {args : List A} {h : Heap} : callW E p 53 args h = (execW E 53 p ((Tryz.f53.body).getD .skip) (initFr args) 0 h).bind (resX E.P false p Tryz.f53.results.toList) := callW_eq Tryz.f53 (by kernel_rfl) (by kernel_rfl) (by kernel_rfl) rfl (by kernel_rfl)
theorem rd_54_1 {p : Id} {L : List Nat} {c0 c : Nat} {fr : Fr} {h : Heap} : iterW E 54 p L L_54_1 c0 fr c h = (execW E 54 p ((((Tryz.f54.body).getD .skip).loopAt 1).getD .skip) fr c h).bind (loopX E 54 p L L_54_1 c0) := iterW_eq2 (by kernel_rfl)
theorem eq_54 {p : Id} {args : List A} {h : Heap} : callW E p 54 args h = (execW E 54 p (((Tryz.f54.body).getD .skip).hide [(1, L_54_1)]) (initFr args) 0 h).bind (resX E.P false p Tryz.f54.results.toList) := callW_eq Tryz.f54 (by kernel_rfl) (by kernel_rfl) (by kernel_rfl) rfl (by kernel_rfl)
theorem rd_55_2 {p : Id} {L : List Nat} {c0 c : Nat} {fr : Fr} {h : Heap} : iterW E 55 p L L_55_2 c0 fr c h = (execW E 55 p ((((Tryz.f55.body).getD .skip).loopAt 2).getD .skip) fr c h).bind (loopX E 55 p L L_55_2 c0) := iterW_eq2 (by kernel_rfl)
theorem eq_55 {p : Id} {args : List A} {h : Heap} : callW E p 55 args h = (execW E 55 p (((Tryz.f55.body).getD .skip).hide [(2, L_55_2)]) (initFr args) 0 h).bind (resX E.P false p Tryz.f55.results.toList) := callW_eq Tryz.f55 (by kernel_rfl) (by kernel_rfl) (by kernel_rfl) rfl (by kernel_rfl)
theorem eq_56 {p : Id} {args : List A} {h : Heap} : callW E p 56 args h = (execW E 56 p ((Tryz.f56.body).getD .skip) (initFr args) 0 h).bind (resX E.P false p Tryz.f56.results.toList) := callW_eq Tryz.f56 (by kernel_rfl) (by kernel_rfl) (by kernel_rfl) rfl (by kernel_rfl)
theorem eq_57 {p : Id} {args : List A} {h : Heap} : callW E p 57 args h = (execW E 57 p ((Tryz.f57.body).getD .skip) (initFr args) 0 h).bind (resX E.P false p Tryz.f57.results.toList) := callW_eq Tryz.f57 (by kernel_rfl) (by kernel_rfl) (by kernel_rfl) rfl (by kernel_rfl)
theorem rd_58_3 {p : Id} {L : List Nat} {c0 c : Nat} {fr : Fr} {h : Heap} : iterW E 58 p L L_58_3 c0 fr c h = (execW E 58 p ((((Tryz.f58.body).getD .skip).loopAt 3).getD .skip) fr c h).bind (loopX E 58 p L L_58_3 c0) := iterW_eq2 (by kernel_rfl)
theorem eq_58 {p : Id} {args : List A} {h : Heap} : callW E p 58 args h = (execW E 58 p (((Tryz.f58.body).getD .skip).hide [(3, L_58_3)]) (initFr args) 0 h).bind (resX E.P false p Tryz.f58.results.toList) := callW_eq Tryz.f58 (by kernel_rfl) (by kernel_rfl) (by kernel_rfl) rfl (by kernel_rfl)
theorem eq_59 {p : Id} {args : List A} {h : Heap} : callW E p 59 args h = (execW E 59 p ((Tryz.f59.body).getD .skip) (initFr args) 0 h).bind (resX E.P false p Tryz.f59.results.toList) := callW_eq Tryz.f59 (by kernel_rfl) (by kernel_rfl) (by kernel_rfl) rfl (by kernel_rfl)
theorem eq_60 {p : Id} {args : List A} {h : Heap} : callW E p 60 args h = (execW E 60 p ((Tryz.f60.body).getD .skip) (initFr args) 0 h).bind (resX E.P true p Tryz.f60.results.toList) := callW_eq Tryz.f60 (by kernel_rfl) (by kernel_rfl) (by kernel_rfl) rfl (by kernel_rfl)
theorem eq_61 {p : Id} {args : List A} {h : Heap} : callW E p 61 args h = (execW E 61 p ((Tryz.f61.body).getD .skip) (initFr args) 0 h).bind (resX E.P false p Tryz.f61.results.toList) := callW_eq Tryz.f61 (by kernel_rfl) (by kernel_rfl) (by kernel_rfl) rfl (by kernel_rfl)
theorem eq_62 {p : Id} {args : List A} {h : Heap} : callW E p 62 args h = (execW E 62 p ((Tryz.f62.body).getD .skip) (initFr args) 0 h).bind (resX E.P true p Tryz.f62.results.toList) := callW_eq Tryz.f62 (by kernel_rfl) (by kernel_rfl) (by kernel_rfl) rfl (by kernel_rfl)
theorem rd_63_5 {p : Id} {L : List Nat} {c0 c : Nat} {fr : Fr} {h : Heap} : iterW E 63 p L L_63_5 c0 fr c h = (execW E 63 p ((((Tryz.f63.body).getD .skip).loopAt 5).getD .skip) fr c h).bind (loopX E 63 p L L_63_5 c0) := iterW_eq2 (by kernel_rfl)
theorem eq_63 {p : Id} {args : List A} {h : Heap} : callW E p 63 args h = (execW E 63 p (((Tryz.f63.body).getD .skip).hide [(5, L_63_5)]) (initFr args) 0 h).bind (resX E.P false p Tryz.f63.results.toList) := callW_eq Tryz.f63 (by kernel_rfl) (by kernel_rfl) (by kernel_rfl) rfl (by kernel_rfl)
theorem rd_64_3 {p : Id} {L : List Nat} {c0 c : Nat} {fr : Fr} {h : Heap} : iterW E 64 p L L_64_3 c0 fr c h = (execW E 64 p ((((Tryz.f64.body).getD .skip).loopAt 3).getD .skip) fr c h).bind (loopX E 64 p L L_64_3 c0) := iterW_eq2 (by kernel_rfl)
theorem eq_64 {p : Id} {args : List A} {h : Heap} : callW E p 64 args h = (execW E 64 p (((Tryz.f64.body).getD .skip).hide [(3, L_64_3)]) (initFr args) 0 h).bind (resX E.P false p Tryz.f64.results.toList) := callW_eq Tryz.f64 (by kernel_rfl) (by kernel_rfl) (by kernel_rfl) rfl (by kernel_rfl)
theorem rd_65_3 {p : Id} {L : List Nat} {c0 c : Nat} {fr : Fr} {h : Heap} : iterW E 65 p L L_65_3 c0 fr c h = (execW E 65 p ((((Tryz.f65.body).getD .skip).loopAt 3).getD .skip) fr c h).bind (loopX E 65 p L L_65_3 c0) := iterW_eq2 (by kernel_rfl)
theorem eq_65 {p : Id} {args : List A} {h : Heap} : callW E p 65 args h = (execW E 65 p (((Tryz.f65.body).getD .skip).hide [(3, L_65_3)]) (initFr args) 0 h).bind (resX E.P false p Tryz.f65.results.toList) := callW_eq Tryz.f65 (by kernel_rfl) (by kernel_rfl) (by kernel_rfl) rfl (by kernel_rfl)
theorem rd_66_2 {p : Id} {L : List Nat} {c0 c : Nat} {fr : Fr} {h : Heap} : iterW E 66 p L L_66_2 c0 fr c h = (execW E 66 p ((((Tryz.f66.body).getD .skip).loopAt 2).getD .skip) fr c h).bind (loopX E 66 p L L_66_2 c0) := iterW_eq2 (by kernel_rfl)
theorem eq_66 {p : Id} {args : List A} {h : Heap} : callW E p 66 args h = (execW E 66 p (((Tryz.f66.body).getD .skip).hide [(2, L_66_2)]) (initFr args) 0 h).bind (resX E.P false p Tryz.f66.results.toList) := callW_eq Tryz.f66 (by kernel_rfl) (by kernel_rfl) (by kernel_rfl) rfl (by kernel_rfl)
theorem eq_67 {p : Id} {args : List A} {h : Heap} : callW E p 67 args h = (execW E 67 p ((Tryz.f67.body).getD .skip) (initFr args) 0 h).bind (resX E.P false p Tryz.f67.results.toList) := callW_eq Tryz.f67 (by kernel_rfl) (by kernel_rfl) (by kernel_rfl) rfl (by kernel_rfl)
theorem rd_68_3 {p : Id} {L : List Nat} {c0 c : Nat} {fr : Fr} {h : Heap} : iterW E 68 p L L_68_3 c0 fr c h = (execW E 68 p ((((Tryz.f68.body).getD .skip).loopAt 3).getD .skip) fr c h).bind (loopX E 68 p L L_68_3 c0) := iterW_eq2 (by kernel_rfl)
theorem eq_68 {p : Id} {args : List A} {h : Heap} : callW E p 68 args h = (execW E 68 p (((Tryz.f68.body).getD .skip).hide [(3, L_68_3)]) (initFr args) 0 h).bind (resX E.P false p Tryz.f68.results.toList) := callW_eq Tryz.f68 (by kernel_rfl) (by kernel_rfl) (by kernel_rfl) rfl (by kernel_rfl)
theorem rd_70_1 {p : Id} {L : List Nat} {c0 c : Nat} {fr : Fr} {h : Heap} : iterW E 70 p L L_70_1 c0 fr c h = (execW E 70 p (((((Tryz.f70.body).getD .skip).loopAt 1).getD .skip).hide [(4, L_70_4)]) fr c h).bind (loopX E 70 p L L_70_1 c0) := iterW_eq2 (by kernel_rfl)
theorem rd_70_4 {p : Id} {L : List Nat} {c0 c : Nat} {fr : Fr} {h : Heap} : iterW E 70 p L L_70_4 c0 fr c h = (execW E 70 p ((((Tryz.f70.body).getD .skip).loopAt 4).getD .skip) fr c h).bind (loopX E 70 p L L_70_4 c0) := iterW_eq2 (by kernel_rfl)
theorem eq_70 {p : Id} {args : List A} {h : Heap} : callW E p 70 args h = (execW E 70 p (((Tryz.f70.body).getD .skip).hide [(1, L_70_1)]) (initFr args) 0 h).bind (resX E.P false p Tryz.f70.results.toList) := callW_eq Tryz.f70 (by kernel_rfl) (by kernel_rfl) (by kernel_rfl) rfl (by kernel_rfl)
theorem eq_73 {p : Id} {args : List A} {h : Heap} : callW E p 73 args h = (execW E 73 p ((Tryz.f73.body).getD .skip) (initFr args) 0 h).bind (resX E.P false p Tryz.f73.results.toList) := callW_eq Tryz.f73 (by kernel_rfl) (by kernel_rfl) (by kernel_rfl) rfl (by kernel_rfl)
theorem rd_74_3 {p : Id} {L : List Nat} {c0 c : Nat} {fr : Fr} {h : Heap} : iterW E 74 p L L_74_3 c0 fr c h = (execW E 74 p ((((Tryz.f74.body).getD .skip).loopAt 3).getD .skip) fr c h).bind (loopX E 74 p L L_74_3 c0) := iterW_eq2 (by kernel_rfl)
theorem eq_74 {p : Id} {args : List A} {h : Heap} : callW E p 74 args h = (execW E 74 p (((Tryz.f74.body).getD .skip).hide [(3, L_74_3)]) (initFr args) 0 h).bind (resX E.P false p Tryz.f74.results.toList) := callW_eq Tryz.f74 (by kernel_rfl) (by kernel_rfl) (by kernel_rfl) rfl (by kernel_rfl)
theorem rd_75_8 {p : Id} {L : List Nat} {c0 c : Nat} {fr : Fr} {h : Heap} : iterW E 75 p L L_75_8 c0 fr c h = (execW E 75 p ((((Tryz.f75.body).getD .skip).loopAt 8).getD .skip) fr c h).bind (loopX E 75 p L L_75_8 c0) := iterW_eq2 (by kernel_rfl)
theorem eq_75 {p : Id} {args : List A} {h : Heap} : callW E p 75 args h = (execW E 75 p (((Tryz.f75.body).getD .skip).hide [(8, L_75_8)]) (initFr args) 0 h).bind (resX E.P false p Tryz.f75.results.toList) := callW_eq Tryz.f75 (by kernel_rfl) (by kernel_rfl) (by kernel_rfl) rfl (by kernel_rfl)
theorem eq_76 {p : Id} {args : List A} {h : Heap} : callW E p 76 args h = (execW E 76 p ((Tryz.f76.body).getD .skip) (initFr args) 0 h).bind (resX E.P false p Tryz.f76.results.toList) := callW_eq Tryz.f76 (by kernel_rfl) (by kernel_rfl) (by kernel_rfl) rfl (by kernel_rfl)
theorem eq_77 {p : Id} {args : List A} {h : Heap} : callW E p 77 args h = (execW E 77 p ((Tryz.f77.body).getD .skip) (initFr args) 0 h).bind (resX E.P false p Tryz.f77.results.toList) := callW_eq Tryz.f77 (by kernel_rfl) (by kernel_rfl) (by kernel_rfl) rfl (by kernel_rfl)
theorem eq_78 {p : Id} {args : List A} {h : Heap} : callW E p 78 args h = (execW E 78 p ((Tryz.f78.body).getD .skip) (initFr args) 0 h).bind (resX E.P false p Tryz.f78.results.toList) := callW_eq Tryz.f78 (by kernel_rfl) (by kernel_rfl) (by kernel_rfl) rfl (by kernel_rfl)
theorem eq_79 {p : Id} {args : List A} {h : Heap} : callW E p 79 args h = (execW E 79 p ((Tryz.f79.body).getD .skip) (initFr args) 0 h).bind (resX E.P false p Tryz.f79.results.toList) := callW_eq Tryz.f79 (by kernel_rfl) (by kernel_rfl) (by kernel_rfl) rfl (by kernel_rfl)
theorem eq_80 {p : Id} {args : List A} {h : Heap} : callW E p 80 args h = (execW E 80 p ((Tryz.f80.body).getD .skip) (initFr args) 0 h).bind (resX E.P false p Tryz.f80.results.toList) := callW_eq Tryz.f80 (by kernel_rfl) (by kernel_rfl) (by kernel_rfl) rfl (by kernel_rfl)
theorem eq_81 {p : Id} {args : List A} {h : Heap} : callW E p 81 args h = (execW E 81 p ((Tryz.f81.body).getD .skip) (initFr args) 0 h).bind (resX E.P false p Tryz.f81.results.toList) := callW_eq Tryz.f81 (by kernel_rfl) (by kernel_rfl) (by kernel_rfl) rfl (by kernel_rfl)
theorem eq_83 {p : Id} {args : List A} {h : Heap} : callW E p 83 args h = (execW E 83 p ((Tryz.f83.body).getD .skip) (initFr args) 0 h).bind (resX E.P false p Tryz.f83.results.toList) := callW_eq Tryz.f83 (by kernel_rfl) (by kernel_rfl) (by kernel_rfl) rfl (by kernel_rfl)
theorem eq_91 {p : Id} {args : List A} {h : Heap} : callW E p 91 args h = (execW E 91 p ((Tryz.f91.body).getD .skip) (initFr args) 0 h).bind (resX E.P false p Tryz.f91.results.toList) := callW_eq Tryz.f91 (by kernel_rfl) (by kernel_rfl) (by kernel_rfl) rfl (by kernel_rfl)
theorem eq_92 {p : Id} {args : List A} {h : Heap} : callW E p 92 args h = (execW E 92 p ((Tryz.f92.body).getD .skip) (initFr args) 0 h).bind (resX E.P false p Tryz.f92.results.toList) := callW_eq Tryz.f92 (by kernel_rfl) (by kernel_rfl) (by kernel_rfl) rfl (by kernel_rfl)
theorem eq_93 {p : Id} {args : List A} {h : Heap} : callW E p 93 args h = (execW E 93 p ((Tryz.f93.body).getD .skip) (initFr args) 0 h).bind (resX E.P false p Tryz.f93.results.toList) := callW_eq Tryz.f93 (by kernel_rfl) (by kernel_rfl) (by kernel_rfl) rfl (by kernel_rfl)
theorem eq_94 {p : Id} {args : List A} {h : Heap} : callW E p 94 args h = (execW E 94 p ((Tryz.f94.body).getD .skip) (initFr args) 0 h).bind (resX E.P false p Tryz.f94.results.toList) := callW_eq Tryz.f94 (by kernel_rfl) (by kernel_rfl) (by kernel_rfl) rfl (by kernel_rfl)
theorem rd_95_3 {p : Id} {L : List Nat} {c0 c : Nat} {fr : Fr} {h : Heap} : iterW E 95 p L L_95_3 c0 fr c h = (execW E 95 p ((((Tryz.f95.body).getD .skip).loopAt 3).getD .skip) fr c h).bind (loopX E 95 p L L_95_3 c0) := iterW_eq2 (by kernel_rfl)
theorem eq_95 {p : Id} {args : List A} {h : Heap} : callW E p 95 args h = (execW E 95 p (((Tryz.f95.body).getD .skip).hide [(3, L_95_3)]) (initFr args) 0 h).bind (resX E.P false p Tryz.f95.results.toList) := callW_eq Tryz.f95 (by kernel_rfl) (by kernel_rfl) (by kernel_rfl) rfl (by kernel_rfl)
theorem eq_96 {p : Id} {args : List A} {h : Heap} : callW E p 96 args h = (execW E 96 p ((Tryz.f96.body).getD .skip) (initFr args) 0 h).bind (resX E.P false p Tryz.f96.results.toList) := callW_eq Tryz.f96 (by kernel_rfl) (by kernel_rfl) (by kernel_rfl) rfl (by kernel_rfl)
theorem rd_97_3 {p : Id} {L : List Nat} {c0 c : Nat} {fr : Fr} {h : Heap} : iterW E 97 p L L_97_3 c0 fr c h = (execW E 97 p ((((Tryz.f97.body).getD .skip).loopAt 3).getD .skip) fr c h).bind (loopX E 97 p L L_97_3 c0) := iterW_eq2 (by kernel_rfl)
theorem eq_97 {p : Id} {args : List A} {h : Heap} : callW E p 97 args h = (execW E 97 p (((Tryz.f97.body).getD .skip).hide [(3, L_97_3)]) (initFr args) 0 h).bind (resX E.P false p Tryz.f97.results.toList) := callW_eq Tryz.f97 (by kernel_rfl) (by kernel_rfl) (by kernel_rfl) rfl (by kernel_rfl)
theorem eq_98 {p : Id} {args : List A} {h : Heap} : callW E p 98 args h = (execW E 98 p ((Tryz.f98.body).getD .skip) (initFr args) 0 h).bind (resX E.P false p Tryz.f98.results.toList) := callW_eq Tryz.f98 (by kernel_rfl) (by kernel_rfl) (by kernel_rfl) rfl (by kernel_rfl)
theorem eq_99 {p : Id} {args : List A} {h : Heap} : callW E p 99 args h = (execW E 99 p ((Tryz.f99.body).getD .skip) (initFr args) 0 h).bind (resX E.P false p Tryz.f99.results.toList) := callW_eq Tryz.f99 (by kernel_rfl) (by kernel_rfl) (by kernel_rfl) rfl (by kernel_rfl)
theorem eq_100 {p : Id} {args : List A} {h : Heap} : callW E p 100 args h = (execW E 100 p ((Tryz.f100.body).getD .skip) (initFr args) 0 h).bind (resX E.P false p Tryz.f100.results.toList) := callW_eq Tryz.f100 (by kernel_rfl) (by kernel_rfl) (by kernel_rfl) rfl (by kernel_rfl)
theorem eq_101 {p : Id} {args : List A} {h : Heap} : callW E p 101 args h = (execW E 101 p ((Tryz.f101.body).getD .skip) (initFr args) 0 h).bind (resX E.P false p Tryz.f101.results.toList) := callW_eq Tryz.f101 (by kernel_rfl) (by kernel_rfl) (by kernel_rfl) rfl (by kernel_rfl)
theorem eq_102 {p : Id} {args : List A} {h : Heap} : callW E p 102 args h = (execW E 102 p ((Tryz.f102.body).getD .skip) (initFr args) 0 h).bind (resX E.P false p Tryz.f102.results.toList) := callW_eq Tryz.f102 (by kernel_rfl) (by kernel_rfl) (by kernel_rfl) rfl (by kernel_rfl)
theorem rd_103_12 {p : Id} {L : List Nat} {c0 c : Nat} {fr : Fr} {h : Heap} : iterW E 103 p L L_103_12 c0 fr c h = (execW E 103 p ((((Tryz.f103.body).getD .skip).loopAt 12).getD .skip) fr c h).bind (loopX E 103 p L L_103_12 c0) := iterW_eq2 (by kernel_rfl)
theorem rd_103_22 {p : Id} {L : List Nat} {c0 c : Nat} {fr : Fr} {h : Heap} : iterW E 103 p L L_103_22 c0 fr c h = (execW E 103 p ((((Tryz.f103.body).getD .skip).loopAt 22).getD .skip) fr c h).bind (loopX E 103 p L L_103_22 c0) := iterW_eq2 (by kernel_rfl)
theorem eq_104 {p : Id} {args : List A} {h : Heap} : callW E p 104 args h = (execW E 104 p ((Tryz.f104.body).getD .skip) (initFr args) 0 h).bind (resX E.P false p Tryz.f104.results.toList) := callW_eq Tryz.f104 (by kernel_rfl) (by kernel_rfl) (by kernel_rfl) rfl (by kernel_rfl)
theorem eq_105 {p : Id} {args : List A} {h : Heap} : callW E p 105 args h = (execW E 105 p ((Tryz.f105.body).getD .skip) (initFr args) 0 h).bind (resX E.P false p Tryz.f105.results.toList) := callW_eq Tryz.f105 (by kernel_rfl) (by kernel_rfl) (by kernel_rfl) rfl (by kernel_rfl)
theorem rd_106_3 {p : Id} {L : List Nat} {c0 c : Nat} {fr : Fr} {h : Heap} : iterW E 106 p L L_106_3 c0 fr c h = (execW E 106 p ((((Tryz.f106.body).getD .skip).loopAt 3).getD .skip) fr c h).bind (loopX E 106 p L L_106_3 c0) := iterW_eq2 (by kernel_rfl)
theorem eq_106 {p : Id} {args : List A} {h : Heap} : callW E p 106 args h = (execW E 106 p (((Tryz.f106.body).getD .skip).hide [(3, L_106_3)]) (initFr args) 0 h).bind (resX E.P false p Tryz.f106.results.toList) := callW_eq Tryz.f106 (by kernel_rfl) (by kernel_rfl) (by kernel_rfl) rfl (by kernel_rfl)
theorem eq_107 {p : Id} {args : List A} {h : Heap} : callW E p 107 args h = (execW E 107 p ((Tryz.f107.body).getD .skip) (initFr args) 0 h).bind (resX E.P false p Tryz.f107.results.toList) := callW_eq Tryz.f107 (by kernel_rfl) (by kernel_rfl) (by kernel_rfl) rfl (by kernel_rfl)
theorem eq_108 {p : Id} {args : List A} {h : Heap} : callW E p 108 args h = (execW E 108 p ((Tryz.f108.body).getD .skip) (initFr args) 0 h).bind (resX E.P false p Tryz.f108.results.toList) := callW_eq Tryz.f108 (by kernel_rfl) (by kernel_rfl) (by kernel_rfl) rfl (by kernel_rfl)
theorem rd_109_3 {p : Id} {L : List Nat} {c0 c : Nat} {fr : Fr} {h : Heap} : iterW E 109 p L L_109_3 c0 fr c h = (execW E 109 p ((((Tryz.f109.body).getD .skip).loopAt 3).getD .skip) fr c h).bind (loopX E 109 p L L_109_3 c0) := iterW_eq2 (by kernel_rfl)
theorem eq_109 {p : Id} {args : List A} {h : Heap} : callW E p 109 args h = (execW E 109 p (((Tryz.f109.body).getD .skip).hide [(3, L_109_3)]) (initFr args) 0 h).bind (resX E.P false p Tryz.f109.results.toList) := callW_eq Tryz.f109 (by kernel_rfl) (by kernel_rfl) (by kernel_rfl) rfl (by kernel_rfl)
theorem rd_110_22 {p : Id} {L : List Nat} {c0 c : Nat} {fr : Fr} {h : Heap} : iterW E 110 p L L_110_22 c0 fr c h = (execW E 110 p ((((Tryz.f110.body).getD .skip).loopAt 22).getD .skip) fr c h).bind (loopX E 110 p L L_110_22 c0) := iterW_eq2 (by kernel_rfl)
theorem eq_110 {p : Id} {args : List A} {h : Heap} : callW E p 110 args h = (execW E 110 p (((Tryz.f110.body).getD .skip).hide [(22, L_110_22)]) (initFr args) 0 h).bind (resX E.P false p Tryz.f110.results.toList) := callW_eq Tryz.f110 (by kernel_rfl) (by kernel_rfl) (by kernel_rfl) rfl (by kernel_rfl)
theorem eq_114 {p : Id} {args : List A} {h : Heap} : callW E p 114 args h = (execW E 114 p ((Tryz.f114.body).getD .skip) (initFr args) 0 h).bind (resX E.P false p Tryz.f114.results.toList) := callW_eq Tryz.f114 (by kernel_rfl) (by kernel_rfl) (by kernel_rfl) rfl (by kernel_rfl)
theorem eq_115 {p : Id} {args : List A} {h : Heap} : callW E p 115 args h = (execW E 115 p ((Tryz.f115.body).getD .skip) (initFr args) 0 h).bind (resX E.P false p Tryz.f115.results.toList) := callW_eq Tryz.f115 (by kernel_rfl) (by kernel_rfl) (by kernel_rfl) rfl (by kernel_rfl)
theorem rd_116_2 {p : Id} {L : List Nat} {c0 c : Nat} {fr : Fr} {h : Heap} : iterW E 116 p L L_116_2 c0 fr c h = (execW E 116 p ((((Tryz.f116.body).getD .skip).loopAt 2).getD .skip) fr c h).bind (loopX E 116 p L L_116_2 c0) := iterW_eq2 (by kernel_rfl)
theorem eq_116 {p : Id} {args : List A} {h : Heap} : callW E p 116 args h = (execW E 116 p (((Tryz.f116.body).getD .skip).hide [(2, L_116_2)]) (initFr args) 0 h).bind (resX E.P false p Tryz.f116.results.toList) := callW_eq Tryz.f116 (by kernel_rfl) (by kernel_rfl) (by kernel_rfl) rfl (by kernel_rfl)
theorem rd_117_4 {p : Id} {L : List Nat} {c0 c : Nat} {fr : Fr} {h : Heap} : iterW E 117 p L L_117_4 c0 fr c h = (execW E 117 p ((((Tryz.f117.body).getD .skip).loopAt 4).getD .skip) fr c h).bind (loopX E 117 p L L_117_4 c0) := iterW_eq2 (by kernel_rfl)
theorem eq_117 {p : Id} {args : List A} {h : Heap} : callW E p 117 args h = (execW E 117 p (((Tryz.f117.body).getD .skip).hide [(4, L_117_4)]) (initFr args) 0 h).bind (resX E.P false p Tryz.f117.results.toList) := callW_eq Tryz.f117 (by kernel_rfl) (by kernel_rfl) (by kernel_rfl) rfl (by kernel_rfl)
theorem eq_118 {p : Id} {args : List A} {h : Heap} : callW E p 118 args h = (execW E 118 p ((Tryz.f118.body).getD .skip) (initFr args) 0 h).bind (resX E.P false p Tryz.f118.results.toList) := callW_eq Tryz.f118 (by kernel_rfl) (by kernel_rfl) (by kernel_rfl) rfl (by kernel_rfl)
theorem eq_119 {p : Id} {args : List A} {h : Heap} : callW E p 119 args h = (execW E 119 p ((Tryz.f119.body).getD .skip) (initFr args) 0 h).bind (resX E.P false p Tryz.f119.results.toList) := callW_eq Tryz.f119 (by kernel_rfl) (by kernel_rfl) (by kernel_rfl) rfl (by kernel_rfl)
theorem eq_120 {p : Id} {args : List A} {h : Heap} : callW E p 120 args h = (execW E 120 p ((Tryz.f120.body).getD .skip) (initFr args) 0 h).bind (resX E.P false p Tryz.f120.results.toList) := callW_eq Tryz.f120 (by kernel_rfl) (by kernel_rfl) (by kernel_rfl) rfl (by kernel_rfl)
theorem rd_121_3 {p : Id} {L : List Nat} {c0 c : Nat} {fr : Fr} {h : Heap} : iterW E 121 p L L_121_3 c0 fr c h = (execW E 121 p ((((Tryz.f121.body).getD .skip).loopAt 3).getD .skip) fr c h).bind (loopX E 121 p L L_121_3 c0) := iterW_eq2 (by kernel_rfl)
theorem eq_121 {p : Id} {args : List A} {h : Heap} : callW E p 121 args h = (execW E 121 p (((Tryz.f121.body).getD .skip).hide [(3, L_121_3)]) (initFr args) 0 h).bind (resX E.P false p Tryz.f121.results.toList) := callW_eq Tryz.f121 (by kernel_rfl) (by kernel_rfl) (by kernel_rfl) rfl (by kernel_rfl)
theorem rd_122_3 {p : Id} {L : List Nat} {c0 c : Nat} {fr : Fr} {h : Heap} : iterW E 122 p L L_122_3 c0 fr c h = (execW E 122 p ((((Tryz.f122.body).getD .skip).loopAt 3).getD .skip) fr c h).bind (loopX E 122 p L L_122_3 c0) := iterW_eq2 (by kernel_rfl)
theorem eq_122 {p : Id} {args : List A} {h : Heap} : callW E p 122 args h = (execW E 122 p (((Tryz.f122.body).getD .skip).hide [(3, L_122_3)]) (initFr args) 0 h).bind (resX E.P false p Tryz.f122.results.toList) := callW_eq Tryz.f122 (by kernel_rfl) (by kernel_rfl) (by kernel_rfl) rfl (by kernel_rfl)
theorem eq_128 {p : Id} {args : List A} {h : Heap} : callW E p 128 args h = (execW E 128 p ((Tryz.f128.body).getD .skip) (initFr args) 0 h).bind (resX E.P false p Tryz.f128.results.toList) := callW_eq Tryz.f128 (by kernel_rfl) (by kernel_rfl) (by kernel_rfl) rfl (by kernel_rfl)
theorem rd_130_2 {p : Id} {L : List Nat} {c0 c : Nat} {fr : Fr} {h : Heap} : iterW E 130 p L L_130_2 c0 fr c h = (execW E 130 p ((((Tryz.f130.body).getD .skip).loopAt 2).getD .skip) fr c h).bind (loopX E 130 p L L_130_2 c0) := iterW_eq2 (by kernel_rfl)
theorem eq_130 {p : Id} {args : List A} {h : Heap} : callW E p 130 args h = (execW E 130 p (((Tryz.f130.body).getD .skip).hide [(2, L_130_2)]) (initFr args) 0 h).bind (resX E.P false p Tryz.f130.results.toList) := callW_eq Tryz.f130 (by kernel_rfl) (by kernel_rfl) (by kernel_rfl) rfl (by kernel_rfl)
theorem eq_131 {p : Id} {args : List A} {h : Heap} : callW E p 131 args h = (execW E 131 p ((Tryz.f131.body).getD .skip) (initFr args) 0 h).bind (resX E.P false p Tryz.f131.results.toList) := callW_eq Tryz.f131 (by kernel_rfl) (by kernel_rfl) (by kernel_rfl) rfl (by kernel_rfl)
theorem eq_132 {p : Id} {args : List A} {h : Heap} : callW E p 132 args h = (execW E 132 p ((Tryz.f132.body).getD .skip) (initFr args) 0 h).bind (resX E.P false p Tryz.f132.results.toList) := callW_eq Tryz.f132 (by kernel_rfl) (by kernel_rfl) (by kernel_rfl) rfl (by kernel_rfl)
theorem rd_134_2 {p : Id} {L : List Nat} {c0 c : Nat} {fr : Fr} {h : Heap} : iterW E 134 p L L_134_2 c0 fr c h = (execW E 134 p ((((Tryz.f134.body).getD .skip).loopAt 2).getD .skip) fr c h).bind (loopX E 134 p L L_134_2 c0) := iterW_eq2 (by kernel_rfl)
theorem eq_134 {p : Id} {args : List A} {h : Heap} : callW E p 134 args h = (execW E 134 p (((Tryz.f134.body).getD .skip).hide [(2, L_134_2)]) (initFr args) 0 h).bind (resX E.P false p Tryz.f134.results.toList) := callW_eq Tryz.f134 (by kernel_rfl) (by kernel_rfl) (by kernel_rfl) rfl (by kernel_rfl)
theorem eq_135 {p : Id} {args : List A} {h : Heap} : callW E p 135 args h = (execW E 135 p ((Tryz.f135.body).getD .skip) (initFr args) 0 h).bind (resX E.P false p Tryz.f135.results.toList) := callW_eq Tryz.f135 (by kernel_rfl) (by kernel_rfl) (by kernel_rfl) rfl (by kernel_rfl)
theorem eq_136 {p : Id} {args : List A} {h : Heap} : callW E p 136 args h = (execW E 136 p ((Tryz.f136.body).getD .skip) (initFr args) 0 h).bind (resX E.P false p Tryz.f136.results.toList) := callW_eq Tryz.f136 (by kernel_rfl) (by kernel_rfl) (by kernel_rfl) rfl (by kernel_rfl)
theorem rd_137_4 {p : Id} {L : List Nat} {c0 c : Nat} {fr : Fr} {h : Heap} : iterW E 137 p L L_137_4 c0 fr c h = (execW E 137 p ((((Tryz.f137.body).getD .skip).loopAt 4).getD .skip) fr c h).bind (loopX E 137 p L L_137_4 c0) := iterW_eq2 (by kernel_rfl)
theorem eq_137 {p : Id} {args : List A} {h : Heap} : callW E p 137 args h = (execW E 137 p (((Tryz.f137.body).getD .skip).hide [(4, L_137_4)]) (initFr args) 0 h).bind (resX E.P false p Tryz.f137.results.toList) := callW_eq Tryz.f137 (by kernel_rfl) (by kernel_rfl) (by kernel_rfl) rfl (by kernel_rfl)
theorem eq_138 {p : Id} {args : List A} {h : Heap} : callW E p 138 args h = (execW E 138 p ((Tryz.f138.body).getD .skip) (initFr args) 0 h).bind (resX E.P false p Tryz.f138.results.toList) := callW_eq Tryz.f138 (by kernel_rfl) (by kernel_rfl) (by kernel_rfl) rfl (by kernel_rfl)
theorem eq_139 {p : Id} {args : List A} {h : Heap} : callW E p 139 args h = (execW E 139 p ((Tryz.f139.body).getD .skip) (initFr args) 0 h).bind (resX E.P false p Tryz.f139.results.toList) := callW_eq Tryz.f139 (by kernel_rfl) (by kernel_rfl) (by kernel_rfl) rfl (by kernel_rfl)
theorem eq_140 {p : Id} {args : List A} {h : Heap} : callW E p 140 args h = (execW E 140 p ((Tryz.f140.body).getD .skip) (initFr args) 0 h).bind (resX E.P false p Tryz.f140.results.toList) := callW_eq Tryz.f140 (by kernel_rfl) (by kernel_rfl) (by kernel_rfl) rfl (by kernel_rfl)
theorem rd_142_3 {p : Id} {L : List Nat} {c0 c : Nat} {fr : Fr} {h : Heap} : iterW E 142 p L L_142_3 c0 fr c h = (execW E 142 p ((((Tryz.f142.body).getD .skip).loopAt 3).getD .skip) fr c h).bind (loopX E 142 p L L_142_3 c0) := iterW_eq2 (by kernel_rfl)
theorem eq_142 {p : Id} {args : List A} {h : Heap} : callW E p 142 args h = (execW E 142 p (((Tryz.f142.body).getD .skip).hide [(3, L_142_3)]) (initFr args) 0 h).bind (resX E.P false p Tryz.f142.results.toList) := callW_eq Tryz.f142 (by kernel_rfl) (by kernel_rfl) (by kernel_rfl) rfl (by kernel_rfl)
theorem rd_146_1 {p : Id} {L : List Nat} {c0 c : Nat} {fr : Fr} {h : Heap} : iterW E 146 p L L_146_1 c0 fr c h = (execW E 146 p (((((Tryz.f146.body).getD .skip).loopAt 1).getD .skip).hide [(18, L_146_18)]) fr c h).bind (loopX E 146 p L L_146_1 c0) := iterW_eq2 (by kernel_rfl)
theorem rd_146_18 {p : Id} {L : List Nat} {c0 c : Nat} {fr : Fr} {h : Heap} : iterW E 146 p L L_146_18 c0 fr c h = (execW E 146 p ((((Tryz.f146.body).getD .skip).loopAt 18).getD .skip) fr c h).bind (loopX E 146 p L L_146_18 c0) := iterW_eq2 (by kernel_rfl)
theorem eq_146 {p : Id} {args : List A} {h : Heap} : callW E p 146 args h = (execW E 146 p (((Tryz.f146.body).getD .skip).hide [(1, L_146_1)]) (initFr args) 0 h).bind (resX E.P false p Tryz.f146.results.toList) := callW_eq Tryz.f146 (by kernel_rfl) (by kernel_rfl) (by kernel_rfl) rfl (by kernel_rfl)
theorem eq_147 {p : Id} {args : List A} {h : Heap} : callW E p 147 args h = (execW E 147 p ((Tryz.f147.body).getD .skip) (initFr args) 0 h).bind (resX E.P false p Tryz.f147.results.toList) := callW_eq Tryz.f147 (by kernel_rfl) (by kernel_rfl) (by kernel_rfl) rfl (by kernel_rfl)
theorem rd_148_5 {p : Id} {L : List Nat} {c0 c : Nat} {fr : Fr} {h : Heap} : iterW E 148 p L L_148_5 c0 fr c h = (execW E 148 p ((((Tryz.f148.body).getD .skip).loopAt 5).getD .skip) fr c h).bind (loopX E 148 p L L_148_5 c0) := iterW_eq2 (by kernel_rfl)
theorem eq_148 {p : Id} {args : List A} {h : Heap} : callW E p 148 args h = (execW E 148 p (((Tryz.f148.body).getD .skip).hide [(5, L_148_5)]) (initFr args) 0 h).bind (resX E.P false p Tryz.f148.results.toList) := callW_eq Tryz.f148 (by kernel_rfl) (by kernel_rfl) (by kernel_rfl) rfl (by kernel_rfl)
theorem rd_149_3 {p : Id} {L : List Nat} {c0 c : Nat} {fr : Fr} {h : Heap} : iterW E 149 p L L_149_3 c0 fr c h = (execW E 149 p ((((Tryz.f149.body).getD .skip).loopAt 3).getD .skip) fr c h).bind (loopX E 149 p L L_149_3 c0) := iterW_eq2 (by kernel_rfl)
theorem eq_149 {p : Id} {args : List A} {h : Heap} : callW E p 149 args h = (execW E 149 p (((Tryz.f149.body).getD .skip).hide [(3, L_149_3)]) (initFr args) 0 h).bind (resX E.P false p Tryz.f149.results.toList) := callW_eq Tryz.f149 (by kernel_rfl) (by kernel_rfl) (by kernel_rfl) rfl (by kernel_rfl)
theorem eq_154 {p : Id} {args : List A} {h : Heap} : callW E p 154 args h = (execW E 154 p ((Tryz.f154.body).getD .skip) (initFr args) 0 h).bind (resX E.P false p Tryz.f154.results.toList) := callW_eq Tryz.f154 (by kernel_rfl) (by kernel_rfl) (by kernel_rfl) rfl (by kernel_rfl)
theorem eq_155 {p : Id} {args : List A} {h : Heap} : callW E p 155 args h = (execW E 155 p ((Tryz.f155.body).getD .skip) (initFr args) 0 h).bind (resX E.P false p Tryz.f155.results.toList) := callW_eq Tryz.f155 (by kernel_rfl) (by kernel_rfl) (by kernel_rfl) rfl (by kernel_rfl)
theorem eq_156 {p : Id} {args : List A} {h : Heap} : callW E p 156 args h = (execW E 156 p ((Tryz.f156.body).getD .skip) (initFr args) 0 h).bind (resX E.P false p Tryz.f156.results.toList) := callW_eq Tryz.f156 (by kernel_rfl) (by kernel_rfl) (by kernel_rfl) rfl (by kernel_rfl)
theorem eq_177 {p : Id} {args : List A} {h : Heap} : callW E p 177 args h = (execW E 177 p ((Tryz.f177.body).getD .skip) (initFr args) 0 h).bind (resX E.P false p Tryz.f177.results.toList) := callW_eq Tryz.f177 (by kernel_rfl) (by kernel_rfl) (by kernel_rfl) rfl (by kernel_rfl)
theorem eq_179 {p : Id} {args : List A} {h : Heap} : callW E p 179 args h = (execW E 179 p ((Tryz.f179.body).getD .skip) (initFr args) 0 h).bind (resX E.P false p Tryz.f179.results.toList) := callW_eq Tryz.f179 (by kernel_rfl) (by kernel_rfl) (by kernel_rfl) rfl (by kernel_rfl)
theorem eq_198 {p : Id} {args : List A} {h : Heap} : callW E p 198 args h = (execW E 198 p ((Tryz.f198.body).getD .skip) (initFr args) 0 h).bind (resX E.P false p Tryz.f198.results.toList) := callW_eq Tryz.f198 (by kernel_rfl) (by kernel_rfl) (by kernel_rfl) rfl (by kernel_rfl)
end Go.Ai.T

namespace Go.Ai.T
theorem envB_ok : envB E = true := by kernel_rfl
end Go.Ai.T

namespace Go.Proofs.Tryz
open Go.RowKit
set_option maxHeartbeats 1000000 in
set_option maxRecDepth 100000 in
theorem check_used (b : Nat) (w : World) (h0 : w.cell? ⟨b, 0, none⟩ = some (.pointer (some ⟨b, 0, none⟩))) :
  Calls prog 46 #[.pointer (some ⟨b, 0, none⟩)] w fun e w' => e = .returned (.tuple #[]) ∧ w' = w := by
 have hp : prog.underlying 62 = some (.pointer 65) := by kernel_rfl
 obtain ⟨j, hj⟩ : ∃ j, prog.info? 65 = some j := Option.isSome_iff_exists.1 (by kernel_rfl)
 go_enter func46, ntmps46
 go_wp2
 rw [Lib.run_neq_ptr_same w _ hp hj]
 go_wp2
 go_end0
 exact ⟨rfl, rfl⟩
set_option maxHeartbeats 1000000 in
set_option maxRecDepth 100000 in
theorem check_fresh (b : Nat) (w : World) (t : Nat) (h0 : w.cell? ⟨b, 0, none⟩ = some (.pointer none)) (hsh : w.shape? b = some (t, 2)) (hlies : liesAt prog prog.depth t (2 / prog.cellsOf t) 0 65 1 = true) (hfz : w.frozen? ⟨b, 0, none⟩ = false) :
  Calls prog 46 #[.pointer (some ⟨b, 0, none⟩)] w fun e w' => e = .returned (.tuple #[]) ∧ w' = w.setCell ⟨b, 0, none⟩ (.pointer (some ⟨b, 0, none⟩)) := by
 have hp : prog.underlying 62 = some (.pointer 65) := by kernel_rfl
 have hu : prog.underlying 144 = some .unsafePointer := by kernel_rfl
 obtain ⟨j, hj, hjs⟩ : ∃ j, prog.info? 65 = some j ∧ j.size = 2 := Option.map_eq_some_iff.1 (show (prog.info? 65).map (·.size) = some 2 by kernel_rfl)
 have h131 : prog.funcs[82]? = some f82 := by kernel_rfl
 go_enter func46, ntmps46
 go_wp2
 rw [Lib.run_to_unsafe w ⟨b, 0, none⟩ hp hu hj (by rw [hjs]; decide) hsh (Nat.zero_lt_succ 1)]
 simp only [Result.andThen]
 rw [Oper.upon_value]
 go_wp2
 rw [run_callFunc_extern h131 (by kernel_rfl) (by kernel_rfl) (by kernel_rfl) (e := Extern.AbiNoEscape.same) (by kernel_rfl)]
 rw [Lib.run_noEscape]
 simp only [Result.andThen]
 rw [Oper.upon_value]
 go_wp2
 rw [Lib.run_from_unsafe w ⟨b, 0, none⟩ hu hp hj hsh hlies]
 simp only [Result.andThen]
 rw [Oper.upon_value]
 go_wp2
 go_end0
 exact ⟨rfl, rfl⟩
theorem lies_B : liesAt prog prog.depth 65 (2 / prog.cellsOf 65) 0 65 1 = true := by kernel_rfl
theorem lies_W : liesAt prog prog.depth 140 (2 / prog.cellsOf 140) 0 65 1 = true := by kernel_rfl
end Go.Proofs.Tryz

namespace Go.Proofs.Tryz
open Go.RowKit
set_option maxHeartbeats 2000000
set_option maxRecDepth 100000
theorem cellsByte : prog.cellsOf 5 = 1 := by kernel_rfl
theorem string_nil (b : Nat) (w : World) (h0 : w.cell? ⟨b, 1, none⟩ = some (.slice none 0 0)) :
  Calls prog 25 #[.pointer (some ⟨b, 0, none⟩)] w fun e w' => e = .returned (.string ⟨#[]⟩) ∧ Go.Ai.Ext w w' := by
 have hUS := fun W q => Lib.run_unsafeString_none (P := prog) W 101 3 9 q
 have c1 : w.drew.cell? ⟨b, 1, none⟩ = some (.slice none 0 0) := h0
 have hSD : (Builtin.unsafeSliceData_ #[63] 101 #[.slice none 0 0]).run prog w.drew = .ok (.pointer none) w.drew := rfl
 go_enter func25, ntmps25
 go_wp2
 go_region
 all_goals (go_wp2; go_ret; exact ⟨rfl, (Go.Ai.Ext.refl w).drew⟩)
theorem string_zero (b g : Nat) (w : World) (sh : TypeId × Nat) (h0 : w.cell? ⟨b, 1, none⟩ = some (.slice (some ⟨g, 0, none⟩) 0 0)) (hsh : w.shape? g = some sh) :
  Calls prog 25 #[.pointer (some ⟨b, 0, none⟩)] w fun e w' => e = .returned (.string ⟨#[]⟩) ∧ Go.Ai.Ext w w' := by
 have hUS := fun W q => Lib.run_unsafeString_none (P := prog) W 101 3 9 q
 have c1 : w.drew.cell? ⟨b, 1, none⟩ = some (.slice (some ⟨g, 0, none⟩) 0 0) := h0
 have hlt : b < w.heap.size := by
  rcases Nat.lt_or_ge b w.heap.size with h' | h'
  ·exact h'
  ·simp [World.cell?, Array.getElem?_eq_none h'] at h0
 have hSD : (Builtin.unsafeSliceData_ #[63] 101 #[.slice (some ⟨g, 0, none⟩) 0 0]).run prog w.drew = .ok (.pointer (some ⟨w.drew.heap.size, 0, none⟩)) (w.drew.alloc (.view ⟨g, 0, none⟩ 5)) :=
  Lib.run_unsafeSliceData_zero w.drew _ _ 5 underlying101 ⟨g, 0, none⟩ 0 sh hsh
 have c2 : (w.drew.alloc (.view ⟨g, 0, none⟩ 5)).cell? ⟨b, 1, none⟩ = some (.slice (some ⟨g, 0, none⟩) 0 0) := by
  exact (World.cell?_alloc_lt w.drew _ ⟨b, 1, none⟩ hlt).trans h0
 have c3 : (w.alloc (.view ⟨g, 0, none⟩ 5)).drew.cell? ⟨b, 1, none⟩ = some (.slice (some ⟨g, 0, none⟩) 0 0) := c2
 have c0 : w.cell? ⟨b, 1, none⟩ = some (.slice (some ⟨g, 0, none⟩) 0 0) := c1
 go_enter func25, ntmps25
 go_wp2
 go_region
 all_goals (go_wp2; go_ret; exact ⟨rfl, (Go.Ai.Ext.alloc w _).drew⟩)
theorem string_room (b g cap : Nat) (w : World) (h0 : w.cell? ⟨b, 1, none⟩ = some (.slice (some ⟨g, 0, none⟩) 0 cap)) (hc0 : cap ≠ 0) :
  Calls prog 25 #[.pointer (some ⟨b, 0, none⟩)] w fun e w' => e = .returned (.string ⟨#[]⟩) ∧ Go.Ai.Ext w w' := by
 have hUS := fun W q => Lib.run_unsafeString_none (P := prog) W 101 3 9 q
 have c1 : w.drew.cell? ⟨b, 1, none⟩ = some (.slice (some ⟨g, 0, none⟩) 0 cap) := h0
 have hSD : (Builtin.unsafeSliceData_ #[63] 101 #[.slice (some ⟨g, 0, none⟩) 0 cap]).run prog w.drew = .ok (.pointer (some ⟨g, 0, none⟩)) w.drew :=
  Lib.run_unsafeSliceData_row _ _ _ _ _ _ hc0
 clear hc0
 go_enter func25, ntmps25
 go_wp2
 go_region
 all_goals (go_wp2; go_ret; exact ⟨rfl, (Go.Ai.Ext.refl w).drew⟩)
theorem string_some (b g cap cells : Nat) (l : List UInt8) (w : World) (h0 : w.cell? ⟨b, 1, none⟩ = some (.slice (some ⟨g, 0, none⟩) l.length cap)) (hl : l ≠ []) (hcap : l.length ≤ cap) (hsh : w.shape? g = some (5, cells)) (hn : l.length ≤ cells)
  (h63 : l.length ≤ 9223372036854775807) (hcell : ∀ j x, l[j]? = some x → w.cell? ⟨g, j, none⟩ = some (.int .u8 x.toNat)) :
  Calls prog 25 #[.pointer (some ⟨b, 0, none⟩)] w fun e w' => e = .returned (.string ⟨l.toArray⟩) ∧ w' = (w.freeze ⟨g, 0, none⟩ l.length).drew := by
 have hl0 : l.length ≠ 0 := by simpa using hl
 have c1 : w.drew.cell? ⟨b, 1, none⟩ = some (.slice (some ⟨g, 0, none⟩) l.length cap) := h0
 have hSD : (Builtin.unsafeSliceData_ #[63] 101 #[.slice (some ⟨g, 0, none⟩) l.length cap]).run prog w.drew = .ok (.pointer (some ⟨g, 0, none⟩)) w.drew :=
  Lib.run_unsafeSliceData_row _ _ _ _ _ _ (by omega)
 have hUS : (Builtin.unsafeString_ #[101, 3] 9 #[.pointer (some ⟨g, 0, none⟩), .int .i64 l.length]).run prog w.drew = .ok (.string ⟨l.toArray⟩) (w.drew.freeze ⟨g, 0, none⟩ l.length) :=
  Lib.run_unsafeString_row w.drew 101 3 9 5 underlying101 cellsByte g cells hsh l hl hn h63 (fun j x hx => by
   have := hcell j x hx
   have e : (⟨g, 0, none⟩ : Addr).add j = ⟨g, j, none⟩ := by
    unfold Addr.add
    by_cases hj : j = 0
    ·subst hj; simp
    ·simp [hj]
   rw [e]; exact this)
 go_enter func25, ntmps25
 go_wp2
 go_region
 all_goals (go_wp2; go_ret; first | exact ⟨rfl, rfl⟩ | exact ⟨rfl, by unfold World.freeze; split <;> rfl⟩)
end Go.Proofs.Tryz

namespace Go.Proofs
open Go.Shelf
def Tryz.lays156_ren : Go.Shelf.Ren := ⟨fun | 156 => 103 | 165 => 131 | 166 => 23 | 169 => 25 | 240 => 46 | 241 => 147 | 276 => 82 | 277 => 153 | n => n, fun | 31 => 114 | 9 => 9 | 3 => 3 | 4 => 4 | 0 => 0 | 20 => 20 | 72 => 65 | 76 => 68 | 70 => 62 | 37 => 63 | 75 => 25 | 127 => 101 | 164 => 144 | 5 => 5 | 80 => 71 | n => n, fun | n => n⟩
theorem Tryz.lays156 : Go.Proofs.Lays.n156 Tryz.prog Tryz.lays156_ren := {
 mixed := by kernel_rfl
 f156 := Tryz.func103.trans (congrArg some (by kernel_rfl))
 f165 := Tryz.func131.trans (congrArg some (by kernel_rfl))
 f166 := Tryz.func23.trans (congrArg some (by kernel_rfl))
 f169 := Tryz.func25.trans (congrArg some (by kernel_rfl))
 f240 := Tryz.func46.trans (congrArg some (by kernel_rfl))
 f241 := Tryz.func147.trans (congrArg some (by kernel_rfl))
 f276 := Tryz.func82.trans (congrArg some (by kernel_rfl))
 f277 := Tryz.func153.trans (congrArg some (by kernel_rfl))
 t0 := Tryz.underlying0
 a0 := Tryz.isAgg0
 z0 := Tryz.sizeOf0
 v0 := Tryz.zeroValue0
 t3 := Tryz.underlying3
 a3 := Tryz.isAgg3
 z3 := Tryz.sizeOf3
 v3 := Tryz.zeroValue3
 t4 := Tryz.underlying4
 a4 := Tryz.isAgg4
 z4 := Tryz.sizeOf4
 v4 := Tryz.zeroValue4
 t9 := Tryz.underlying9
 a9 := Tryz.isAgg9
 z9 := Tryz.sizeOf9
 v9 := Tryz.zeroValue9
 t20 := Tryz.underlying20
 a20 := Tryz.isAgg20
 z20 := Tryz.sizeOf20
 v20 := Tryz.zeroValue20
 t31 := Tryz.underlying114
 a31 := Tryz.isAgg114
 z31 := Tryz.sizeOf114
 v31 := Tryz.zeroValue114
 t37 := Tryz.underlying63
 a37 := Tryz.isAgg63
 z37 := Tryz.sizeOf63
 v37 := Tryz.zeroValue63
 t70 := Tryz.underlying62
 a70 := Tryz.isAgg62
 z70 := Tryz.sizeOf62
 v70 := Tryz.zeroValue62
 t72 := Tryz.underlying65
 a72 := Tryz.isAgg65
 z72 := Tryz.sizeOf65
 v72 := Tryz.zeroValue65
 t75 := Tryz.underlying25
 a75 := Tryz.isAgg25
 z75 := Tryz.sizeOf25
 v75 := Tryz.zeroValue25
 t76 := Tryz.underlying68
 a76 := Tryz.isAgg68
 z76 := Tryz.sizeOf68
 v76 := Tryz.zeroValue68
 t127 := Tryz.underlying101
 a127 := Tryz.isAgg101
 z127 := Tryz.sizeOf101
 v127 := Tryz.zeroValue101
 t164 := Tryz.underlying144
 a164 := Tryz.isAgg144
 z164 := Tryz.sizeOf144
 v164 := Tryz.zeroValue144 }
theorem Tryz.Builder_Extra_156 : Builder.Extra Tryz.prog Tryz.lays156_ren := {
 sizeBuilder := by kernel_rfl
 liesBuilder := by kernel_rfl
 t5 := Tryz.underlying5
 a5 := Tryz.isAgg5
 z5 := Tryz.sizeOf5
 v5 := Tryz.zeroValue5
 infoByte := by kernel_rfl
 cellsByte := by kernel_rfl
 sizeByte := by kernel_rfl
 neB5 := by decide }
open Go.RowKit in
theorem Tryz.strings_Join_none (a : Option Addr) (c : Nat) (sep : ByteArray) (w : World) :
  Calls Tryz.prog 103 #[.slice a 0 c, .string sep] w fun e w' => e = .returned (.string ⟨#[]⟩) ∧ w' = w := Any.strings_Join_none Tryz.lays156 Tryz.Builder_Extra_156 a c sep w
open Go.RowKit in
theorem Tryz.strings_Join (bk o c : Nat) (xs : List ByteArray) (sep : ByteArray) (w : World) (hcells : ∀ (j : Nat) x, xs[j]? = some x → w.cell? ⟨bk, o + j, none⟩ = some (.string x)) (hbk : bk < w.heap.size) (hN : xs.length ≤ 140737488355328) (hcap : xs.length ≤ c) (hlen : (Lib.join (xs.map (·.data.toList)) sep.data.toList).length ≤ 140737488355328) :
  Calls Tryz.prog 103 #[.slice (some ⟨bk, o, none⟩) xs.length c, .string sep] w fun e w' => e = .returned (.string ⟨(Lib.join (xs.map (·.data.toList)) sep.data.toList).toArray⟩) ∧ Below w.heap.size w w' := Any.strings_Join Tryz.lays156 Tryz.Builder_Extra_156 bk o c xs sep w hcells hbk hN hcap hlen
end Go.Proofs

