/- Part KE of the proof that a law of this program answers yes at every input: no conditions beyond the given statement. -/
import Derived.KernelRfl
import Derived.Test.YtceklkdnejcanaaGreatDoorProg
import Derived.WalkKit
import Derived.Lib.Builder
import Derived.Lib.UnsafeStr
import Derived.Laws.Externs
import Derived.Shelf.Strings.OnBuilder
import Derived.Test.YtceklkdnejcanaaGreatDoorKD
import Derived.Test.YtceklkdnejcanaaGreatDoorKC
set_option linter.unusedSimpArgs false
set_option linter.unusedVariables false
set_option linter.all false
namespace Go.Ai.T
open Go Go.Proofs
noncomputable def prim : Nat → Option (Id → List A → Heap → Option (A × Heap))
 | 52 => some (errorsAs 45 140 190 [(94, 45), (141, 140)])
 | 68 => some (builderString 5)
 | 97 => some (builderCheck [75, 77])
 | 129 => some stringsJoin
 | _ => none
def drawTab : List ((Nat × Nat) × List (Nat × Nat)) := [((3, 5), [(5, 4), (6, 4)]), ((5, 10), []), ((7, 13), [(3, 5)]), ((12, 1), [(1, 6)]), ((15, 2), [(8, 1), (8, 3)]), ((15, 4), [(4, 5)]), ((20, 1), [(11, 13)]), ((21, 1), [(4, 2), (9, 2), (9, 6)]), ((24, 8), [(1, 0)]), ((27, 2), [(12, 1), (12, 3), (12, 5), (12, 7)]), ((27, 4), [(4, 5)]), ((28, 6), [(12, 7)]), ((31, 6), []), ((32, 14), [(5, 4)]), ((35, 2), [(5, 1)]), ((35, 5), [(4, 5)]), ((54, 4), []), ((55, 10), [(1, 0)]), ((61, 3), [(6, 4), (10, 4), (10, 8)]), ((65, 2), [(6, 10)]), ((66, 6), [(3, 4)]), ((68, 1), []), ((72, 4), []), ((72, 15), [(1, 2)]), ((72, 16), [(3, 5)]), ((72, 18), [(1, 2)]), ((72, 19), [(3, 5)]), ((72, 21), [(4, 5)]), ((78, 1), [(10, 12)]), ((89, 10), [(1, 0)]), ((93, 6), []), ((96, 8), []), ((100, 8), [(3, 5)]), ((101, 1), [(2, 5)]), ((103, 1), [(2, 5)]), ((109, 1), [(14, 16)]), ((109, 6), [(17, 20)]), ((113, 22), [(4, 2)]), ((120, 5), [(4, 0)]), ((120, 6), []), ((130, 3), [(9, 10)]), ((134, 3), [(9, 10)]), ((147, 3), []), ((150, 1), []), ((150, 6), []), ((153, 3), []), ((157, 2), []), ((159, 0), [(12, 8)])]
def liveTab : List ((Nat × Nat) × List Nat) := [((10, 10), [0, 1, 5, 7, 8]), ((24, 4), [1, 4, 6, 7, 8, 9]), ((28, 4), [0, 1, 2, 7]), ((31, 4), [0, 1, 4, 5]), ((32, 11), [2, 7, 10, 37, 38, 39]), ((34, 3), [0, 1, 2, 7, 13, 14, 15]), ((37, 1), [0, 1, 3, 4, 14, 15, 16]), ((42, 2), [1, 4, 7, 8, 9]), ((43, 3), [2, 6, 8, 17, 18, 19]), ((44, 2), [0, 3]), ((46, 3), [0, 3, 7, 8]), ((47, 2), [0, 1, 4, 5]), ((48, 3), [2, 6, 7, 8, 9]), ((50, 3), [0, 1, 5, 6]), ((54, 2), [0, 3, 4, 5]), ((55, 5), [1, 4, 6, 7, 8, 9, 10]), ((61, 5), [1, 2, 3, 7]), ((62, 4), [1, 2, 6, 15, 16, 17]), ((66, 3), [0, 4, 5, 6, 7]), ((71, 4), [0, 1, 2, 6, 8, 9, 16, 17, 18]), ((73, 2), [0, 1, 4, 5]), ((85, 1), [0, 1, 3, 6, 8]), ((85, 18), [1, 3, 6, 8, 48, 49, 50]), ((86, 3), [0, 1, 4, 5, 6, 7]), ((89, 7), [1, 4, 5, 6, 8, 9, 10]), ((91, 1), [0, 1, 9, 10, 11]), ((93, 4), [2, 3, 4, 5]), ((100, 3), [1, 4, 5, 11, 12, 13]), ((106, 8), [1, 2, 4, 40, 41, 42]), ((109, 9), [1, 2, 4, 6]), ((111, 2), [0, 3]), ((113, 17), [1, 5, 6]), ((118, 2), [0, 2, 3]), ((120, 3), [2, 3, 6, 8, 9, 10]), ((123, 4), [1, 2, 6, 15, 16, 17]), ((129, 12), [0, 1, 5, 39, 40, 41]), ((129, 22), [1, 8, 63, 64, 65]), ((132, 3), [0, 1, 2, 7, 13, 14, 15]), ((137, 3), [1, 2, 7, 10, 11, 12]), ((138, 3), [1, 2, 7, 10, 11, 12]), ((142, 5), [0, 1, 4, 5, 6, 7, 8]), ((143, 3), [0, 3, 4]), ((144, 3), [0, 1, 2, 3, 8, 9]), ((145, 22), [0, 1, 4, 6, 7, 8, 9]), ((146, 2), [0, 1, 5]), ((149, 3), [5, 12, 13, 14]), ((151, 3), [0, 1]), ((152, 2), [0, 1, 4, 7, 8]), ((156, 3), [0, 3, 4]), ((157, 5), [0, 2, 3, 4]), ((163, 3), [0, 2, 3, 4, 5, 10, 11])]
noncomputable def E : Env where
 P := Tryz.prog
 frz t := [140, 190].contains t
 prim := prim
 keep f := [32, 102, 104].contains f
 raw f := f == 120
 draw f i := (drawTab.find? fun q => q.1.1 == f && q.1.2 == i).map (·.2)
 live f i := ((liveTab.find? fun q => q.1.1 == f && q.1.2 == i).map (·.2)).getD []
theorem E_P : E.P = Tryz.prog := rfl
@[simp] theorem raw_E (f : Nat) : E.raw f = (f == 120) := rfl
@[simp] theorem bytesT_115 : bytesT E.P 115 = some 56 := by kernel_rfl
@[simp] theorem bytesT_3 : bytesT E.P 3 = some 8 := by kernel_rfl
@[simp] theorem bytesT_30 : bytesT E.P 30 = some 16 := by kernel_rfl
@[simp] theorem bytesT_5 : bytesT E.P 5 = some 1 := by kernel_rfl
@[simp] theorem bytesT_64 : bytesT E.P 64 = some 120 := by kernel_rfl
@[simp] theorem bytesT_66 : bytesT E.P 66 = some 160 := by kernel_rfl
@[simp] theorem bytesT_9 : bytesT E.P 9 = some 16 := by kernel_rfl
@[simp] theorem bytesT_99 : bytesT E.P 99 = some 56 := by kernel_rfl
@[simp] theorem concrete_140 : E.P.concrete 140 = true := by kernel_rfl
@[simp] theorem concrete_141 : E.P.concrete 141 = true := by kernel_rfl
@[simp] theorem concrete_190 : E.P.concrete 190 = true := by kernel_rfl
@[simp] theorem concrete_250 : E.P.concrete 250 = true := by kernel_rfl
@[simp] theorem concrete_45 : E.P.concrete 45 = true := by kernel_rfl
@[simp] theorem concrete_9 : E.P.concrete 9 = true := by kernel_rfl
@[simp] theorem concrete_94 : E.P.concrete 94 = true := by kernel_rfl
@[simp] theorem fieldT_115_0 : fieldT E.P 115 0 = some 0 := by kernel_rfl
@[simp] theorem fieldT_115_1 : fieldT E.P 115 1 = some 1 := by kernel_rfl
@[simp] theorem fieldT_115_2 : fieldT E.P 115 2 = some 2 := by kernel_rfl
@[simp] theorem fieldT_115_3 : fieldT E.P 115 3 = some 3 := by kernel_rfl
@[simp] theorem fieldT_115_4 : fieldT E.P 115 4 = some 4 := by kernel_rfl
@[simp] theorem fieldT_143_0 : fieldT E.P 143 0 = some 0 := by kernel_rfl
@[simp] theorem fieldT_143_1 : fieldT E.P 143 1 = some 1 := by kernel_rfl
@[simp] theorem fieldT_149_0 : fieldT E.P 149 0 = some 0 := by kernel_rfl
@[simp] theorem fieldT_149_1 : fieldT E.P 149 1 = some 1 := by kernel_rfl
@[simp] theorem fieldT_149_2 : fieldT E.P 149 2 = some 2 := by kernel_rfl
@[simp] theorem fieldT_149_3 : fieldT E.P 149 3 = some 3 := by kernel_rfl
@[simp] theorem fieldT_156_0 : fieldT E.P 156 0 = some 0 := by kernel_rfl
@[simp] theorem fieldT_156_1 : fieldT E.P 156 1 = some 1 := by kernel_rfl
@[simp] theorem fieldT_156_2 : fieldT E.P 156 2 = some 2 := by kernel_rfl
@[simp] theorem fieldT_156_3 : fieldT E.P 156 3 = some 3 := by kernel_rfl
@[simp] theorem fieldT_159_0 : fieldT E.P 159 0 = some 0 := by kernel_rfl
@[simp] theorem fieldT_159_1 : fieldT E.P 159 1 = some 1 := by kernel_rfl
@[simp] theorem fieldT_164_0 : fieldT E.P 164 0 = some 0 := by kernel_rfl
@[simp] theorem fieldT_164_1 : fieldT E.P 164 1 = some 1 := by kernel_rfl
@[simp] theorem fieldT_192_1 : fieldT E.P 192 1 = some 1 := by kernel_rfl
@[simp] theorem fieldT_25_0 : fieldT E.P 25 0 = some 0 := by kernel_rfl
@[simp] theorem fieldT_25_1 : fieldT E.P 25 1 = some 1 := by kernel_rfl
@[simp] theorem fieldT_25_2 : fieldT E.P 25 2 = some 2 := by kernel_rfl
@[simp] theorem fieldT_52_0 : fieldT E.P 52 0 = some 0 := by kernel_rfl
@[simp] theorem fieldT_52_1 : fieldT E.P 52 1 = some 1 := by kernel_rfl
@[simp] theorem fieldT_52_2 : fieldT E.P 52 2 = some 2 := by kernel_rfl
@[simp] theorem fieldT_52_3 : fieldT E.P 52 3 = some 3 := by kernel_rfl
@[simp] theorem fieldT_52_4 : fieldT E.P 52 4 = some 4 := by kernel_rfl
@[simp] theorem fieldT_64_0 : fieldT E.P 64 0 = some 0 := by kernel_rfl
@[simp] theorem fieldT_64_1 : fieldT E.P 64 1 = some 1 := by kernel_rfl
@[simp] theorem fieldT_64_2 : fieldT E.P 64 2 = some 2 := by kernel_rfl
@[simp] theorem fieldT_64_3 : fieldT E.P 64 3 = some 3 := by kernel_rfl
@[simp] theorem fieldT_64_4 : fieldT E.P 64 4 = some 4 := by kernel_rfl
@[simp] theorem fieldT_64_5 : fieldT E.P 64 5 = some 5 := by kernel_rfl
@[simp] theorem fieldT_64_6 : fieldT E.P 64 6 = some 6 := by kernel_rfl
@[simp] theorem fieldT_64_7 : fieldT E.P 64 7 = some 7 := by kernel_rfl
@[simp] theorem fieldT_66_0 : fieldT E.P 66 0 = some 0 := by kernel_rfl
@[simp] theorem fieldT_66_1 : fieldT E.P 66 1 = some 1 := by kernel_rfl
@[simp] theorem fieldT_66_2 : fieldT E.P 66 2 = some 2 := by kernel_rfl
@[simp] theorem fieldT_66_3 : fieldT E.P 66 3 = some 10 := by kernel_rfl
@[simp] theorem fieldT_71_0 : fieldT E.P 71 0 = some 0 := by kernel_rfl
@[simp] theorem fieldT_71_1 : fieldT E.P 71 1 = some 1 := by kernel_rfl
@[simp] theorem fieldT_71_2 : fieldT E.P 71 2 = some 2 := by kernel_rfl
@[simp] theorem fieldT_71_3 : fieldT E.P 71 3 = some 3 := by kernel_rfl
@[simp] theorem fieldT_71_4 : fieldT E.P 71 4 = some 4 := by kernel_rfl
@[simp] theorem fieldT_75_0 : fieldT E.P 75 0 = some 0 := by kernel_rfl
@[simp] theorem fieldT_75_1 : fieldT E.P 75 1 = some 1 := by kernel_rfl
@[simp] theorem fieldT_77_0 : fieldT E.P 77 0 = some 0 := by kernel_rfl
@[simp] theorem fieldT_99_0 : fieldT E.P 99 0 = some 0 := by kernel_rfl
@[simp] theorem fieldT_99_1 : fieldT E.P 99 1 = some 1 := by kernel_rfl
@[simp] theorem fieldT_99_2 : fieldT E.P 99 2 = some 2 := by kernel_rfl
@[simp] theorem fieldT_99_3 : fieldT E.P 99 3 = some 3 := by kernel_rfl
@[simp] theorem fieldT_99_4 : fieldT E.P 99 4 = some 4 := by kernel_rfl
@[simp] theorem kindT_115 : kindT E.P 115 = Kd.struct := by kernel_rfl
@[simp] theorem kindT_126 : kindT E.P 126 = Kd.other := by kernel_rfl
@[simp] theorem kindT_134 : kindT E.P 134 = Kd.int IntKind.u8 := by kernel_rfl
@[simp] theorem kindT_140 : kindT E.P 140 = Kd.ptr := by kernel_rfl
@[simp] theorem kindT_141 : kindT E.P 141 = Kd.ptr := by kernel_rfl
@[simp] theorem kindT_151 : kindT E.P 151 = Kd.ptr := by kernel_rfl
@[simp] theorem kindT_154 : kindT E.P 154 = Kd.slice 9 := by kernel_rfl
@[simp] theorem kindT_182 : kindT E.P 182 = Kd.slice 30 := by kernel_rfl
@[simp] theorem kindT_190 : kindT E.P 190 = Kd.ptr := by kernel_rfl
@[simp] theorem kindT_20 : kindT E.P 20 = Kd.iface := by kernel_rfl
@[simp] theorem kindT_22 : kindT E.P 22 = Kd.slice 66 := by kernel_rfl
@[simp] theorem kindT_23 : kindT E.P 23 = Kd.int IntKind.u32 := by kernel_rfl
@[simp] theorem kindT_250 : kindT E.P 250 = Kd.ptr := by kernel_rfl
@[simp] theorem kindT_3 : kindT E.P 3 = Kd.int IntKind.i64 := by kernel_rfl
@[simp] theorem kindT_30 : kindT E.P 30 = Kd.iface := by kernel_rfl
@[simp] theorem kindT_39 : kindT E.P 39 = Kd.int IntKind.u64 := by kernel_rfl
@[simp] theorem kindT_4 : kindT E.P 4 = Kd.bool := by kernel_rfl
@[simp] theorem kindT_45 : kindT E.P 45 = Kd.int IntKind.i64 := by kernel_rfl
@[simp] theorem kindT_5 : kindT E.P 5 = Kd.int IntKind.u8 := by kernel_rfl
@[simp] theorem kindT_62 : kindT E.P 62 = Kd.slice 64 := by kernel_rfl
@[simp] theorem kindT_64 : kindT E.P 64 = Kd.struct := by kernel_rfl
@[simp] theorem kindT_66 : kindT E.P 66 = Kd.struct := by kernel_rfl
@[simp] theorem kindT_69 : kindT E.P 69 = Kd.slice 115 := by kernel_rfl
@[simp] theorem kindT_72 : kindT E.P 72 = Kd.ptr := by kernel_rfl
@[simp] theorem kindT_73 : kindT E.P 73 = Kd.slice 5 := by kernel_rfl
@[simp] theorem kindT_87 : kindT E.P 87 = Kd.int IntKind.u64 := by kernel_rfl
@[simp] theorem kindT_9 : kindT E.P 9 = Kd.str := by kernel_rfl
@[simp] theorem kindT_90 : kindT E.P 90 = Kd.slice 3 := by kernel_rfl
@[simp] theorem kindT_94 : kindT E.P 94 = Kd.ptr := by kernel_rfl
@[simp] theorem kindT_95 : kindT E.P 95 = Kd.slice 99 := by kernel_rfl
@[simp] theorem kindT_99 : kindT E.P 99 = Kd.struct := by kernel_rfl
@[simp] theorem partT_115_2 : partT E.P 115 2 = some (2, 1, false) := by kernel_rfl
@[simp] theorem partT_115_3 : partT E.P 115 3 = some (3, 1, false) := by kernel_rfl
@[simp] theorem placesT_115 : placesT E.P 115 = some [(0, 1), (1, 1), (2, 1), (3, 1), (4, 1)] := by kernel_rfl
@[simp] theorem placesT_143 : placesT E.P 143 = some [(0, 1), (1, 1)] := by kernel_rfl
@[simp] theorem placesT_149 : placesT E.P 149 = some [(0, 1), (1, 1), (2, 1), (3, 1)] := by kernel_rfl
@[simp] theorem placesT_156 : placesT E.P 156 = some [(0, 1), (1, 1), (2, 1), (3, 1)] := by kernel_rfl
@[simp] theorem placesT_159 : placesT E.P 159 = some [(0, 1), (1, 1)] := by kernel_rfl
@[simp] theorem placesT_164 : placesT E.P 164 = some [(0, 1), (1, 1)] := by kernel_rfl
@[simp] theorem placesT_192 : placesT E.P 192 = some [(0, 1), (1, 1)] := by kernel_rfl
@[simp] theorem placesT_25 : placesT E.P 25 = some [(0, 1), (1, 1), (2, 1)] := by kernel_rfl
@[simp] theorem placesT_52 : placesT E.P 52 = some [(0, 1), (1, 1), (2, 1), (3, 1), (4, 1)] := by kernel_rfl
@[simp] theorem placesT_64 : placesT E.P 64 = some [(0, 1), (1, 1), (2, 1), (3, 1), (4, 1), (5, 1), (6, 1), (7, 1)] := by kernel_rfl
@[simp] theorem placesT_66 : placesT E.P 66 = some [(0, 1), (1, 1), (2, 8), (10, 1)] := by kernel_rfl
@[simp] theorem placesT_71 : placesT E.P 71 = some [(0, 1), (1, 1), (2, 1), (3, 1), (4, 1)] := by kernel_rfl
@[simp] theorem placesT_99 : placesT E.P 99 = some [(0, 1), (1, 1), (2, 1), (3, 1), (4, 1)] := by kernel_rfl
@[simp] theorem shapeT_115 : shapeT E.P 115 = some (5, true) := by kernel_rfl
@[simp] theorem shapeT_121 : shapeT E.P 121 = some (1, false) := by kernel_rfl
@[simp] theorem shapeT_129 : shapeT E.P 129 = some (3, true) := by kernel_rfl
@[simp] theorem shapeT_132 : shapeT E.P 132 = some (1, false) := by kernel_rfl
@[simp] theorem shapeT_140 : shapeT E.P 140 = some (1, false) := by kernel_rfl
@[simp] theorem shapeT_154 : shapeT E.P 154 = some (1, false) := by kernel_rfl
@[simp] theorem shapeT_156 : shapeT E.P 156 = some (4, true) := by kernel_rfl
@[simp] theorem shapeT_159 : shapeT E.P 159 = some (2, true) := by kernel_rfl
@[simp] theorem shapeT_164 : shapeT E.P 164 = some (2, true) := by kernel_rfl
@[simp] theorem shapeT_22 : shapeT E.P 22 = some (1, false) := by kernel_rfl
@[simp] theorem shapeT_23 : shapeT E.P 23 = some (1, false) := by kernel_rfl
@[simp] theorem shapeT_25 : shapeT E.P 25 = some (3, true) := by kernel_rfl
@[simp] theorem shapeT_3 : shapeT E.P 3 = some (1, false) := by kernel_rfl
@[simp] theorem shapeT_30 : shapeT E.P 30 = some (1, false) := by kernel_rfl
@[simp] theorem shapeT_39 : shapeT E.P 39 = some (1, false) := by kernel_rfl
@[simp] theorem shapeT_4 : shapeT E.P 4 = some (1, false) := by kernel_rfl
@[simp] theorem shapeT_45 : shapeT E.P 45 = some (1, false) := by kernel_rfl
@[simp] theorem shapeT_5 : shapeT E.P 5 = some (1, false) := by kernel_rfl
@[simp] theorem shapeT_52 : shapeT E.P 52 = some (5, true) := by kernel_rfl
@[simp] theorem shapeT_62 : shapeT E.P 62 = some (1, false) := by kernel_rfl
@[simp] theorem shapeT_64 : shapeT E.P 64 = some (8, true) := by kernel_rfl
@[simp] theorem shapeT_66 : shapeT E.P 66 = some (11, true) := by kernel_rfl
@[simp] theorem shapeT_67 : shapeT E.P 67 = some (1, false) := by kernel_rfl
@[simp] theorem shapeT_69 : shapeT E.P 69 = some (1, false) := by kernel_rfl
@[simp] theorem shapeT_72 : shapeT E.P 72 = some (1, false) := by kernel_rfl
@[simp] theorem shapeT_73 : shapeT E.P 73 = some (1, false) := by kernel_rfl
@[simp] theorem shapeT_9 : shapeT E.P 9 = some (1, false) := by kernel_rfl
@[simp] theorem shapeT_99 : shapeT E.P 99 = some (5, true) := by kernel_rfl
@[simp] theorem szT_115 : szT E.P 115 = some 5 := by kernel_rfl
@[simp] theorem szT_129 : szT E.P 129 = some 3 := by kernel_rfl
@[simp] theorem szT_132 : szT E.P 132 = some 1 := by kernel_rfl
@[simp] theorem szT_154 : szT E.P 154 = some 1 := by kernel_rfl
@[simp] theorem szT_156 : szT E.P 156 = some 4 := by kernel_rfl
@[simp] theorem szT_159 : szT E.P 159 = some 2 := by kernel_rfl
@[simp] theorem szT_164 : szT E.P 164 = some 2 := by kernel_rfl
@[simp] theorem szT_22 : szT E.P 22 = some 1 := by kernel_rfl
@[simp] theorem szT_23 : szT E.P 23 = some 1 := by kernel_rfl
@[simp] theorem szT_25 : szT E.P 25 = some 3 := by kernel_rfl
@[simp] theorem szT_3 : szT E.P 3 = some 1 := by kernel_rfl
@[simp] theorem szT_30 : szT E.P 30 = some 1 := by kernel_rfl
@[simp] theorem szT_39 : szT E.P 39 = some 1 := by kernel_rfl
@[simp] theorem szT_4 : szT E.P 4 = some 1 := by kernel_rfl
@[simp] theorem szT_5 : szT E.P 5 = some 1 := by kernel_rfl
@[simp] theorem szT_52 : szT E.P 52 = some 5 := by kernel_rfl
@[simp] theorem szT_62 : szT E.P 62 = some 1 := by kernel_rfl
@[simp] theorem szT_64 : szT E.P 64 = some 8 := by kernel_rfl
@[simp] theorem szT_66 : szT E.P 66 = some 11 := by kernel_rfl
@[simp] theorem szT_69 : szT E.P 69 = some 1 := by kernel_rfl
@[simp] theorem szT_72 : szT E.P 72 = some 1 := by kernel_rfl
@[simp] theorem szT_73 : szT E.P 73 = some 1 := by kernel_rfl
@[simp] theorem szT_9 : szT E.P 9 = some 1 := by kernel_rfl
@[simp] theorem szT_99 : szT E.P 99 = some 5 := by kernel_rfl
@[simp] theorem und_126 : (E.P.underlying 126).isSome = true := by kernel_rfl
@[simp] theorem und_23 : (E.P.underlying 23).isSome = true := by kernel_rfl
@[simp] theorem und_3 : (E.P.underlying 3).isSome = true := by kernel_rfl
@[simp] theorem und_39 : (E.P.underlying 39).isSome = true := by kernel_rfl
@[simp] theorem und_5 : (E.P.underlying 5).isSome = true := by kernel_rfl
@[simp] theorem und_72 : (E.P.underlying 72).isSome = true := by kernel_rfl
@[simp] theorem und_73 : (E.P.underlying 73).isSome = true := by kernel_rfl
@[simp] theorem und_9 : (E.P.underlying 9).isSome = true := by kernel_rfl
@[simp] theorem zeroT_115 : zeroT E.P 115 = some [A.int IntKind.i64 0, A.int IntKind.i64 0, A.int IntKind.u64 0, A.str [], A.str []] := by kernel_rfl
@[simp] theorem zeroT_129 : zeroT E.P 129 = some [A.nilp, A.nilp, A.int IntKind.u64 0] := by kernel_rfl
@[simp] theorem zeroT_140 : zeroT E.P 140 = some [A.nilp] := by kernel_rfl
@[simp] theorem zeroT_143 : zeroT E.P 143 = some [A.int IntKind.i64 0, A.nili] := by kernel_rfl
@[simp] theorem zeroT_149 : zeroT E.P 149 = some [A.str [], A.int IntKind.i64 0, A.nili, A.int IntKind.i64 0] := by kernel_rfl
@[simp] theorem zeroT_156 : zeroT E.P 156 = some [A.int IntKind.i64 0, A.int IntKind.u64 0, A.str [], A.nils] := by kernel_rfl
@[simp] theorem zeroT_159 : zeroT E.P 159 = some [A.nils, A.str []] := by kernel_rfl
@[simp] theorem zeroT_164 : zeroT E.P 164 = some [A.nils, A.str []] := by kernel_rfl
@[simp] theorem zeroT_192 : zeroT E.P 192 = some [A.int IntKind.i64 0, A.nili] := by kernel_rfl
@[simp] theorem zeroT_25 : zeroT E.P 25 = some [A.nils, A.int IntKind.u32 0, A.str []] := by kernel_rfl
@[simp] theorem zeroT_3 : zeroT E.P 3 = some [A.int IntKind.i64 0] := by kernel_rfl
@[simp] theorem zeroT_30 : zeroT E.P 30 = some [A.nili] := by kernel_rfl
@[simp] theorem zeroT_45 : zeroT E.P 45 = some [A.int IntKind.i64 0] := by kernel_rfl
@[simp] theorem zeroT_5 : zeroT E.P 5 = some [A.int IntKind.u8 0] := by kernel_rfl
@[simp] theorem zeroT_52 : zeroT E.P 52 = some [A.str [], A.str [], A.nils, A.int IntKind.u32 0, A.str []] := by kernel_rfl
@[simp] theorem zeroT_64 : zeroT E.P 64 = some [A.int IntKind.i64 0, A.str [], A.bool false, A.int IntKind.u64 0, A.nils, A.nils, A.str [], A.str []] := by kernel_rfl
@[simp] theorem zeroT_66 : zeroT E.P 66 = some [A.str [], A.bool false, A.int IntKind.i64 0, A.str [], A.bool false, A.int IntKind.u64 0, A.nils, A.nils, A.str [], A.str [], A.str []] := by kernel_rfl
@[simp] theorem zeroT_71 : zeroT E.P 71 = some [A.nili, A.str [], A.int IntKind.i64 0, A.int IntKind.i64 0, A.nils] := by kernel_rfl
@[simp] theorem zeroT_75 : zeroT E.P 75 = some [A.nilp, A.nils] := by kernel_rfl
@[simp] theorem zeroT_77 : zeroT E.P 77 = some [A.nilp, A.nils] := by kernel_rfl
@[simp] theorem zeroT_9 : zeroT E.P 9 = some [A.str []] := by kernel_rfl
@[simp] theorem zeroT_99 : zeroT E.P 99 = some [A.int IntKind.i64 0, A.int IntKind.i64 0, A.int IntKind.u64 0, A.str [], A.str []] := by kernel_rfl
@[simp] theorem frz_140 : E.frz 140 = true := by kernel_rfl
@[simp] theorem frz_141 : E.frz 141 = false := by kernel_rfl
@[simp] theorem frz_190 : E.frz 190 = true := by kernel_rfl
@[simp] theorem frz_250 : E.frz 250 = false := by kernel_rfl
@[simp] theorem frz_45 : E.frz 45 = false := by kernel_rfl
@[simp] theorem frz_9 : E.frz 9 = false := by kernel_rfl
@[simp] theorem frz_94 : E.frz 94 = false := by kernel_rfl
@[simp] theorem draw_3_5 : E.draw 3 5 = some [(5, 4), (6, 4)] := by kernel_rfl
@[simp] theorem draw_5_10 : E.draw 5 10 = some [] := by kernel_rfl
@[simp] theorem draw_7_13 : E.draw 7 13 = some [(3, 5)] := by kernel_rfl
@[simp] theorem draw_12_1 : E.draw 12 1 = some [(1, 6)] := by kernel_rfl
@[simp] theorem draw_15_2 : E.draw 15 2 = some [(8, 1), (8, 3)] := by kernel_rfl
@[simp] theorem draw_15_4 : E.draw 15 4 = some [(4, 5)] := by kernel_rfl
@[simp] theorem draw_20_1 : E.draw 20 1 = some [(11, 13)] := by kernel_rfl
@[simp] theorem draw_21_1 : E.draw 21 1 = some [(4, 2), (9, 2), (9, 6)] := by kernel_rfl
@[simp] theorem draw_24_8 : E.draw 24 8 = some [(1, 0)] := by kernel_rfl
@[simp] theorem draw_27_2 : E.draw 27 2 = some [(12, 1), (12, 3), (12, 5), (12, 7)] := by kernel_rfl
@[simp] theorem draw_27_4 : E.draw 27 4 = some [(4, 5)] := by kernel_rfl
@[simp] theorem draw_28_6 : E.draw 28 6 = some [(12, 7)] := by kernel_rfl
@[simp] theorem draw_31_6 : E.draw 31 6 = some [] := by kernel_rfl
@[simp] theorem draw_32_14 : E.draw 32 14 = some [(5, 4)] := by kernel_rfl
@[simp] theorem draw_35_2 : E.draw 35 2 = some [(5, 1)] := by kernel_rfl
@[simp] theorem draw_35_5 : E.draw 35 5 = some [(4, 5)] := by kernel_rfl
@[simp] theorem draw_54_4 : E.draw 54 4 = some [] := by kernel_rfl
@[simp] theorem draw_55_10 : E.draw 55 10 = some [(1, 0)] := by kernel_rfl
@[simp] theorem draw_61_3 : E.draw 61 3 = some [(6, 4), (10, 4), (10, 8)] := by kernel_rfl
@[simp] theorem draw_65_2 : E.draw 65 2 = some [(6, 10)] := by kernel_rfl
@[simp] theorem draw_66_6 : E.draw 66 6 = some [(3, 4)] := by kernel_rfl
@[simp] theorem draw_68_1 : E.draw 68 1 = some [] := by kernel_rfl
@[simp] theorem draw_72_4 : E.draw 72 4 = some [] := by kernel_rfl
@[simp] theorem draw_72_15 : E.draw 72 15 = some [(1, 2)] := by kernel_rfl
@[simp] theorem draw_72_16 : E.draw 72 16 = some [(3, 5)] := by kernel_rfl
@[simp] theorem draw_72_18 : E.draw 72 18 = some [(1, 2)] := by kernel_rfl
@[simp] theorem draw_72_19 : E.draw 72 19 = some [(3, 5)] := by kernel_rfl
@[simp] theorem draw_72_21 : E.draw 72 21 = some [(4, 5)] := by kernel_rfl
@[simp] theorem draw_78_1 : E.draw 78 1 = some [(10, 12)] := by kernel_rfl
@[simp] theorem draw_89_10 : E.draw 89 10 = some [(1, 0)] := by kernel_rfl
@[simp] theorem draw_93_6 : E.draw 93 6 = some [] := by kernel_rfl
@[simp] theorem draw_96_8 : E.draw 96 8 = some [] := by kernel_rfl
@[simp] theorem draw_100_8 : E.draw 100 8 = some [(3, 5)] := by kernel_rfl
@[simp] theorem draw_101_1 : E.draw 101 1 = some [(2, 5)] := by kernel_rfl
@[simp] theorem draw_103_1 : E.draw 103 1 = some [(2, 5)] := by kernel_rfl
@[simp] theorem draw_109_1 : E.draw 109 1 = some [(14, 16)] := by kernel_rfl
@[simp] theorem draw_109_6 : E.draw 109 6 = some [(17, 20)] := by kernel_rfl
@[simp] theorem draw_113_22 : E.draw 113 22 = some [(4, 2)] := by kernel_rfl
@[simp] theorem draw_120_5 : E.draw 120 5 = some [(4, 0)] := by kernel_rfl
@[simp] theorem draw_120_6 : E.draw 120 6 = some [] := by kernel_rfl
@[simp] theorem draw_130_3 : E.draw 130 3 = some [(9, 10)] := by kernel_rfl
@[simp] theorem draw_134_3 : E.draw 134 3 = some [(9, 10)] := by kernel_rfl
@[simp] theorem draw_147_3 : E.draw 147 3 = some [] := by kernel_rfl
@[simp] theorem draw_150_1 : E.draw 150 1 = some [] := by kernel_rfl
@[simp] theorem draw_150_6 : E.draw 150 6 = some [] := by kernel_rfl
@[simp] theorem draw_153_3 : E.draw 153 3 = some [] := by kernel_rfl
@[simp] theorem draw_157_2 : E.draw 157 2 = some [] := by kernel_rfl
@[simp] theorem draw_159_0 : E.draw 159 0 = some [(12, 8)] := by kernel_rfl
@[simp] theorem live_10_10 : E.live 10 10 = [0, 1, 5, 7, 8] := by kernel_rfl
@[simp] theorem live_24_4 : E.live 24 4 = [1, 4, 6, 7, 8, 9] := by kernel_rfl
@[simp] theorem live_28_4 : E.live 28 4 = [0, 1, 2, 7] := by kernel_rfl
@[simp] theorem live_31_4 : E.live 31 4 = [0, 1, 4, 5] := by kernel_rfl
@[simp] theorem live_32_11 : E.live 32 11 = [2, 7, 10, 37, 38, 39] := by kernel_rfl
@[simp] theorem live_34_3 : E.live 34 3 = [0, 1, 2, 7, 13, 14, 15] := by kernel_rfl
@[simp] theorem live_37_1 : E.live 37 1 = [0, 1, 3, 4, 14, 15, 16] := by kernel_rfl
@[simp] theorem live_42_2 : E.live 42 2 = [1, 4, 7, 8, 9] := by kernel_rfl
@[simp] theorem live_43_3 : E.live 43 3 = [2, 6, 8, 17, 18, 19] := by kernel_rfl
@[simp] theorem live_44_2 : E.live 44 2 = [0, 3] := by kernel_rfl
@[simp] theorem live_46_3 : E.live 46 3 = [0, 3, 7, 8] := by kernel_rfl
@[simp] theorem live_47_2 : E.live 47 2 = [0, 1, 4, 5] := by kernel_rfl
@[simp] theorem live_48_3 : E.live 48 3 = [2, 6, 7, 8, 9] := by kernel_rfl
@[simp] theorem live_50_3 : E.live 50 3 = [0, 1, 5, 6] := by kernel_rfl
@[simp] theorem live_54_2 : E.live 54 2 = [0, 3, 4, 5] := by kernel_rfl
@[simp] theorem live_55_5 : E.live 55 5 = [1, 4, 6, 7, 8, 9, 10] := by kernel_rfl
@[simp] theorem live_61_5 : E.live 61 5 = [1, 2, 3, 7] := by kernel_rfl
@[simp] theorem live_62_4 : E.live 62 4 = [1, 2, 6, 15, 16, 17] := by kernel_rfl
@[simp] theorem live_66_3 : E.live 66 3 = [0, 4, 5, 6, 7] := by kernel_rfl
@[simp] theorem live_71_4 : E.live 71 4 = [0, 1, 2, 6, 8, 9, 16, 17, 18] := by kernel_rfl
@[simp] theorem live_73_2 : E.live 73 2 = [0, 1, 4, 5] := by kernel_rfl
@[simp] theorem live_85_1 : E.live 85 1 = [0, 1, 3, 6, 8] := by kernel_rfl
@[simp] theorem live_85_18 : E.live 85 18 = [1, 3, 6, 8, 48, 49, 50] := by kernel_rfl
@[simp] theorem live_86_3 : E.live 86 3 = [0, 1, 4, 5, 6, 7] := by kernel_rfl
@[simp] theorem live_89_7 : E.live 89 7 = [1, 4, 5, 6, 8, 9, 10] := by kernel_rfl
@[simp] theorem live_91_1 : E.live 91 1 = [0, 1, 9, 10, 11] := by kernel_rfl
@[simp] theorem live_93_4 : E.live 93 4 = [2, 3, 4, 5] := by kernel_rfl
@[simp] theorem live_100_3 : E.live 100 3 = [1, 4, 5, 11, 12, 13] := by kernel_rfl
@[simp] theorem live_106_8 : E.live 106 8 = [1, 2, 4, 40, 41, 42] := by kernel_rfl
@[simp] theorem live_109_9 : E.live 109 9 = [1, 2, 4, 6] := by kernel_rfl
@[simp] theorem live_111_2 : E.live 111 2 = [0, 3] := by kernel_rfl
@[simp] theorem live_113_17 : E.live 113 17 = [1, 5, 6] := by kernel_rfl
@[simp] theorem live_118_2 : E.live 118 2 = [0, 2, 3] := by kernel_rfl
@[simp] theorem live_120_3 : E.live 120 3 = [2, 3, 6, 8, 9, 10] := by kernel_rfl
@[simp] theorem live_123_4 : E.live 123 4 = [1, 2, 6, 15, 16, 17] := by kernel_rfl
@[simp] theorem live_129_12 : E.live 129 12 = [0, 1, 5, 39, 40, 41] := by kernel_rfl
@[simp] theorem live_129_22 : E.live 129 22 = [1, 8, 63, 64, 65] := by kernel_rfl
@[simp] theorem live_132_3 : E.live 132 3 = [0, 1, 2, 7, 13, 14, 15] := by kernel_rfl
@[simp] theorem live_137_3 : E.live 137 3 = [1, 2, 7, 10, 11, 12] := by kernel_rfl
@[simp] theorem live_138_3 : E.live 138 3 = [1, 2, 7, 10, 11, 12] := by kernel_rfl
@[simp] theorem live_142_5 : E.live 142 5 = [0, 1, 4, 5, 6, 7, 8] := by kernel_rfl
@[simp] theorem live_143_3 : E.live 143 3 = [0, 3, 4] := by kernel_rfl
@[simp] theorem live_144_3 : E.live 144 3 = [0, 1, 2, 3, 8, 9] := by kernel_rfl
@[simp] theorem live_145_22 : E.live 145 22 = [0, 1, 4, 6, 7, 8, 9] := by kernel_rfl
@[simp] theorem live_146_2 : E.live 146 2 = [0, 1, 5] := by kernel_rfl
@[simp] theorem live_149_3 : E.live 149 3 = [5, 12, 13, 14] := by kernel_rfl
@[simp] theorem live_151_3 : E.live 151 3 = [0, 1] := by kernel_rfl
@[simp] theorem live_152_2 : E.live 152 2 = [0, 1, 4, 7, 8] := by kernel_rfl
@[simp] theorem live_156_3 : E.live 156 3 = [0, 3, 4] := by kernel_rfl
@[simp] theorem live_157_5 : E.live 157 5 = [0, 2, 3, 4] := by kernel_rfl
@[simp] theorem live_163_3 : E.live 163 3 = [0, 2, 3, 4, 5, 10, 11] := by kernel_rfl
noncomputable def L_10_10 : Code := ((Tryz.f10.body.getD .skip).loopAt 10).getD .skip
noncomputable def L_24_4 : Code := ((Tryz.f24.body.getD .skip).loopAt 4).getD .skip
noncomputable def L_28_4 : Code := ((Tryz.f28.body.getD .skip).loopAt 4).getD .skip
noncomputable def L_31_4 : Code := ((Tryz.f31.body.getD .skip).loopAt 4).getD .skip
noncomputable def L_32_11 : Code := ((Tryz.f32.body.getD .skip).loopAt 11).getD .skip
noncomputable def L_34_3 : Code := ((Tryz.f34.body.getD .skip).loopAt 3).getD .skip
noncomputable def L_37_1 : Code := ((Tryz.f37.body.getD .skip).loopAt 1).getD .skip
noncomputable def L_42_2 : Code := ((Tryz.f42.body.getD .skip).loopAt 2).getD .skip
noncomputable def L_43_3 : Code := ((Tryz.f43.body.getD .skip).loopAt 3).getD .skip
noncomputable def L_44_2 : Code := ((Tryz.f44.body.getD .skip).loopAt 2).getD .skip
noncomputable def L_46_3 : Code := ((Tryz.f46.body.getD .skip).loopAt 3).getD .skip
noncomputable def L_47_2 : Code := ((Tryz.f47.body.getD .skip).loopAt 2).getD .skip
noncomputable def L_48_3 : Code := ((Tryz.f48.body.getD .skip).loopAt 3).getD .skip
noncomputable def L_50_3 : Code := ((Tryz.f50.body.getD .skip).loopAt 3).getD .skip
noncomputable def L_54_2 : Code := ((Tryz.f54.body.getD .skip).loopAt 2).getD .skip
noncomputable def L_55_5 : Code := ((Tryz.f55.body.getD .skip).loopAt 5).getD .skip
noncomputable def L_61_5 : Code := ((Tryz.f61.body.getD .skip).loopAt 5).getD .skip
noncomputable def L_62_4 : Code := ((Tryz.f62.body.getD .skip).loopAt 4).getD .skip
noncomputable def L_66_3 : Code := ((Tryz.f66.body.getD .skip).loopAt 3).getD .skip
noncomputable def L_71_4 : Code := ((Tryz.f71.body.getD .skip).loopAt 4).getD .skip
noncomputable def L_73_2 : Code := ((Tryz.f73.body.getD .skip).loopAt 2).getD .skip
noncomputable def L_85_1 : Code := ((Tryz.f85.body.getD .skip).loopAt 1).getD .skip
noncomputable def L_85_18 : Code := ((Tryz.f85.body.getD .skip).loopAt 18).getD .skip
noncomputable def L_86_3 : Code := ((Tryz.f86.body.getD .skip).loopAt 3).getD .skip
noncomputable def L_89_7 : Code := ((Tryz.f89.body.getD .skip).loopAt 7).getD .skip
noncomputable def L_91_1 : Code := ((Tryz.f91.body.getD .skip).loopAt 1).getD .skip
noncomputable def L_93_4 : Code := ((Tryz.f93.body.getD .skip).loopAt 4).getD .skip
noncomputable def L_100_3 : Code := ((Tryz.f100.body.getD .skip).loopAt 3).getD .skip
noncomputable def L_106_8 : Code := ((Tryz.f106.body.getD .skip).loopAt 8).getD .skip
noncomputable def L_109_9 : Code := ((Tryz.f109.body.getD .skip).loopAt 9).getD .skip
noncomputable def L_111_2 : Code := ((Tryz.f111.body.getD .skip).loopAt 2).getD .skip
noncomputable def L_113_17 : Code := ((Tryz.f113.body.getD .skip).loopAt 17).getD .skip
noncomputable def L_118_2 : Code := ((Tryz.f118.body.getD .skip).loopAt 2).getD .skip
noncomputable def L_120_3 : Code := ((Tryz.f120.body.getD .skip).loopAt 3).getD .skip
noncomputable def L_123_4 : Code := ((Tryz.f123.body.getD .skip).loopAt 4).getD .skip
noncomputable def L_129_12 : Code := ((Tryz.f129.body.getD .skip).loopAt 12).getD .skip
noncomputable def L_129_22 : Code := ((Tryz.f129.body.getD .skip).loopAt 22).getD .skip
noncomputable def L_132_3 : Code := ((Tryz.f132.body.getD .skip).loopAt 3).getD .skip
noncomputable def L_137_3 : Code := ((Tryz.f137.body.getD .skip).loopAt 3).getD .skip
noncomputable def L_138_3 : Code := ((Tryz.f138.body.getD .skip).loopAt 3).getD .skip
noncomputable def L_142_5 : Code := ((Tryz.f142.body.getD .skip).loopAt 5).getD .skip
noncomputable def L_143_3 : Code := ((Tryz.f143.body.getD .skip).loopAt 3).getD .skip
noncomputable def L_144_3 : Code := ((Tryz.f144.body.getD .skip).loopAt 3).getD .skip
noncomputable def L_145_22 : Code := ((Tryz.f145.body.getD .skip).loopAt 22).getD .skip
noncomputable def L_146_2 : Code := ((Tryz.f146.body.getD .skip).loopAt 2).getD .skip
noncomputable def L_149_3 : Code := ((Tryz.f149.body.getD .skip).loopAt 3).getD .skip
noncomputable def L_151_3 : Code := ((Tryz.f151.body.getD .skip).loopAt 3).getD .skip
noncomputable def L_152_2 : Code := ((Tryz.f152.body.getD .skip).loopAt 2).getD .skip
noncomputable def L_156_3 : Code := ((Tryz.f156.body.getD .skip).loopAt 3).getD .skip
noncomputable def L_157_5 : Code := ((Tryz.f157.body.getD .skip).loopAt 5).getD .skip
noncomputable def L_163_3 : Code := ((Tryz.f163.body.getD .skip).loopAt 3).getD .skip
@[simp] theorem key_10_10 : L_10_10.key = 10 := by kernel_rfl
@[simp] theorem key_24_4 : L_24_4.key = 4 := by kernel_rfl
@[simp] theorem key_28_4 : L_28_4.key = 4 := by kernel_rfl
@[simp] theorem key_31_4 : L_31_4.key = 4 := by kernel_rfl
@[simp] theorem key_32_11 : L_32_11.key = 11 := by kernel_rfl
@[simp] theorem key_34_3 : L_34_3.key = 3 := by kernel_rfl
@[simp] theorem key_37_1 : L_37_1.key = 1 := by kernel_rfl
@[simp] theorem key_42_2 : L_42_2.key = 2 := by kernel_rfl
@[simp] theorem key_43_3 : L_43_3.key = 3 := by kernel_rfl
@[simp] theorem key_44_2 : L_44_2.key = 2 := by kernel_rfl
@[simp] theorem key_46_3 : L_46_3.key = 3 := by kernel_rfl
@[simp] theorem key_47_2 : L_47_2.key = 2 := by kernel_rfl
@[simp] theorem key_48_3 : L_48_3.key = 3 := by kernel_rfl
@[simp] theorem key_50_3 : L_50_3.key = 3 := by kernel_rfl
@[simp] theorem key_54_2 : L_54_2.key = 2 := by kernel_rfl
@[simp] theorem key_55_5 : L_55_5.key = 5 := by kernel_rfl
@[simp] theorem key_61_5 : L_61_5.key = 5 := by kernel_rfl
@[simp] theorem key_62_4 : L_62_4.key = 4 := by kernel_rfl
@[simp] theorem key_66_3 : L_66_3.key = 3 := by kernel_rfl
@[simp] theorem key_71_4 : L_71_4.key = 4 := by kernel_rfl
@[simp] theorem key_73_2 : L_73_2.key = 2 := by kernel_rfl
@[simp] theorem key_85_1 : L_85_1.key = 1 := by kernel_rfl
@[simp] theorem key_85_18 : L_85_18.key = 18 := by kernel_rfl
@[simp] theorem key_86_3 : L_86_3.key = 3 := by kernel_rfl
@[simp] theorem key_89_7 : L_89_7.key = 7 := by kernel_rfl
@[simp] theorem key_91_1 : L_91_1.key = 1 := by kernel_rfl
@[simp] theorem key_93_4 : L_93_4.key = 4 := by kernel_rfl
@[simp] theorem key_100_3 : L_100_3.key = 3 := by kernel_rfl
@[simp] theorem key_106_8 : L_106_8.key = 8 := by kernel_rfl
@[simp] theorem key_109_9 : L_109_9.key = 9 := by kernel_rfl
@[simp] theorem key_111_2 : L_111_2.key = 2 := by kernel_rfl
@[simp] theorem key_113_17 : L_113_17.key = 17 := by kernel_rfl
@[simp] theorem key_118_2 : L_118_2.key = 2 := by kernel_rfl
@[simp] theorem key_120_3 : L_120_3.key = 3 := by kernel_rfl
@[simp] theorem key_123_4 : L_123_4.key = 4 := by kernel_rfl
@[simp] theorem key_129_12 : L_129_12.key = 12 := by kernel_rfl
@[simp] theorem key_129_22 : L_129_22.key = 22 := by kernel_rfl
@[simp] theorem key_132_3 : L_132_3.key = 3 := by kernel_rfl
@[simp] theorem key_137_3 : L_137_3.key = 3 := by kernel_rfl
@[simp] theorem key_138_3 : L_138_3.key = 3 := by kernel_rfl
@[simp] theorem key_142_5 : L_142_5.key = 5 := by kernel_rfl
@[simp] theorem key_143_3 : L_143_3.key = 3 := by kernel_rfl
@[simp] theorem key_144_3 : L_144_3.key = 3 := by kernel_rfl
@[simp] theorem key_145_22 : L_145_22.key = 22 := by kernel_rfl
@[simp] theorem key_146_2 : L_146_2.key = 2 := by kernel_rfl
@[simp] theorem key_149_3 : L_149_3.key = 3 := by kernel_rfl
@[simp] theorem key_151_3 : L_151_3.key = 3 := by kernel_rfl
@[simp] theorem key_152_2 : L_152_2.key = 2 := by kernel_rfl
@[simp] theorem key_156_3 : L_156_3.key = 3 := by kernel_rfl
@[simp] theorem key_157_5 : L_157_5.key = 5 := by kernel_rfl
@[simp] theorem key_163_3 : L_163_3.key = 3 := by kernel_rfl
theorem eq_2 {p : Id} {args : List A} {h : Heap} : callW E p 2 args h = (execW E 2 p ((Tryz.f2.body).getD .skip) (initFr args) 0 h).bind (resX E.P false p Tryz.f2.results.toList) := callW_eq Tryz.f2 (by kernel_rfl) (by kernel_rfl) (by kernel_rfl) rfl (by kernel_rfl)
theorem eq_3 {p : Id} {args : List A} {h : Heap} : callW E p 3 args h = (execW E 3 p ((Tryz.f3.body).getD .skip) (initFr args) 0 h).bind (resX E.P false p Tryz.f3.results.toList) := callW_eq Tryz.f3 (by kernel_rfl) (by kernel_rfl) (by kernel_rfl) rfl (by kernel_rfl)
theorem eq_4 {p : Id} {args : List A} {h : Heap} : callW E p 4 args h = (execW E 4 p ((Tryz.f4.body).getD .skip) (initFr args) 0 h).bind (resX E.P false p Tryz.f4.results.toList) := callW_eq Tryz.f4 (by kernel_rfl) (by kernel_rfl) (by kernel_rfl) rfl (by kernel_rfl)
theorem eq_5 {p : Id} {args : List A} {h : Heap} : callW E p 5 args h = (execW E 5 p ((Tryz.f5.body).getD .skip) (initFr args) 0 h).bind (resX E.P false p Tryz.f5.results.toList) := callW_eq Tryz.f5 (by kernel_rfl) (by kernel_rfl) (by kernel_rfl) rfl (by kernel_rfl)
theorem eq_6 {p : Id} {args : List A} {h : Heap} : callW E p 6 args h = (execW E 6 p ((Tryz.f6.body).getD .skip) (initFr args) 0 h).bind (resX E.P false p Tryz.f6.results.toList) := callW_eq Tryz.f6 (by kernel_rfl) (by kernel_rfl) (by kernel_rfl) rfl (by kernel_rfl)
theorem eq_7 {p : Id} {args : List A} {h : Heap} : callW E p 7 args h = (execW E 7 p ((Tryz.f7.body).getD .skip) (initFr args) 0 h).bind (resX E.P false p Tryz.f7.results.toList) := callW_eq Tryz.f7 (by kernel_rfl) (by kernel_rfl) (by kernel_rfl) rfl (by kernel_rfl)
theorem eq_8 {p : Id} {args : List A} {h : Heap} : callW E p 8 args h = (execW E 8 p ((Tryz.f8.body).getD .skip) (initFr args) 0 h).bind (resX E.P false p Tryz.f8.results.toList) := callW_eq Tryz.f8 (by kernel_rfl) (by kernel_rfl) (by kernel_rfl) rfl (by kernel_rfl)
theorem eq_9 {p : Id} {args : List A} {h : Heap} : callW E p 9 args h = (execW E 9 p ((Tryz.f9.body).getD .skip) (initFr args) 0 h).bind (resX E.P false p Tryz.f9.results.toList) := callW_eq Tryz.f9 (by kernel_rfl) (by kernel_rfl) (by kernel_rfl) rfl (by kernel_rfl)
theorem rd_10_10 {p : Id} {L : List Nat} {c0 c : Nat} {fr : Fr} {h : Heap} : iterW E 10 p L L_10_10 c0 fr c h = (execW E 10 p ((((Tryz.f10.body).getD .skip).loopAt 10).getD .skip) fr c h).bind (loopX E 10 p L L_10_10 c0) := iterW_eq2 (by kernel_rfl)
theorem eq_10 {p : Id} {args : List A} {h : Heap} : callW E p 10 args h = (execW E 10 p (((Tryz.f10.body).getD .skip).hide [(10, L_10_10)]) (initFr args) 0 h).bind (resX E.P false p Tryz.f10.results.toList) := callW_eq Tryz.f10 (by kernel_rfl) (by kernel_rfl) (by kernel_rfl) rfl (by kernel_rfl)
theorem eq_11 {p : Id} {args : List A} {h : Heap} : callW E p 11 args h = (execW E 11 p ((Tryz.f11.body).getD .skip) (initFr args) 0 h).bind (resX E.P false p Tryz.f11.results.toList) := callW_eq Tryz.f11 (by kernel_rfl) (by kernel_rfl) (by kernel_rfl) rfl (by kernel_rfl)
theorem eq_12 {p : Id} {args : List A} {h : Heap} : callW E p 12 args h = (execW E 12 p ((Tryz.f12.body).getD .skip) (initFr args) 0 h).bind (resX E.P false p Tryz.f12.results.toList) := callW_eq Tryz.f12 (by kernel_rfl) (by kernel_rfl) (by kernel_rfl) rfl (by kernel_rfl)
theorem eq_13 {p : Id} {args : List A} {h : Heap} : callW E p 13 args h = (execW E 13 p ((Tryz.f13.body).getD .skip) (initFr args) 0 h).bind (resX E.P false p Tryz.f13.results.toList) := callW_eq Tryz.f13 (by kernel_rfl) (by kernel_rfl) (by kernel_rfl) rfl (by kernel_rfl)
theorem eq_14 {p : Id} {args : List A} {h : Heap} : callW E p 14 args h = (execW E 14 p ((Tryz.f14.body).getD .skip) (initFr args) 0 h).bind (resX E.P false p Tryz.f14.results.toList) := callW_eq Tryz.f14 (by kernel_rfl) (by kernel_rfl) (by kernel_rfl) rfl (by kernel_rfl)
theorem eq_15 {p : Id} {args : List A} {h : Heap} : callW E p 15 args h = (execW E 15 p ((Tryz.f15.body).getD .skip) (initFr args) 0 h).bind (resX E.P false p Tryz.f15.results.toList) := callW_eq Tryz.f15 (by kernel_rfl) (by kernel_rfl) (by kernel_rfl) rfl (by kernel_rfl)
theorem eq_16 {p : Id} {args : List A} {h : Heap} : callW E p 16 args h = (execW E 16 p ((Tryz.f16.body).getD .skip) (initFr args) 0 h).bind (resX E.P false p Tryz.f16.results.toList) := callW_eq Tryz.f16 (by kernel_rfl) (by kernel_rfl) (by kernel_rfl) rfl (by kernel_rfl)
theorem eq_17 {p : Id} {args : List A} {h : Heap} : callW E p 17 args h = (execW E 17 p ((Tryz.f17.body).getD .skip) (initFr args) 0 h).bind (resX E.P false p Tryz.f17.results.toList) := callW_eq Tryz.f17 (by kernel_rfl) (by kernel_rfl) (by kernel_rfl) rfl (by kernel_rfl)
theorem eq_18 {p : Id} {args : List A} {h : Heap} : callW E p 18 args h = (execW E 18 p ((Tryz.f18.body).getD .skip) (initFr args) 0 h).bind (resX E.P false p Tryz.f18.results.toList) := callW_eq Tryz.f18 (by kernel_rfl) (by kernel_rfl) (by kernel_rfl) rfl (by kernel_rfl)
theorem eq_19 {p : Id} {args : List A} {h : Heap} : callW E p 19 args h = (execW E 19 p ((Tryz.f19.body).getD .skip) (initFr args) 0 h).bind (resX E.P false p Tryz.f19.results.toList) := callW_eq Tryz.f19 (by kernel_rfl) (by kernel_rfl) (by kernel_rfl) rfl (by kernel_rfl)
theorem eq_20 {p : Id} {args : List A} {h : Heap} : callW E p 20 args h = (execW E 20 p ((Tryz.f20.body).getD .skip) (initFr args) 0 h).bind (resX E.P false p Tryz.f20.results.toList) := callW_eq Tryz.f20 (by kernel_rfl) (by kernel_rfl) (by kernel_rfl) rfl (by kernel_rfl)
theorem eq_21 {p : Id} {args : List A} {h : Heap} : callW E p 21 args h = (execW E 21 p ((Tryz.f21.body).getD .skip) (initFr args) 0 h).bind (resX E.P false p Tryz.f21.results.toList) := callW_eq Tryz.f21 (by kernel_rfl) (by kernel_rfl) (by kernel_rfl) rfl (by kernel_rfl)
theorem eq_22 {p : Id} {args : List A} {h : Heap} : callW E p 22 args h = (execW E 22 p ((Tryz.f22.body).getD .skip) (initFr args) 0 h).bind (resX E.P false p Tryz.f22.results.toList) := callW_eq Tryz.f22 (by kernel_rfl) (by kernel_rfl) (by kernel_rfl) rfl (by kernel_rfl)
theorem eq_23 {p : Id} {args : List A} {h : Heap} : callW E p 23 args h = (execW E 23 p ((Tryz.f23.body).getD .skip) (initFr args) 0 h).bind (resX E.P false p Tryz.f23.results.toList) := callW_eq Tryz.f23 (by kernel_rfl) (by kernel_rfl) (by kernel_rfl) rfl (by kernel_rfl)
theorem rd_24_4 {p : Id} {L : List Nat} {c0 c : Nat} {fr : Fr} {h : Heap} : iterW E 24 p L L_24_4 c0 fr c h = (execW E 24 p ((((Tryz.f24.body).getD .skip).loopAt 4).getD .skip) fr c h).bind (loopX E 24 p L L_24_4 c0) := iterW_eq2 (by kernel_rfl)
theorem eq_24 {p : Id} {args : List A} {h : Heap} : callW E p 24 args h = (execW E 24 p (((Tryz.f24.body).getD .skip).hide [(4, L_24_4)]) (initFr args) 0 h).bind (resX E.P false p Tryz.f24.results.toList) := callW_eq Tryz.f24 (by kernel_rfl) (by kernel_rfl) (by kernel_rfl) rfl (by kernel_rfl)
theorem eq_25 {p : Id} {args : List A} {h : Heap} : callW E p 25 args h = (execW E 25 p ((Tryz.f25.body).getD .skip) (initFr args) 0 h).bind (resX E.P false p Tryz.f25.results.toList) := callW_eq Tryz.f25 (by kernel_rfl) (by kernel_rfl) (by kernel_rfl) rfl (by kernel_rfl)
theorem eq_26 {p : Id} {args : List A} {h : Heap} : callW E p 26 args h = (execW E 26 p ((Tryz.f26.body).getD .skip) (initFr args) 0 h).bind (resX E.P false p Tryz.f26.results.toList) := callW_eq Tryz.f26 (by kernel_rfl) (by kernel_rfl) (by kernel_rfl) rfl (by kernel_rfl)
theorem eq_27 {p : Id} {args : List A} {h : Heap} : callW E p 27 args h = (execW E 27 p ((Tryz.f27.body).getD .skip) (initFr args) 0 h).bind (resX E.P false p Tryz.f27.results.toList) := callW_eq Tryz.f27 (by kernel_rfl) (by kernel_rfl) (by kernel_rfl) rfl (by kernel_rfl)
theorem rd_28_4 {p : Id} {L : List Nat} {c0 c : Nat} {fr : Fr} {h : Heap} : iterW E 28 p L L_28_4 c0 fr c h = (execW E 28 p ((((Tryz.f28.body).getD .skip).loopAt 4).getD .skip) fr c h).bind (loopX E 28 p L L_28_4 c0) := iterW_eq2 (by kernel_rfl)
theorem eq_28 {p : Id} {args : List A} {h : Heap} : callW E p 28 args h = (execW E 28 p (((Tryz.f28.body).getD .skip).hide [(4, L_28_4)]) (initFr args) 0 h).bind (resX E.P false p Tryz.f28.results.toList) := callW_eq Tryz.f28 (by kernel_rfl) (by kernel_rfl) (by kernel_rfl) rfl (by kernel_rfl)
theorem eq_29 {p : Id} {args : List A} {h : Heap} : callW E p 29 args h = (execW E 29 p ((Tryz.f29.body).getD .skip) (initFr args) 0 h).bind (resX E.P false p Tryz.f29.results.toList) := callW_eq Tryz.f29 (by kernel_rfl) (by kernel_rfl) (by kernel_rfl) rfl (by kernel_rfl)
theorem eq_30 {p : Id} {args : List A} {h : Heap} : callW E p 30 args h = (execW E 30 p ((Tryz.f30.body).getD .skip) (initFr args) 0 h).bind (resX E.P false p Tryz.f30.results.toList) := callW_eq Tryz.f30 (by kernel_rfl) (by kernel_rfl) (by kernel_rfl) rfl (by kernel_rfl)
theorem rd_31_4 {p : Id} {L : List Nat} {c0 c : Nat} {fr : Fr} {h : Heap} : iterW E 31 p L L_31_4 c0 fr c h = (execW E 31 p ((((Tryz.f31.body).getD .skip).loopAt 4).getD .skip) fr c h).bind (loopX E 31 p L L_31_4 c0) := iterW_eq2 (by kernel_rfl)
theorem eq_31 {p : Id} {args : List A} {h : Heap} : callW E p 31 args h = (execW E 31 p (((Tryz.f31.body).getD .skip).hide [(4, L_31_4)]) (initFr args) 0 h).bind (resX E.P false p Tryz.f31.results.toList) := callW_eq Tryz.f31 (by kernel_rfl) (by kernel_rfl) (by kernel_rfl) rfl (by kernel_rfl)
theorem rd_32_11 {p : Id} {L : List Nat} {c0 c : Nat} {fr : Fr} {h : Heap} : iterW E 32 p L L_32_11 c0 fr c h = (execW E 32 p ((((Tryz.f32.body).getD .skip).loopAt 11).getD .skip) fr c h).bind (loopX E 32 p L L_32_11 c0) := iterW_eq2 (by kernel_rfl)
theorem eq_32 {p : Id} {args : List A} {h : Heap} : callW E p 32 args h = (execW E 32 p (((Tryz.f32.body).getD .skip).hide [(11, L_32_11)]) (initFr args) 0 h).bind (resX E.P true p Tryz.f32.results.toList) := callW_eq Tryz.f32 (by kernel_rfl) (by kernel_rfl) (by kernel_rfl) rfl (by kernel_rfl)
theorem eq_33 {p : Id} {args : List A} {h : Heap} : callW E p 33 args h = (execW E 33 p ((Tryz.f33.body).getD .skip) (initFr args) 0 h).bind (resX E.P false p Tryz.f33.results.toList) := callW_eq Tryz.f33 (by kernel_rfl) (by kernel_rfl) (by kernel_rfl) rfl (by kernel_rfl)
theorem rd_34_3 {p : Id} {L : List Nat} {c0 c : Nat} {fr : Fr} {h : Heap} : iterW E 34 p L L_34_3 c0 fr c h = (execW E 34 p ((((Tryz.f34.body).getD .skip).loopAt 3).getD .skip) fr c h).bind (loopX E 34 p L L_34_3 c0) := iterW_eq2 (by kernel_rfl)
theorem eq_34 {p : Id} {args : List A} {h : Heap} : callW E p 34 args h = (execW E 34 p (((Tryz.f34.body).getD .skip).hide [(3, L_34_3)]) (initFr args) 0 h).bind (resX E.P false p Tryz.f34.results.toList) := callW_eq Tryz.f34 (by kernel_rfl) (by kernel_rfl) (by kernel_rfl) rfl (by kernel_rfl)
theorem eq_35 {p : Id} {args : List A} {h : Heap} : callW E p 35 args h = (execW E 35 p ((Tryz.f35.body).getD .skip) (initFr args) 0 h).bind (resX E.P false p Tryz.f35.results.toList) := callW_eq Tryz.f35 (by kernel_rfl) (by kernel_rfl) (by kernel_rfl) rfl (by kernel_rfl)
theorem eq_36 {p : Id} {args : List A} {h : Heap} : callW E p 36 args h = (execW E 36 p ((Tryz.f36.body).getD .skip) (initFr args) 0 h).bind (resX E.P false p Tryz.f36.results.toList) := callW_eq Tryz.f36 (by kernel_rfl) (by kernel_rfl) (by kernel_rfl) rfl (by kernel_rfl)
theorem rd_37_1 {p : Id} {L : List Nat} {c0 c : Nat} {fr : Fr} {h : Heap} : iterW E 37 p L L_37_1 c0 fr c h = (execW E 37 p ((((Tryz.f37.body).getD .skip).loopAt 1).getD .skip) fr c h).bind (loopX E 37 p L L_37_1 c0) := iterW_eq2 (by kernel_rfl)
theorem eq_37 {p : Id} {args : List A} {h : Heap} : callW E p 37 args h = (execW E 37 p (((Tryz.f37.body).getD .skip).hide [(1, L_37_1)]) (initFr args) 0 h).bind (resX E.P false p Tryz.f37.results.toList) := callW_eq Tryz.f37 (by kernel_rfl) (by kernel_rfl) (by kernel_rfl) rfl (by kernel_rfl)
theorem eq_38 {p : Id} {args : List A} {h : Heap} : callW E p 38 args h = (execW E 38 p ((Tryz.f38.body).getD .skip) (initFr args) 0 h).bind (resX E.P false p Tryz.f38.results.toList) := callW_eq Tryz.f38 (by kernel_rfl) (by kernel_rfl) (by kernel_rfl) rfl (by kernel_rfl)
theorem eq_39 {p : Id} {args : List A} {h : Heap} : callW E p 39 args h = (execW E 39 p ((Tryz.f39.body).getD .skip) (initFr args) 0 h).bind (resX E.P false p Tryz.f39.results.toList) := callW_eq Tryz.f39 (by kernel_rfl) (by kernel_rfl) (by kernel_rfl) rfl (by kernel_rfl)
theorem eq_40 {p : Id} {args : List A} {h : Heap} : callW E p 40 args h = (execW E 40 p ((Tryz.f40.body).getD .skip) (initFr args) 0 h).bind (resX E.P false p Tryz.f40.results.toList) := callW_eq Tryz.f40 (by kernel_rfl) (by kernel_rfl) (by kernel_rfl) rfl (by kernel_rfl)
theorem eq_41 {p : Id} {args : List A} {h : Heap} : callW E p 41 args h = (execW E 41 p ((Tryz.f41.body).getD .skip) (initFr args) 0 h).bind (resX E.P false p Tryz.f41.results.toList) := callW_eq Tryz.f41 (by kernel_rfl) (by kernel_rfl) (by kernel_rfl) rfl (by kernel_rfl)
theorem rd_42_2 {p : Id} {L : List Nat} {c0 c : Nat} {fr : Fr} {h : Heap} : iterW E 42 p L L_42_2 c0 fr c h = (execW E 42 p ((((Tryz.f42.body).getD .skip).loopAt 2).getD .skip) fr c h).bind (loopX E 42 p L L_42_2 c0) := iterW_eq2 (by kernel_rfl)
theorem eq_42 {p : Id} {args : List A} {h : Heap} : callW E p 42 args h = (execW E 42 p (((Tryz.f42.body).getD .skip).hide [(2, L_42_2)]) (initFr args) 0 h).bind (resX E.P false p Tryz.f42.results.toList) := callW_eq Tryz.f42 (by kernel_rfl) (by kernel_rfl) (by kernel_rfl) rfl (by kernel_rfl)
theorem rd_43_3 {p : Id} {L : List Nat} {c0 c : Nat} {fr : Fr} {h : Heap} : iterW E 43 p L L_43_3 c0 fr c h = (execW E 43 p ((((Tryz.f43.body).getD .skip).loopAt 3).getD .skip) fr c h).bind (loopX E 43 p L L_43_3 c0) := iterW_eq2 (by kernel_rfl)
theorem eq_43 {p : Id} {args : List A} {h : Heap} : callW E p 43 args h = (execW E 43 p (((Tryz.f43.body).getD .skip).hide [(3, L_43_3)]) (initFr args) 0 h).bind (resX E.P false p Tryz.f43.results.toList) := callW_eq Tryz.f43 (by kernel_rfl) (by kernel_rfl) (by kernel_rfl) rfl (by kernel_rfl)
theorem rd_44_2 {p : Id} {L : List Nat} {c0 c : Nat} {fr : Fr} {h : Heap} : iterW E 44 p L L_44_2 c0 fr c h = (execW E 44 p ((((Tryz.f44.body).getD .skip).loopAt 2).getD .skip) fr c h).bind (loopX E 44 p L L_44_2 c0) := iterW_eq2 (by kernel_rfl)
theorem eq_44 {p : Id} {args : List A} {h : Heap} : callW E p 44 args h = (execW E 44 p (((Tryz.f44.body).getD .skip).hide [(2, L_44_2)]) (initFr args) 0 h).bind (resX E.P false p Tryz.f44.results.toList) := callW_eq Tryz.f44 (by kernel_rfl) (by kernel_rfl) (by kernel_rfl) rfl (by kernel_rfl)
theorem eq_45 {p : Id} {args : List A} {h : Heap} : callW E p 45 args h = (execW E 45 p ((Tryz.f45.body).getD .skip) (initFr args) 0 h).bind (resX E.P false p Tryz.f45.results.toList) := callW_eq Tryz.f45 (by kernel_rfl) (by kernel_rfl) (by kernel_rfl) rfl (by kernel_rfl)
theorem rd_46_3 {p : Id} {L : List Nat} {c0 c : Nat} {fr : Fr} {h : Heap} : iterW E 46 p L L_46_3 c0 fr c h = (execW E 46 p ((((Tryz.f46.body).getD .skip).loopAt 3).getD .skip) fr c h).bind (loopX E 46 p L L_46_3 c0) := iterW_eq2 (by kernel_rfl)
theorem eq_46 {p : Id} {args : List A} {h : Heap} : callW E p 46 args h = (execW E 46 p (((Tryz.f46.body).getD .skip).hide [(3, L_46_3)]) (initFr args) 0 h).bind (resX E.P false p Tryz.f46.results.toList) := callW_eq Tryz.f46 (by kernel_rfl) (by kernel_rfl) (by kernel_rfl) rfl (by kernel_rfl)
theorem rd_47_2 {p : Id} {L : List Nat} {c0 c : Nat} {fr : Fr} {h : Heap} : iterW E 47 p L L_47_2 c0 fr c h = (execW E 47 p ((((Tryz.f47.body).getD .skip).loopAt 2).getD .skip) fr c h).bind (loopX E 47 p L L_47_2 c0) := iterW_eq2 (by kernel_rfl)
theorem eq_47 {p : Id} {args : List A} {h : Heap} : callW E p 47 args h = (execW E 47 p (((Tryz.f47.body).getD .skip).hide [(2, L_47_2)]) (initFr args) 0 h).bind (resX E.P false p Tryz.f47.results.toList) := callW_eq Tryz.f47 (by kernel_rfl) (by kernel_rfl) (by kernel_rfl) rfl (by kernel_rfl)
theorem rd_48_3 {p : Id} {L : List Nat} {c0 c : Nat} {fr : Fr} {h : Heap} : iterW E 48 p L L_48_3 c0 fr c h = (execW E 48 p ((((Tryz.f48.body).getD .skip).loopAt 3).getD .skip) fr c h).bind (loopX E 48 p L L_48_3 c0) := iterW_eq2 (by kernel_rfl)
theorem eq_48 {p : Id} {args : List A} {h : Heap} : callW E p 48 args h = (execW E 48 p (((Tryz.f48.body).getD .skip).hide [(3, L_48_3)]) (initFr args) 0 h).bind (resX E.P false p Tryz.f48.results.toList) := callW_eq Tryz.f48 (by kernel_rfl) (by kernel_rfl) (by kernel_rfl) rfl (by kernel_rfl)
theorem eq_49 {p : Id} {args : List A} {h : Heap} : callW E p 49 args h = (execW E 49 p ((Tryz.f49.body).getD .skip) (initFr args) 0 h).bind (resX E.P false p Tryz.f49.results.toList) := callW_eq Tryz.f49 (by kernel_rfl) (by kernel_rfl) (by kernel_rfl) rfl (by kernel_rfl)
theorem rd_50_3 {p : Id} {L : List Nat} {c0 c : Nat} {fr : Fr} {h : Heap} : iterW E 50 p L L_50_3 c0 fr c h = (execW E 50 p ((((Tryz.f50.body).getD .skip).loopAt 3).getD .skip) fr c h).bind (loopX E 50 p L L_50_3 c0) := iterW_eq2 (by kernel_rfl)
theorem eq_50 {p : Id} {args : List A} {h : Heap} : callW E p 50 args h = (execW E 50 p (((Tryz.f50.body).getD .skip).hide [(3, L_50_3)]) (initFr args) 0 h).bind (resX E.P false p Tryz.f50.results.toList) := callW_eq Tryz.f50 (by kernel_rfl) (by kernel_rfl) (by kernel_rfl) rfl (by kernel_rfl)
theorem eq_51 {p : Id} {args : List A} {h : Heap} : callW E p 51 args h = (execW E 51 p ((Tryz.f51.body).getD .skip) (initFr args) 0 h).bind (resX E.P false p Tryz.f51.results.toList) := callW_eq Tryz.f51 (by kernel_rfl) (by kernel_rfl) (by kernel_rfl) rfl (by kernel_rfl)
theorem eq_53 {p : Id} {args : List A} {h : Heap} : callW E p 53 args h = (execW E 53 p ((Tryz.f53.body).getD .skip) (initFr args) 0 h).bind (resX E.P false p Tryz.f53.results.toList) := callW_eq Tryz.f53 (by kernel_rfl) (by kernel_rfl) (by kernel_rfl) rfl (by kernel_rfl)
theorem rd_54_2 {p : Id} {L : List Nat} {c0 c : Nat} {fr : Fr} {h : Heap} : iterW E 54 p L L_54_2 c0 fr c h = (execW E 54 p ((((Tryz.f54.body).getD .skip).loopAt 2).getD .skip) fr c h).bind (loopX E 54 p L L_54_2 c0) := iterW_eq2 (by kernel_rfl)
theorem eq_54 {p : Id} {args : List A} {h : Heap} : callW E p 54 args h = (execW E 54 p (((Tryz.f54.body).getD .skip).hide [(2, L_54_2)]) (initFr args) 0 h).bind (resX E.P false p Tryz.f54.results.toList) := callW_eq Tryz.f54 (by kernel_rfl) (by kernel_rfl) (by kernel_rfl) rfl (by kernel_rfl)
theorem rd_55_5 {p : Id} {L : List Nat} {c0 c : Nat} {fr : Fr} {h : Heap} : iterW E 55 p L L_55_5 c0 fr c h = (execW E 55 p ((((Tryz.f55.body).getD .skip).loopAt 5).getD .skip) fr c h).bind (loopX E 55 p L L_55_5 c0) := iterW_eq2 (by kernel_rfl)
theorem eq_55 {p : Id} {args : List A} {h : Heap} : callW E p 55 args h = (execW E 55 p (((Tryz.f55.body).getD .skip).hide [(5, L_55_5)]) (initFr args) 0 h).bind (resX E.P false p Tryz.f55.results.toList) := callW_eq Tryz.f55 (by kernel_rfl) (by kernel_rfl) (by kernel_rfl) rfl (by kernel_rfl)
theorem eq_56 {p : Id} {args : List A} {h : Heap} : callW E p 56 args h = (execW E 56 p ((Tryz.f56.body).getD .skip) (initFr args) 0 h).bind (resX E.P false p Tryz.f56.results.toList) := callW_eq Tryz.f56 (by kernel_rfl) (by kernel_rfl) (by kernel_rfl) rfl (by kernel_rfl)
theorem eq_57 {p : Id} {args : List A} {h : Heap} : callW E p 57 args h = (execW E 57 p ((Tryz.f57.body).getD .skip) (initFr args) 0 h).bind (resX E.P false p Tryz.f57.results.toList) := callW_eq Tryz.f57 (by kernel_rfl) (by kernel_rfl) (by kernel_rfl) rfl (by kernel_rfl)
theorem eq_58 {p : Id} {args : List A} {h : Heap} : callW E p 58 args h = (execW E 58 p ((Tryz.f58.body).getD .skip) (initFr args) 0 h).bind (resX E.P false p Tryz.f58.results.toList) := callW_eq Tryz.f58 (by kernel_rfl) (by kernel_rfl) (by kernel_rfl) rfl (by kernel_rfl)
theorem eq_59 {p : Id} {args : List A} {h : Heap} : callW E p 59 args h = (execW E 59 p ((Tryz.f59.body).getD .skip) (initFr args) 0 h).bind (resX E.P false p Tryz.f59.results.toList) := callW_eq Tryz.f59 (by kernel_rfl) (by kernel_rfl) (by kernel_rfl) rfl (by kernel_rfl)
theorem eq_60 {p : Id} {args : List A} {h : Heap} : callW E p 60 args h = (execW E 60 p ((Tryz.f60.body).getD .skip) (initFr args) 0 h).bind (resX E.P false p Tryz.f60.results.toList) := callW_eq Tryz.f60 (by kernel_rfl) (by kernel_rfl) (by kernel_rfl) rfl (by kernel_rfl)
theorem rd_61_5 {p : Id} {L : List Nat} {c0 c : Nat} {fr : Fr} {h : Heap} : iterW E 61 p L L_61_5 c0 fr c h = (execW E 61 p ((((Tryz.f61.body).getD .skip).loopAt 5).getD .skip) fr c h).bind (loopX E 61 p L L_61_5 c0) := iterW_eq2 (by kernel_rfl)
theorem eq_61 {p : Id} {args : List A} {h : Heap} : callW E p 61 args h = (execW E 61 p (((Tryz.f61.body).getD .skip).hide [(5, L_61_5)]) (initFr args) 0 h).bind (resX E.P false p Tryz.f61.results.toList) := callW_eq Tryz.f61 (by kernel_rfl) (by kernel_rfl) (by kernel_rfl) rfl (by kernel_rfl)
theorem rd_62_4 {p : Id} {L : List Nat} {c0 c : Nat} {fr : Fr} {h : Heap} : iterW E 62 p L L_62_4 c0 fr c h = (execW E 62 p ((((Tryz.f62.body).getD .skip).loopAt 4).getD .skip) fr c h).bind (loopX E 62 p L L_62_4 c0) := iterW_eq2 (by kernel_rfl)
theorem eq_62 {p : Id} {args : List A} {h : Heap} : callW E p 62 args h = (execW E 62 p (((Tryz.f62.body).getD .skip).hide [(4, L_62_4)]) (initFr args) 0 h).bind (resX E.P false p Tryz.f62.results.toList) := callW_eq Tryz.f62 (by kernel_rfl) (by kernel_rfl) (by kernel_rfl) rfl (by kernel_rfl)
theorem eq_63 {p : Id} {args : List A} {h : Heap} : callW E p 63 args h = (execW E 63 p ((Tryz.f63.body).getD .skip) (initFr args) 0 h).bind (resX E.P false p Tryz.f63.results.toList) := callW_eq Tryz.f63 (by kernel_rfl) (by kernel_rfl) (by kernel_rfl) rfl (by kernel_rfl)
theorem eq_64 {p : Id} {args : List A} {h : Heap} : callW E p 64 args h = (execW E 64 p ((Tryz.f64.body).getD .skip) (initFr args) 0 h).bind (resX E.P false p Tryz.f64.results.toList) := callW_eq Tryz.f64 (by kernel_rfl) (by kernel_rfl) (by kernel_rfl) rfl (by kernel_rfl)
theorem eq_65 {p : Id} {args : List A} {h : Heap} : callW E p 65 args h = (execW E 65 p ((Tryz.f65.body).getD .skip) (initFr args) 0 h).bind (resX E.P false p Tryz.f65.results.toList) := callW_eq Tryz.f65 (by kernel_rfl) (by kernel_rfl) (by kernel_rfl) rfl (by kernel_rfl)
theorem rd_66_3 {p : Id} {L : List Nat} {c0 c : Nat} {fr : Fr} {h : Heap} : iterW E 66 p L L_66_3 c0 fr c h = (execW E 66 p ((((Tryz.f66.body).getD .skip).loopAt 3).getD .skip) fr c h).bind (loopX E 66 p L L_66_3 c0) := iterW_eq2 (by kernel_rfl)
theorem eq_66 {p : Id} {args : List A} {h : Heap} : callW E p 66 args h = (execW E 66 p (((Tryz.f66.body).getD .skip).hide [(3, L_66_3)]) (initFr args) 0 h).bind (resX E.P false p Tryz.f66.results.toList) := callW_eq Tryz.f66 (by kernel_rfl) (by kernel_rfl) (by kernel_rfl) rfl (by kernel_rfl)
theorem eq_67 {p : Id} {args : List A} {h : Heap} : callW E p 67 args h = (execW E 67 p ((Tryz.f67.body).getD .skip) (initFr args) 0 h).bind (resX E.P false p Tryz.f67.results.toList) := callW_eq Tryz.f67 (by kernel_rfl) (by kernel_rfl) (by kernel_rfl) rfl (by kernel_rfl)
theorem eq_69 {p : Id} {args : List A} {h : Heap} : callW E p 69 args h = (execW E 69 p ((Tryz.f69.body).getD .skip) (initFr args) 0 h).bind (resX E.P false p Tryz.f69.results.toList) := callW_eq Tryz.f69 (by kernel_rfl) (by kernel_rfl) (by kernel_rfl) rfl (by kernel_rfl)
theorem eq_70 {p : Id} {args : List A} {h : Heap} : callW E p 70 args h = (execW E 70 p ((Tryz.f70.body).getD .skip) (initFr args) 0 h).bind (resX E.P false p Tryz.f70.results.toList) := callW_eq Tryz.f70 (by kernel_rfl) (by kernel_rfl) (by kernel_rfl) rfl (by kernel_rfl)
theorem rd_71_4 {p : Id} {L : List Nat} {c0 c : Nat} {fr : Fr} {h : Heap} : iterW E 71 p L L_71_4 c0 fr c h = (execW E 71 p ((((Tryz.f71.body).getD .skip).loopAt 4).getD .skip) fr c h).bind (loopX E 71 p L L_71_4 c0) := iterW_eq2 (by kernel_rfl)
theorem eq_71 {p : Id} {args : List A} {h : Heap} : callW E p 71 args h = (execW E 71 p (((Tryz.f71.body).getD .skip).hide [(4, L_71_4)]) (initFr args) 0 h).bind (resX E.P false p Tryz.f71.results.toList) := callW_eq Tryz.f71 (by kernel_rfl) (by kernel_rfl) (by kernel_rfl) rfl (by kernel_rfl)
theorem eq_72 {p : Id} {args : List A} {h : Heap} : callW E p 72 args h = (execW E 72 p ((Tryz.f72.body).getD .skip) (initFr args) 0 h).bind (resX E.P false p Tryz.f72.results.toList) := callW_eq Tryz.f72 (by kernel_rfl) (by kernel_rfl) (by kernel_rfl) rfl (by kernel_rfl)
theorem rd_73_2 {p : Id} {L : List Nat} {c0 c : Nat} {fr : Fr} {h : Heap} : iterW E 73 p L L_73_2 c0 fr c h = (execW E 73 p ((((Tryz.f73.body).getD .skip).loopAt 2).getD .skip) fr c h).bind (loopX E 73 p L L_73_2 c0) := iterW_eq2 (by kernel_rfl)
theorem eq_73 {p : Id} {args : List A} {h : Heap} : callW E p 73 args h = (execW E 73 p (((Tryz.f73.body).getD .skip).hide [(2, L_73_2)]) (initFr args) 0 h).bind (resX E.P false p Tryz.f73.results.toList) := callW_eq Tryz.f73 (by kernel_rfl) (by kernel_rfl) (by kernel_rfl) rfl (by kernel_rfl)
theorem eq_74 {p : Id} {args : List A} {h : Heap} : callW E p 74 args h = (execW E 74 p ((Tryz.f74.body).getD .skip) (initFr args) 0 h).bind (resX E.P false p Tryz.f74.results.toList) := callW_eq Tryz.f74 (by kernel_rfl) (by kernel_rfl) (by kernel_rfl) rfl (by kernel_rfl)
theorem eq_75 {p : Id} {args : List A} {h : Heap} : callW E p 75 args h = (execW E 75 p ((Tryz.f75.body).getD .skip) (initFr args) 0 h).bind (resX E.P false p Tryz.f75.results.toList) := callW_eq Tryz.f75 (by kernel_rfl) (by kernel_rfl) (by kernel_rfl) rfl (by kernel_rfl)
theorem eq_76 {p : Id} {args : List A} {h : Heap} : callW E p 76 args h = (execW E 76 p ((Tryz.f76.body).getD .skip) (initFr args) 0 h).bind (resX E.P false p Tryz.f76.results.toList) := callW_eq Tryz.f76 (by kernel_rfl) (by kernel_rfl) (by kernel_rfl) rfl (by kernel_rfl)
theorem eq_77 {p : Id} {args : List A} {h : Heap} : callW E p 77 args h = (execW E 77 p ((Tryz.f77.body).getD .skip) (initFr args) 0 h).bind (resX E.P false p Tryz.f77.results.toList) := callW_eq Tryz.f77 (by kernel_rfl) (by kernel_rfl) (by kernel_rfl) rfl (by kernel_rfl)
theorem eq_78 {p : Id} {args : List A} {h : Heap} : callW E p 78 args h = (execW E 78 p ((Tryz.f78.body).getD .skip) (initFr args) 0 h).bind (resX E.P false p Tryz.f78.results.toList) := callW_eq Tryz.f78 (by kernel_rfl) (by kernel_rfl) (by kernel_rfl) rfl (by kernel_rfl)
theorem eq_79 {p : Id} {args : List A} {h : Heap} : callW E p 79 args h = (execW E 79 p ((Tryz.f79.body).getD .skip) (initFr args) 0 h).bind (resX E.P false p Tryz.f79.results.toList) := callW_eq Tryz.f79 (by kernel_rfl) (by kernel_rfl) (by kernel_rfl) rfl (by kernel_rfl)
theorem eq_80 {p : Id} {args : List A} {h : Heap} : callW E p 80 args h = (execW E 80 p ((Tryz.f80.body).getD .skip) (initFr args) 0 h).bind (resX E.P false p Tryz.f80.results.toList) := callW_eq Tryz.f80 (by kernel_rfl) (by kernel_rfl) (by kernel_rfl) rfl (by kernel_rfl)
theorem eq_81 {p : Id} {args : List A} {h : Heap} : callW E p 81 args h = (execW E 81 p ((Tryz.f81.body).getD .skip) (initFr args) 0 h).bind (resX E.P false p Tryz.f81.results.toList) := callW_eq Tryz.f81 (by kernel_rfl) (by kernel_rfl) (by kernel_rfl) rfl (by kernel_rfl)
theorem rd_85_1 {p : Id} {L : List Nat} {c0 c : Nat} {fr : Fr} {h : Heap} : iterW E 85 p L L_85_1 c0 fr c h = (execW E 85 p (((((Tryz.f85.body).getD .skip).loopAt 1).getD .skip).hide [(18, L_85_18)]) fr c h).bind (loopX E 85 p L L_85_1 c0) := iterW_eq2 (by kernel_rfl)
theorem rd_85_18 {p : Id} {L : List Nat} {c0 c : Nat} {fr : Fr} {h : Heap} : iterW E 85 p L L_85_18 c0 fr c h = (execW E 85 p ((((Tryz.f85.body).getD .skip).loopAt 18).getD .skip) fr c h).bind (loopX E 85 p L L_85_18 c0) := iterW_eq2 (by kernel_rfl)
theorem eq_85 {p : Id} {args : List A} {h : Heap} : callW E p 85 args h = (execW E 85 p (((Tryz.f85.body).getD .skip).hide [(1, L_85_1)]) (initFr args) 0 h).bind (resX E.P false p Tryz.f85.results.toList) := callW_eq Tryz.f85 (by kernel_rfl) (by kernel_rfl) (by kernel_rfl) rfl (by kernel_rfl)
theorem rd_86_3 {p : Id} {L : List Nat} {c0 c : Nat} {fr : Fr} {h : Heap} : iterW E 86 p L L_86_3 c0 fr c h = (execW E 86 p ((((Tryz.f86.body).getD .skip).loopAt 3).getD .skip) fr c h).bind (loopX E 86 p L L_86_3 c0) := iterW_eq2 (by kernel_rfl)
theorem eq_86 {p : Id} {args : List A} {h : Heap} : callW E p 86 args h = (execW E 86 p (((Tryz.f86.body).getD .skip).hide [(3, L_86_3)]) (initFr args) 0 h).bind (resX E.P false p Tryz.f86.results.toList) := callW_eq Tryz.f86 (by kernel_rfl) (by kernel_rfl) (by kernel_rfl) rfl (by kernel_rfl)
theorem eq_87 {p : Id} {args : List A} {h : Heap} : callW E p 87 args h = (execW E 87 p ((Tryz.f87.body).getD .skip) (initFr args) 0 h).bind (resX E.P false p Tryz.f87.results.toList) := callW_eq Tryz.f87 (by kernel_rfl) (by kernel_rfl) (by kernel_rfl) rfl (by kernel_rfl)
theorem eq_88 {p : Id} {args : List A} {h : Heap} : callW E p 88 args h = (execW E 88 p ((Tryz.f88.body).getD .skip) (initFr args) 0 h).bind (resX E.P false p Tryz.f88.results.toList) := callW_eq Tryz.f88 (by kernel_rfl) (by kernel_rfl) (by kernel_rfl) rfl (by kernel_rfl)
theorem rd_89_7 {p : Id} {L : List Nat} {c0 c : Nat} {fr : Fr} {h : Heap} : iterW E 89 p L L_89_7 c0 fr c h = (execW E 89 p ((((Tryz.f89.body).getD .skip).loopAt 7).getD .skip) fr c h).bind (loopX E 89 p L L_89_7 c0) := iterW_eq2 (by kernel_rfl)
theorem eq_89 {p : Id} {args : List A} {h : Heap} : callW E p 89 args h = (execW E 89 p (((Tryz.f89.body).getD .skip).hide [(7, L_89_7)]) (initFr args) 0 h).bind (resX E.P false p Tryz.f89.results.toList) := callW_eq Tryz.f89 (by kernel_rfl) (by kernel_rfl) (by kernel_rfl) rfl (by kernel_rfl)
theorem eq_90 {p : Id} {args : List A} {h : Heap} : callW E p 90 args h = (execW E 90 p ((Tryz.f90.body).getD .skip) (initFr args) 0 h).bind (resX E.P false p Tryz.f90.results.toList) := callW_eq Tryz.f90 (by kernel_rfl) (by kernel_rfl) (by kernel_rfl) rfl (by kernel_rfl)
theorem rd_91_1 {p : Id} {L : List Nat} {c0 c : Nat} {fr : Fr} {h : Heap} : iterW E 91 p L L_91_1 c0 fr c h = (execW E 91 p ((((Tryz.f91.body).getD .skip).loopAt 1).getD .skip) fr c h).bind (loopX E 91 p L L_91_1 c0) := iterW_eq2 (by kernel_rfl)
theorem eq_91 {p : Id} {args : List A} {h : Heap} : callW E p 91 args h = (execW E 91 p (((Tryz.f91.body).getD .skip).hide [(1, L_91_1)]) (initFr args) 0 h).bind (resX E.P false p Tryz.f91.results.toList) := callW_eq Tryz.f91 (by kernel_rfl) (by kernel_rfl) (by kernel_rfl) rfl (by kernel_rfl)
theorem eq_92 {p : Id} {args : List A} {h : Heap} : callW E p 92 args h = (execW E 92 p ((Tryz.f92.body).getD .skip) (initFr args) 0 h).bind (resX E.P false p Tryz.f92.results.toList) := callW_eq Tryz.f92 (by kernel_rfl) (by kernel_rfl) (by kernel_rfl) rfl (by kernel_rfl)
theorem rd_93_4 {p : Id} {L : List Nat} {c0 c : Nat} {fr : Fr} {h : Heap} : iterW E 93 p L L_93_4 c0 fr c h = (execW E 93 p ((((Tryz.f93.body).getD .skip).loopAt 4).getD .skip) fr c h).bind (loopX E 93 p L L_93_4 c0) := iterW_eq2 (by kernel_rfl)
theorem eq_93 {p : Id} {args : List A} {h : Heap} : callW E p 93 args h = (execW E 93 p (((Tryz.f93.body).getD .skip).hide [(4, L_93_4)]) (initFr args) 0 h).bind (resX E.P false p Tryz.f93.results.toList) := callW_eq Tryz.f93 (by kernel_rfl) (by kernel_rfl) (by kernel_rfl) rfl (by kernel_rfl)
theorem eq_94 {p : Id} {args : List A} {h : Heap} : callW E p 94 args h = (execW E 94 p ((Tryz.f94.body).getD .skip) (initFr args) 0 h).bind (resX E.P false p Tryz.f94.results.toList) := callW_eq Tryz.f94 (by kernel_rfl) (by kernel_rfl) (by kernel_rfl) rfl (by kernel_rfl)
theorem eq_95 {p : Id} {args : List A} {h : Heap} : callW E p 95 args h = (execW E 95 p ((Tryz.f95.body).getD .skip) (initFr args) 0 h).bind (resX E.P false p Tryz.f95.results.toList) := callW_eq Tryz.f95 (by kernel_rfl) (by kernel_rfl) (by kernel_rfl) rfl (by kernel_rfl)
theorem eq_96 {p : Id} {args : List A} {h : Heap} : callW E p 96 args h = (execW E 96 p ((Tryz.f96.body).getD .skip) (initFr args) 0 h).bind (resX E.P false p Tryz.f96.results.toList) := callW_eq Tryz.f96 (by kernel_rfl) (by kernel_rfl) (by kernel_rfl) rfl (by kernel_rfl)
theorem eq_98 {p : Id} {args : List A} {h : Heap} : callW E p 98 args h = (execW E 98 p ((Tryz.f98.body).getD .skip) (initFr args) 0 h).bind (resX E.P false p Tryz.f98.results.toList) := callW_eq Tryz.f98 (by kernel_rfl) (by kernel_rfl) (by kernel_rfl) rfl (by kernel_rfl)
theorem eq_99 {p : Id} {args : List A} {h : Heap} : callW E p 99 args h = (execW E 99 p ((Tryz.f99.body).getD .skip) (initFr args) 0 h).bind (resX E.P false p Tryz.f99.results.toList) := callW_eq Tryz.f99 (by kernel_rfl) (by kernel_rfl) (by kernel_rfl) rfl (by kernel_rfl)
theorem rd_100_3 {p : Id} {L : List Nat} {c0 c : Nat} {fr : Fr} {h : Heap} : iterW E 100 p L L_100_3 c0 fr c h = (execW E 100 p ((((Tryz.f100.body).getD .skip).loopAt 3).getD .skip) fr c h).bind (loopX E 100 p L L_100_3 c0) := iterW_eq2 (by kernel_rfl)
theorem eq_100 {p : Id} {args : List A} {h : Heap} : callW E p 100 args h = (execW E 100 p (((Tryz.f100.body).getD .skip).hide [(3, L_100_3)]) (initFr args) 0 h).bind (resX E.P false p Tryz.f100.results.toList) := callW_eq Tryz.f100 (by kernel_rfl) (by kernel_rfl) (by kernel_rfl) rfl (by kernel_rfl)
theorem eq_101 {p : Id} {args : List A} {h : Heap} : callW E p 101 args h = (execW E 101 p ((Tryz.f101.body).getD .skip) (initFr args) 0 h).bind (resX E.P false p Tryz.f101.results.toList) := callW_eq Tryz.f101 (by kernel_rfl) (by kernel_rfl) (by kernel_rfl) rfl (by kernel_rfl)
theorem eq_102 {p : Id} {args : List A} {h : Heap} : callW E p 102 args h = (execW E 102 p ((Tryz.f102.body).getD .skip) (initFr args) 0 h).bind (resX E.P true p Tryz.f102.results.toList) := callW_eq Tryz.f102 (by kernel_rfl) (by kernel_rfl) (by kernel_rfl) rfl (by kernel_rfl)
theorem eq_103 {p : Id} {args : List A} {h : Heap} : callW E p 103 args h = (execW E 103 p ((Tryz.f103.body).getD .skip) (initFr args) 0 h).bind (resX E.P false p Tryz.f103.results.toList) := callW_eq Tryz.f103 (by kernel_rfl) (by kernel_rfl) (by kernel_rfl) rfl (by kernel_rfl)
theorem eq_104 {p : Id} {args : List A} {h : Heap} : callW E p 104 args h = (execW E 104 p ((Tryz.f104.body).getD .skip) (initFr args) 0 h).bind (resX E.P true p Tryz.f104.results.toList) := callW_eq Tryz.f104 (by kernel_rfl) (by kernel_rfl) (by kernel_rfl) rfl (by kernel_rfl)
theorem eq_105 {p : Id} {args : List A} {h : Heap} : callW E p 105 args h = (execW E 105 p ((Tryz.f105.body).getD .skip) (initFr args) 0 h).bind (resX E.P false p Tryz.f105.results.toList) := callW_eq Tryz.f105 (by kernel_rfl) (by kernel_rfl) (by kernel_rfl) rfl (by kernel_rfl)
theorem rd_106_8 {p : Id} {L : List Nat} {c0 c : Nat} {fr : Fr} {h : Heap} : iterW E 106 p L L_106_8 c0 fr c h = (execW E 106 p ((((Tryz.f106.body).getD .skip).loopAt 8).getD .skip) fr c h).bind (loopX E 106 p L L_106_8 c0) := iterW_eq2 (by kernel_rfl)
theorem eq_106 {p : Id} {args : List A} {h : Heap} : callW E p 106 args h = (execW E 106 p (((Tryz.f106.body).getD .skip).hide [(8, L_106_8)]) (initFr args) 0 h).bind (resX E.P false p Tryz.f106.results.toList) := callW_eq Tryz.f106 (by kernel_rfl) (by kernel_rfl) (by kernel_rfl) rfl (by kernel_rfl)
theorem eq_107 {p : Id} {args : List A} {h : Heap} : callW E p 107 args h = (execW E 107 p ((Tryz.f107.body).getD .skip) (initFr args) 0 h).bind (resX E.P false p Tryz.f107.results.toList) := callW_eq Tryz.f107 (by kernel_rfl) (by kernel_rfl) (by kernel_rfl) rfl (by kernel_rfl)
theorem eq_108 {p : Id} {args : List A} {h : Heap} : callW E p 108 args h = (execW E 108 p ((Tryz.f108.body).getD .skip) (initFr args) 0 h).bind (resX E.P false p Tryz.f108.results.toList) := callW_eq Tryz.f108 (by kernel_rfl) (by kernel_rfl) (by kernel_rfl) rfl (by kernel_rfl)
theorem rd_109_9 {p : Id} {L : List Nat} {c0 c : Nat} {fr : Fr} {h : Heap} : iterW E 109 p L L_109_9 c0 fr c h = (execW E 109 p ((((Tryz.f109.body).getD .skip).loopAt 9).getD .skip) fr c h).bind (loopX E 109 p L L_109_9 c0) := iterW_eq2 (by kernel_rfl)
theorem eq_109 {p : Id} {args : List A} {h : Heap} : callW E p 109 args h = (execW E 109 p (((Tryz.f109.body).getD .skip).hide [(9, L_109_9)]) (initFr args) 0 h).bind (resX E.P false p Tryz.f109.results.toList) := callW_eq Tryz.f109 (by kernel_rfl) (by kernel_rfl) (by kernel_rfl) rfl (by kernel_rfl)
theorem eq_110 {p : Id} {args : List A} {h : Heap} : callW E p 110 args h = (execW E 110 p ((Tryz.f110.body).getD .skip) (initFr args) 0 h).bind (resX E.P false p Tryz.f110.results.toList) := callW_eq Tryz.f110 (by kernel_rfl) (by kernel_rfl) (by kernel_rfl) rfl (by kernel_rfl)
theorem rd_111_2 {p : Id} {L : List Nat} {c0 c : Nat} {fr : Fr} {h : Heap} : iterW E 111 p L L_111_2 c0 fr c h = (execW E 111 p ((((Tryz.f111.body).getD .skip).loopAt 2).getD .skip) fr c h).bind (loopX E 111 p L L_111_2 c0) := iterW_eq2 (by kernel_rfl)
theorem eq_111 {p : Id} {args : List A} {h : Heap} : callW E p 111 args h = (execW E 111 p (((Tryz.f111.body).getD .skip).hide [(2, L_111_2)]) (initFr args) 0 h).bind (resX E.P false p Tryz.f111.results.toList) := callW_eq Tryz.f111 (by kernel_rfl) (by kernel_rfl) (by kernel_rfl) rfl (by kernel_rfl)
theorem eq_112 {p : Id} {args : List A} {h : Heap} : callW E p 112 args h = (execW E 112 p ((Tryz.f112.body).getD .skip) (initFr args) 0 h).bind (resX E.P false p Tryz.f112.results.toList) := callW_eq Tryz.f112 (by kernel_rfl) (by kernel_rfl) (by kernel_rfl) rfl (by kernel_rfl)
theorem rd_113_17 {p : Id} {L : List Nat} {c0 c : Nat} {fr : Fr} {h : Heap} : iterW E 113 p L L_113_17 c0 fr c h = (execW E 113 p ((((Tryz.f113.body).getD .skip).loopAt 17).getD .skip) fr c h).bind (loopX E 113 p L L_113_17 c0) := iterW_eq2 (by kernel_rfl)
theorem eq_113 {p : Id} {args : List A} {h : Heap} : callW E p 113 args h = (execW E 113 p (((Tryz.f113.body).getD .skip).hide [(17, L_113_17)]) (initFr args) 0 h).bind (resX E.P false p Tryz.f113.results.toList) := callW_eq Tryz.f113 (by kernel_rfl) (by kernel_rfl) (by kernel_rfl) rfl (by kernel_rfl)
theorem eq_117 {p : Id} {args : List A} {h : Heap} : callW E p 117 args h = (execW E 117 p ((Tryz.f117.body).getD .skip) (initFr args) 0 h).bind (resX E.P false p Tryz.f117.results.toList) := callW_eq Tryz.f117 (by kernel_rfl) (by kernel_rfl) (by kernel_rfl) rfl (by kernel_rfl)
theorem rd_118_2 {p : Id} {L : List Nat} {c0 c : Nat} {fr : Fr} {h : Heap} : iterW E 118 p L L_118_2 c0 fr c h = (execW E 118 p ((((Tryz.f118.body).getD .skip).loopAt 2).getD .skip) fr c h).bind (loopX E 118 p L L_118_2 c0) := iterW_eq2 (by kernel_rfl)
theorem eq_118 {p : Id} {args : List A} {h : Heap} : callW E p 118 args h = (execW E 118 p (((Tryz.f118.body).getD .skip).hide [(2, L_118_2)]) (initFr args) 0 h).bind (resX E.P false p Tryz.f118.results.toList) := callW_eq Tryz.f118 (by kernel_rfl) (by kernel_rfl) (by kernel_rfl) rfl (by kernel_rfl)
theorem eq_119 {p : Id} {args : List A} {h : Heap} : callW E p 119 args h = (execW E 119 p ((Tryz.f119.body).getD .skip) (initFr args) 0 h).bind (resX E.P false p Tryz.f119.results.toList) := callW_eq Tryz.f119 (by kernel_rfl) (by kernel_rfl) (by kernel_rfl) rfl (by kernel_rfl)
theorem rd_120_3 {p : Id} {L : List Nat} {c0 c : Nat} {fr : Fr} {h : Heap} : iterW E 120 p L L_120_3 c0 fr c h = (execW E 120 p ((((Tryz.f120.body).getD .skip).loopAt 3).getD .skip) fr c h).bind (loopX E 120 p L L_120_3 c0) := iterW_eq2 (by kernel_rfl)
theorem eq_120 {p : Id} {args : List A} {h : Heap} : callW E p 120 args h = (execW E 120 p (((Tryz.f120.body).getD .skip).hide [(3, L_120_3)]) (initFr args) 0 h).bind (resX E.P false p Tryz.f120.results.toList) := callW_eq Tryz.f120 (by kernel_rfl) (by kernel_rfl) (by kernel_rfl) rfl (by kernel_rfl)
theorem eq_121 {p : Id} {args : List A} {h : Heap} : callW E p 121 args h = (execW E 121 p ((Tryz.f121.body).getD .skip) (initFr args) 0 h).bind (resX E.P false p Tryz.f121.results.toList) := callW_eq Tryz.f121 (by kernel_rfl) (by kernel_rfl) (by kernel_rfl) rfl (by kernel_rfl)
theorem eq_122 {p : Id} {args : List A} {h : Heap} : callW E p 122 args h = (execW E 122 p ((Tryz.f122.body).getD .skip) (initFr args) 0 h).bind (resX E.P false p Tryz.f122.results.toList) := callW_eq Tryz.f122 (by kernel_rfl) (by kernel_rfl) (by kernel_rfl) rfl (by kernel_rfl)
theorem rd_123_4 {p : Id} {L : List Nat} {c0 c : Nat} {fr : Fr} {h : Heap} : iterW E 123 p L L_123_4 c0 fr c h = (execW E 123 p ((((Tryz.f123.body).getD .skip).loopAt 4).getD .skip) fr c h).bind (loopX E 123 p L L_123_4 c0) := iterW_eq2 (by kernel_rfl)
theorem eq_123 {p : Id} {args : List A} {h : Heap} : callW E p 123 args h = (execW E 123 p (((Tryz.f123.body).getD .skip).hide [(4, L_123_4)]) (initFr args) 0 h).bind (resX E.P false p Tryz.f123.results.toList) := callW_eq Tryz.f123 (by kernel_rfl) (by kernel_rfl) (by kernel_rfl) rfl (by kernel_rfl)
theorem eq_124 {p : Id} {args : List A} {h : Heap} : callW E p 124 args h = (execW E 124 p ((Tryz.f124.body).getD .skip) (initFr args) 0 h).bind (resX E.P false p Tryz.f124.results.toList) := callW_eq Tryz.f124 (by kernel_rfl) (by kernel_rfl) (by kernel_rfl) rfl (by kernel_rfl)
theorem eq_125 {p : Id} {args : List A} {h : Heap} : callW E p 125 args h = (execW E 125 p ((Tryz.f125.body).getD .skip) (initFr args) 0 h).bind (resX E.P false p Tryz.f125.results.toList) := callW_eq Tryz.f125 (by kernel_rfl) (by kernel_rfl) (by kernel_rfl) rfl (by kernel_rfl)
theorem eq_127 {p : Id} {args : List A} {h : Heap} : callW E p 127 args h = (execW E 127 p ((Tryz.f127.body).getD .skip) (initFr args) 0 h).bind (resX E.P false p Tryz.f127.results.toList) := callW_eq Tryz.f127 (by kernel_rfl) (by kernel_rfl) (by kernel_rfl) rfl (by kernel_rfl)
theorem eq_128 {p : Id} {args : List A} {h : Heap} : callW E p 128 args h = (execW E 128 p ((Tryz.f128.body).getD .skip) (initFr args) 0 h).bind (resX E.P false p Tryz.f128.results.toList) := callW_eq Tryz.f128 (by kernel_rfl) (by kernel_rfl) (by kernel_rfl) rfl (by kernel_rfl)
theorem rd_129_12 {p : Id} {L : List Nat} {c0 c : Nat} {fr : Fr} {h : Heap} : iterW E 129 p L L_129_12 c0 fr c h = (execW E 129 p ((((Tryz.f129.body).getD .skip).loopAt 12).getD .skip) fr c h).bind (loopX E 129 p L L_129_12 c0) := iterW_eq2 (by kernel_rfl)
theorem rd_129_22 {p : Id} {L : List Nat} {c0 c : Nat} {fr : Fr} {h : Heap} : iterW E 129 p L L_129_22 c0 fr c h = (execW E 129 p ((((Tryz.f129.body).getD .skip).loopAt 22).getD .skip) fr c h).bind (loopX E 129 p L L_129_22 c0) := iterW_eq2 (by kernel_rfl)
theorem eq_130 {p : Id} {args : List A} {h : Heap} : callW E p 130 args h = (execW E 130 p ((Tryz.f130.body).getD .skip) (initFr args) 0 h).bind (resX E.P false p Tryz.f130.results.toList) := callW_eq Tryz.f130 (by kernel_rfl) (by kernel_rfl) (by kernel_rfl) rfl (by kernel_rfl)
theorem eq_131 {p : Id} {args : List A} {h : Heap} : callW E p 131 args h = (execW E 131 p ((Tryz.f131.body).getD .skip) (initFr args) 0 h).bind (resX E.P false p Tryz.f131.results.toList) := callW_eq Tryz.f131 (by kernel_rfl) (by kernel_rfl) (by kernel_rfl) rfl (by kernel_rfl)
theorem rd_132_3 {p : Id} {L : List Nat} {c0 c : Nat} {fr : Fr} {h : Heap} : iterW E 132 p L L_132_3 c0 fr c h = (execW E 132 p ((((Tryz.f132.body).getD .skip).loopAt 3).getD .skip) fr c h).bind (loopX E 132 p L L_132_3 c0) := iterW_eq2 (by kernel_rfl)
theorem eq_132 {p : Id} {args : List A} {h : Heap} : callW E p 132 args h = (execW E 132 p (((Tryz.f132.body).getD .skip).hide [(3, L_132_3)]) (initFr args) 0 h).bind (resX E.P false p Tryz.f132.results.toList) := callW_eq Tryz.f132 (by kernel_rfl) (by kernel_rfl) (by kernel_rfl) rfl (by kernel_rfl)
theorem eq_133 {p : Id} {args : List A} {h : Heap} : callW E p 133 args h = (execW E 133 p ((Tryz.f133.body).getD .skip) (initFr args) 0 h).bind (resX E.P false p Tryz.f133.results.toList) := callW_eq Tryz.f133 (by kernel_rfl) (by kernel_rfl) (by kernel_rfl) rfl (by kernel_rfl)
theorem eq_134 {p : Id} {args : List A} {h : Heap} : callW E p 134 args h = (execW E 134 p ((Tryz.f134.body).getD .skip) (initFr args) 0 h).bind (resX E.P false p Tryz.f134.results.toList) := callW_eq Tryz.f134 (by kernel_rfl) (by kernel_rfl) (by kernel_rfl) rfl (by kernel_rfl)
theorem eq_135 {p : Id} {args : List A} {h : Heap} : callW E p 135 args h = (execW E 135 p ((Tryz.f135.body).getD .skip) (initFr args) 0 h).bind (resX E.P false p Tryz.f135.results.toList) := callW_eq Tryz.f135 (by kernel_rfl) (by kernel_rfl) (by kernel_rfl) rfl (by kernel_rfl)
theorem eq_136 {p : Id} {args : List A} {h : Heap} : callW E p 136 args h = (execW E 136 p ((Tryz.f136.body).getD .skip) (initFr args) 0 h).bind (resX E.P false p Tryz.f136.results.toList) := callW_eq Tryz.f136 (by kernel_rfl) (by kernel_rfl) (by kernel_rfl) rfl (by kernel_rfl)
theorem rd_137_3 {p : Id} {L : List Nat} {c0 c : Nat} {fr : Fr} {h : Heap} : iterW E 137 p L L_137_3 c0 fr c h = (execW E 137 p ((((Tryz.f137.body).getD .skip).loopAt 3).getD .skip) fr c h).bind (loopX E 137 p L L_137_3 c0) := iterW_eq2 (by kernel_rfl)
theorem eq_137 {p : Id} {args : List A} {h : Heap} : callW E p 137 args h = (execW E 137 p (((Tryz.f137.body).getD .skip).hide [(3, L_137_3)]) (initFr args) 0 h).bind (resX E.P false p Tryz.f137.results.toList) := callW_eq Tryz.f137 (by kernel_rfl) (by kernel_rfl) (by kernel_rfl) rfl (by kernel_rfl)
theorem rd_138_3 {p : Id} {L : List Nat} {c0 c : Nat} {fr : Fr} {h : Heap} : iterW E 138 p L L_138_3 c0 fr c h = (execW E 138 p ((((Tryz.f138.body).getD .skip).loopAt 3).getD .skip) fr c h).bind (loopX E 138 p L L_138_3 c0) := iterW_eq2 (by kernel_rfl)
theorem eq_138 {p : Id} {args : List A} {h : Heap} : callW E p 138 args h = (execW E 138 p (((Tryz.f138.body).getD .skip).hide [(3, L_138_3)]) (initFr args) 0 h).bind (resX E.P false p Tryz.f138.results.toList) := callW_eq Tryz.f138 (by kernel_rfl) (by kernel_rfl) (by kernel_rfl) rfl (by kernel_rfl)
theorem eq_139 {p : Id} {args : List A} {h : Heap} : callW E p 139 args h = (execW E 139 p ((Tryz.f139.body).getD .skip) (initFr args) 0 h).bind (resX E.P false p Tryz.f139.results.toList) := callW_eq Tryz.f139 (by kernel_rfl) (by kernel_rfl) (by kernel_rfl) rfl (by kernel_rfl)
theorem eq_140 {p : Id} {args : List A} {h : Heap} : callW E p 140 args h = (execW E 140 p ((Tryz.f140.body).getD .skip) (initFr args) 0 h).bind (resX E.P false p Tryz.f140.results.toList) := callW_eq Tryz.f140 (by kernel_rfl) (by kernel_rfl) (by kernel_rfl) rfl (by kernel_rfl)
theorem eq_141 {p : Id} {args : List A} {h : Heap} : callW E p 141 args h = (execW E 141 p ((Tryz.f141.body).getD .skip) (initFr args) 0 h).bind (resX E.P false p Tryz.f141.results.toList) := callW_eq Tryz.f141 (by kernel_rfl) (by kernel_rfl) (by kernel_rfl) rfl (by kernel_rfl)
theorem rd_142_5 {p : Id} {L : List Nat} {c0 c : Nat} {fr : Fr} {h : Heap} : iterW E 142 p L L_142_5 c0 fr c h = (execW E 142 p ((((Tryz.f142.body).getD .skip).loopAt 5).getD .skip) fr c h).bind (loopX E 142 p L L_142_5 c0) := iterW_eq2 (by kernel_rfl)
theorem eq_142 {p : Id} {args : List A} {h : Heap} : callW E p 142 args h = (execW E 142 p (((Tryz.f142.body).getD .skip).hide [(5, L_142_5)]) (initFr args) 0 h).bind (resX E.P false p Tryz.f142.results.toList) := callW_eq Tryz.f142 (by kernel_rfl) (by kernel_rfl) (by kernel_rfl) rfl (by kernel_rfl)
theorem rd_143_3 {p : Id} {L : List Nat} {c0 c : Nat} {fr : Fr} {h : Heap} : iterW E 143 p L L_143_3 c0 fr c h = (execW E 143 p ((((Tryz.f143.body).getD .skip).loopAt 3).getD .skip) fr c h).bind (loopX E 143 p L L_143_3 c0) := iterW_eq2 (by kernel_rfl)
theorem eq_143 {p : Id} {args : List A} {h : Heap} : callW E p 143 args h = (execW E 143 p (((Tryz.f143.body).getD .skip).hide [(3, L_143_3)]) (initFr args) 0 h).bind (resX E.P false p Tryz.f143.results.toList) := callW_eq Tryz.f143 (by kernel_rfl) (by kernel_rfl) (by kernel_rfl) rfl (by kernel_rfl)
theorem rd_144_3 {p : Id} {L : List Nat} {c0 c : Nat} {fr : Fr} {h : Heap} : iterW E 144 p L L_144_3 c0 fr c h = (execW E 144 p ((((Tryz.f144.body).getD .skip).loopAt 3).getD .skip) fr c h).bind (loopX E 144 p L L_144_3 c0) := iterW_eq2 (by kernel_rfl)
theorem eq_144 {p : Id} {args : List A} {h : Heap} : callW E p 144 args h = (execW E 144 p (((Tryz.f144.body).getD .skip).hide [(3, L_144_3)]) (initFr args) 0 h).bind (resX E.P false p Tryz.f144.results.toList) := callW_eq Tryz.f144 (by kernel_rfl) (by kernel_rfl) (by kernel_rfl) rfl (by kernel_rfl)
theorem rd_145_22 {p : Id} {L : List Nat} {c0 c : Nat} {fr : Fr} {h : Heap} : iterW E 145 p L L_145_22 c0 fr c h = (execW E 145 p ((((Tryz.f145.body).getD .skip).loopAt 22).getD .skip) fr c h).bind (loopX E 145 p L L_145_22 c0) := iterW_eq2 (by kernel_rfl)
theorem eq_145 {p : Id} {args : List A} {h : Heap} : callW E p 145 args h = (execW E 145 p (((Tryz.f145.body).getD .skip).hide [(22, L_145_22)]) (initFr args) 0 h).bind (resX E.P false p Tryz.f145.results.toList) := callW_eq Tryz.f145 (by kernel_rfl) (by kernel_rfl) (by kernel_rfl) rfl (by kernel_rfl)
theorem rd_146_2 {p : Id} {L : List Nat} {c0 c : Nat} {fr : Fr} {h : Heap} : iterW E 146 p L L_146_2 c0 fr c h = (execW E 146 p ((((Tryz.f146.body).getD .skip).loopAt 2).getD .skip) fr c h).bind (loopX E 146 p L L_146_2 c0) := iterW_eq2 (by kernel_rfl)
theorem eq_146 {p : Id} {args : List A} {h : Heap} : callW E p 146 args h = (execW E 146 p (((Tryz.f146.body).getD .skip).hide [(2, L_146_2)]) (initFr args) 0 h).bind (resX E.P false p Tryz.f146.results.toList) := callW_eq Tryz.f146 (by kernel_rfl) (by kernel_rfl) (by kernel_rfl) rfl (by kernel_rfl)
theorem eq_147 {p : Id} {args : List A} {h : Heap} : callW E p 147 args h = (execW E 147 p ((Tryz.f147.body).getD .skip) (initFr args) 0 h).bind (resX E.P false p Tryz.f147.results.toList) := callW_eq Tryz.f147 (by kernel_rfl) (by kernel_rfl) (by kernel_rfl) rfl (by kernel_rfl)
theorem eq_148 {p : Id} {args : List A} {h : Heap} : callW E p 148 args h = (execW E 148 p ((Tryz.f148.body).getD .skip) (initFr args) 0 h).bind (resX E.P false p Tryz.f148.results.toList) := callW_eq Tryz.f148 (by kernel_rfl) (by kernel_rfl) (by kernel_rfl) rfl (by kernel_rfl)
theorem rd_149_3 {p : Id} {L : List Nat} {c0 c : Nat} {fr : Fr} {h : Heap} : iterW E 149 p L L_149_3 c0 fr c h = (execW E 149 p ((((Tryz.f149.body).getD .skip).loopAt 3).getD .skip) fr c h).bind (loopX E 149 p L L_149_3 c0) := iterW_eq2 (by kernel_rfl)
theorem eq_149 {p : Id} {args : List A} {h : Heap} : callW E p 149 args h = (execW E 149 p (((Tryz.f149.body).getD .skip).hide [(3, L_149_3)]) (initFr args) 0 h).bind (resX E.P false p Tryz.f149.results.toList) := callW_eq Tryz.f149 (by kernel_rfl) (by kernel_rfl) (by kernel_rfl) rfl (by kernel_rfl)
theorem eq_150 {p : Id} {args : List A} {h : Heap} : callW E p 150 args h = (execW E 150 p ((Tryz.f150.body).getD .skip) (initFr args) 0 h).bind (resX E.P false p Tryz.f150.results.toList) := callW_eq Tryz.f150 (by kernel_rfl) (by kernel_rfl) (by kernel_rfl) rfl (by kernel_rfl)
theorem rd_151_3 {p : Id} {L : List Nat} {c0 c : Nat} {fr : Fr} {h : Heap} : iterW E 151 p L L_151_3 c0 fr c h = (execW E 151 p ((((Tryz.f151.body).getD .skip).loopAt 3).getD .skip) fr c h).bind (loopX E 151 p L L_151_3 c0) := iterW_eq2 (by kernel_rfl)
theorem eq_151 {p : Id} {args : List A} {h : Heap} : callW E p 151 args h = (execW E 151 p (((Tryz.f151.body).getD .skip).hide [(3, L_151_3)]) (initFr args) 0 h).bind (resX E.P false p Tryz.f151.results.toList) := callW_eq Tryz.f151 (by kernel_rfl) (by kernel_rfl) (by kernel_rfl) rfl (by kernel_rfl)
theorem rd_152_2 {p : Id} {L : List Nat} {c0 c : Nat} {fr : Fr} {h : Heap} : iterW E 152 p L L_152_2 c0 fr c h = (execW E 152 p ((((Tryz.f152.body).getD .skip).loopAt 2).getD .skip) fr c h).bind (loopX E 152 p L L_152_2 c0) := iterW_eq2 (by kernel_rfl)
theorem eq_152 {p : Id} {args : List A} {h : Heap} : callW E p 152 args h = (execW E 152 p (((Tryz.f152.body).getD .skip).hide [(2, L_152_2)]) (initFr args) 0 h).bind (resX E.P false p Tryz.f152.results.toList) := callW_eq Tryz.f152 (by kernel_rfl) (by kernel_rfl) (by kernel_rfl) rfl (by kernel_rfl)
theorem eq_153 {p : Id} {args : List A} {h : Heap} : callW E p 153 args h = (execW E 153 p ((Tryz.f153.body).getD .skip) (initFr args) 0 h).bind (resX E.P false p Tryz.f153.results.toList) := callW_eq Tryz.f153 (by kernel_rfl) (by kernel_rfl) (by kernel_rfl) rfl (by kernel_rfl)
theorem eq_154 {p : Id} {args : List A} {h : Heap} : callW E p 154 args h = (execW E 154 p ((Tryz.f154.body).getD .skip) (initFr args) 0 h).bind (resX E.P false p Tryz.f154.results.toList) := callW_eq Tryz.f154 (by kernel_rfl) (by kernel_rfl) (by kernel_rfl) rfl (by kernel_rfl)
theorem eq_155 {p : Id} {args : List A} {h : Heap} : callW E p 155 args h = (execW E 155 p ((Tryz.f155.body).getD .skip) (initFr args) 0 h).bind (resX E.P false p Tryz.f155.results.toList) := callW_eq Tryz.f155 (by kernel_rfl) (by kernel_rfl) (by kernel_rfl) rfl (by kernel_rfl)
theorem rd_156_3 {p : Id} {L : List Nat} {c0 c : Nat} {fr : Fr} {h : Heap} : iterW E 156 p L L_156_3 c0 fr c h = (execW E 156 p ((((Tryz.f156.body).getD .skip).loopAt 3).getD .skip) fr c h).bind (loopX E 156 p L L_156_3 c0) := iterW_eq2 (by kernel_rfl)
theorem eq_156 {p : Id} {args : List A} {h : Heap} : callW E p 156 args h = (execW E 156 p (((Tryz.f156.body).getD .skip).hide [(3, L_156_3)]) (initFr args) 0 h).bind (resX E.P false p Tryz.f156.results.toList) := callW_eq Tryz.f156 (by kernel_rfl) (by kernel_rfl) (by kernel_rfl) rfl (by kernel_rfl)
theorem rd_157_5 {p : Id} {L : List Nat} {c0 c : Nat} {fr : Fr} {h : Heap} : iterW E 157 p L L_157_5 c0 fr c h = (execW E 157 p ((((Tryz.f157.body).getD .skip).loopAt 5).getD .skip) fr c h).bind (loopX E 157 p L L_157_5 c0) := iterW_eq2 (by kernel_rfl)
theorem eq_157 {p : Id} {args : List A} {h : Heap} : callW E p 157 args h = (execW E 157 p (((Tryz.f157.body).getD .skip).hide [(5, L_157_5)]) (initFr args) 0 h).bind (resX E.P false p Tryz.f157.results.toList) := callW_eq Tryz.f157 (by kernel_rfl) (by kernel_rfl) (by kernel_rfl) rfl (by kernel_rfl)
theorem eq_158 {p : Id} {args : List A} {h : Heap} : callW E p 158 args h = (execW E 158 p ((Tryz.f158.body).getD .skip) (initFr args) 0 h).bind (resX E.P false p Tryz.f158.results.toList) := callW_eq Tryz.f158 (by kernel_rfl) (by kernel_rfl) (by kernel_rfl) rfl (by kernel_rfl)
theorem eq_159 {p : Id} {args : List A} {h : Heap} : callW E p 159 args h = (execW E 159 p ((Tryz.f159.body).getD .skip) (initFr args) 0 h).bind (resX E.P false p Tryz.f159.results.toList) := callW_eq Tryz.f159 (by kernel_rfl) (by kernel_rfl) (by kernel_rfl) rfl (by kernel_rfl)
theorem eq_160 {p : Id} {args : List A} {h : Heap} : callW E p 160 args h = (execW E 160 p ((Tryz.f160.body).getD .skip) (initFr args) 0 h).bind (resX E.P false p Tryz.f160.results.toList) := callW_eq Tryz.f160 (by kernel_rfl) (by kernel_rfl) (by kernel_rfl) rfl (by kernel_rfl)
theorem eq_161 {p : Id} {args : List A} {h : Heap} : callW E p 161 args h = (execW E 161 p ((Tryz.f161.body).getD .skip) (initFr args) 0 h).bind (resX E.P false p Tryz.f161.results.toList) := callW_eq Tryz.f161 (by kernel_rfl) (by kernel_rfl) (by kernel_rfl) rfl (by kernel_rfl)
theorem eq_162 {p : Id} {args : List A} {h : Heap} : callW E p 162 args h = (execW E 162 p ((Tryz.f162.body).getD .skip) (initFr args) 0 h).bind (resX E.P false p Tryz.f162.results.toList) := callW_eq Tryz.f162 (by kernel_rfl) (by kernel_rfl) (by kernel_rfl) rfl (by kernel_rfl)
theorem rd_163_3 {p : Id} {L : List Nat} {c0 c : Nat} {fr : Fr} {h : Heap} : iterW E 163 p L L_163_3 c0 fr c h = (execW E 163 p ((((Tryz.f163.body).getD .skip).loopAt 3).getD .skip) fr c h).bind (loopX E 163 p L L_163_3 c0) := iterW_eq2 (by kernel_rfl)
theorem eq_163 {p : Id} {args : List A} {h : Heap} : callW E p 163 args h = (execW E 163 p (((Tryz.f163.body).getD .skip).hide [(3, L_163_3)]) (initFr args) 0 h).bind (resX E.P false p Tryz.f163.results.toList) := callW_eq Tryz.f163 (by kernel_rfl) (by kernel_rfl) (by kernel_rfl) rfl (by kernel_rfl)
theorem eq_188 {p : Id} {args : List A} {h : Heap} : callW E p 188 args h = (execW E 188 p ((Tryz.f188.body).getD .skip) (initFr args) 0 h).bind (resX E.P false p Tryz.f188.results.toList) := callW_eq Tryz.f188 (by kernel_rfl) (by kernel_rfl) (by kernel_rfl) rfl (by kernel_rfl)
theorem eq_201 {p : Id} {args : List A} {h : Heap} : callW E p 201 args h = (execW E 201 p ((Tryz.f201.body).getD .skip) (initFr args) 0 h).bind (resX E.P false p Tryz.f201.results.toList) := callW_eq Tryz.f201 (by kernel_rfl) (by kernel_rfl) (by kernel_rfl) rfl (by kernel_rfl)
theorem eq_206 {p : Id} {args : List A} {h : Heap} : callW E p 206 args h = (execW E 206 p ((Tryz.f206.body).getD .skip) (initFr args) 0 h).bind (resX E.P false p Tryz.f206.results.toList) := callW_eq Tryz.f206 (by kernel_rfl) (by kernel_rfl) (by kernel_rfl) rfl (by kernel_rfl)
end Go.Ai.T

namespace Go.Ai.T
theorem envB_ok : envB E = true := by kernel_rfl
end Go.Ai.T

namespace Go.Proofs.Tryz
open Go.RowKit
set_option maxHeartbeats 1000000 in
set_option maxRecDepth 100000 in
theorem check_used (b : Nat) (w : World) (h0 : w.cell? ⟨b, 0, none⟩ = some (.pointer (some ⟨b, 0, none⟩))) :
  Calls prog 97 #[.pointer (some ⟨b, 0, none⟩)] w fun e w' => e = .returned (.tuple #[]) ∧ w' = w := by
 have hp : prog.underlying 72 = some (.pointer 75) := by kernel_rfl
 obtain ⟨j, hj⟩ : ∃ j, prog.info? 75 = some j := Option.isSome_iff_exists.1 (by kernel_rfl)
 go_enter func97, ntmps97
 go_wp2
 rw [Lib.run_neq_ptr_same w _ hp hj]
 go_wp2
 go_end0
 exact ⟨rfl, rfl⟩
set_option maxHeartbeats 1000000 in
set_option maxRecDepth 100000 in
theorem check_fresh (b : Nat) (w : World) (t : Nat) (h0 : w.cell? ⟨b, 0, none⟩ = some (.pointer none)) (hsh : w.shape? b = some (t, 2)) (hlies : liesAt prog prog.depth t (2 / prog.cellsOf t) 0 75 1 = true) (hfz : w.frozen? ⟨b, 0, none⟩ = false) :
  Calls prog 97 #[.pointer (some ⟨b, 0, none⟩)] w fun e w' => e = .returned (.tuple #[]) ∧ w' = w.setCell ⟨b, 0, none⟩ (.pointer (some ⟨b, 0, none⟩)) := by
 have hp : prog.underlying 72 = some (.pointer 75) := by kernel_rfl
 have hu : prog.underlying 126 = some .unsafePointer := by kernel_rfl
 obtain ⟨j, hj, hjs⟩ : ∃ j, prog.info? 75 = some j ∧ j.size = 2 := Option.map_eq_some_iff.1 (show (prog.info? 75).map (·.size) = some 2 by kernel_rfl)
 have h131 : prog.funcs[126]? = some f126 := by kernel_rfl
 go_enter func97, ntmps97
 go_wp2
 rw [Lib.run_to_unsafe w ⟨b, 0, none⟩ hp hu hj (by rw [hjs]; decide) hsh (Nat.zero_lt_succ 1)]
 simp only [Result.andThen]
 rw [Oper.upon_value]
 go_wp2
 rw [run_callFunc_extern h131 (by kernel_rfl) (by kernel_rfl) (by kernel_rfl) (e := Extern.AbiNoEscape.same) (by kernel_rfl)]
 rw [Lib.run_noEscape]
 simp only [Result.andThen]
 rw [Oper.upon_value]
 go_wp2
 rw [Lib.run_from_unsafe w ⟨b, 0, none⟩ hu hp hj hsh hlies]
 simp only [Result.andThen]
 rw [Oper.upon_value]
 go_wp2
 go_end0
 exact ⟨rfl, rfl⟩
theorem lies_B : liesAt prog prog.depth 75 (2 / prog.cellsOf 75) 0 75 1 = true := by kernel_rfl
theorem lies_W : liesAt prog prog.depth 77 (2 / prog.cellsOf 77) 0 75 1 = true := by kernel_rfl
end Go.Proofs.Tryz

namespace Go.Proofs.Tryz
open Go.RowKit
set_option maxHeartbeats 2000000
set_option maxRecDepth 100000
theorem cellsByte : prog.cellsOf 5 = 1 := by kernel_rfl
theorem string_nil (b : Nat) (w : World) (h0 : w.cell? ⟨b, 1, none⟩ = some (.slice none 0 0)) :
  Calls prog 68 #[.pointer (some ⟨b, 0, none⟩)] w fun e w' => e = .returned (.string ⟨#[]⟩) ∧ Go.Ai.Ext w w' := by
 have hUS := fun W q => Lib.run_unsafeString_none (P := prog) W 151 3 9 q
 have c1 : w.drew.cell? ⟨b, 1, none⟩ = some (.slice none 0 0) := h0
 have hSD : (Builtin.unsafeSliceData_ #[73] 151 #[.slice none 0 0]).run prog w.drew = .ok (.pointer none) w.drew := rfl
 go_enter func68, ntmps68
 go_wp2
 go_region
 all_goals (go_wp2; go_ret; exact ⟨rfl, (Go.Ai.Ext.refl w).drew⟩)
theorem string_zero (b g : Nat) (w : World) (sh : TypeId × Nat) (h0 : w.cell? ⟨b, 1, none⟩ = some (.slice (some ⟨g, 0, none⟩) 0 0)) (hsh : w.shape? g = some sh) :
  Calls prog 68 #[.pointer (some ⟨b, 0, none⟩)] w fun e w' => e = .returned (.string ⟨#[]⟩) ∧ Go.Ai.Ext w w' := by
 have hUS := fun W q => Lib.run_unsafeString_none (P := prog) W 151 3 9 q
 have c1 : w.drew.cell? ⟨b, 1, none⟩ = some (.slice (some ⟨g, 0, none⟩) 0 0) := h0
 have hlt : b < w.heap.size := by
  rcases Nat.lt_or_ge b w.heap.size with h' | h'
  ·exact h'
  ·simp [World.cell?, Array.getElem?_eq_none h'] at h0
 have hSD : (Builtin.unsafeSliceData_ #[73] 151 #[.slice (some ⟨g, 0, none⟩) 0 0]).run prog w.drew = .ok (.pointer (some ⟨w.drew.heap.size, 0, none⟩)) (w.drew.alloc (.view ⟨g, 0, none⟩ 5)) :=
  Lib.run_unsafeSliceData_zero w.drew _ _ 5 underlying151 ⟨g, 0, none⟩ 0 sh hsh
 have c2 : (w.drew.alloc (.view ⟨g, 0, none⟩ 5)).cell? ⟨b, 1, none⟩ = some (.slice (some ⟨g, 0, none⟩) 0 0) := by
  exact (World.cell?_alloc_lt w.drew _ ⟨b, 1, none⟩ hlt).trans h0
 have c3 : (w.alloc (.view ⟨g, 0, none⟩ 5)).drew.cell? ⟨b, 1, none⟩ = some (.slice (some ⟨g, 0, none⟩) 0 0) := c2
 have c0 : w.cell? ⟨b, 1, none⟩ = some (.slice (some ⟨g, 0, none⟩) 0 0) := c1
 go_enter func68, ntmps68
 go_wp2
 go_region
 all_goals (go_wp2; go_ret; exact ⟨rfl, (Go.Ai.Ext.alloc w _).drew⟩)
theorem string_room (b g cap : Nat) (w : World) (h0 : w.cell? ⟨b, 1, none⟩ = some (.slice (some ⟨g, 0, none⟩) 0 cap)) (hc0 : cap ≠ 0) :
  Calls prog 68 #[.pointer (some ⟨b, 0, none⟩)] w fun e w' => e = .returned (.string ⟨#[]⟩) ∧ Go.Ai.Ext w w' := by
 have hUS := fun W q => Lib.run_unsafeString_none (P := prog) W 151 3 9 q
 have c1 : w.drew.cell? ⟨b, 1, none⟩ = some (.slice (some ⟨g, 0, none⟩) 0 cap) := h0
 have hSD : (Builtin.unsafeSliceData_ #[73] 151 #[.slice (some ⟨g, 0, none⟩) 0 cap]).run prog w.drew = .ok (.pointer (some ⟨g, 0, none⟩)) w.drew :=
  Lib.run_unsafeSliceData_row _ _ _ _ _ _ hc0
 clear hc0
 go_enter func68, ntmps68
 go_wp2
 go_region
 all_goals (go_wp2; go_ret; exact ⟨rfl, (Go.Ai.Ext.refl w).drew⟩)
theorem string_some (b g cap cells : Nat) (l : List UInt8) (w : World) (h0 : w.cell? ⟨b, 1, none⟩ = some (.slice (some ⟨g, 0, none⟩) l.length cap)) (hl : l ≠ []) (hcap : l.length ≤ cap) (hsh : w.shape? g = some (5, cells)) (hn : l.length ≤ cells)
  (h63 : l.length ≤ 9223372036854775807) (hcell : ∀ j x, l[j]? = some x → w.cell? ⟨g, j, none⟩ = some (.int .u8 x.toNat)) :
  Calls prog 68 #[.pointer (some ⟨b, 0, none⟩)] w fun e w' => e = .returned (.string ⟨l.toArray⟩) ∧ w' = (w.freeze ⟨g, 0, none⟩ l.length).drew := by
 have hl0 : l.length ≠ 0 := by simpa using hl
 have c1 : w.drew.cell? ⟨b, 1, none⟩ = some (.slice (some ⟨g, 0, none⟩) l.length cap) := h0
 have hSD : (Builtin.unsafeSliceData_ #[73] 151 #[.slice (some ⟨g, 0, none⟩) l.length cap]).run prog w.drew = .ok (.pointer (some ⟨g, 0, none⟩)) w.drew :=
  Lib.run_unsafeSliceData_row _ _ _ _ _ _ (by omega)
 have hUS : (Builtin.unsafeString_ #[151, 3] 9 #[.pointer (some ⟨g, 0, none⟩), .int .i64 l.length]).run prog w.drew = .ok (.string ⟨l.toArray⟩) (w.drew.freeze ⟨g, 0, none⟩ l.length) :=
  Lib.run_unsafeString_row w.drew 151 3 9 5 underlying151 cellsByte g cells hsh l hl hn h63 (fun j x hx => by
   have := hcell j x hx
   have e : (⟨g, 0, none⟩ : Addr).add j = ⟨g, j, none⟩ := by
    unfold Addr.add
    by_cases hj : j = 0
    ·subst hj; simp
    ·simp [hj]
   rw [e]; exact this)
 go_enter func68, ntmps68
 go_wp2
 go_region
 all_goals (go_wp2; go_ret; first | exact ⟨rfl, rfl⟩ | exact ⟨rfl, by unfold World.freeze; split <;> rfl⟩)
end Go.Proofs.Tryz

namespace Go.Proofs
open Go.Shelf
def Tryz.lays156_ren : Go.Shelf.Ren := ⟨fun | 156 => 129 | 165 => 153 | 166 => 67 | 169 => 68 | 240 => 97 | 241 => 159 | 276 => 126 | 277 => 164 | n => n, fun | 31 => 154 | 9 => 9 | 3 => 3 | 4 => 4 | 0 => 0 | 20 => 20 | 72 => 75 | 76 => 116 | 70 => 72 | 37 => 73 | 75 => 30 | 127 => 151 | 164 => 126 | 5 => 5 | 80 => 83 | n => n, fun | n => n⟩
theorem Tryz.lays156 : Go.Proofs.Lays.n156 Tryz.prog Tryz.lays156_ren := {
 mixed := by kernel_rfl
 f156 := Tryz.func129.trans (congrArg some (by kernel_rfl))
 f165 := Tryz.func153.trans (congrArg some (by kernel_rfl))
 f166 := Tryz.func67.trans (congrArg some (by kernel_rfl))
 f169 := Tryz.func68.trans (congrArg some (by kernel_rfl))
 f240 := Tryz.func97.trans (congrArg some (by kernel_rfl))
 f241 := Tryz.func159.trans (congrArg some (by kernel_rfl))
 f276 := Tryz.func126.trans (congrArg some (by kernel_rfl))
 f277 := Tryz.func164.trans (congrArg some (by kernel_rfl))
 t0 := Tryz.underlying0
 a0 := Tryz.isAgg0
 z0 := Tryz.sizeOf0
 v0 := Tryz.zeroValue0
 t3 := Tryz.underlying3
 a3 := Tryz.isAgg3
 z3 := Tryz.sizeOf3
 v3 := Tryz.zeroValue3
 t4 := Tryz.underlying4
 a4 := Tryz.isAgg4
 z4 := Tryz.sizeOf4
 v4 := Tryz.zeroValue4
 t9 := Tryz.underlying9
 a9 := Tryz.isAgg9
 z9 := Tryz.sizeOf9
 v9 := Tryz.zeroValue9
 t20 := Tryz.underlying20
 a20 := Tryz.isAgg20
 z20 := Tryz.sizeOf20
 v20 := Tryz.zeroValue20
 t31 := Tryz.underlying154
 a31 := Tryz.isAgg154
 z31 := Tryz.sizeOf154
 v31 := Tryz.zeroValue154
 t37 := Tryz.underlying73
 a37 := Tryz.isAgg73
 z37 := Tryz.sizeOf73
 v37 := Tryz.zeroValue73
 t70 := Tryz.underlying72
 a70 := Tryz.isAgg72
 z70 := Tryz.sizeOf72
 v70 := Tryz.zeroValue72
 t72 := Tryz.underlying75
 a72 := Tryz.isAgg75
 z72 := Tryz.sizeOf75
 v72 := Tryz.zeroValue75
 t75 := Tryz.underlying30
 a75 := Tryz.isAgg30
 z75 := Tryz.sizeOf30
 v75 := Tryz.zeroValue30
 t76 := Tryz.underlying116
 a76 := Tryz.isAgg116
 z76 := Tryz.sizeOf116
 v76 := Tryz.zeroValue116
 t127 := Tryz.underlying151
 a127 := Tryz.isAgg151
 z127 := Tryz.sizeOf151
 v127 := Tryz.zeroValue151
 t164 := Tryz.underlying126
 a164 := Tryz.isAgg126
 z164 := Tryz.sizeOf126
 v164 := Tryz.zeroValue126 }
theorem Tryz.Builder_Extra_156 : Builder.Extra Tryz.prog Tryz.lays156_ren := {
 sizeBuilder := by kernel_rfl
 liesBuilder := by kernel_rfl
 t5 := Tryz.underlying5
 a5 := Tryz.isAgg5
 z5 := Tryz.sizeOf5
 v5 := Tryz.zeroValue5
 infoByte := by kernel_rfl
 cellsByte := by kernel_rfl
 sizeByte := by kernel_rfl
 neB5 := by decide }
open Go.RowKit in
theorem Tryz.strings_Join_none (a : Option Addr) (c : Nat) (sep : ByteArray) (w : World) :
  Calls Tryz.prog 129 #[.slice a 0 c, .string sep] w fun e w' => e = .returned (.string ⟨#[]⟩) ∧ w' = w := Any.strings_Join_none Tryz.lays156 Tryz.Builder_Extra_156 a c sep w
open Go.RowKit in
theorem Tryz.strings_Join (bk o c : Nat) (xs : List ByteArray) (sep : ByteArray) (w : World) (hcells : ∀ (j : Nat) x, xs[j]? = some x → w.cell? ⟨bk, o + j, none⟩ = some (.string x)) (hbk : bk < w.heap.size) (hN : xs.length ≤ 140737488355328) (hcap : xs.length ≤ c) (hlen : (Lib.join (xs.map (·.data.toList)) sep.data.toList).length ≤ 140737488355328) :
  Calls Tryz.prog 129 #[.slice (some ⟨bk, o, none⟩) xs.length c, .string sep] w fun e w' => e = .returned (.string ⟨(Lib.join (xs.map (·.data.toList)) sep.data.toList).toArray⟩) ∧ Below w.heap.size w w' := Any.strings_Join Tryz.lays156 Tryz.Builder_Extra_156 bk o c xs sep w hcells hbk hN hcap hlen
end Go.Proofs

