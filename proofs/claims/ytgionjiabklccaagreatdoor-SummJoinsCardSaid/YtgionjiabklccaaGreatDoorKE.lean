/- Part KE of the proof that a law of this program answers yes at every input: no conditions beyond the given statement. -/
import Derived.KernelRfl
import Derived.Test.YtgionjiabklccaaGreatDoorProg
import Derived.WalkKit
import Derived.Lib.Builder
import Derived.Lib.UnsafeStr
import Derived.Laws.Externs
import Derived.Shelf.Strings.OnBuilder
import Derived.Test.YtgionjiabklccaaGreatDoorKD
import Derived.Test.YtgionjiabklccaaGreatDoorKC
set_option linter.unusedSimpArgs false
set_option linter.unusedVariables false
set_option linter.all false
namespace Go.Ai.T
open Go Go.Proofs
noncomputable def prim : Nat → Option (Id → List A → Heap → Option (A × Heap))
 | 41 => some (errorsAs 40 129 199 [(87, 40), (130, 129)])
 | 70 => some (builderString 5)
 | 107 => some (builderCheck [95, 97])
 | 142 => some stringsJoin
 | _ => none
def drawTab : List ((Nat × Nat) × List (Nat × Nat)) := [((7, 5), [(5, 4), (6, 4)]), ((8, 10), []), ((10, 13), [(3, 5)]), ((12, 2), [(18, 1), (18, 3), (18, 5), (18, 7), (18, 9), (18, 11), (18, 13)]), ((12, 4), [(4, 5)]), ((13, 7), [(1, 0)]), ((15, 6), [(6, 12), (9, 12)]), ((19, 4), [(1, 8), (5, 8)]), ((19, 6), [(11, 13)]), ((22, 6), [(5, 3), (9, 3), (9, 6)]), ((22, 7), [(4, 2), (8, 2), (8, 5), (12, 2), (12, 5), (12, 9), (18, 2), (18, 5), (18, 9), (18, 13), (22, 2), (22, 5), (22, 9), (22, 13), (22, 19), (27, 2), (27, 5), (27, 9), (27, 13), (27, 19), (27, 24)]), ((26, 14), [(5, 4)]), ((29, 2), [(5, 1)]), ((29, 5), [(4, 5)]), ((32, 2), [(7, 1), (7, 3), (12, 1), (12, 3), (12, 13)]), ((34, 4), []), ((36, 7), [(4, 0)]), ((36, 8), []), ((37, 10), [(1, 0)]), ((39, 6), []), ((43, 6), [(12, 7)]), ((63, 6), []), ((67, 2), [(6, 10)]), ((68, 6), [(3, 4)]), ((70, 1), []), ((75, 4), []), ((75, 15), [(1, 2)]), ((75, 16), [(3, 5)]), ((75, 18), [(1, 2)]), ((75, 19), [(3, 5)]), ((75, 21), [(4, 5)]), ((82, 10), [(1, 0)]), ((88, 3), [(6, 4), (10, 4), (10, 8)]), ((89, 1), [(10, 12)]), ((106, 8), []), ((111, 8), [(3, 5)]), ((112, 1), [(2, 5)]), ((114, 1), [(2, 5)]), ((119, 5), [(4, 0)]), ((119, 6), []), ((120, 6), []), ((124, 1), [(14, 16)]), ((124, 6), [(17, 20)]), ((135, 22), [(4, 2)]), ((143, 3), [(9, 10)]), ((147, 3), [(9, 10)]), ((159, 3), []), ((162, 1), []), ((162, 6), []), ((165, 3), []), ((170, 0), [(12, 8)]), ((171, 2), [])]
def liveTab : List ((Nat × Nat) × List Nat) := [((5, 10), [0, 1, 5, 7, 8]), ((13, 4), [1, 4, 6, 7, 8, 9]), ((15, 4), [2, 3, 4, 5]), ((18, 3), [1, 2, 5]), ((19, 2), [1, 2, 4, 5]), ((22, 3), [1, 3, 4]), ((26, 11), [2, 7, 10, 37, 38, 39]), ((28, 3), [0, 1, 2, 7, 13, 14, 15]), ((31, 3), [0, 1, 2, 7, 13, 14, 15]), ((34, 2), [0, 3, 4, 5]), ((36, 4), [4, 6, 7, 8, 9]), ((37, 5), [1, 4, 6, 7, 8, 9, 10]), ((39, 4), [0, 1, 4, 5]), ((40, 2), [0, 3]), ((43, 4), [0, 1, 2, 7]), ((44, 3), [2, 6, 7, 8, 9]), ((46, 2), [0, 1, 4, 5]), ((48, 1), [0, 1, 3, 4, 14, 15, 16]), ((50, 1), [0, 1, 3, 4, 14, 15, 16]), ((57, 2), [1, 4, 7, 8, 9]), ((58, 3), [2, 6, 8, 17, 18, 19]), ((61, 3), [0, 1, 5, 6]), ((63, 4), [0, 1, 4, 12, 13]), ((66, 3), [0, 3, 7, 8]), ((68, 3), [0, 4, 5, 6, 7]), ((74, 4), [0, 1, 2, 6, 8, 9, 16, 17, 18]), ((76, 2), [0, 1, 4, 5]), ((79, 3), [0, 1, 4, 5, 6, 7]), ((82, 7), [1, 4, 5, 6, 8, 9, 10]), ((87, 1), [0, 1, 3, 6, 8]), ((87, 18), [1, 3, 6, 8, 48, 49, 50]), ((88, 5), [1, 2, 3, 7]), ((98, 2), [0, 3]), ((102, 4), [1, 2, 6, 15, 16, 17]), ((108, 1), [0, 1, 9, 10, 11]), ((111, 3), [1, 4, 5, 11, 12, 13]), ((117, 2), [0, 2, 3]), ((119, 3), [2, 3, 6, 8, 9, 10]), ((120, 4), [2, 3, 4, 5]), ((124, 9), [1, 2, 4, 6]), ((127, 8), [1, 2, 4, 40, 41, 42]), ((132, 2), [0, 1, 4, 7, 8]), ((133, 3), [0, 3, 4]), ((135, 17), [1, 5, 6]), ((142, 12), [0, 1, 5, 39, 40, 41]), ((142, 22), [1, 8, 63, 64, 65]), ((145, 3), [0, 1, 2, 7, 13, 14, 15]), ((148, 5), [0, 1, 4, 5, 6, 7, 8]), ((149, 3), [0, 3, 4]), ((150, 3), [0, 1, 2, 3, 8, 9]), ((151, 22), [0, 1, 4, 6, 7, 8, 9]), ((155, 4), [1, 2, 6, 15, 16, 17]), ((156, 3), [1, 2, 7, 10, 11, 12]), ((157, 3), [1, 2, 7, 10, 11, 12]), ((161, 3), [5, 12, 13, 14]), ((163, 3), [0, 1]), ((164, 2), [0, 1, 4, 7, 8]), ((166, 2), [0, 1, 5]), ((171, 5), [0, 2, 3, 4]), ((172, 3), [0, 2, 3, 4, 5, 10, 11])]
noncomputable def E : Env where
 P := Tryz.prog
 frz t := [129, 199].contains t
 prim := prim
 keep f := [26, 113, 115].contains f
 raw f := f == 119
 draw f i := (drawTab.find? fun q => q.1.1 == f && q.1.2 == i).map (·.2)
 live f i := ((liveTab.find? fun q => q.1.1 == f && q.1.2 == i).map (·.2)).getD []
theorem E_P : E.P = Tryz.prog := rfl
@[simp] theorem raw_E (f : Nat) : E.raw f = (f == 119) := rfl
@[simp] theorem bytesT_117 : bytesT E.P 117 = some 56 := by kernel_rfl
@[simp] theorem bytesT_3 : bytesT E.P 3 = some 8 := by kernel_rfl
@[simp] theorem bytesT_30 : bytesT E.P 30 = some 16 := by kernel_rfl
@[simp] theorem bytesT_5 : bytesT E.P 5 = some 1 := by kernel_rfl
@[simp] theorem bytesT_52 : bytesT E.P 52 = some 32 := by kernel_rfl
@[simp] theorem bytesT_59 : bytesT E.P 59 = some 120 := by kernel_rfl
@[simp] theorem bytesT_61 : bytesT E.P 61 = some 160 := by kernel_rfl
@[simp] theorem bytesT_73 : bytesT E.P 73 = some 56 := by kernel_rfl
@[simp] theorem bytesT_9 : bytesT E.P 9 = some 16 := by kernel_rfl
@[simp] theorem concrete_129 : E.P.concrete 129 = true := by kernel_rfl
@[simp] theorem concrete_130 : E.P.concrete 130 = true := by kernel_rfl
@[simp] theorem concrete_199 : E.P.concrete 199 = true := by kernel_rfl
@[simp] theorem concrete_261 : E.P.concrete 261 = true := by kernel_rfl
@[simp] theorem concrete_40 : E.P.concrete 40 = true := by kernel_rfl
@[simp] theorem concrete_87 : E.P.concrete 87 = true := by kernel_rfl
@[simp] theorem concrete_9 : E.P.concrete 9 = true := by kernel_rfl
@[simp] theorem eqsT_52 : eqsT E.P 52 = some [(0, Kd.int IntKind.u64), (1, Kd.int IntKind.u64), (2, Kd.str)] := by kernel_rfl
@[simp] theorem fieldT_117_0 : fieldT E.P 117 0 = some 0 := by kernel_rfl
@[simp] theorem fieldT_117_1 : fieldT E.P 117 1 = some 1 := by kernel_rfl
@[simp] theorem fieldT_117_2 : fieldT E.P 117 2 = some 2 := by kernel_rfl
@[simp] theorem fieldT_117_3 : fieldT E.P 117 3 = some 3 := by kernel_rfl
@[simp] theorem fieldT_117_4 : fieldT E.P 117 4 = some 4 := by kernel_rfl
@[simp] theorem fieldT_132_0 : fieldT E.P 132 0 = some 0 := by kernel_rfl
@[simp] theorem fieldT_132_1 : fieldT E.P 132 1 = some 1 := by kernel_rfl
@[simp] theorem fieldT_156_0 : fieldT E.P 156 0 = some 0 := by kernel_rfl
@[simp] theorem fieldT_156_1 : fieldT E.P 156 1 = some 1 := by kernel_rfl
@[simp] theorem fieldT_156_2 : fieldT E.P 156 2 = some 2 := by kernel_rfl
@[simp] theorem fieldT_156_3 : fieldT E.P 156 3 = some 3 := by kernel_rfl
@[simp] theorem fieldT_164_0 : fieldT E.P 164 0 = some 0 := by kernel_rfl
@[simp] theorem fieldT_164_1 : fieldT E.P 164 1 = some 1 := by kernel_rfl
@[simp] theorem fieldT_164_2 : fieldT E.P 164 2 = some 2 := by kernel_rfl
@[simp] theorem fieldT_164_3 : fieldT E.P 164 3 = some 3 := by kernel_rfl
@[simp] theorem fieldT_167_0 : fieldT E.P 167 0 = some 0 := by kernel_rfl
@[simp] theorem fieldT_167_1 : fieldT E.P 167 1 = some 1 := by kernel_rfl
@[simp] theorem fieldT_172_0 : fieldT E.P 172 0 = some 0 := by kernel_rfl
@[simp] theorem fieldT_172_1 : fieldT E.P 172 1 = some 1 := by kernel_rfl
@[simp] theorem fieldT_201_1 : fieldT E.P 201 1 = some 1 := by kernel_rfl
@[simp] theorem fieldT_28_0 : fieldT E.P 28 0 = some 0 := by kernel_rfl
@[simp] theorem fieldT_28_1 : fieldT E.P 28 1 = some 1 := by kernel_rfl
@[simp] theorem fieldT_28_2 : fieldT E.P 28 2 = some 2 := by kernel_rfl
@[simp] theorem fieldT_28_3 : fieldT E.P 28 3 = some 3 := by kernel_rfl
@[simp] theorem fieldT_28_4 : fieldT E.P 28 4 = some 4 := by kernel_rfl
@[simp] theorem fieldT_28_5 : fieldT E.P 28 5 = some 5 := by kernel_rfl
@[simp] theorem fieldT_28_6 : fieldT E.P 28 6 = some 6 := by kernel_rfl
@[simp] theorem fieldT_28_7 : fieldT E.P 28 7 = some 7 := by kernel_rfl
@[simp] theorem fieldT_52_0 : fieldT E.P 52 0 = some 0 := by kernel_rfl
@[simp] theorem fieldT_52_1 : fieldT E.P 52 1 = some 1 := by kernel_rfl
@[simp] theorem fieldT_52_2 : fieldT E.P 52 2 = some 2 := by kernel_rfl
@[simp] theorem fieldT_59_0 : fieldT E.P 59 0 = some 0 := by kernel_rfl
@[simp] theorem fieldT_59_1 : fieldT E.P 59 1 = some 1 := by kernel_rfl
@[simp] theorem fieldT_59_2 : fieldT E.P 59 2 = some 2 := by kernel_rfl
@[simp] theorem fieldT_59_3 : fieldT E.P 59 3 = some 3 := by kernel_rfl
@[simp] theorem fieldT_59_4 : fieldT E.P 59 4 = some 4 := by kernel_rfl
@[simp] theorem fieldT_59_5 : fieldT E.P 59 5 = some 5 := by kernel_rfl
@[simp] theorem fieldT_59_6 : fieldT E.P 59 6 = some 6 := by kernel_rfl
@[simp] theorem fieldT_59_7 : fieldT E.P 59 7 = some 7 := by kernel_rfl
@[simp] theorem fieldT_61_0 : fieldT E.P 61 0 = some 0 := by kernel_rfl
@[simp] theorem fieldT_61_1 : fieldT E.P 61 1 = some 1 := by kernel_rfl
@[simp] theorem fieldT_61_2 : fieldT E.P 61 2 = some 2 := by kernel_rfl
@[simp] theorem fieldT_61_3 : fieldT E.P 61 3 = some 10 := by kernel_rfl
@[simp] theorem fieldT_68_0 : fieldT E.P 68 0 = some 0 := by kernel_rfl
@[simp] theorem fieldT_68_1 : fieldT E.P 68 1 = some 1 := by kernel_rfl
@[simp] theorem fieldT_68_2 : fieldT E.P 68 2 = some 2 := by kernel_rfl
@[simp] theorem fieldT_68_3 : fieldT E.P 68 3 = some 3 := by kernel_rfl
@[simp] theorem fieldT_68_4 : fieldT E.P 68 4 = some 4 := by kernel_rfl
@[simp] theorem fieldT_73_0 : fieldT E.P 73 0 = some 0 := by kernel_rfl
@[simp] theorem fieldT_73_1 : fieldT E.P 73 1 = some 1 := by kernel_rfl
@[simp] theorem fieldT_73_2 : fieldT E.P 73 2 = some 2 := by kernel_rfl
@[simp] theorem fieldT_73_3 : fieldT E.P 73 3 = some 3 := by kernel_rfl
@[simp] theorem fieldT_73_4 : fieldT E.P 73 4 = some 4 := by kernel_rfl
@[simp] theorem fieldT_95_0 : fieldT E.P 95 0 = some 0 := by kernel_rfl
@[simp] theorem fieldT_95_1 : fieldT E.P 95 1 = some 1 := by kernel_rfl
@[simp] theorem fieldT_97_0 : fieldT E.P 97 0 = some 0 := by kernel_rfl
@[simp] theorem kindT_117 : kindT E.P 117 = Kd.struct := by kernel_rfl
@[simp] theorem kindT_129 : kindT E.P 129 = Kd.ptr := by kernel_rfl
@[simp] theorem kindT_130 : kindT E.P 130 = Kd.ptr := by kernel_rfl
@[simp] theorem kindT_134 : kindT E.P 134 = Kd.other := by kernel_rfl
@[simp] theorem kindT_142 : kindT E.P 142 = Kd.int IntKind.u8 := by kernel_rfl
@[simp] theorem kindT_158 : kindT E.P 158 = Kd.ptr := by kernel_rfl
@[simp] theorem kindT_162 : kindT E.P 162 = Kd.slice 9 := by kernel_rfl
@[simp] theorem kindT_194 : kindT E.P 194 = Kd.slice 30 := by kernel_rfl
@[simp] theorem kindT_199 : kindT E.P 199 = Kd.ptr := by kernel_rfl
@[simp] theorem kindT_20 : kindT E.P 20 = Kd.iface := by kernel_rfl
@[simp] theorem kindT_23 : kindT E.P 23 = Kd.slice 61 := by kernel_rfl
@[simp] theorem kindT_24 : kindT E.P 24 = Kd.int IntKind.u64 := by kernel_rfl
@[simp] theorem kindT_25 : kindT E.P 25 = Kd.slice 52 := by kernel_rfl
@[simp] theorem kindT_26 : kindT E.P 26 = Kd.int IntKind.u32 := by kernel_rfl
@[simp] theorem kindT_261 : kindT E.P 261 = Kd.ptr := by kernel_rfl
@[simp] theorem kindT_3 : kindT E.P 3 = Kd.int IntKind.i64 := by kernel_rfl
@[simp] theorem kindT_30 : kindT E.P 30 = Kd.iface := by kernel_rfl
@[simp] theorem kindT_4 : kindT E.P 4 = Kd.bool := by kernel_rfl
@[simp] theorem kindT_40 : kindT E.P 40 = Kd.int IntKind.i64 := by kernel_rfl
@[simp] theorem kindT_5 : kindT E.P 5 = Kd.int IntKind.u8 := by kernel_rfl
@[simp] theorem kindT_52 : kindT E.P 52 = Kd.struct := by kernel_rfl
@[simp] theorem kindT_57 : kindT E.P 57 = Kd.slice 59 := by kernel_rfl
@[simp] theorem kindT_59 : kindT E.P 59 = Kd.struct := by kernel_rfl
@[simp] theorem kindT_61 : kindT E.P 61 = Kd.struct := by kernel_rfl
@[simp] theorem kindT_66 : kindT E.P 66 = Kd.slice 117 := by kernel_rfl
@[simp] theorem kindT_69 : kindT E.P 69 = Kd.slice 73 := by kernel_rfl
@[simp] theorem kindT_73 : kindT E.P 73 = Kd.struct := by kernel_rfl
@[simp] theorem kindT_75 : kindT E.P 75 = Kd.slice 3 := by kernel_rfl
@[simp] theorem kindT_85 : kindT E.P 85 = Kd.int IntKind.u64 := by kernel_rfl
@[simp] theorem kindT_87 : kindT E.P 87 = Kd.ptr := by kernel_rfl
@[simp] theorem kindT_9 : kindT E.P 9 = Kd.str := by kernel_rfl
@[simp] theorem kindT_92 : kindT E.P 92 = Kd.ptr := by kernel_rfl
@[simp] theorem kindT_93 : kindT E.P 93 = Kd.slice 5 := by kernel_rfl
@[simp] theorem partT_117_2 : partT E.P 117 2 = some (2, 1, false) := by kernel_rfl
@[simp] theorem partT_117_3 : partT E.P 117 3 = some (3, 1, false) := by kernel_rfl
@[simp] theorem placesT_117 : placesT E.P 117 = some [(0, 1), (1, 1), (2, 1), (3, 1), (4, 1)] := by kernel_rfl
@[simp] theorem placesT_132 : placesT E.P 132 = some [(0, 1), (1, 1)] := by kernel_rfl
@[simp] theorem placesT_156 : placesT E.P 156 = some [(0, 1), (1, 1), (2, 1), (3, 1)] := by kernel_rfl
@[simp] theorem placesT_164 : placesT E.P 164 = some [(0, 1), (1, 1), (2, 1), (3, 1)] := by kernel_rfl
@[simp] theorem placesT_167 : placesT E.P 167 = some [(0, 1), (1, 1)] := by kernel_rfl
@[simp] theorem placesT_172 : placesT E.P 172 = some [(0, 1), (1, 1)] := by kernel_rfl
@[simp] theorem placesT_201 : placesT E.P 201 = some [(0, 1), (1, 1)] := by kernel_rfl
@[simp] theorem placesT_28 : placesT E.P 28 = some [(0, 1), (1, 1), (2, 1), (3, 1), (4, 1), (5, 1), (6, 1), (7, 1)] := by kernel_rfl
@[simp] theorem placesT_52 : placesT E.P 52 = some [(0, 1), (1, 1), (2, 1)] := by kernel_rfl
@[simp] theorem placesT_59 : placesT E.P 59 = some [(0, 1), (1, 1), (2, 1), (3, 1), (4, 1), (5, 1), (6, 1), (7, 1)] := by kernel_rfl
@[simp] theorem placesT_61 : placesT E.P 61 = some [(0, 1), (1, 1), (2, 8), (10, 1)] := by kernel_rfl
@[simp] theorem placesT_68 : placesT E.P 68 = some [(0, 1), (1, 1), (2, 1), (3, 1), (4, 1)] := by kernel_rfl
@[simp] theorem placesT_73 : placesT E.P 73 = some [(0, 1), (1, 1), (2, 1), (3, 1), (4, 1)] := by kernel_rfl
@[simp] theorem shapeT_107 : shapeT E.P 107 = some (1, false) := by kernel_rfl
@[simp] theorem shapeT_117 : shapeT E.P 117 = some (5, true) := by kernel_rfl
@[simp] theorem shapeT_124 : shapeT E.P 124 = some (1, false) := by kernel_rfl
@[simp] theorem shapeT_129 : shapeT E.P 129 = some (1, false) := by kernel_rfl
@[simp] theorem shapeT_137 : shapeT E.P 137 = some (3, true) := by kernel_rfl
@[simp] theorem shapeT_140 : shapeT E.P 140 = some (1, false) := by kernel_rfl
@[simp] theorem shapeT_162 : shapeT E.P 162 = some (1, false) := by kernel_rfl
@[simp] theorem shapeT_164 : shapeT E.P 164 = some (4, true) := by kernel_rfl
@[simp] theorem shapeT_167 : shapeT E.P 167 = some (2, true) := by kernel_rfl
@[simp] theorem shapeT_172 : shapeT E.P 172 = some (2, true) := by kernel_rfl
@[simp] theorem shapeT_23 : shapeT E.P 23 = some (1, false) := by kernel_rfl
@[simp] theorem shapeT_24 : shapeT E.P 24 = some (1, false) := by kernel_rfl
@[simp] theorem shapeT_25 : shapeT E.P 25 = some (1, false) := by kernel_rfl
@[simp] theorem shapeT_26 : shapeT E.P 26 = some (1, false) := by kernel_rfl
@[simp] theorem shapeT_28 : shapeT E.P 28 = some (8, true) := by kernel_rfl
@[simp] theorem shapeT_3 : shapeT E.P 3 = some (1, false) := by kernel_rfl
@[simp] theorem shapeT_30 : shapeT E.P 30 = some (1, false) := by kernel_rfl
@[simp] theorem shapeT_4 : shapeT E.P 4 = some (1, false) := by kernel_rfl
@[simp] theorem shapeT_40 : shapeT E.P 40 = some (1, false) := by kernel_rfl
@[simp] theorem shapeT_5 : shapeT E.P 5 = some (1, false) := by kernel_rfl
@[simp] theorem shapeT_52 : shapeT E.P 52 = some (3, true) := by kernel_rfl
@[simp] theorem shapeT_57 : shapeT E.P 57 = some (1, false) := by kernel_rfl
@[simp] theorem shapeT_59 : shapeT E.P 59 = some (8, true) := by kernel_rfl
@[simp] theorem shapeT_61 : shapeT E.P 61 = some (11, true) := by kernel_rfl
@[simp] theorem shapeT_62 : shapeT E.P 62 = some (1, false) := by kernel_rfl
@[simp] theorem shapeT_66 : shapeT E.P 66 = some (1, false) := by kernel_rfl
@[simp] theorem shapeT_73 : shapeT E.P 73 = some (5, true) := by kernel_rfl
@[simp] theorem shapeT_9 : shapeT E.P 9 = some (1, false) := by kernel_rfl
@[simp] theorem shapeT_92 : shapeT E.P 92 = some (1, false) := by kernel_rfl
@[simp] theorem shapeT_93 : shapeT E.P 93 = some (1, false) := by kernel_rfl
@[simp] theorem szT_117 : szT E.P 117 = some 5 := by kernel_rfl
@[simp] theorem szT_137 : szT E.P 137 = some 3 := by kernel_rfl
@[simp] theorem szT_140 : szT E.P 140 = some 1 := by kernel_rfl
@[simp] theorem szT_162 : szT E.P 162 = some 1 := by kernel_rfl
@[simp] theorem szT_164 : szT E.P 164 = some 4 := by kernel_rfl
@[simp] theorem szT_167 : szT E.P 167 = some 2 := by kernel_rfl
@[simp] theorem szT_172 : szT E.P 172 = some 2 := by kernel_rfl
@[simp] theorem szT_23 : szT E.P 23 = some 1 := by kernel_rfl
@[simp] theorem szT_24 : szT E.P 24 = some 1 := by kernel_rfl
@[simp] theorem szT_25 : szT E.P 25 = some 1 := by kernel_rfl
@[simp] theorem szT_26 : szT E.P 26 = some 1 := by kernel_rfl
@[simp] theorem szT_28 : szT E.P 28 = some 8 := by kernel_rfl
@[simp] theorem szT_3 : szT E.P 3 = some 1 := by kernel_rfl
@[simp] theorem szT_30 : szT E.P 30 = some 1 := by kernel_rfl
@[simp] theorem szT_4 : szT E.P 4 = some 1 := by kernel_rfl
@[simp] theorem szT_5 : szT E.P 5 = some 1 := by kernel_rfl
@[simp] theorem szT_52 : szT E.P 52 = some 3 := by kernel_rfl
@[simp] theorem szT_57 : szT E.P 57 = some 1 := by kernel_rfl
@[simp] theorem szT_59 : szT E.P 59 = some 8 := by kernel_rfl
@[simp] theorem szT_61 : szT E.P 61 = some 11 := by kernel_rfl
@[simp] theorem szT_66 : szT E.P 66 = some 1 := by kernel_rfl
@[simp] theorem szT_73 : szT E.P 73 = some 5 := by kernel_rfl
@[simp] theorem szT_9 : szT E.P 9 = some 1 := by kernel_rfl
@[simp] theorem szT_92 : szT E.P 92 = some 1 := by kernel_rfl
@[simp] theorem szT_93 : szT E.P 93 = some 1 := by kernel_rfl
@[simp] theorem und_134 : (E.P.underlying 134).isSome = true := by kernel_rfl
@[simp] theorem und_24 : (E.P.underlying 24).isSome = true := by kernel_rfl
@[simp] theorem und_26 : (E.P.underlying 26).isSome = true := by kernel_rfl
@[simp] theorem und_3 : (E.P.underlying 3).isSome = true := by kernel_rfl
@[simp] theorem und_5 : (E.P.underlying 5).isSome = true := by kernel_rfl
@[simp] theorem und_9 : (E.P.underlying 9).isSome = true := by kernel_rfl
@[simp] theorem und_92 : (E.P.underlying 92).isSome = true := by kernel_rfl
@[simp] theorem und_93 : (E.P.underlying 93).isSome = true := by kernel_rfl
@[simp] theorem zeroT_117 : zeroT E.P 117 = some [A.int IntKind.i64 0, A.int IntKind.i64 0, A.int IntKind.u64 0, A.str [], A.str []] := by kernel_rfl
@[simp] theorem zeroT_129 : zeroT E.P 129 = some [A.nilp] := by kernel_rfl
@[simp] theorem zeroT_132 : zeroT E.P 132 = some [A.int IntKind.i64 0, A.nili] := by kernel_rfl
@[simp] theorem zeroT_137 : zeroT E.P 137 = some [A.nilp, A.nilp, A.int IntKind.u64 0] := by kernel_rfl
@[simp] theorem zeroT_156 : zeroT E.P 156 = some [A.str [], A.int IntKind.i64 0, A.nili, A.int IntKind.i64 0] := by kernel_rfl
@[simp] theorem zeroT_164 : zeroT E.P 164 = some [A.int IntKind.i64 0, A.int IntKind.u64 0, A.str [], A.nils] := by kernel_rfl
@[simp] theorem zeroT_167 : zeroT E.P 167 = some [A.nils, A.str []] := by kernel_rfl
@[simp] theorem zeroT_172 : zeroT E.P 172 = some [A.nils, A.str []] := by kernel_rfl
@[simp] theorem zeroT_201 : zeroT E.P 201 = some [A.int IntKind.i64 0, A.nili] := by kernel_rfl
@[simp] theorem zeroT_28 : zeroT E.P 28 = some [A.nils, A.int IntKind.u64 0, A.int IntKind.u64 0, A.int IntKind.u64 0, A.int IntKind.u64 0, A.nils, A.int IntKind.u32 0, A.str []] := by kernel_rfl
@[simp] theorem zeroT_3 : zeroT E.P 3 = some [A.int IntKind.i64 0] := by kernel_rfl
@[simp] theorem zeroT_30 : zeroT E.P 30 = some [A.nili] := by kernel_rfl
@[simp] theorem zeroT_40 : zeroT E.P 40 = some [A.int IntKind.i64 0] := by kernel_rfl
@[simp] theorem zeroT_5 : zeroT E.P 5 = some [A.int IntKind.u8 0] := by kernel_rfl
@[simp] theorem zeroT_52 : zeroT E.P 52 = some [A.int IntKind.u64 0, A.int IntKind.u64 0, A.str []] := by kernel_rfl
@[simp] theorem zeroT_59 : zeroT E.P 59 = some [A.int IntKind.i64 0, A.str [], A.bool false, A.int IntKind.u64 0, A.nils, A.nils, A.str [], A.str []] := by kernel_rfl
@[simp] theorem zeroT_61 : zeroT E.P 61 = some [A.str [], A.bool false, A.int IntKind.i64 0, A.str [], A.bool false, A.int IntKind.u64 0, A.nils, A.nils, A.str [], A.str [], A.str []] := by kernel_rfl
@[simp] theorem zeroT_68 : zeroT E.P 68 = some [A.nili, A.str [], A.int IntKind.i64 0, A.int IntKind.i64 0, A.nils] := by kernel_rfl
@[simp] theorem zeroT_73 : zeroT E.P 73 = some [A.int IntKind.i64 0, A.int IntKind.i64 0, A.int IntKind.u64 0, A.str [], A.str []] := by kernel_rfl
@[simp] theorem zeroT_9 : zeroT E.P 9 = some [A.str []] := by kernel_rfl
@[simp] theorem zeroT_95 : zeroT E.P 95 = some [A.nilp, A.nils] := by kernel_rfl
@[simp] theorem zeroT_97 : zeroT E.P 97 = some [A.nilp, A.nils] := by kernel_rfl
@[simp] theorem frz_129 : E.frz 129 = true := by kernel_rfl
@[simp] theorem frz_130 : E.frz 130 = false := by kernel_rfl
@[simp] theorem frz_199 : E.frz 199 = true := by kernel_rfl
@[simp] theorem frz_261 : E.frz 261 = false := by kernel_rfl
@[simp] theorem frz_40 : E.frz 40 = false := by kernel_rfl
@[simp] theorem frz_87 : E.frz 87 = false := by kernel_rfl
@[simp] theorem frz_9 : E.frz 9 = false := by kernel_rfl
@[simp] theorem draw_7_5 : E.draw 7 5 = some [(5, 4), (6, 4)] := by kernel_rfl
@[simp] theorem draw_8_10 : E.draw 8 10 = some [] := by kernel_rfl
@[simp] theorem draw_10_13 : E.draw 10 13 = some [(3, 5)] := by kernel_rfl
@[simp] theorem draw_12_2 : E.draw 12 2 = some [(18, 1), (18, 3), (18, 5), (18, 7), (18, 9), (18, 11), (18, 13)] := by kernel_rfl
@[simp] theorem draw_12_4 : E.draw 12 4 = some [(4, 5)] := by kernel_rfl
@[simp] theorem draw_13_7 : E.draw 13 7 = some [(1, 0)] := by kernel_rfl
@[simp] theorem draw_15_6 : E.draw 15 6 = some [(6, 12), (9, 12)] := by kernel_rfl
@[simp] theorem draw_19_4 : E.draw 19 4 = some [(1, 8), (5, 8)] := by kernel_rfl
@[simp] theorem draw_19_6 : E.draw 19 6 = some [(11, 13)] := by kernel_rfl
@[simp] theorem draw_22_6 : E.draw 22 6 = some [(5, 3), (9, 3), (9, 6)] := by kernel_rfl
@[simp] theorem draw_22_7 : E.draw 22 7 = some [(4, 2), (8, 2), (8, 5), (12, 2), (12, 5), (12, 9), (18, 2), (18, 5), (18, 9), (18, 13), (22, 2), (22, 5), (22, 9), (22, 13), (22, 19), (27, 2), (27, 5), (27, 9), (27, 13), (27, 19), (27, 24)] := by kernel_rfl
@[simp] theorem draw_26_14 : E.draw 26 14 = some [(5, 4)] := by kernel_rfl
@[simp] theorem draw_29_2 : E.draw 29 2 = some [(5, 1)] := by kernel_rfl
@[simp] theorem draw_29_5 : E.draw 29 5 = some [(4, 5)] := by kernel_rfl
@[simp] theorem draw_32_2 : E.draw 32 2 = some [(7, 1), (7, 3), (12, 1), (12, 3), (12, 13)] := by kernel_rfl
@[simp] theorem draw_34_4 : E.draw 34 4 = some [] := by kernel_rfl
@[simp] theorem draw_36_7 : E.draw 36 7 = some [(4, 0)] := by kernel_rfl
@[simp] theorem draw_36_8 : E.draw 36 8 = some [] := by kernel_rfl
@[simp] theorem draw_37_10 : E.draw 37 10 = some [(1, 0)] := by kernel_rfl
@[simp] theorem draw_39_6 : E.draw 39 6 = some [] := by kernel_rfl
@[simp] theorem draw_43_6 : E.draw 43 6 = some [(12, 7)] := by kernel_rfl
@[simp] theorem draw_63_6 : E.draw 63 6 = some [] := by kernel_rfl
@[simp] theorem draw_67_2 : E.draw 67 2 = some [(6, 10)] := by kernel_rfl
@[simp] theorem draw_68_6 : E.draw 68 6 = some [(3, 4)] := by kernel_rfl
@[simp] theorem draw_70_1 : E.draw 70 1 = some [] := by kernel_rfl
@[simp] theorem draw_75_4 : E.draw 75 4 = some [] := by kernel_rfl
@[simp] theorem draw_75_15 : E.draw 75 15 = some [(1, 2)] := by kernel_rfl
@[simp] theorem draw_75_16 : E.draw 75 16 = some [(3, 5)] := by kernel_rfl
@[simp] theorem draw_75_18 : E.draw 75 18 = some [(1, 2)] := by kernel_rfl
@[simp] theorem draw_75_19 : E.draw 75 19 = some [(3, 5)] := by kernel_rfl
@[simp] theorem draw_75_21 : E.draw 75 21 = some [(4, 5)] := by kernel_rfl
@[simp] theorem draw_82_10 : E.draw 82 10 = some [(1, 0)] := by kernel_rfl
@[simp] theorem draw_88_3 : E.draw 88 3 = some [(6, 4), (10, 4), (10, 8)] := by kernel_rfl
@[simp] theorem draw_89_1 : E.draw 89 1 = some [(10, 12)] := by kernel_rfl
@[simp] theorem draw_106_8 : E.draw 106 8 = some [] := by kernel_rfl
@[simp] theorem draw_111_8 : E.draw 111 8 = some [(3, 5)] := by kernel_rfl
@[simp] theorem draw_112_1 : E.draw 112 1 = some [(2, 5)] := by kernel_rfl
@[simp] theorem draw_114_1 : E.draw 114 1 = some [(2, 5)] := by kernel_rfl
@[simp] theorem draw_119_5 : E.draw 119 5 = some [(4, 0)] := by kernel_rfl
@[simp] theorem draw_119_6 : E.draw 119 6 = some [] := by kernel_rfl
@[simp] theorem draw_120_6 : E.draw 120 6 = some [] := by kernel_rfl
@[simp] theorem draw_124_1 : E.draw 124 1 = some [(14, 16)] := by kernel_rfl
@[simp] theorem draw_124_6 : E.draw 124 6 = some [(17, 20)] := by kernel_rfl
@[simp] theorem draw_135_22 : E.draw 135 22 = some [(4, 2)] := by kernel_rfl
@[simp] theorem draw_143_3 : E.draw 143 3 = some [(9, 10)] := by kernel_rfl
@[simp] theorem draw_147_3 : E.draw 147 3 = some [(9, 10)] := by kernel_rfl
@[simp] theorem draw_159_3 : E.draw 159 3 = some [] := by kernel_rfl
@[simp] theorem draw_162_1 : E.draw 162 1 = some [] := by kernel_rfl
@[simp] theorem draw_162_6 : E.draw 162 6 = some [] := by kernel_rfl
@[simp] theorem draw_165_3 : E.draw 165 3 = some [] := by kernel_rfl
@[simp] theorem draw_170_0 : E.draw 170 0 = some [(12, 8)] := by kernel_rfl
@[simp] theorem draw_171_2 : E.draw 171 2 = some [] := by kernel_rfl
@[simp] theorem live_5_10 : E.live 5 10 = [0, 1, 5, 7, 8] := by kernel_rfl
@[simp] theorem live_13_4 : E.live 13 4 = [1, 4, 6, 7, 8, 9] := by kernel_rfl
@[simp] theorem live_15_4 : E.live 15 4 = [2, 3, 4, 5] := by kernel_rfl
@[simp] theorem live_18_3 : E.live 18 3 = [1, 2, 5] := by kernel_rfl
@[simp] theorem live_19_2 : E.live 19 2 = [1, 2, 4, 5] := by kernel_rfl
@[simp] theorem live_22_3 : E.live 22 3 = [1, 3, 4] := by kernel_rfl
@[simp] theorem live_26_11 : E.live 26 11 = [2, 7, 10, 37, 38, 39] := by kernel_rfl
@[simp] theorem live_28_3 : E.live 28 3 = [0, 1, 2, 7, 13, 14, 15] := by kernel_rfl
@[simp] theorem live_31_3 : E.live 31 3 = [0, 1, 2, 7, 13, 14, 15] := by kernel_rfl
@[simp] theorem live_34_2 : E.live 34 2 = [0, 3, 4, 5] := by kernel_rfl
@[simp] theorem live_36_4 : E.live 36 4 = [4, 6, 7, 8, 9] := by kernel_rfl
@[simp] theorem live_37_5 : E.live 37 5 = [1, 4, 6, 7, 8, 9, 10] := by kernel_rfl
@[simp] theorem live_39_4 : E.live 39 4 = [0, 1, 4, 5] := by kernel_rfl
@[simp] theorem live_40_2 : E.live 40 2 = [0, 3] := by kernel_rfl
@[simp] theorem live_43_4 : E.live 43 4 = [0, 1, 2, 7] := by kernel_rfl
@[simp] theorem live_44_3 : E.live 44 3 = [2, 6, 7, 8, 9] := by kernel_rfl
@[simp] theorem live_46_2 : E.live 46 2 = [0, 1, 4, 5] := by kernel_rfl
@[simp] theorem live_48_1 : E.live 48 1 = [0, 1, 3, 4, 14, 15, 16] := by kernel_rfl
@[simp] theorem live_50_1 : E.live 50 1 = [0, 1, 3, 4, 14, 15, 16] := by kernel_rfl
@[simp] theorem live_57_2 : E.live 57 2 = [1, 4, 7, 8, 9] := by kernel_rfl
@[simp] theorem live_58_3 : E.live 58 3 = [2, 6, 8, 17, 18, 19] := by kernel_rfl
@[simp] theorem live_61_3 : E.live 61 3 = [0, 1, 5, 6] := by kernel_rfl
@[simp] theorem live_63_4 : E.live 63 4 = [0, 1, 4, 12, 13] := by kernel_rfl
@[simp] theorem live_66_3 : E.live 66 3 = [0, 3, 7, 8] := by kernel_rfl
@[simp] theorem live_68_3 : E.live 68 3 = [0, 4, 5, 6, 7] := by kernel_rfl
@[simp] theorem live_74_4 : E.live 74 4 = [0, 1, 2, 6, 8, 9, 16, 17, 18] := by kernel_rfl
@[simp] theorem live_76_2 : E.live 76 2 = [0, 1, 4, 5] := by kernel_rfl
@[simp] theorem live_79_3 : E.live 79 3 = [0, 1, 4, 5, 6, 7] := by kernel_rfl
@[simp] theorem live_82_7 : E.live 82 7 = [1, 4, 5, 6, 8, 9, 10] := by kernel_rfl
@[simp] theorem live_87_1 : E.live 87 1 = [0, 1, 3, 6, 8] := by kernel_rfl
@[simp] theorem live_87_18 : E.live 87 18 = [1, 3, 6, 8, 48, 49, 50] := by kernel_rfl
@[simp] theorem live_88_5 : E.live 88 5 = [1, 2, 3, 7] := by kernel_rfl
@[simp] theorem live_98_2 : E.live 98 2 = [0, 3] := by kernel_rfl
@[simp] theorem live_102_4 : E.live 102 4 = [1, 2, 6, 15, 16, 17] := by kernel_rfl
@[simp] theorem live_108_1 : E.live 108 1 = [0, 1, 9, 10, 11] := by kernel_rfl
@[simp] theorem live_111_3 : E.live 111 3 = [1, 4, 5, 11, 12, 13] := by kernel_rfl
@[simp] theorem live_117_2 : E.live 117 2 = [0, 2, 3] := by kernel_rfl
@[simp] theorem live_119_3 : E.live 119 3 = [2, 3, 6, 8, 9, 10] := by kernel_rfl
@[simp] theorem live_120_4 : E.live 120 4 = [2, 3, 4, 5] := by kernel_rfl
@[simp] theorem live_124_9 : E.live 124 9 = [1, 2, 4, 6] := by kernel_rfl
@[simp] theorem live_127_8 : E.live 127 8 = [1, 2, 4, 40, 41, 42] := by kernel_rfl
@[simp] theorem live_132_2 : E.live 132 2 = [0, 1, 4, 7, 8] := by kernel_rfl
@[simp] theorem live_133_3 : E.live 133 3 = [0, 3, 4] := by kernel_rfl
@[simp] theorem live_135_17 : E.live 135 17 = [1, 5, 6] := by kernel_rfl
@[simp] theorem live_142_12 : E.live 142 12 = [0, 1, 5, 39, 40, 41] := by kernel_rfl
@[simp] theorem live_142_22 : E.live 142 22 = [1, 8, 63, 64, 65] := by kernel_rfl
@[simp] theorem live_145_3 : E.live 145 3 = [0, 1, 2, 7, 13, 14, 15] := by kernel_rfl
@[simp] theorem live_148_5 : E.live 148 5 = [0, 1, 4, 5, 6, 7, 8] := by kernel_rfl
@[simp] theorem live_149_3 : E.live 149 3 = [0, 3, 4] := by kernel_rfl
@[simp] theorem live_150_3 : E.live 150 3 = [0, 1, 2, 3, 8, 9] := by kernel_rfl
@[simp] theorem live_151_22 : E.live 151 22 = [0, 1, 4, 6, 7, 8, 9] := by kernel_rfl
@[simp] theorem live_155_4 : E.live 155 4 = [1, 2, 6, 15, 16, 17] := by kernel_rfl
@[simp] theorem live_156_3 : E.live 156 3 = [1, 2, 7, 10, 11, 12] := by kernel_rfl
@[simp] theorem live_157_3 : E.live 157 3 = [1, 2, 7, 10, 11, 12] := by kernel_rfl
@[simp] theorem live_161_3 : E.live 161 3 = [5, 12, 13, 14] := by kernel_rfl
@[simp] theorem live_163_3 : E.live 163 3 = [0, 1] := by kernel_rfl
@[simp] theorem live_164_2 : E.live 164 2 = [0, 1, 4, 7, 8] := by kernel_rfl
@[simp] theorem live_166_2 : E.live 166 2 = [0, 1, 5] := by kernel_rfl
@[simp] theorem live_171_5 : E.live 171 5 = [0, 2, 3, 4] := by kernel_rfl
@[simp] theorem live_172_3 : E.live 172 3 = [0, 2, 3, 4, 5, 10, 11] := by kernel_rfl
noncomputable def L_5_10 : Code := ((Tryz.f5.body.getD .skip).loopAt 10).getD .skip
noncomputable def L_13_4 : Code := ((Tryz.f13.body.getD .skip).loopAt 4).getD .skip
noncomputable def L_15_4 : Code := ((Tryz.f15.body.getD .skip).loopAt 4).getD .skip
noncomputable def L_18_3 : Code := ((Tryz.f18.body.getD .skip).loopAt 3).getD .skip
noncomputable def L_19_2 : Code := ((Tryz.f19.body.getD .skip).loopAt 2).getD .skip
noncomputable def L_22_3 : Code := ((Tryz.f22.body.getD .skip).loopAt 3).getD .skip
noncomputable def L_26_11 : Code := ((Tryz.f26.body.getD .skip).loopAt 11).getD .skip
noncomputable def L_28_3 : Code := ((Tryz.f28.body.getD .skip).loopAt 3).getD .skip
noncomputable def L_31_3 : Code := ((Tryz.f31.body.getD .skip).loopAt 3).getD .skip
noncomputable def L_34_2 : Code := ((Tryz.f34.body.getD .skip).loopAt 2).getD .skip
noncomputable def L_36_4 : Code := ((Tryz.f36.body.getD .skip).loopAt 4).getD .skip
noncomputable def L_37_5 : Code := ((Tryz.f37.body.getD .skip).loopAt 5).getD .skip
noncomputable def L_39_4 : Code := ((Tryz.f39.body.getD .skip).loopAt 4).getD .skip
noncomputable def L_40_2 : Code := ((Tryz.f40.body.getD .skip).loopAt 2).getD .skip
noncomputable def L_43_4 : Code := ((Tryz.f43.body.getD .skip).loopAt 4).getD .skip
noncomputable def L_44_3 : Code := ((Tryz.f44.body.getD .skip).loopAt 3).getD .skip
noncomputable def L_46_2 : Code := ((Tryz.f46.body.getD .skip).loopAt 2).getD .skip
noncomputable def L_48_1 : Code := ((Tryz.f48.body.getD .skip).loopAt 1).getD .skip
noncomputable def L_50_1 : Code := ((Tryz.f50.body.getD .skip).loopAt 1).getD .skip
noncomputable def L_57_2 : Code := ((Tryz.f57.body.getD .skip).loopAt 2).getD .skip
noncomputable def L_58_3 : Code := ((Tryz.f58.body.getD .skip).loopAt 3).getD .skip
noncomputable def L_61_3 : Code := ((Tryz.f61.body.getD .skip).loopAt 3).getD .skip
noncomputable def L_63_4 : Code := ((Tryz.f63.body.getD .skip).loopAt 4).getD .skip
noncomputable def L_66_3 : Code := ((Tryz.f66.body.getD .skip).loopAt 3).getD .skip
noncomputable def L_68_3 : Code := ((Tryz.f68.body.getD .skip).loopAt 3).getD .skip
noncomputable def L_74_4 : Code := ((Tryz.f74.body.getD .skip).loopAt 4).getD .skip
noncomputable def L_76_2 : Code := ((Tryz.f76.body.getD .skip).loopAt 2).getD .skip
noncomputable def L_79_3 : Code := ((Tryz.f79.body.getD .skip).loopAt 3).getD .skip
noncomputable def L_82_7 : Code := ((Tryz.f82.body.getD .skip).loopAt 7).getD .skip
noncomputable def L_87_1 : Code := ((Tryz.f87.body.getD .skip).loopAt 1).getD .skip
noncomputable def L_87_18 : Code := ((Tryz.f87.body.getD .skip).loopAt 18).getD .skip
noncomputable def L_88_5 : Code := ((Tryz.f88.body.getD .skip).loopAt 5).getD .skip
noncomputable def L_98_2 : Code := ((Tryz.f98.body.getD .skip).loopAt 2).getD .skip
noncomputable def L_102_4 : Code := ((Tryz.f102.body.getD .skip).loopAt 4).getD .skip
noncomputable def L_108_1 : Code := ((Tryz.f108.body.getD .skip).loopAt 1).getD .skip
noncomputable def L_111_3 : Code := ((Tryz.f111.body.getD .skip).loopAt 3).getD .skip
noncomputable def L_117_2 : Code := ((Tryz.f117.body.getD .skip).loopAt 2).getD .skip
noncomputable def L_119_3 : Code := ((Tryz.f119.body.getD .skip).loopAt 3).getD .skip
noncomputable def L_120_4 : Code := ((Tryz.f120.body.getD .skip).loopAt 4).getD .skip
noncomputable def L_124_9 : Code := ((Tryz.f124.body.getD .skip).loopAt 9).getD .skip
noncomputable def L_127_8 : Code := ((Tryz.f127.body.getD .skip).loopAt 8).getD .skip
noncomputable def L_132_2 : Code := ((Tryz.f132.body.getD .skip).loopAt 2).getD .skip
noncomputable def L_133_3 : Code := ((Tryz.f133.body.getD .skip).loopAt 3).getD .skip
noncomputable def L_135_17 : Code := ((Tryz.f135.body.getD .skip).loopAt 17).getD .skip
noncomputable def L_142_12 : Code := ((Tryz.f142.body.getD .skip).loopAt 12).getD .skip
noncomputable def L_142_22 : Code := ((Tryz.f142.body.getD .skip).loopAt 22).getD .skip
noncomputable def L_145_3 : Code := ((Tryz.f145.body.getD .skip).loopAt 3).getD .skip
noncomputable def L_148_5 : Code := ((Tryz.f148.body.getD .skip).loopAt 5).getD .skip
noncomputable def L_149_3 : Code := ((Tryz.f149.body.getD .skip).loopAt 3).getD .skip
noncomputable def L_150_3 : Code := ((Tryz.f150.body.getD .skip).loopAt 3).getD .skip
noncomputable def L_151_22 : Code := ((Tryz.f151.body.getD .skip).loopAt 22).getD .skip
noncomputable def L_155_4 : Code := ((Tryz.f155.body.getD .skip).loopAt 4).getD .skip
noncomputable def L_156_3 : Code := ((Tryz.f156.body.getD .skip).loopAt 3).getD .skip
noncomputable def L_157_3 : Code := ((Tryz.f157.body.getD .skip).loopAt 3).getD .skip
noncomputable def L_161_3 : Code := ((Tryz.f161.body.getD .skip).loopAt 3).getD .skip
noncomputable def L_163_3 : Code := ((Tryz.f163.body.getD .skip).loopAt 3).getD .skip
noncomputable def L_164_2 : Code := ((Tryz.f164.body.getD .skip).loopAt 2).getD .skip
noncomputable def L_166_2 : Code := ((Tryz.f166.body.getD .skip).loopAt 2).getD .skip
noncomputable def L_171_5 : Code := ((Tryz.f171.body.getD .skip).loopAt 5).getD .skip
noncomputable def L_172_3 : Code := ((Tryz.f172.body.getD .skip).loopAt 3).getD .skip
@[simp] theorem key_5_10 : L_5_10.key = 10 := by kernel_rfl
@[simp] theorem key_13_4 : L_13_4.key = 4 := by kernel_rfl
@[simp] theorem key_15_4 : L_15_4.key = 4 := by kernel_rfl
@[simp] theorem key_18_3 : L_18_3.key = 3 := by kernel_rfl
@[simp] theorem key_19_2 : L_19_2.key = 2 := by kernel_rfl
@[simp] theorem key_22_3 : L_22_3.key = 3 := by kernel_rfl
@[simp] theorem key_26_11 : L_26_11.key = 11 := by kernel_rfl
@[simp] theorem key_28_3 : L_28_3.key = 3 := by kernel_rfl
@[simp] theorem key_31_3 : L_31_3.key = 3 := by kernel_rfl
@[simp] theorem key_34_2 : L_34_2.key = 2 := by kernel_rfl
@[simp] theorem key_36_4 : L_36_4.key = 4 := by kernel_rfl
@[simp] theorem key_37_5 : L_37_5.key = 5 := by kernel_rfl
@[simp] theorem key_39_4 : L_39_4.key = 4 := by kernel_rfl
@[simp] theorem key_40_2 : L_40_2.key = 2 := by kernel_rfl
@[simp] theorem key_43_4 : L_43_4.key = 4 := by kernel_rfl
@[simp] theorem key_44_3 : L_44_3.key = 3 := by kernel_rfl
@[simp] theorem key_46_2 : L_46_2.key = 2 := by kernel_rfl
@[simp] theorem key_48_1 : L_48_1.key = 1 := by kernel_rfl
@[simp] theorem key_50_1 : L_50_1.key = 1 := by kernel_rfl
@[simp] theorem key_57_2 : L_57_2.key = 2 := by kernel_rfl
@[simp] theorem key_58_3 : L_58_3.key = 3 := by kernel_rfl
@[simp] theorem key_61_3 : L_61_3.key = 3 := by kernel_rfl
@[simp] theorem key_63_4 : L_63_4.key = 4 := by kernel_rfl
@[simp] theorem key_66_3 : L_66_3.key = 3 := by kernel_rfl
@[simp] theorem key_68_3 : L_68_3.key = 3 := by kernel_rfl
@[simp] theorem key_74_4 : L_74_4.key = 4 := by kernel_rfl
@[simp] theorem key_76_2 : L_76_2.key = 2 := by kernel_rfl
@[simp] theorem key_79_3 : L_79_3.key = 3 := by kernel_rfl
@[simp] theorem key_82_7 : L_82_7.key = 7 := by kernel_rfl
@[simp] theorem key_87_1 : L_87_1.key = 1 := by kernel_rfl
@[simp] theorem key_87_18 : L_87_18.key = 18 := by kernel_rfl
@[simp] theorem key_88_5 : L_88_5.key = 5 := by kernel_rfl
@[simp] theorem key_98_2 : L_98_2.key = 2 := by kernel_rfl
@[simp] theorem key_102_4 : L_102_4.key = 4 := by kernel_rfl
@[simp] theorem key_108_1 : L_108_1.key = 1 := by kernel_rfl
@[simp] theorem key_111_3 : L_111_3.key = 3 := by kernel_rfl
@[simp] theorem key_117_2 : L_117_2.key = 2 := by kernel_rfl
@[simp] theorem key_119_3 : L_119_3.key = 3 := by kernel_rfl
@[simp] theorem key_120_4 : L_120_4.key = 4 := by kernel_rfl
@[simp] theorem key_124_9 : L_124_9.key = 9 := by kernel_rfl
@[simp] theorem key_127_8 : L_127_8.key = 8 := by kernel_rfl
@[simp] theorem key_132_2 : L_132_2.key = 2 := by kernel_rfl
@[simp] theorem key_133_3 : L_133_3.key = 3 := by kernel_rfl
@[simp] theorem key_135_17 : L_135_17.key = 17 := by kernel_rfl
@[simp] theorem key_142_12 : L_142_12.key = 12 := by kernel_rfl
@[simp] theorem key_142_22 : L_142_22.key = 22 := by kernel_rfl
@[simp] theorem key_145_3 : L_145_3.key = 3 := by kernel_rfl
@[simp] theorem key_148_5 : L_148_5.key = 5 := by kernel_rfl
@[simp] theorem key_149_3 : L_149_3.key = 3 := by kernel_rfl
@[simp] theorem key_150_3 : L_150_3.key = 3 := by kernel_rfl
@[simp] theorem key_151_22 : L_151_22.key = 22 := by kernel_rfl
@[simp] theorem key_155_4 : L_155_4.key = 4 := by kernel_rfl
@[simp] theorem key_156_3 : L_156_3.key = 3 := by kernel_rfl
@[simp] theorem key_157_3 : L_157_3.key = 3 := by kernel_rfl
@[simp] theorem key_161_3 : L_161_3.key = 3 := by kernel_rfl
@[simp] theorem key_163_3 : L_163_3.key = 3 := by kernel_rfl
@[simp] theorem key_164_2 : L_164_2.key = 2 := by kernel_rfl
@[simp] theorem key_166_2 : L_166_2.key = 2 := by kernel_rfl
@[simp] theorem key_171_5 : L_171_5.key = 5 := by kernel_rfl
@[simp] theorem key_172_3 : L_172_3.key = 3 := by kernel_rfl
theorem eq_2 {p : Id} {args : List A} {h : Heap} : callW E p 2 args h = (execW E 2 p ((Tryz.f2.body).getD .skip) (initFr args) 0 h).bind (resX E.P false p Tryz.f2.results.toList) := callW_eq Tryz.f2 (by kernel_rfl) (by kernel_rfl) (by kernel_rfl) rfl (by kernel_rfl)
theorem eq_3 {p : Id} {args : List A} {h : Heap} : callW E p 3 args h = (execW E 3 p ((Tryz.f3.body).getD .skip) (initFr args) 0 h).bind (resX E.P false p Tryz.f3.results.toList) := callW_eq Tryz.f3 (by kernel_rfl) (by kernel_rfl) (by kernel_rfl) rfl (by kernel_rfl)
theorem eq_4 {p : Id} {args : List A} {h : Heap} : callW E p 4 args h = (execW E 4 p ((Tryz.f4.body).getD .skip) (initFr args) 0 h).bind (resX E.P false p Tryz.f4.results.toList) := callW_eq Tryz.f4 (by kernel_rfl) (by kernel_rfl) (by kernel_rfl) rfl (by kernel_rfl)
theorem rd_5_10 {p : Id} {L : List Nat} {c0 c : Nat} {fr : Fr} {h : Heap} : iterW E 5 p L L_5_10 c0 fr c h = (execW E 5 p ((((Tryz.f5.body).getD .skip).loopAt 10).getD .skip) fr c h).bind (loopX E 5 p L L_5_10 c0) := iterW_eq2 (by kernel_rfl)
theorem eq_5 {p : Id} {args : List A} {h : Heap} : callW E p 5 args h = (execW E 5 p (((Tryz.f5.body).getD .skip).hide [(10, L_5_10)]) (initFr args) 0 h).bind (resX E.P false p Tryz.f5.results.toList) := callW_eq Tryz.f5 (by kernel_rfl) (by kernel_rfl) (by kernel_rfl) rfl (by kernel_rfl)
theorem eq_6 {p : Id} {args : List A} {h : Heap} : callW E p 6 args h = (execW E 6 p ((Tryz.f6.body).getD .skip) (initFr args) 0 h).bind (resX E.P false p Tryz.f6.results.toList) := callW_eq Tryz.f6 (by kernel_rfl) (by kernel_rfl) (by kernel_rfl) rfl (by kernel_rfl)
theorem eq_7 {p : Id} {args : List A} {h : Heap} : callW E p 7 args h = (execW E 7 p ((Tryz.f7.body).getD .skip) (initFr args) 0 h).bind (resX E.P false p Tryz.f7.results.toList) := callW_eq Tryz.f7 (by kernel_rfl) (by kernel_rfl) (by kernel_rfl) rfl (by kernel_rfl)
theorem eq_8 {p : Id} {args : List A} {h : Heap} : callW E p 8 args h = (execW E 8 p ((Tryz.f8.body).getD .skip) (initFr args) 0 h).bind (resX E.P false p Tryz.f8.results.toList) := callW_eq Tryz.f8 (by kernel_rfl) (by kernel_rfl) (by kernel_rfl) rfl (by kernel_rfl)
theorem eq_9 {p : Id} {args : List A} {h : Heap} : callW E p 9 args h = (execW E 9 p ((Tryz.f9.body).getD .skip) (initFr args) 0 h).bind (resX E.P false p Tryz.f9.results.toList) := callW_eq Tryz.f9 (by kernel_rfl) (by kernel_rfl) (by kernel_rfl) rfl (by kernel_rfl)
theorem eq_10 {p : Id} {args : List A} {h : Heap} : callW E p 10 args h = (execW E 10 p ((Tryz.f10.body).getD .skip) (initFr args) 0 h).bind (resX E.P false p Tryz.f10.results.toList) := callW_eq Tryz.f10 (by kernel_rfl) (by kernel_rfl) (by kernel_rfl) rfl (by kernel_rfl)
theorem eq_11 {p : Id} {args : List A} {h : Heap} : callW E p 11 args h = (execW E 11 p ((Tryz.f11.body).getD .skip) (initFr args) 0 h).bind (resX E.P false p Tryz.f11.results.toList) := callW_eq Tryz.f11 (by kernel_rfl) (by kernel_rfl) (by kernel_rfl) rfl (by kernel_rfl)
theorem eq_12 {p : Id} {args : List A} {h : Heap} : callW E p 12 args h = (execW E 12 p ((Tryz.f12.body).getD .skip) (initFr args) 0 h).bind (resX E.P false p Tryz.f12.results.toList) := callW_eq Tryz.f12 (by kernel_rfl) (by kernel_rfl) (by kernel_rfl) rfl (by kernel_rfl)
theorem rd_13_4 {p : Id} {L : List Nat} {c0 c : Nat} {fr : Fr} {h : Heap} : iterW E 13 p L L_13_4 c0 fr c h = (execW E 13 p ((((Tryz.f13.body).getD .skip).loopAt 4).getD .skip) fr c h).bind (loopX E 13 p L L_13_4 c0) := iterW_eq2 (by kernel_rfl)
theorem eq_13 {p : Id} {args : List A} {h : Heap} : callW E p 13 args h = (execW E 13 p (((Tryz.f13.body).getD .skip).hide [(4, L_13_4)]) (initFr args) 0 h).bind (resX E.P false p Tryz.f13.results.toList) := callW_eq Tryz.f13 (by kernel_rfl) (by kernel_rfl) (by kernel_rfl) rfl (by kernel_rfl)
theorem eq_14 {p : Id} {args : List A} {h : Heap} : callW E p 14 args h = (execW E 14 p ((Tryz.f14.body).getD .skip) (initFr args) 0 h).bind (resX E.P false p Tryz.f14.results.toList) := callW_eq Tryz.f14 (by kernel_rfl) (by kernel_rfl) (by kernel_rfl) rfl (by kernel_rfl)
theorem rd_15_4 {p : Id} {L : List Nat} {c0 c : Nat} {fr : Fr} {h : Heap} : iterW E 15 p L L_15_4 c0 fr c h = (execW E 15 p ((((Tryz.f15.body).getD .skip).loopAt 4).getD .skip) fr c h).bind (loopX E 15 p L L_15_4 c0) := iterW_eq2 (by kernel_rfl)
theorem eq_15 {p : Id} {args : List A} {h : Heap} : callW E p 15 args h = (execW E 15 p (((Tryz.f15.body).getD .skip).hide [(4, L_15_4)]) (initFr args) 0 h).bind (resX E.P false p Tryz.f15.results.toList) := callW_eq Tryz.f15 (by kernel_rfl) (by kernel_rfl) (by kernel_rfl) rfl (by kernel_rfl)
theorem eq_16 {p : Id} {args : List A} {h : Heap} : callW E p 16 args h = (execW E 16 p ((Tryz.f16.body).getD .skip) (initFr args) 0 h).bind (resX E.P false p Tryz.f16.results.toList) := callW_eq Tryz.f16 (by kernel_rfl) (by kernel_rfl) (by kernel_rfl) rfl (by kernel_rfl)
theorem eq_17 {p : Id} {args : List A} {h : Heap} : callW E p 17 args h = (execW E 17 p ((Tryz.f17.body).getD .skip) (initFr args) 0 h).bind (resX E.P false p Tryz.f17.results.toList) := callW_eq Tryz.f17 (by kernel_rfl) (by kernel_rfl) (by kernel_rfl) rfl (by kernel_rfl)
theorem rd_18_3 {p : Id} {L : List Nat} {c0 c : Nat} {fr : Fr} {h : Heap} : iterW E 18 p L L_18_3 c0 fr c h = (execW E 18 p ((((Tryz.f18.body).getD .skip).loopAt 3).getD .skip) fr c h).bind (loopX E 18 p L L_18_3 c0) := iterW_eq2 (by kernel_rfl)
theorem eq_18 {p : Id} {args : List A} {h : Heap} : callW E p 18 args h = (execW E 18 p (((Tryz.f18.body).getD .skip).hide [(3, L_18_3)]) (initFr args) 0 h).bind (resX E.P false p Tryz.f18.results.toList) := callW_eq Tryz.f18 (by kernel_rfl) (by kernel_rfl) (by kernel_rfl) rfl (by kernel_rfl)
theorem rd_19_2 {p : Id} {L : List Nat} {c0 c : Nat} {fr : Fr} {h : Heap} : iterW E 19 p L L_19_2 c0 fr c h = (execW E 19 p ((((Tryz.f19.body).getD .skip).loopAt 2).getD .skip) fr c h).bind (loopX E 19 p L L_19_2 c0) := iterW_eq2 (by kernel_rfl)
theorem eq_19 {p : Id} {args : List A} {h : Heap} : callW E p 19 args h = (execW E 19 p (((Tryz.f19.body).getD .skip).hide [(2, L_19_2)]) (initFr args) 0 h).bind (resX E.P false p Tryz.f19.results.toList) := callW_eq Tryz.f19 (by kernel_rfl) (by kernel_rfl) (by kernel_rfl) rfl (by kernel_rfl)
theorem eq_20 {p : Id} {args : List A} {h : Heap} : callW E p 20 args h = (execW E 20 p ((Tryz.f20.body).getD .skip) (initFr args) 0 h).bind (resX E.P false p Tryz.f20.results.toList) := callW_eq Tryz.f20 (by kernel_rfl) (by kernel_rfl) (by kernel_rfl) rfl (by kernel_rfl)
theorem eq_21 {p : Id} {args : List A} {h : Heap} : callW E p 21 args h = (execW E 21 p ((Tryz.f21.body).getD .skip) (initFr args) 0 h).bind (resX E.P false p Tryz.f21.results.toList) := callW_eq Tryz.f21 (by kernel_rfl) (by kernel_rfl) (by kernel_rfl) rfl (by kernel_rfl)
theorem rd_22_3 {p : Id} {L : List Nat} {c0 c : Nat} {fr : Fr} {h : Heap} : iterW E 22 p L L_22_3 c0 fr c h = (execW E 22 p ((((Tryz.f22.body).getD .skip).loopAt 3).getD .skip) fr c h).bind (loopX E 22 p L L_22_3 c0) := iterW_eq2 (by kernel_rfl)
theorem eq_22 {p : Id} {args : List A} {h : Heap} : callW E p 22 args h = (execW E 22 p (((Tryz.f22.body).getD .skip).hide [(3, L_22_3)]) (initFr args) 0 h).bind (resX E.P false p Tryz.f22.results.toList) := callW_eq Tryz.f22 (by kernel_rfl) (by kernel_rfl) (by kernel_rfl) rfl (by kernel_rfl)
theorem eq_23 {p : Id} {args : List A} {h : Heap} : callW E p 23 args h = (execW E 23 p ((Tryz.f23.body).getD .skip) (initFr args) 0 h).bind (resX E.P false p Tryz.f23.results.toList) := callW_eq Tryz.f23 (by kernel_rfl) (by kernel_rfl) (by kernel_rfl) rfl (by kernel_rfl)
theorem eq_24 {p : Id} {args : List A} {h : Heap} : callW E p 24 args h = (execW E 24 p ((Tryz.f24.body).getD .skip) (initFr args) 0 h).bind (resX E.P false p Tryz.f24.results.toList) := callW_eq Tryz.f24 (by kernel_rfl) (by kernel_rfl) (by kernel_rfl) rfl (by kernel_rfl)
theorem eq_25 {p : Id} {args : List A} {h : Heap} : callW E p 25 args h = (execW E 25 p ((Tryz.f25.body).getD .skip) (initFr args) 0 h).bind (resX E.P false p Tryz.f25.results.toList) := callW_eq Tryz.f25 (by kernel_rfl) (by kernel_rfl) (by kernel_rfl) rfl (by kernel_rfl)
theorem rd_26_11 {p : Id} {L : List Nat} {c0 c : Nat} {fr : Fr} {h : Heap} : iterW E 26 p L L_26_11 c0 fr c h = (execW E 26 p ((((Tryz.f26.body).getD .skip).loopAt 11).getD .skip) fr c h).bind (loopX E 26 p L L_26_11 c0) := iterW_eq2 (by kernel_rfl)
theorem eq_26 {p : Id} {args : List A} {h : Heap} : callW E p 26 args h = (execW E 26 p (((Tryz.f26.body).getD .skip).hide [(11, L_26_11)]) (initFr args) 0 h).bind (resX E.P true p Tryz.f26.results.toList) := callW_eq Tryz.f26 (by kernel_rfl) (by kernel_rfl) (by kernel_rfl) rfl (by kernel_rfl)
theorem eq_27 {p : Id} {args : List A} {h : Heap} : callW E p 27 args h = (execW E 27 p ((Tryz.f27.body).getD .skip) (initFr args) 0 h).bind (resX E.P false p Tryz.f27.results.toList) := callW_eq Tryz.f27 (by kernel_rfl) (by kernel_rfl) (by kernel_rfl) rfl (by kernel_rfl)
theorem rd_28_3 {p : Id} {L : List Nat} {c0 c : Nat} {fr : Fr} {h : Heap} : iterW E 28 p L L_28_3 c0 fr c h = (execW E 28 p ((((Tryz.f28.body).getD .skip).loopAt 3).getD .skip) fr c h).bind (loopX E 28 p L L_28_3 c0) := iterW_eq2 (by kernel_rfl)
theorem eq_28 {p : Id} {args : List A} {h : Heap} : callW E p 28 args h = (execW E 28 p (((Tryz.f28.body).getD .skip).hide [(3, L_28_3)]) (initFr args) 0 h).bind (resX E.P false p Tryz.f28.results.toList) := callW_eq Tryz.f28 (by kernel_rfl) (by kernel_rfl) (by kernel_rfl) rfl (by kernel_rfl)
theorem eq_29 {p : Id} {args : List A} {h : Heap} : callW E p 29 args h = (execW E 29 p ((Tryz.f29.body).getD .skip) (initFr args) 0 h).bind (resX E.P false p Tryz.f29.results.toList) := callW_eq Tryz.f29 (by kernel_rfl) (by kernel_rfl) (by kernel_rfl) rfl (by kernel_rfl)
theorem eq_30 {p : Id} {args : List A} {h : Heap} : callW E p 30 args h = (execW E 30 p ((Tryz.f30.body).getD .skip) (initFr args) 0 h).bind (resX E.P false p Tryz.f30.results.toList) := callW_eq Tryz.f30 (by kernel_rfl) (by kernel_rfl) (by kernel_rfl) rfl (by kernel_rfl)
theorem rd_31_3 {p : Id} {L : List Nat} {c0 c : Nat} {fr : Fr} {h : Heap} : iterW E 31 p L L_31_3 c0 fr c h = (execW E 31 p ((((Tryz.f31.body).getD .skip).loopAt 3).getD .skip) fr c h).bind (loopX E 31 p L L_31_3 c0) := iterW_eq2 (by kernel_rfl)
theorem eq_31 {p : Id} {args : List A} {h : Heap} : callW E p 31 args h = (execW E 31 p (((Tryz.f31.body).getD .skip).hide [(3, L_31_3)]) (initFr args) 0 h).bind (resX E.P false p Tryz.f31.results.toList) := callW_eq Tryz.f31 (by kernel_rfl) (by kernel_rfl) (by kernel_rfl) rfl (by kernel_rfl)
theorem eq_32 {p : Id} {args : List A} {h : Heap} : callW E p 32 args h = (execW E 32 p ((Tryz.f32.body).getD .skip) (initFr args) 0 h).bind (resX E.P false p Tryz.f32.results.toList) := callW_eq Tryz.f32 (by kernel_rfl) (by kernel_rfl) (by kernel_rfl) rfl (by kernel_rfl)
theorem eq_33 {p : Id} {args : List A} {h : Heap} : callW E p 33 args h = (execW E 33 p ((Tryz.f33.body).getD .skip) (initFr args) 0 h).bind (resX E.P false p Tryz.f33.results.toList) := callW_eq Tryz.f33 (by kernel_rfl) (by kernel_rfl) (by kernel_rfl) rfl (by kernel_rfl)
theorem rd_34_2 {p : Id} {L : List Nat} {c0 c : Nat} {fr : Fr} {h : Heap} : iterW E 34 p L L_34_2 c0 fr c h = (execW E 34 p ((((Tryz.f34.body).getD .skip).loopAt 2).getD .skip) fr c h).bind (loopX E 34 p L L_34_2 c0) := iterW_eq2 (by kernel_rfl)
theorem eq_34 {p : Id} {args : List A} {h : Heap} : callW E p 34 args h = (execW E 34 p (((Tryz.f34.body).getD .skip).hide [(2, L_34_2)]) (initFr args) 0 h).bind (resX E.P false p Tryz.f34.results.toList) := callW_eq Tryz.f34 (by kernel_rfl) (by kernel_rfl) (by kernel_rfl) rfl (by kernel_rfl)
theorem eq_35 {p : Id} {args : List A} {h : Heap} : callW E p 35 args h = (execW E 35 p ((Tryz.f35.body).getD .skip) (initFr args) 0 h).bind (resX E.P false p Tryz.f35.results.toList) := callW_eq Tryz.f35 (by kernel_rfl) (by kernel_rfl) (by kernel_rfl) rfl (by kernel_rfl)
theorem rd_36_4 {p : Id} {L : List Nat} {c0 c : Nat} {fr : Fr} {h : Heap} : iterW E 36 p L L_36_4 c0 fr c h = (execW E 36 p ((((Tryz.f36.body).getD .skip).loopAt 4).getD .skip) fr c h).bind (loopX E 36 p L L_36_4 c0) := iterW_eq2 (by kernel_rfl)
theorem eq_36 {p : Id} {args : List A} {h : Heap} : callW E p 36 args h = (execW E 36 p (((Tryz.f36.body).getD .skip).hide [(4, L_36_4)]) (initFr args) 0 h).bind (resX E.P false p Tryz.f36.results.toList) := callW_eq Tryz.f36 (by kernel_rfl) (by kernel_rfl) (by kernel_rfl) rfl (by kernel_rfl)
theorem rd_37_5 {p : Id} {L : List Nat} {c0 c : Nat} {fr : Fr} {h : Heap} : iterW E 37 p L L_37_5 c0 fr c h = (execW E 37 p ((((Tryz.f37.body).getD .skip).loopAt 5).getD .skip) fr c h).bind (loopX E 37 p L L_37_5 c0) := iterW_eq2 (by kernel_rfl)
theorem eq_37 {p : Id} {args : List A} {h : Heap} : callW E p 37 args h = (execW E 37 p (((Tryz.f37.body).getD .skip).hide [(5, L_37_5)]) (initFr args) 0 h).bind (resX E.P false p Tryz.f37.results.toList) := callW_eq Tryz.f37 (by kernel_rfl) (by kernel_rfl) (by kernel_rfl) rfl (by kernel_rfl)
theorem eq_38 {p : Id} {args : List A} {h : Heap} : callW E p 38 args h = (execW E 38 p ((Tryz.f38.body).getD .skip) (initFr args) 0 h).bind (resX E.P false p Tryz.f38.results.toList) := callW_eq Tryz.f38 (by kernel_rfl) (by kernel_rfl) (by kernel_rfl) rfl (by kernel_rfl)
theorem rd_39_4 {p : Id} {L : List Nat} {c0 c : Nat} {fr : Fr} {h : Heap} : iterW E 39 p L L_39_4 c0 fr c h = (execW E 39 p ((((Tryz.f39.body).getD .skip).loopAt 4).getD .skip) fr c h).bind (loopX E 39 p L L_39_4 c0) := iterW_eq2 (by kernel_rfl)
theorem eq_39 {p : Id} {args : List A} {h : Heap} : callW E p 39 args h = (execW E 39 p (((Tryz.f39.body).getD .skip).hide [(4, L_39_4)]) (initFr args) 0 h).bind (resX E.P false p Tryz.f39.results.toList) := callW_eq Tryz.f39 (by kernel_rfl) (by kernel_rfl) (by kernel_rfl) rfl (by kernel_rfl)
theorem rd_40_2 {p : Id} {L : List Nat} {c0 c : Nat} {fr : Fr} {h : Heap} : iterW E 40 p L L_40_2 c0 fr c h = (execW E 40 p ((((Tryz.f40.body).getD .skip).loopAt 2).getD .skip) fr c h).bind (loopX E 40 p L L_40_2 c0) := iterW_eq2 (by kernel_rfl)
theorem eq_40 {p : Id} {args : List A} {h : Heap} : callW E p 40 args h = (execW E 40 p (((Tryz.f40.body).getD .skip).hide [(2, L_40_2)]) (initFr args) 0 h).bind (resX E.P false p Tryz.f40.results.toList) := callW_eq Tryz.f40 (by kernel_rfl) (by kernel_rfl) (by kernel_rfl) rfl (by kernel_rfl)
theorem eq_42 {p : Id} {args : List A} {h : Heap} : callW E p 42 args h = (execW E 42 p ((Tryz.f42.body).getD .skip) (initFr args) 0 h).bind (resX E.P false p Tryz.f42.results.toList) := callW_eq Tryz.f42 (by kernel_rfl) (by kernel_rfl) (by kernel_rfl) rfl (by kernel_rfl)
theorem rd_43_4 {p : Id} {L : List Nat} {c0 c : Nat} {fr : Fr} {h : Heap} : iterW E 43 p L L_43_4 c0 fr c h = (execW E 43 p ((((Tryz.f43.body).getD .skip).loopAt 4).getD .skip) fr c h).bind (loopX E 43 p L L_43_4 c0) := iterW_eq2 (by kernel_rfl)
theorem eq_43 {p : Id} {args : List A} {h : Heap} : callW E p 43 args h = (execW E 43 p (((Tryz.f43.body).getD .skip).hide [(4, L_43_4)]) (initFr args) 0 h).bind (resX E.P false p Tryz.f43.results.toList) := callW_eq Tryz.f43 (by kernel_rfl) (by kernel_rfl) (by kernel_rfl) rfl (by kernel_rfl)
theorem rd_44_3 {p : Id} {L : List Nat} {c0 c : Nat} {fr : Fr} {h : Heap} : iterW E 44 p L L_44_3 c0 fr c h = (execW E 44 p ((((Tryz.f44.body).getD .skip).loopAt 3).getD .skip) fr c h).bind (loopX E 44 p L L_44_3 c0) := iterW_eq2 (by kernel_rfl)
theorem eq_44 {p : Id} {args : List A} {h : Heap} : callW E p 44 args h = (execW E 44 p (((Tryz.f44.body).getD .skip).hide [(3, L_44_3)]) (initFr args) 0 h).bind (resX E.P false p Tryz.f44.results.toList) := callW_eq Tryz.f44 (by kernel_rfl) (by kernel_rfl) (by kernel_rfl) rfl (by kernel_rfl)
theorem eq_45 {p : Id} {args : List A} {h : Heap} : callW E p 45 args h = (execW E 45 p ((Tryz.f45.body).getD .skip) (initFr args) 0 h).bind (resX E.P false p Tryz.f45.results.toList) := callW_eq Tryz.f45 (by kernel_rfl) (by kernel_rfl) (by kernel_rfl) rfl (by kernel_rfl)
theorem rd_46_2 {p : Id} {L : List Nat} {c0 c : Nat} {fr : Fr} {h : Heap} : iterW E 46 p L L_46_2 c0 fr c h = (execW E 46 p ((((Tryz.f46.body).getD .skip).loopAt 2).getD .skip) fr c h).bind (loopX E 46 p L L_46_2 c0) := iterW_eq2 (by kernel_rfl)
theorem eq_46 {p : Id} {args : List A} {h : Heap} : callW E p 46 args h = (execW E 46 p (((Tryz.f46.body).getD .skip).hide [(2, L_46_2)]) (initFr args) 0 h).bind (resX E.P false p Tryz.f46.results.toList) := callW_eq Tryz.f46 (by kernel_rfl) (by kernel_rfl) (by kernel_rfl) rfl (by kernel_rfl)
theorem eq_47 {p : Id} {args : List A} {h : Heap} : callW E p 47 args h = (execW E 47 p ((Tryz.f47.body).getD .skip) (initFr args) 0 h).bind (resX E.P false p Tryz.f47.results.toList) := callW_eq Tryz.f47 (by kernel_rfl) (by kernel_rfl) (by kernel_rfl) rfl (by kernel_rfl)
theorem rd_48_1 {p : Id} {L : List Nat} {c0 c : Nat} {fr : Fr} {h : Heap} : iterW E 48 p L L_48_1 c0 fr c h = (execW E 48 p ((((Tryz.f48.body).getD .skip).loopAt 1).getD .skip) fr c h).bind (loopX E 48 p L L_48_1 c0) := iterW_eq2 (by kernel_rfl)
theorem eq_48 {p : Id} {args : List A} {h : Heap} : callW E p 48 args h = (execW E 48 p (((Tryz.f48.body).getD .skip).hide [(1, L_48_1)]) (initFr args) 0 h).bind (resX E.P false p Tryz.f48.results.toList) := callW_eq Tryz.f48 (by kernel_rfl) (by kernel_rfl) (by kernel_rfl) rfl (by kernel_rfl)
theorem eq_49 {p : Id} {args : List A} {h : Heap} : callW E p 49 args h = (execW E 49 p ((Tryz.f49.body).getD .skip) (initFr args) 0 h).bind (resX E.P false p Tryz.f49.results.toList) := callW_eq Tryz.f49 (by kernel_rfl) (by kernel_rfl) (by kernel_rfl) rfl (by kernel_rfl)
theorem rd_50_1 {p : Id} {L : List Nat} {c0 c : Nat} {fr : Fr} {h : Heap} : iterW E 50 p L L_50_1 c0 fr c h = (execW E 50 p ((((Tryz.f50.body).getD .skip).loopAt 1).getD .skip) fr c h).bind (loopX E 50 p L L_50_1 c0) := iterW_eq2 (by kernel_rfl)
theorem eq_50 {p : Id} {args : List A} {h : Heap} : callW E p 50 args h = (execW E 50 p (((Tryz.f50.body).getD .skip).hide [(1, L_50_1)]) (initFr args) 0 h).bind (resX E.P false p Tryz.f50.results.toList) := callW_eq Tryz.f50 (by kernel_rfl) (by kernel_rfl) (by kernel_rfl) rfl (by kernel_rfl)
theorem eq_51 {p : Id} {args : List A} {h : Heap} : callW E p 51 args h = (execW E 51 p ((Tryz.f51.body).getD .skip) (initFr args) 0 h).bind (resX E.P false p Tryz.f51.results.toList) := callW_eq Tryz.f51 (by kernel_rfl) (by kernel_rfl) (by kernel_rfl) rfl (by kernel_rfl)
theorem eq_52 {p : Id} {args : List A} {h : Heap} : callW E p 52 args h = (execW E 52 p ((Tryz.f52.body).getD .skip) (initFr args) 0 h).bind (resX E.P false p Tryz.f52.results.toList) := callW_eq Tryz.f52 (by kernel_rfl) (by kernel_rfl) (by kernel_rfl) rfl (by kernel_rfl)
theorem eq_53 {p : Id} {args : List A} {h : Heap} : callW E p 53 args h = (execW E 53 p ((Tryz.f53.body).getD .skip) (initFr args) 0 h).bind (resX E.P false p Tryz.f53.results.toList) := callW_eq Tryz.f53 (by kernel_rfl) (by kernel_rfl) (by kernel_rfl) rfl (by kernel_rfl)
theorem eq_54 {p : Id} {args : List A} {h : Heap} : callW E p 54 args h = (execW E 54 p ((Tryz.f54.body).getD .skip) (initFr args) 0 h).bind (resX E.P false p Tryz.f54.results.toList) := callW_eq Tryz.f54 (by kernel_rfl) (by kernel_rfl) (by kernel_rfl) rfl (by kernel_rfl)
theorem eq_55 {p : Id} {args : List A} {h : Heap} : callW E p 55 args h = (execW E 55 p ((Tryz.f55.body).getD .skip) (initFr args) 0 h).bind (resX E.P false p Tryz.f55.results.toList) := callW_eq Tryz.f55 (by kernel_rfl) (by kernel_rfl) (by kernel_rfl) rfl (by kernel_rfl)
theorem eq_56 {p : Id} {args : List A} {h : Heap} : callW E p 56 args h = (execW E 56 p ((Tryz.f56.body).getD .skip) (initFr args) 0 h).bind (resX E.P false p Tryz.f56.results.toList) := callW_eq Tryz.f56 (by kernel_rfl) (by kernel_rfl) (by kernel_rfl) rfl (by kernel_rfl)
theorem rd_57_2 {p : Id} {L : List Nat} {c0 c : Nat} {fr : Fr} {h : Heap} : iterW E 57 p L L_57_2 c0 fr c h = (execW E 57 p ((((Tryz.f57.body).getD .skip).loopAt 2).getD .skip) fr c h).bind (loopX E 57 p L L_57_2 c0) := iterW_eq2 (by kernel_rfl)
theorem eq_57 {p : Id} {args : List A} {h : Heap} : callW E p 57 args h = (execW E 57 p (((Tryz.f57.body).getD .skip).hide [(2, L_57_2)]) (initFr args) 0 h).bind (resX E.P false p Tryz.f57.results.toList) := callW_eq Tryz.f57 (by kernel_rfl) (by kernel_rfl) (by kernel_rfl) rfl (by kernel_rfl)
theorem rd_58_3 {p : Id} {L : List Nat} {c0 c : Nat} {fr : Fr} {h : Heap} : iterW E 58 p L L_58_3 c0 fr c h = (execW E 58 p ((((Tryz.f58.body).getD .skip).loopAt 3).getD .skip) fr c h).bind (loopX E 58 p L L_58_3 c0) := iterW_eq2 (by kernel_rfl)
theorem eq_58 {p : Id} {args : List A} {h : Heap} : callW E p 58 args h = (execW E 58 p (((Tryz.f58.body).getD .skip).hide [(3, L_58_3)]) (initFr args) 0 h).bind (resX E.P false p Tryz.f58.results.toList) := callW_eq Tryz.f58 (by kernel_rfl) (by kernel_rfl) (by kernel_rfl) rfl (by kernel_rfl)
theorem eq_59 {p : Id} {args : List A} {h : Heap} : callW E p 59 args h = (execW E 59 p ((Tryz.f59.body).getD .skip) (initFr args) 0 h).bind (resX E.P false p Tryz.f59.results.toList) := callW_eq Tryz.f59 (by kernel_rfl) (by kernel_rfl) (by kernel_rfl) rfl (by kernel_rfl)
theorem eq_60 {p : Id} {args : List A} {h : Heap} : callW E p 60 args h = (execW E 60 p ((Tryz.f60.body).getD .skip) (initFr args) 0 h).bind (resX E.P false p Tryz.f60.results.toList) := callW_eq Tryz.f60 (by kernel_rfl) (by kernel_rfl) (by kernel_rfl) rfl (by kernel_rfl)
theorem rd_61_3 {p : Id} {L : List Nat} {c0 c : Nat} {fr : Fr} {h : Heap} : iterW E 61 p L L_61_3 c0 fr c h = (execW E 61 p ((((Tryz.f61.body).getD .skip).loopAt 3).getD .skip) fr c h).bind (loopX E 61 p L L_61_3 c0) := iterW_eq2 (by kernel_rfl)
theorem eq_61 {p : Id} {args : List A} {h : Heap} : callW E p 61 args h = (execW E 61 p (((Tryz.f61.body).getD .skip).hide [(3, L_61_3)]) (initFr args) 0 h).bind (resX E.P false p Tryz.f61.results.toList) := callW_eq Tryz.f61 (by kernel_rfl) (by kernel_rfl) (by kernel_rfl) rfl (by kernel_rfl)
theorem eq_62 {p : Id} {args : List A} {h : Heap} : callW E p 62 args h = (execW E 62 p ((Tryz.f62.body).getD .skip) (initFr args) 0 h).bind (resX E.P false p Tryz.f62.results.toList) := callW_eq Tryz.f62 (by kernel_rfl) (by kernel_rfl) (by kernel_rfl) rfl (by kernel_rfl)
theorem rd_63_4 {p : Id} {L : List Nat} {c0 c : Nat} {fr : Fr} {h : Heap} : iterW E 63 p L L_63_4 c0 fr c h = (execW E 63 p ((((Tryz.f63.body).getD .skip).loopAt 4).getD .skip) fr c h).bind (loopX E 63 p L L_63_4 c0) := iterW_eq2 (by kernel_rfl)
theorem eq_63 {p : Id} {args : List A} {h : Heap} : callW E p 63 args h = (execW E 63 p (((Tryz.f63.body).getD .skip).hide [(4, L_63_4)]) (initFr args) 0 h).bind (resX E.P false p Tryz.f63.results.toList) := callW_eq Tryz.f63 (by kernel_rfl) (by kernel_rfl) (by kernel_rfl) rfl (by kernel_rfl)
theorem eq_64 {p : Id} {args : List A} {h : Heap} : callW E p 64 args h = (execW E 64 p ((Tryz.f64.body).getD .skip) (initFr args) 0 h).bind (resX E.P false p Tryz.f64.results.toList) := callW_eq Tryz.f64 (by kernel_rfl) (by kernel_rfl) (by kernel_rfl) rfl (by kernel_rfl)
theorem eq_65 {p : Id} {args : List A} {h : Heap} : callW E p 65 args h = (execW E 65 p ((Tryz.f65.body).getD .skip) (initFr args) 0 h).bind (resX E.P false p Tryz.f65.results.toList) := callW_eq Tryz.f65 (by kernel_rfl) (by kernel_rfl) (by kernel_rfl) rfl (by kernel_rfl)
theorem rd_66_3 {p : Id} {L : List Nat} {c0 c : Nat} {fr : Fr} {h : Heap} : iterW E 66 p L L_66_3 c0 fr c h = (execW E 66 p ((((Tryz.f66.body).getD .skip).loopAt 3).getD .skip) fr c h).bind (loopX E 66 p L L_66_3 c0) := iterW_eq2 (by kernel_rfl)
theorem eq_66 {p : Id} {args : List A} {h : Heap} : callW E p 66 args h = (execW E 66 p (((Tryz.f66.body).getD .skip).hide [(3, L_66_3)]) (initFr args) 0 h).bind (resX E.P false p Tryz.f66.results.toList) := callW_eq Tryz.f66 (by kernel_rfl) (by kernel_rfl) (by kernel_rfl) rfl (by kernel_rfl)
theorem eq_67 {p : Id} {args : List A} {h : Heap} : callW E p 67 args h = (execW E 67 p ((Tryz.f67.body).getD .skip) (initFr args) 0 h).bind (resX E.P false p Tryz.f67.results.toList) := callW_eq Tryz.f67 (by kernel_rfl) (by kernel_rfl) (by kernel_rfl) rfl (by kernel_rfl)
theorem rd_68_3 {p : Id} {L : List Nat} {c0 c : Nat} {fr : Fr} {h : Heap} : iterW E 68 p L L_68_3 c0 fr c h = (execW E 68 p ((((Tryz.f68.body).getD .skip).loopAt 3).getD .skip) fr c h).bind (loopX E 68 p L L_68_3 c0) := iterW_eq2 (by kernel_rfl)
theorem eq_68 {p : Id} {args : List A} {h : Heap} : callW E p 68 args h = (execW E 68 p (((Tryz.f68.body).getD .skip).hide [(3, L_68_3)]) (initFr args) 0 h).bind (resX E.P false p Tryz.f68.results.toList) := callW_eq Tryz.f68 (by kernel_rfl) (by kernel_rfl) (by kernel_rfl) rfl (by kernel_rfl)
theorem eq_69 {p : Id} {args : List A} {h : Heap} : callW E p 69 args h = (execW E 69 p ((Tryz.f69.body).getD .skip) (initFr args) 0 h).bind (resX E.P false p Tryz.f69.results.toList) := callW_eq Tryz.f69 (by kernel_rfl) (by kernel_rfl) (by kernel_rfl) rfl (by kernel_rfl)
theorem eq_71 {p : Id} {args : List A} {h : Heap} : callW E p 71 args h = (execW E 71 p ((Tryz.f71.body).getD .skip) (initFr args) 0 h).bind (resX E.P false p Tryz.f71.results.toList) := callW_eq Tryz.f71 (by kernel_rfl) (by kernel_rfl) (by kernel_rfl) rfl (by kernel_rfl)
theorem eq_72 {p : Id} {args : List A} {h : Heap} : callW E p 72 args h = (execW E 72 p ((Tryz.f72.body).getD .skip) (initFr args) 0 h).bind (resX E.P false p Tryz.f72.results.toList) := callW_eq Tryz.f72 (by kernel_rfl) (by kernel_rfl) (by kernel_rfl) rfl (by kernel_rfl)
theorem eq_73 {p : Id} {args : List A} {h : Heap} : callW E p 73 args h = (execW E 73 p ((Tryz.f73.body).getD .skip) (initFr args) 0 h).bind (resX E.P false p Tryz.f73.results.toList) := callW_eq Tryz.f73 (by kernel_rfl) (by kernel_rfl) (by kernel_rfl) rfl (by kernel_rfl)
theorem rd_74_4 {p : Id} {L : List Nat} {c0 c : Nat} {fr : Fr} {h : Heap} : iterW E 74 p L L_74_4 c0 fr c h = (execW E 74 p ((((Tryz.f74.body).getD .skip).loopAt 4).getD .skip) fr c h).bind (loopX E 74 p L L_74_4 c0) := iterW_eq2 (by kernel_rfl)
theorem eq_74 {p : Id} {args : List A} {h : Heap} : callW E p 74 args h = (execW E 74 p (((Tryz.f74.body).getD .skip).hide [(4, L_74_4)]) (initFr args) 0 h).bind (resX E.P false p Tryz.f74.results.toList) := callW_eq Tryz.f74 (by kernel_rfl) (by kernel_rfl) (by kernel_rfl) rfl (by kernel_rfl)
theorem eq_75 {p : Id} {args : List A} {h : Heap} : callW E p 75 args h = (execW E 75 p ((Tryz.f75.body).getD .skip) (initFr args) 0 h).bind (resX E.P false p Tryz.f75.results.toList) := callW_eq Tryz.f75 (by kernel_rfl) (by kernel_rfl) (by kernel_rfl) rfl (by kernel_rfl)
theorem rd_76_2 {p : Id} {L : List Nat} {c0 c : Nat} {fr : Fr} {h : Heap} : iterW E 76 p L L_76_2 c0 fr c h = (execW E 76 p ((((Tryz.f76.body).getD .skip).loopAt 2).getD .skip) fr c h).bind (loopX E 76 p L L_76_2 c0) := iterW_eq2 (by kernel_rfl)
theorem eq_76 {p : Id} {args : List A} {h : Heap} : callW E p 76 args h = (execW E 76 p (((Tryz.f76.body).getD .skip).hide [(2, L_76_2)]) (initFr args) 0 h).bind (resX E.P false p Tryz.f76.results.toList) := callW_eq Tryz.f76 (by kernel_rfl) (by kernel_rfl) (by kernel_rfl) rfl (by kernel_rfl)
theorem eq_77 {p : Id} {args : List A} {h : Heap} : callW E p 77 args h = (execW E 77 p ((Tryz.f77.body).getD .skip) (initFr args) 0 h).bind (resX E.P false p Tryz.f77.results.toList) := callW_eq Tryz.f77 (by kernel_rfl) (by kernel_rfl) (by kernel_rfl) rfl (by kernel_rfl)
theorem eq_78 {p : Id} {args : List A} {h : Heap} : callW E p 78 args h = (execW E 78 p ((Tryz.f78.body).getD .skip) (initFr args) 0 h).bind (resX E.P false p Tryz.f78.results.toList) := callW_eq Tryz.f78 (by kernel_rfl) (by kernel_rfl) (by kernel_rfl) rfl (by kernel_rfl)
theorem rd_79_3 {p : Id} {L : List Nat} {c0 c : Nat} {fr : Fr} {h : Heap} : iterW E 79 p L L_79_3 c0 fr c h = (execW E 79 p ((((Tryz.f79.body).getD .skip).loopAt 3).getD .skip) fr c h).bind (loopX E 79 p L L_79_3 c0) := iterW_eq2 (by kernel_rfl)
theorem eq_79 {p : Id} {args : List A} {h : Heap} : callW E p 79 args h = (execW E 79 p (((Tryz.f79.body).getD .skip).hide [(3, L_79_3)]) (initFr args) 0 h).bind (resX E.P false p Tryz.f79.results.toList) := callW_eq Tryz.f79 (by kernel_rfl) (by kernel_rfl) (by kernel_rfl) rfl (by kernel_rfl)
theorem eq_80 {p : Id} {args : List A} {h : Heap} : callW E p 80 args h = (execW E 80 p ((Tryz.f80.body).getD .skip) (initFr args) 0 h).bind (resX E.P false p Tryz.f80.results.toList) := callW_eq Tryz.f80 (by kernel_rfl) (by kernel_rfl) (by kernel_rfl) rfl (by kernel_rfl)
theorem eq_81 {p : Id} {args : List A} {h : Heap} : callW E p 81 args h = (execW E 81 p ((Tryz.f81.body).getD .skip) (initFr args) 0 h).bind (resX E.P false p Tryz.f81.results.toList) := callW_eq Tryz.f81 (by kernel_rfl) (by kernel_rfl) (by kernel_rfl) rfl (by kernel_rfl)
theorem rd_82_7 {p : Id} {L : List Nat} {c0 c : Nat} {fr : Fr} {h : Heap} : iterW E 82 p L L_82_7 c0 fr c h = (execW E 82 p ((((Tryz.f82.body).getD .skip).loopAt 7).getD .skip) fr c h).bind (loopX E 82 p L L_82_7 c0) := iterW_eq2 (by kernel_rfl)
theorem eq_82 {p : Id} {args : List A} {h : Heap} : callW E p 82 args h = (execW E 82 p (((Tryz.f82.body).getD .skip).hide [(7, L_82_7)]) (initFr args) 0 h).bind (resX E.P false p Tryz.f82.results.toList) := callW_eq Tryz.f82 (by kernel_rfl) (by kernel_rfl) (by kernel_rfl) rfl (by kernel_rfl)
theorem eq_83 {p : Id} {args : List A} {h : Heap} : callW E p 83 args h = (execW E 83 p ((Tryz.f83.body).getD .skip) (initFr args) 0 h).bind (resX E.P false p Tryz.f83.results.toList) := callW_eq Tryz.f83 (by kernel_rfl) (by kernel_rfl) (by kernel_rfl) rfl (by kernel_rfl)
theorem rd_87_1 {p : Id} {L : List Nat} {c0 c : Nat} {fr : Fr} {h : Heap} : iterW E 87 p L L_87_1 c0 fr c h = (execW E 87 p (((((Tryz.f87.body).getD .skip).loopAt 1).getD .skip).hide [(18, L_87_18)]) fr c h).bind (loopX E 87 p L L_87_1 c0) := iterW_eq2 (by kernel_rfl)
theorem rd_87_18 {p : Id} {L : List Nat} {c0 c : Nat} {fr : Fr} {h : Heap} : iterW E 87 p L L_87_18 c0 fr c h = (execW E 87 p ((((Tryz.f87.body).getD .skip).loopAt 18).getD .skip) fr c h).bind (loopX E 87 p L L_87_18 c0) := iterW_eq2 (by kernel_rfl)
theorem eq_87 {p : Id} {args : List A} {h : Heap} : callW E p 87 args h = (execW E 87 p (((Tryz.f87.body).getD .skip).hide [(1, L_87_1)]) (initFr args) 0 h).bind (resX E.P false p Tryz.f87.results.toList) := callW_eq Tryz.f87 (by kernel_rfl) (by kernel_rfl) (by kernel_rfl) rfl (by kernel_rfl)
theorem rd_88_5 {p : Id} {L : List Nat} {c0 c : Nat} {fr : Fr} {h : Heap} : iterW E 88 p L L_88_5 c0 fr c h = (execW E 88 p ((((Tryz.f88.body).getD .skip).loopAt 5).getD .skip) fr c h).bind (loopX E 88 p L L_88_5 c0) := iterW_eq2 (by kernel_rfl)
theorem eq_88 {p : Id} {args : List A} {h : Heap} : callW E p 88 args h = (execW E 88 p (((Tryz.f88.body).getD .skip).hide [(5, L_88_5)]) (initFr args) 0 h).bind (resX E.P false p Tryz.f88.results.toList) := callW_eq Tryz.f88 (by kernel_rfl) (by kernel_rfl) (by kernel_rfl) rfl (by kernel_rfl)
theorem eq_89 {p : Id} {args : List A} {h : Heap} : callW E p 89 args h = (execW E 89 p ((Tryz.f89.body).getD .skip) (initFr args) 0 h).bind (resX E.P false p Tryz.f89.results.toList) := callW_eq Tryz.f89 (by kernel_rfl) (by kernel_rfl) (by kernel_rfl) rfl (by kernel_rfl)
theorem eq_90 {p : Id} {args : List A} {h : Heap} : callW E p 90 args h = (execW E 90 p ((Tryz.f90.body).getD .skip) (initFr args) 0 h).bind (resX E.P false p Tryz.f90.results.toList) := callW_eq Tryz.f90 (by kernel_rfl) (by kernel_rfl) (by kernel_rfl) rfl (by kernel_rfl)
theorem eq_91 {p : Id} {args : List A} {h : Heap} : callW E p 91 args h = (execW E 91 p ((Tryz.f91.body).getD .skip) (initFr args) 0 h).bind (resX E.P false p Tryz.f91.results.toList) := callW_eq Tryz.f91 (by kernel_rfl) (by kernel_rfl) (by kernel_rfl) rfl (by kernel_rfl)
theorem eq_92 {p : Id} {args : List A} {h : Heap} : callW E p 92 args h = (execW E 92 p ((Tryz.f92.body).getD .skip) (initFr args) 0 h).bind (resX E.P false p Tryz.f92.results.toList) := callW_eq Tryz.f92 (by kernel_rfl) (by kernel_rfl) (by kernel_rfl) rfl (by kernel_rfl)
theorem eq_93 {p : Id} {args : List A} {h : Heap} : callW E p 93 args h = (execW E 93 p ((Tryz.f93.body).getD .skip) (initFr args) 0 h).bind (resX E.P false p Tryz.f93.results.toList) := callW_eq Tryz.f93 (by kernel_rfl) (by kernel_rfl) (by kernel_rfl) rfl (by kernel_rfl)
theorem eq_94 {p : Id} {args : List A} {h : Heap} : callW E p 94 args h = (execW E 94 p ((Tryz.f94.body).getD .skip) (initFr args) 0 h).bind (resX E.P false p Tryz.f94.results.toList) := callW_eq Tryz.f94 (by kernel_rfl) (by kernel_rfl) (by kernel_rfl) rfl (by kernel_rfl)
theorem eq_95 {p : Id} {args : List A} {h : Heap} : callW E p 95 args h = (execW E 95 p ((Tryz.f95.body).getD .skip) (initFr args) 0 h).bind (resX E.P false p Tryz.f95.results.toList) := callW_eq Tryz.f95 (by kernel_rfl) (by kernel_rfl) (by kernel_rfl) rfl (by kernel_rfl)
theorem eq_96 {p : Id} {args : List A} {h : Heap} : callW E p 96 args h = (execW E 96 p ((Tryz.f96.body).getD .skip) (initFr args) 0 h).bind (resX E.P false p Tryz.f96.results.toList) := callW_eq Tryz.f96 (by kernel_rfl) (by kernel_rfl) (by kernel_rfl) rfl (by kernel_rfl)
theorem eq_97 {p : Id} {args : List A} {h : Heap} : callW E p 97 args h = (execW E 97 p ((Tryz.f97.body).getD .skip) (initFr args) 0 h).bind (resX E.P false p Tryz.f97.results.toList) := callW_eq Tryz.f97 (by kernel_rfl) (by kernel_rfl) (by kernel_rfl) rfl (by kernel_rfl)
theorem rd_98_2 {p : Id} {L : List Nat} {c0 c : Nat} {fr : Fr} {h : Heap} : iterW E 98 p L L_98_2 c0 fr c h = (execW E 98 p ((((Tryz.f98.body).getD .skip).loopAt 2).getD .skip) fr c h).bind (loopX E 98 p L L_98_2 c0) := iterW_eq2 (by kernel_rfl)
theorem eq_98 {p : Id} {args : List A} {h : Heap} : callW E p 98 args h = (execW E 98 p (((Tryz.f98.body).getD .skip).hide [(2, L_98_2)]) (initFr args) 0 h).bind (resX E.P false p Tryz.f98.results.toList) := callW_eq Tryz.f98 (by kernel_rfl) (by kernel_rfl) (by kernel_rfl) rfl (by kernel_rfl)
theorem eq_99 {p : Id} {args : List A} {h : Heap} : callW E p 99 args h = (execW E 99 p ((Tryz.f99.body).getD .skip) (initFr args) 0 h).bind (resX E.P false p Tryz.f99.results.toList) := callW_eq Tryz.f99 (by kernel_rfl) (by kernel_rfl) (by kernel_rfl) rfl (by kernel_rfl)
theorem eq_100 {p : Id} {args : List A} {h : Heap} : callW E p 100 args h = (execW E 100 p ((Tryz.f100.body).getD .skip) (initFr args) 0 h).bind (resX E.P false p Tryz.f100.results.toList) := callW_eq Tryz.f100 (by kernel_rfl) (by kernel_rfl) (by kernel_rfl) rfl (by kernel_rfl)
theorem eq_101 {p : Id} {args : List A} {h : Heap} : callW E p 101 args h = (execW E 101 p ((Tryz.f101.body).getD .skip) (initFr args) 0 h).bind (resX E.P false p Tryz.f101.results.toList) := callW_eq Tryz.f101 (by kernel_rfl) (by kernel_rfl) (by kernel_rfl) rfl (by kernel_rfl)
theorem rd_102_4 {p : Id} {L : List Nat} {c0 c : Nat} {fr : Fr} {h : Heap} : iterW E 102 p L L_102_4 c0 fr c h = (execW E 102 p ((((Tryz.f102.body).getD .skip).loopAt 4).getD .skip) fr c h).bind (loopX E 102 p L L_102_4 c0) := iterW_eq2 (by kernel_rfl)
theorem eq_102 {p : Id} {args : List A} {h : Heap} : callW E p 102 args h = (execW E 102 p (((Tryz.f102.body).getD .skip).hide [(4, L_102_4)]) (initFr args) 0 h).bind (resX E.P false p Tryz.f102.results.toList) := callW_eq Tryz.f102 (by kernel_rfl) (by kernel_rfl) (by kernel_rfl) rfl (by kernel_rfl)
theorem eq_103 {p : Id} {args : List A} {h : Heap} : callW E p 103 args h = (execW E 103 p ((Tryz.f103.body).getD .skip) (initFr args) 0 h).bind (resX E.P false p Tryz.f103.results.toList) := callW_eq Tryz.f103 (by kernel_rfl) (by kernel_rfl) (by kernel_rfl) rfl (by kernel_rfl)
theorem eq_104 {p : Id} {args : List A} {h : Heap} : callW E p 104 args h = (execW E 104 p ((Tryz.f104.body).getD .skip) (initFr args) 0 h).bind (resX E.P false p Tryz.f104.results.toList) := callW_eq Tryz.f104 (by kernel_rfl) (by kernel_rfl) (by kernel_rfl) rfl (by kernel_rfl)
theorem eq_105 {p : Id} {args : List A} {h : Heap} : callW E p 105 args h = (execW E 105 p ((Tryz.f105.body).getD .skip) (initFr args) 0 h).bind (resX E.P false p Tryz.f105.results.toList) := callW_eq Tryz.f105 (by kernel_rfl) (by kernel_rfl) (by kernel_rfl) rfl (by kernel_rfl)
theorem eq_106 {p : Id} {args : List A} {h : Heap} : callW E p 106 args h = (execW E 106 p ((Tryz.f106.body).getD .skip) (initFr args) 0 h).bind (resX E.P false p Tryz.f106.results.toList) := callW_eq Tryz.f106 (by kernel_rfl) (by kernel_rfl) (by kernel_rfl) rfl (by kernel_rfl)
theorem rd_108_1 {p : Id} {L : List Nat} {c0 c : Nat} {fr : Fr} {h : Heap} : iterW E 108 p L L_108_1 c0 fr c h = (execW E 108 p ((((Tryz.f108.body).getD .skip).loopAt 1).getD .skip) fr c h).bind (loopX E 108 p L L_108_1 c0) := iterW_eq2 (by kernel_rfl)
theorem eq_108 {p : Id} {args : List A} {h : Heap} : callW E p 108 args h = (execW E 108 p (((Tryz.f108.body).getD .skip).hide [(1, L_108_1)]) (initFr args) 0 h).bind (resX E.P false p Tryz.f108.results.toList) := callW_eq Tryz.f108 (by kernel_rfl) (by kernel_rfl) (by kernel_rfl) rfl (by kernel_rfl)
theorem eq_109 {p : Id} {args : List A} {h : Heap} : callW E p 109 args h = (execW E 109 p ((Tryz.f109.body).getD .skip) (initFr args) 0 h).bind (resX E.P false p Tryz.f109.results.toList) := callW_eq Tryz.f109 (by kernel_rfl) (by kernel_rfl) (by kernel_rfl) rfl (by kernel_rfl)
theorem eq_110 {p : Id} {args : List A} {h : Heap} : callW E p 110 args h = (execW E 110 p ((Tryz.f110.body).getD .skip) (initFr args) 0 h).bind (resX E.P false p Tryz.f110.results.toList) := callW_eq Tryz.f110 (by kernel_rfl) (by kernel_rfl) (by kernel_rfl) rfl (by kernel_rfl)
theorem rd_111_3 {p : Id} {L : List Nat} {c0 c : Nat} {fr : Fr} {h : Heap} : iterW E 111 p L L_111_3 c0 fr c h = (execW E 111 p ((((Tryz.f111.body).getD .skip).loopAt 3).getD .skip) fr c h).bind (loopX E 111 p L L_111_3 c0) := iterW_eq2 (by kernel_rfl)
theorem eq_111 {p : Id} {args : List A} {h : Heap} : callW E p 111 args h = (execW E 111 p (((Tryz.f111.body).getD .skip).hide [(3, L_111_3)]) (initFr args) 0 h).bind (resX E.P false p Tryz.f111.results.toList) := callW_eq Tryz.f111 (by kernel_rfl) (by kernel_rfl) (by kernel_rfl) rfl (by kernel_rfl)
theorem eq_112 {p : Id} {args : List A} {h : Heap} : callW E p 112 args h = (execW E 112 p ((Tryz.f112.body).getD .skip) (initFr args) 0 h).bind (resX E.P false p Tryz.f112.results.toList) := callW_eq Tryz.f112 (by kernel_rfl) (by kernel_rfl) (by kernel_rfl) rfl (by kernel_rfl)
theorem eq_113 {p : Id} {args : List A} {h : Heap} : callW E p 113 args h = (execW E 113 p ((Tryz.f113.body).getD .skip) (initFr args) 0 h).bind (resX E.P true p Tryz.f113.results.toList) := callW_eq Tryz.f113 (by kernel_rfl) (by kernel_rfl) (by kernel_rfl) rfl (by kernel_rfl)
theorem eq_114 {p : Id} {args : List A} {h : Heap} : callW E p 114 args h = (execW E 114 p ((Tryz.f114.body).getD .skip) (initFr args) 0 h).bind (resX E.P false p Tryz.f114.results.toList) := callW_eq Tryz.f114 (by kernel_rfl) (by kernel_rfl) (by kernel_rfl) rfl (by kernel_rfl)
theorem eq_115 {p : Id} {args : List A} {h : Heap} : callW E p 115 args h = (execW E 115 p ((Tryz.f115.body).getD .skip) (initFr args) 0 h).bind (resX E.P true p Tryz.f115.results.toList) := callW_eq Tryz.f115 (by kernel_rfl) (by kernel_rfl) (by kernel_rfl) rfl (by kernel_rfl)
theorem eq_116 {p : Id} {args : List A} {h : Heap} : callW E p 116 args h = (execW E 116 p ((Tryz.f116.body).getD .skip) (initFr args) 0 h).bind (resX E.P false p Tryz.f116.results.toList) := callW_eq Tryz.f116 (by kernel_rfl) (by kernel_rfl) (by kernel_rfl) rfl (by kernel_rfl)
theorem rd_117_2 {p : Id} {L : List Nat} {c0 c : Nat} {fr : Fr} {h : Heap} : iterW E 117 p L L_117_2 c0 fr c h = (execW E 117 p ((((Tryz.f117.body).getD .skip).loopAt 2).getD .skip) fr c h).bind (loopX E 117 p L L_117_2 c0) := iterW_eq2 (by kernel_rfl)
theorem eq_117 {p : Id} {args : List A} {h : Heap} : callW E p 117 args h = (execW E 117 p (((Tryz.f117.body).getD .skip).hide [(2, L_117_2)]) (initFr args) 0 h).bind (resX E.P false p Tryz.f117.results.toList) := callW_eq Tryz.f117 (by kernel_rfl) (by kernel_rfl) (by kernel_rfl) rfl (by kernel_rfl)
theorem eq_118 {p : Id} {args : List A} {h : Heap} : callW E p 118 args h = (execW E 118 p ((Tryz.f118.body).getD .skip) (initFr args) 0 h).bind (resX E.P false p Tryz.f118.results.toList) := callW_eq Tryz.f118 (by kernel_rfl) (by kernel_rfl) (by kernel_rfl) rfl (by kernel_rfl)
theorem rd_119_3 {p : Id} {L : List Nat} {c0 c : Nat} {fr : Fr} {h : Heap} : iterW E 119 p L L_119_3 c0 fr c h = (execW E 119 p ((((Tryz.f119.body).getD .skip).loopAt 3).getD .skip) fr c h).bind (loopX E 119 p L L_119_3 c0) := iterW_eq2 (by kernel_rfl)
theorem eq_119 {p : Id} {args : List A} {h : Heap} : callW E p 119 args h = (execW E 119 p (((Tryz.f119.body).getD .skip).hide [(3, L_119_3)]) (initFr args) 0 h).bind (resX E.P false p Tryz.f119.results.toList) := callW_eq Tryz.f119 (by kernel_rfl) (by kernel_rfl) (by kernel_rfl) rfl (by kernel_rfl)
theorem rd_120_4 {p : Id} {L : List Nat} {c0 c : Nat} {fr : Fr} {h : Heap} : iterW E 120 p L L_120_4 c0 fr c h = (execW E 120 p ((((Tryz.f120.body).getD .skip).loopAt 4).getD .skip) fr c h).bind (loopX E 120 p L L_120_4 c0) := iterW_eq2 (by kernel_rfl)
theorem eq_120 {p : Id} {args : List A} {h : Heap} : callW E p 120 args h = (execW E 120 p (((Tryz.f120.body).getD .skip).hide [(4, L_120_4)]) (initFr args) 0 h).bind (resX E.P false p Tryz.f120.results.toList) := callW_eq Tryz.f120 (by kernel_rfl) (by kernel_rfl) (by kernel_rfl) rfl (by kernel_rfl)
theorem rd_124_9 {p : Id} {L : List Nat} {c0 c : Nat} {fr : Fr} {h : Heap} : iterW E 124 p L L_124_9 c0 fr c h = (execW E 124 p ((((Tryz.f124.body).getD .skip).loopAt 9).getD .skip) fr c h).bind (loopX E 124 p L L_124_9 c0) := iterW_eq2 (by kernel_rfl)
theorem eq_124 {p : Id} {args : List A} {h : Heap} : callW E p 124 args h = (execW E 124 p (((Tryz.f124.body).getD .skip).hide [(9, L_124_9)]) (initFr args) 0 h).bind (resX E.P false p Tryz.f124.results.toList) := callW_eq Tryz.f124 (by kernel_rfl) (by kernel_rfl) (by kernel_rfl) rfl (by kernel_rfl)
theorem eq_125 {p : Id} {args : List A} {h : Heap} : callW E p 125 args h = (execW E 125 p ((Tryz.f125.body).getD .skip) (initFr args) 0 h).bind (resX E.P false p Tryz.f125.results.toList) := callW_eq Tryz.f125 (by kernel_rfl) (by kernel_rfl) (by kernel_rfl) rfl (by kernel_rfl)
theorem eq_126 {p : Id} {args : List A} {h : Heap} : callW E p 126 args h = (execW E 126 p ((Tryz.f126.body).getD .skip) (initFr args) 0 h).bind (resX E.P false p Tryz.f126.results.toList) := callW_eq Tryz.f126 (by kernel_rfl) (by kernel_rfl) (by kernel_rfl) rfl (by kernel_rfl)
theorem rd_127_8 {p : Id} {L : List Nat} {c0 c : Nat} {fr : Fr} {h : Heap} : iterW E 127 p L L_127_8 c0 fr c h = (execW E 127 p ((((Tryz.f127.body).getD .skip).loopAt 8).getD .skip) fr c h).bind (loopX E 127 p L L_127_8 c0) := iterW_eq2 (by kernel_rfl)
theorem eq_127 {p : Id} {args : List A} {h : Heap} : callW E p 127 args h = (execW E 127 p (((Tryz.f127.body).getD .skip).hide [(8, L_127_8)]) (initFr args) 0 h).bind (resX E.P false p Tryz.f127.results.toList) := callW_eq Tryz.f127 (by kernel_rfl) (by kernel_rfl) (by kernel_rfl) rfl (by kernel_rfl)
theorem eq_128 {p : Id} {args : List A} {h : Heap} : callW E p 128 args h = (execW E 128 p ((Tryz.f128.body).getD .skip) (initFr args) 0 h).bind (resX E.P false p Tryz.f128.results.toList) := callW_eq Tryz.f128 (by kernel_rfl) (by kernel_rfl) (by kernel_rfl) rfl (by kernel_rfl)
theorem eq_129 {p : Id} {args : List A} {h : Heap} : callW E p 129 args h = (execW E 129 p ((Tryz.f129.body).getD .skip) (initFr args) 0 h).bind (resX E.P false p Tryz.f129.results.toList) := callW_eq Tryz.f129 (by kernel_rfl) (by kernel_rfl) (by kernel_rfl) rfl (by kernel_rfl)
theorem eq_130 {p : Id} {args : List A} {h : Heap} : callW E p 130 args h = (execW E 130 p ((Tryz.f130.body).getD .skip) (initFr args) 0 h).bind (resX E.P false p Tryz.f130.results.toList) := callW_eq Tryz.f130 (by kernel_rfl) (by kernel_rfl) (by kernel_rfl) rfl (by kernel_rfl)
theorem eq_131 {p : Id} {args : List A} {h : Heap} : callW E p 131 args h = (execW E 131 p ((Tryz.f131.body).getD .skip) (initFr args) 0 h).bind (resX E.P false p Tryz.f131.results.toList) := callW_eq Tryz.f131 (by kernel_rfl) (by kernel_rfl) (by kernel_rfl) rfl (by kernel_rfl)
theorem rd_132_2 {p : Id} {L : List Nat} {c0 c : Nat} {fr : Fr} {h : Heap} : iterW E 132 p L L_132_2 c0 fr c h = (execW E 132 p ((((Tryz.f132.body).getD .skip).loopAt 2).getD .skip) fr c h).bind (loopX E 132 p L L_132_2 c0) := iterW_eq2 (by kernel_rfl)
theorem eq_132 {p : Id} {args : List A} {h : Heap} : callW E p 132 args h = (execW E 132 p (((Tryz.f132.body).getD .skip).hide [(2, L_132_2)]) (initFr args) 0 h).bind (resX E.P false p Tryz.f132.results.toList) := callW_eq Tryz.f132 (by kernel_rfl) (by kernel_rfl) (by kernel_rfl) rfl (by kernel_rfl)
theorem rd_133_3 {p : Id} {L : List Nat} {c0 c : Nat} {fr : Fr} {h : Heap} : iterW E 133 p L L_133_3 c0 fr c h = (execW E 133 p ((((Tryz.f133.body).getD .skip).loopAt 3).getD .skip) fr c h).bind (loopX E 133 p L L_133_3 c0) := iterW_eq2 (by kernel_rfl)
theorem eq_133 {p : Id} {args : List A} {h : Heap} : callW E p 133 args h = (execW E 133 p (((Tryz.f133.body).getD .skip).hide [(3, L_133_3)]) (initFr args) 0 h).bind (resX E.P false p Tryz.f133.results.toList) := callW_eq Tryz.f133 (by kernel_rfl) (by kernel_rfl) (by kernel_rfl) rfl (by kernel_rfl)
theorem eq_134 {p : Id} {args : List A} {h : Heap} : callW E p 134 args h = (execW E 134 p ((Tryz.f134.body).getD .skip) (initFr args) 0 h).bind (resX E.P false p Tryz.f134.results.toList) := callW_eq Tryz.f134 (by kernel_rfl) (by kernel_rfl) (by kernel_rfl) rfl (by kernel_rfl)
theorem rd_135_17 {p : Id} {L : List Nat} {c0 c : Nat} {fr : Fr} {h : Heap} : iterW E 135 p L L_135_17 c0 fr c h = (execW E 135 p ((((Tryz.f135.body).getD .skip).loopAt 17).getD .skip) fr c h).bind (loopX E 135 p L L_135_17 c0) := iterW_eq2 (by kernel_rfl)
theorem eq_135 {p : Id} {args : List A} {h : Heap} : callW E p 135 args h = (execW E 135 p (((Tryz.f135.body).getD .skip).hide [(17, L_135_17)]) (initFr args) 0 h).bind (resX E.P false p Tryz.f135.results.toList) := callW_eq Tryz.f135 (by kernel_rfl) (by kernel_rfl) (by kernel_rfl) rfl (by kernel_rfl)
theorem eq_136 {p : Id} {args : List A} {h : Heap} : callW E p 136 args h = (execW E 136 p ((Tryz.f136.body).getD .skip) (initFr args) 0 h).bind (resX E.P false p Tryz.f136.results.toList) := callW_eq Tryz.f136 (by kernel_rfl) (by kernel_rfl) (by kernel_rfl) rfl (by kernel_rfl)
theorem eq_137 {p : Id} {args : List A} {h : Heap} : callW E p 137 args h = (execW E 137 p ((Tryz.f137.body).getD .skip) (initFr args) 0 h).bind (resX E.P false p Tryz.f137.results.toList) := callW_eq Tryz.f137 (by kernel_rfl) (by kernel_rfl) (by kernel_rfl) rfl (by kernel_rfl)
theorem eq_139 {p : Id} {args : List A} {h : Heap} : callW E p 139 args h = (execW E 139 p ((Tryz.f139.body).getD .skip) (initFr args) 0 h).bind (resX E.P false p Tryz.f139.results.toList) := callW_eq Tryz.f139 (by kernel_rfl) (by kernel_rfl) (by kernel_rfl) rfl (by kernel_rfl)
theorem eq_140 {p : Id} {args : List A} {h : Heap} : callW E p 140 args h = (execW E 140 p ((Tryz.f140.body).getD .skip) (initFr args) 0 h).bind (resX E.P false p Tryz.f140.results.toList) := callW_eq Tryz.f140 (by kernel_rfl) (by kernel_rfl) (by kernel_rfl) rfl (by kernel_rfl)
theorem eq_141 {p : Id} {args : List A} {h : Heap} : callW E p 141 args h = (execW E 141 p ((Tryz.f141.body).getD .skip) (initFr args) 0 h).bind (resX E.P false p Tryz.f141.results.toList) := callW_eq Tryz.f141 (by kernel_rfl) (by kernel_rfl) (by kernel_rfl) rfl (by kernel_rfl)
theorem rd_142_12 {p : Id} {L : List Nat} {c0 c : Nat} {fr : Fr} {h : Heap} : iterW E 142 p L L_142_12 c0 fr c h = (execW E 142 p ((((Tryz.f142.body).getD .skip).loopAt 12).getD .skip) fr c h).bind (loopX E 142 p L L_142_12 c0) := iterW_eq2 (by kernel_rfl)
theorem rd_142_22 {p : Id} {L : List Nat} {c0 c : Nat} {fr : Fr} {h : Heap} : iterW E 142 p L L_142_22 c0 fr c h = (execW E 142 p ((((Tryz.f142.body).getD .skip).loopAt 22).getD .skip) fr c h).bind (loopX E 142 p L L_142_22 c0) := iterW_eq2 (by kernel_rfl)
theorem eq_143 {p : Id} {args : List A} {h : Heap} : callW E p 143 args h = (execW E 143 p ((Tryz.f143.body).getD .skip) (initFr args) 0 h).bind (resX E.P false p Tryz.f143.results.toList) := callW_eq Tryz.f143 (by kernel_rfl) (by kernel_rfl) (by kernel_rfl) rfl (by kernel_rfl)
theorem eq_144 {p : Id} {args : List A} {h : Heap} : callW E p 144 args h = (execW E 144 p ((Tryz.f144.body).getD .skip) (initFr args) 0 h).bind (resX E.P false p Tryz.f144.results.toList) := callW_eq Tryz.f144 (by kernel_rfl) (by kernel_rfl) (by kernel_rfl) rfl (by kernel_rfl)
theorem rd_145_3 {p : Id} {L : List Nat} {c0 c : Nat} {fr : Fr} {h : Heap} : iterW E 145 p L L_145_3 c0 fr c h = (execW E 145 p ((((Tryz.f145.body).getD .skip).loopAt 3).getD .skip) fr c h).bind (loopX E 145 p L L_145_3 c0) := iterW_eq2 (by kernel_rfl)
theorem eq_145 {p : Id} {args : List A} {h : Heap} : callW E p 145 args h = (execW E 145 p (((Tryz.f145.body).getD .skip).hide [(3, L_145_3)]) (initFr args) 0 h).bind (resX E.P false p Tryz.f145.results.toList) := callW_eq Tryz.f145 (by kernel_rfl) (by kernel_rfl) (by kernel_rfl) rfl (by kernel_rfl)
theorem eq_146 {p : Id} {args : List A} {h : Heap} : callW E p 146 args h = (execW E 146 p ((Tryz.f146.body).getD .skip) (initFr args) 0 h).bind (resX E.P false p Tryz.f146.results.toList) := callW_eq Tryz.f146 (by kernel_rfl) (by kernel_rfl) (by kernel_rfl) rfl (by kernel_rfl)
theorem eq_147 {p : Id} {args : List A} {h : Heap} : callW E p 147 args h = (execW E 147 p ((Tryz.f147.body).getD .skip) (initFr args) 0 h).bind (resX E.P false p Tryz.f147.results.toList) := callW_eq Tryz.f147 (by kernel_rfl) (by kernel_rfl) (by kernel_rfl) rfl (by kernel_rfl)
theorem rd_148_5 {p : Id} {L : List Nat} {c0 c : Nat} {fr : Fr} {h : Heap} : iterW E 148 p L L_148_5 c0 fr c h = (execW E 148 p ((((Tryz.f148.body).getD .skip).loopAt 5).getD .skip) fr c h).bind (loopX E 148 p L L_148_5 c0) := iterW_eq2 (by kernel_rfl)
theorem eq_148 {p : Id} {args : List A} {h : Heap} : callW E p 148 args h = (execW E 148 p (((Tryz.f148.body).getD .skip).hide [(5, L_148_5)]) (initFr args) 0 h).bind (resX E.P false p Tryz.f148.results.toList) := callW_eq Tryz.f148 (by kernel_rfl) (by kernel_rfl) (by kernel_rfl) rfl (by kernel_rfl)
theorem rd_149_3 {p : Id} {L : List Nat} {c0 c : Nat} {fr : Fr} {h : Heap} : iterW E 149 p L L_149_3 c0 fr c h = (execW E 149 p ((((Tryz.f149.body).getD .skip).loopAt 3).getD .skip) fr c h).bind (loopX E 149 p L L_149_3 c0) := iterW_eq2 (by kernel_rfl)
theorem eq_149 {p : Id} {args : List A} {h : Heap} : callW E p 149 args h = (execW E 149 p (((Tryz.f149.body).getD .skip).hide [(3, L_149_3)]) (initFr args) 0 h).bind (resX E.P false p Tryz.f149.results.toList) := callW_eq Tryz.f149 (by kernel_rfl) (by kernel_rfl) (by kernel_rfl) rfl (by kernel_rfl)
theorem rd_150_3 {p : Id} {L : List Nat} {c0 c : Nat} {fr : Fr} {h : Heap} : iterW E 150 p L L_150_3 c0 fr c h = (execW E 150 p ((((Tryz.f150.body).getD .skip).loopAt 3).getD .skip) fr c h).bind (loopX E 150 p L L_150_3 c0) := iterW_eq2 (by kernel_rfl)
theorem eq_150 {p : Id} {args : List A} {h : Heap} : callW E p 150 args h = (execW E 150 p (((Tryz.f150.body).getD .skip).hide [(3, L_150_3)]) (initFr args) 0 h).bind (resX E.P false p Tryz.f150.results.toList) := callW_eq Tryz.f150 (by kernel_rfl) (by kernel_rfl) (by kernel_rfl) rfl (by kernel_rfl)
theorem rd_151_22 {p : Id} {L : List Nat} {c0 c : Nat} {fr : Fr} {h : Heap} : iterW E 151 p L L_151_22 c0 fr c h = (execW E 151 p ((((Tryz.f151.body).getD .skip).loopAt 22).getD .skip) fr c h).bind (loopX E 151 p L L_151_22 c0) := iterW_eq2 (by kernel_rfl)
theorem eq_151 {p : Id} {args : List A} {h : Heap} : callW E p 151 args h = (execW E 151 p (((Tryz.f151.body).getD .skip).hide [(22, L_151_22)]) (initFr args) 0 h).bind (resX E.P false p Tryz.f151.results.toList) := callW_eq Tryz.f151 (by kernel_rfl) (by kernel_rfl) (by kernel_rfl) rfl (by kernel_rfl)
theorem eq_152 {p : Id} {args : List A} {h : Heap} : callW E p 152 args h = (execW E 152 p ((Tryz.f152.body).getD .skip) (initFr args) 0 h).bind (resX E.P false p Tryz.f152.results.toList) := callW_eq Tryz.f152 (by kernel_rfl) (by kernel_rfl) (by kernel_rfl) rfl (by kernel_rfl)
theorem eq_153 {p : Id} {args : List A} {h : Heap} : callW E p 153 args h = (execW E 153 p ((Tryz.f153.body).getD .skip) (initFr args) 0 h).bind (resX E.P false p Tryz.f153.results.toList) := callW_eq Tryz.f153 (by kernel_rfl) (by kernel_rfl) (by kernel_rfl) rfl (by kernel_rfl)
theorem eq_154 {p : Id} {args : List A} {h : Heap} : callW E p 154 args h = (execW E 154 p ((Tryz.f154.body).getD .skip) (initFr args) 0 h).bind (resX E.P false p Tryz.f154.results.toList) := callW_eq Tryz.f154 (by kernel_rfl) (by kernel_rfl) (by kernel_rfl) rfl (by kernel_rfl)
theorem rd_155_4 {p : Id} {L : List Nat} {c0 c : Nat} {fr : Fr} {h : Heap} : iterW E 155 p L L_155_4 c0 fr c h = (execW E 155 p ((((Tryz.f155.body).getD .skip).loopAt 4).getD .skip) fr c h).bind (loopX E 155 p L L_155_4 c0) := iterW_eq2 (by kernel_rfl)
theorem eq_155 {p : Id} {args : List A} {h : Heap} : callW E p 155 args h = (execW E 155 p (((Tryz.f155.body).getD .skip).hide [(4, L_155_4)]) (initFr args) 0 h).bind (resX E.P false p Tryz.f155.results.toList) := callW_eq Tryz.f155 (by kernel_rfl) (by kernel_rfl) (by kernel_rfl) rfl (by kernel_rfl)
theorem rd_156_3 {p : Id} {L : List Nat} {c0 c : Nat} {fr : Fr} {h : Heap} : iterW E 156 p L L_156_3 c0 fr c h = (execW E 156 p ((((Tryz.f156.body).getD .skip).loopAt 3).getD .skip) fr c h).bind (loopX E 156 p L L_156_3 c0) := iterW_eq2 (by kernel_rfl)
theorem eq_156 {p : Id} {args : List A} {h : Heap} : callW E p 156 args h = (execW E 156 p (((Tryz.f156.body).getD .skip).hide [(3, L_156_3)]) (initFr args) 0 h).bind (resX E.P false p Tryz.f156.results.toList) := callW_eq Tryz.f156 (by kernel_rfl) (by kernel_rfl) (by kernel_rfl) rfl (by kernel_rfl)
theorem rd_157_3 {p : Id} {L : List Nat} {c0 c : Nat} {fr : Fr} {h : Heap} : iterW E 157 p L L_157_3 c0 fr c h = (execW E 157 p ((((Tryz.f157.body).getD .skip).loopAt 3).getD .skip) fr c h).bind (loopX E 157 p L L_157_3 c0) := iterW_eq2 (by kernel_rfl)
theorem eq_157 {p : Id} {args : List A} {h : Heap} : callW E p 157 args h = (execW E 157 p (((Tryz.f157.body).getD .skip).hide [(3, L_157_3)]) (initFr args) 0 h).bind (resX E.P false p Tryz.f157.results.toList) := callW_eq Tryz.f157 (by kernel_rfl) (by kernel_rfl) (by kernel_rfl) rfl (by kernel_rfl)
theorem eq_158 {p : Id} {args : List A} {h : Heap} : callW E p 158 args h = (execW E 158 p ((Tryz.f158.body).getD .skip) (initFr args) 0 h).bind (resX E.P false p Tryz.f158.results.toList) := callW_eq Tryz.f158 (by kernel_rfl) (by kernel_rfl) (by kernel_rfl) rfl (by kernel_rfl)
theorem eq_159 {p : Id} {args : List A} {h : Heap} : callW E p 159 args h = (execW E 159 p ((Tryz.f159.body).getD .skip) (initFr args) 0 h).bind (resX E.P false p Tryz.f159.results.toList) := callW_eq Tryz.f159 (by kernel_rfl) (by kernel_rfl) (by kernel_rfl) rfl (by kernel_rfl)
theorem eq_160 {p : Id} {args : List A} {h : Heap} : callW E p 160 args h = (execW E 160 p ((Tryz.f160.body).getD .skip) (initFr args) 0 h).bind (resX E.P false p Tryz.f160.results.toList) := callW_eq Tryz.f160 (by kernel_rfl) (by kernel_rfl) (by kernel_rfl) rfl (by kernel_rfl)
theorem rd_161_3 {p : Id} {L : List Nat} {c0 c : Nat} {fr : Fr} {h : Heap} : iterW E 161 p L L_161_3 c0 fr c h = (execW E 161 p ((((Tryz.f161.body).getD .skip).loopAt 3).getD .skip) fr c h).bind (loopX E 161 p L L_161_3 c0) := iterW_eq2 (by kernel_rfl)
theorem eq_161 {p : Id} {args : List A} {h : Heap} : callW E p 161 args h = (execW E 161 p (((Tryz.f161.body).getD .skip).hide [(3, L_161_3)]) (initFr args) 0 h).bind (resX E.P false p Tryz.f161.results.toList) := callW_eq Tryz.f161 (by kernel_rfl) (by kernel_rfl) (by kernel_rfl) rfl (by kernel_rfl)
theorem eq_162 {p : Id} {args : List A} {h : Heap} : callW E p 162 args h = (execW E 162 p ((Tryz.f162.body).getD .skip) (initFr args) 0 h).bind (resX E.P false p Tryz.f162.results.toList) := callW_eq Tryz.f162 (by kernel_rfl) (by kernel_rfl) (by kernel_rfl) rfl (by kernel_rfl)
theorem rd_163_3 {p : Id} {L : List Nat} {c0 c : Nat} {fr : Fr} {h : Heap} : iterW E 163 p L L_163_3 c0 fr c h = (execW E 163 p ((((Tryz.f163.body).getD .skip).loopAt 3).getD .skip) fr c h).bind (loopX E 163 p L L_163_3 c0) := iterW_eq2 (by kernel_rfl)
theorem eq_163 {p : Id} {args : List A} {h : Heap} : callW E p 163 args h = (execW E 163 p (((Tryz.f163.body).getD .skip).hide [(3, L_163_3)]) (initFr args) 0 h).bind (resX E.P false p Tryz.f163.results.toList) := callW_eq Tryz.f163 (by kernel_rfl) (by kernel_rfl) (by kernel_rfl) rfl (by kernel_rfl)
theorem rd_164_2 {p : Id} {L : List Nat} {c0 c : Nat} {fr : Fr} {h : Heap} : iterW E 164 p L L_164_2 c0 fr c h = (execW E 164 p ((((Tryz.f164.body).getD .skip).loopAt 2).getD .skip) fr c h).bind (loopX E 164 p L L_164_2 c0) := iterW_eq2 (by kernel_rfl)
theorem eq_164 {p : Id} {args : List A} {h : Heap} : callW E p 164 args h = (execW E 164 p (((Tryz.f164.body).getD .skip).hide [(2, L_164_2)]) (initFr args) 0 h).bind (resX E.P false p Tryz.f164.results.toList) := callW_eq Tryz.f164 (by kernel_rfl) (by kernel_rfl) (by kernel_rfl) rfl (by kernel_rfl)
theorem eq_165 {p : Id} {args : List A} {h : Heap} : callW E p 165 args h = (execW E 165 p ((Tryz.f165.body).getD .skip) (initFr args) 0 h).bind (resX E.P false p Tryz.f165.results.toList) := callW_eq Tryz.f165 (by kernel_rfl) (by kernel_rfl) (by kernel_rfl) rfl (by kernel_rfl)
theorem rd_166_2 {p : Id} {L : List Nat} {c0 c : Nat} {fr : Fr} {h : Heap} : iterW E 166 p L L_166_2 c0 fr c h = (execW E 166 p ((((Tryz.f166.body).getD .skip).loopAt 2).getD .skip) fr c h).bind (loopX E 166 p L L_166_2 c0) := iterW_eq2 (by kernel_rfl)
theorem eq_166 {p : Id} {args : List A} {h : Heap} : callW E p 166 args h = (execW E 166 p (((Tryz.f166.body).getD .skip).hide [(2, L_166_2)]) (initFr args) 0 h).bind (resX E.P false p Tryz.f166.results.toList) := callW_eq Tryz.f166 (by kernel_rfl) (by kernel_rfl) (by kernel_rfl) rfl (by kernel_rfl)
theorem eq_167 {p : Id} {args : List A} {h : Heap} : callW E p 167 args h = (execW E 167 p ((Tryz.f167.body).getD .skip) (initFr args) 0 h).bind (resX E.P false p Tryz.f167.results.toList) := callW_eq Tryz.f167 (by kernel_rfl) (by kernel_rfl) (by kernel_rfl) rfl (by kernel_rfl)
theorem eq_168 {p : Id} {args : List A} {h : Heap} : callW E p 168 args h = (execW E 168 p ((Tryz.f168.body).getD .skip) (initFr args) 0 h).bind (resX E.P false p Tryz.f168.results.toList) := callW_eq Tryz.f168 (by kernel_rfl) (by kernel_rfl) (by kernel_rfl) rfl (by kernel_rfl)
theorem eq_169 {p : Id} {args : List A} {h : Heap} : callW E p 169 args h = (execW E 169 p ((Tryz.f169.body).getD .skip) (initFr args) 0 h).bind (resX E.P false p Tryz.f169.results.toList) := callW_eq Tryz.f169 (by kernel_rfl) (by kernel_rfl) (by kernel_rfl) rfl (by kernel_rfl)
theorem eq_170 {p : Id} {args : List A} {h : Heap} : callW E p 170 args h = (execW E 170 p ((Tryz.f170.body).getD .skip) (initFr args) 0 h).bind (resX E.P false p Tryz.f170.results.toList) := callW_eq Tryz.f170 (by kernel_rfl) (by kernel_rfl) (by kernel_rfl) rfl (by kernel_rfl)
theorem rd_171_5 {p : Id} {L : List Nat} {c0 c : Nat} {fr : Fr} {h : Heap} : iterW E 171 p L L_171_5 c0 fr c h = (execW E 171 p ((((Tryz.f171.body).getD .skip).loopAt 5).getD .skip) fr c h).bind (loopX E 171 p L L_171_5 c0) := iterW_eq2 (by kernel_rfl)
theorem eq_171 {p : Id} {args : List A} {h : Heap} : callW E p 171 args h = (execW E 171 p (((Tryz.f171.body).getD .skip).hide [(5, L_171_5)]) (initFr args) 0 h).bind (resX E.P false p Tryz.f171.results.toList) := callW_eq Tryz.f171 (by kernel_rfl) (by kernel_rfl) (by kernel_rfl) rfl (by kernel_rfl)
theorem rd_172_3 {p : Id} {L : List Nat} {c0 c : Nat} {fr : Fr} {h : Heap} : iterW E 172 p L L_172_3 c0 fr c h = (execW E 172 p ((((Tryz.f172.body).getD .skip).loopAt 3).getD .skip) fr c h).bind (loopX E 172 p L L_172_3 c0) := iterW_eq2 (by kernel_rfl)
theorem eq_172 {p : Id} {args : List A} {h : Heap} : callW E p 172 args h = (execW E 172 p (((Tryz.f172.body).getD .skip).hide [(3, L_172_3)]) (initFr args) 0 h).bind (resX E.P false p Tryz.f172.results.toList) := callW_eq Tryz.f172 (by kernel_rfl) (by kernel_rfl) (by kernel_rfl) rfl (by kernel_rfl)
theorem eq_174 {p : Id} {args : List A} {h : Heap} : callW E p 174 args h = (execW E 174 p ((Tryz.f174.body).getD .skip) (initFr args) 0 h).bind (resX E.P false p Tryz.f174.results.toList) := callW_eq Tryz.f174 (by kernel_rfl) (by kernel_rfl) (by kernel_rfl) rfl (by kernel_rfl)
theorem eq_175 {p : Id} {args : List A} {h : Heap} : callW E p 175 args h = (execW E 175 p ((Tryz.f175.body).getD .skip) (initFr args) 0 h).bind (resX E.P false p Tryz.f175.results.toList) := callW_eq Tryz.f175 (by kernel_rfl) (by kernel_rfl) (by kernel_rfl) rfl (by kernel_rfl)
theorem eq_176 {p : Id} {args : List A} {h : Heap} : callW E p 176 args h = (execW E 176 p ((Tryz.f176.body).getD .skip) (initFr args) 0 h).bind (resX E.P false p Tryz.f176.results.toList) := callW_eq Tryz.f176 (by kernel_rfl) (by kernel_rfl) (by kernel_rfl) rfl (by kernel_rfl)
theorem eq_197 {p : Id} {args : List A} {h : Heap} : callW E p 197 args h = (execW E 197 p ((Tryz.f197.body).getD .skip) (initFr args) 0 h).bind (resX E.P false p Tryz.f197.results.toList) := callW_eq Tryz.f197 (by kernel_rfl) (by kernel_rfl) (by kernel_rfl) rfl (by kernel_rfl)
theorem eq_213 {p : Id} {args : List A} {h : Heap} : callW E p 213 args h = (execW E 213 p ((Tryz.f213.body).getD .skip) (initFr args) 0 h).bind (resX E.P false p Tryz.f213.results.toList) := callW_eq Tryz.f213 (by kernel_rfl) (by kernel_rfl) (by kernel_rfl) rfl (by kernel_rfl)
theorem eq_218 {p : Id} {args : List A} {h : Heap} : callW E p 218 args h = (execW E 218 p ((Tryz.f218.body).getD .skip) (initFr args) 0 h).bind (resX E.P false p Tryz.f218.results.toList) := callW_eq Tryz.f218 (by kernel_rfl) (by kernel_rfl) (by kernel_rfl) rfl (by kernel_rfl)
end Go.Ai.T

namespace Go.Ai.T
theorem envB_ok : envB E = true := by kernel_rfl
end Go.Ai.T

namespace Go.Proofs.Tryz
open Go.RowKit
set_option maxHeartbeats 1000000 in
set_option maxRecDepth 100000 in
theorem check_used (b : Nat) (w : World) (h0 : w.cell? ⟨b, 0, none⟩ = some (.pointer (some ⟨b, 0, none⟩))) :
  Calls prog 107 #[.pointer (some ⟨b, 0, none⟩)] w fun e w' => e = .returned (.tuple #[]) ∧ w' = w := by
 have hp : prog.underlying 92 = some (.pointer 95) := by kernel_rfl
 obtain ⟨j, hj⟩ : ∃ j, prog.info? 95 = some j := Option.isSome_iff_exists.1 (by kernel_rfl)
 go_enter func107, ntmps107
 go_wp2
 rw [Lib.run_neq_ptr_same w _ hp hj]
 go_wp2
 go_end0
 exact ⟨rfl, rfl⟩
set_option maxHeartbeats 1000000 in
set_option maxRecDepth 100000 in
theorem check_fresh (b : Nat) (w : World) (t : Nat) (h0 : w.cell? ⟨b, 0, none⟩ = some (.pointer none)) (hsh : w.shape? b = some (t, 2)) (hlies : liesAt prog prog.depth t (2 / prog.cellsOf t) 0 95 1 = true) (hfz : w.frozen? ⟨b, 0, none⟩ = false) :
  Calls prog 107 #[.pointer (some ⟨b, 0, none⟩)] w fun e w' => e = .returned (.tuple #[]) ∧ w' = w.setCell ⟨b, 0, none⟩ (.pointer (some ⟨b, 0, none⟩)) := by
 have hp : prog.underlying 92 = some (.pointer 95) := by kernel_rfl
 have hu : prog.underlying 134 = some .unsafePointer := by kernel_rfl
 obtain ⟨j, hj, hjs⟩ : ∃ j, prog.info? 95 = some j ∧ j.size = 2 := Option.map_eq_some_iff.1 (show (prog.info? 95).map (·.size) = some 2 by kernel_rfl)
 have h131 : prog.funcs[138]? = some f138 := by kernel_rfl
 go_enter func107, ntmps107
 go_wp2
 rw [Lib.run_to_unsafe w ⟨b, 0, none⟩ hp hu hj (by rw [hjs]; decide) hsh (Nat.zero_lt_succ 1)]
 simp only [Result.andThen]
 rw [Oper.upon_value]
 go_wp2
 rw [run_callFunc_extern h131 (by kernel_rfl) (by kernel_rfl) (by kernel_rfl) (e := Extern.AbiNoEscape.same) (by kernel_rfl)]
 rw [Lib.run_noEscape]
 simp only [Result.andThen]
 rw [Oper.upon_value]
 go_wp2
 rw [Lib.run_from_unsafe w ⟨b, 0, none⟩ hu hp hj hsh hlies]
 simp only [Result.andThen]
 rw [Oper.upon_value]
 go_wp2
 go_end0
 exact ⟨rfl, rfl⟩
theorem lies_B : liesAt prog prog.depth 95 (2 / prog.cellsOf 95) 0 95 1 = true := by kernel_rfl
theorem lies_W : liesAt prog prog.depth 97 (2 / prog.cellsOf 97) 0 95 1 = true := by kernel_rfl
end Go.Proofs.Tryz

namespace Go.Proofs.Tryz
open Go.RowKit
set_option maxHeartbeats 2000000
set_option maxRecDepth 100000
theorem cellsByte : prog.cellsOf 5 = 1 := by kernel_rfl
theorem string_nil (b : Nat) (w : World) (h0 : w.cell? ⟨b, 1, none⟩ = some (.slice none 0 0)) :
  Calls prog 70 #[.pointer (some ⟨b, 0, none⟩)] w fun e w' => e = .returned (.string ⟨#[]⟩) ∧ Go.Ai.Ext w w' := by
 have hUS := fun W q => Lib.run_unsafeString_none (P := prog) W 158 3 9 q
 have c1 : w.drew.cell? ⟨b, 1, none⟩ = some (.slice none 0 0) := h0
 have hSD : (Builtin.unsafeSliceData_ #[93] 158 #[.slice none 0 0]).run prog w.drew = .ok (.pointer none) w.drew := rfl
 go_enter func70, ntmps70
 go_wp2
 go_region
 all_goals (go_wp2; go_ret; exact ⟨rfl, (Go.Ai.Ext.refl w).drew⟩)
theorem string_zero (b g : Nat) (w : World) (sh : TypeId × Nat) (h0 : w.cell? ⟨b, 1, none⟩ = some (.slice (some ⟨g, 0, none⟩) 0 0)) (hsh : w.shape? g = some sh) :
  Calls prog 70 #[.pointer (some ⟨b, 0, none⟩)] w fun e w' => e = .returned (.string ⟨#[]⟩) ∧ Go.Ai.Ext w w' := by
 have hUS := fun W q => Lib.run_unsafeString_none (P := prog) W 158 3 9 q
 have c1 : w.drew.cell? ⟨b, 1, none⟩ = some (.slice (some ⟨g, 0, none⟩) 0 0) := h0
 have hlt : b < w.heap.size := by
  rcases Nat.lt_or_ge b w.heap.size with h' | h'
  ·exact h'
  ·simp [World.cell?, Array.getElem?_eq_none h'] at h0
 have hSD : (Builtin.unsafeSliceData_ #[93] 158 #[.slice (some ⟨g, 0, none⟩) 0 0]).run prog w.drew = .ok (.pointer (some ⟨w.drew.heap.size, 0, none⟩)) (w.drew.alloc (.view ⟨g, 0, none⟩ 5)) :=
  Lib.run_unsafeSliceData_zero w.drew _ _ 5 underlying158 ⟨g, 0, none⟩ 0 sh hsh
 have c2 : (w.drew.alloc (.view ⟨g, 0, none⟩ 5)).cell? ⟨b, 1, none⟩ = some (.slice (some ⟨g, 0, none⟩) 0 0) := by
  exact (World.cell?_alloc_lt w.drew _ ⟨b, 1, none⟩ hlt).trans h0
 have c3 : (w.alloc (.view ⟨g, 0, none⟩ 5)).drew.cell? ⟨b, 1, none⟩ = some (.slice (some ⟨g, 0, none⟩) 0 0) := c2
 have c0 : w.cell? ⟨b, 1, none⟩ = some (.slice (some ⟨g, 0, none⟩) 0 0) := c1
 go_enter func70, ntmps70
 go_wp2
 go_region
 all_goals (go_wp2; go_ret; exact ⟨rfl, (Go.Ai.Ext.alloc w _).drew⟩)
theorem string_room (b g cap : Nat) (w : World) (h0 : w.cell? ⟨b, 1, none⟩ = some (.slice (some ⟨g, 0, none⟩) 0 cap)) (hc0 : cap ≠ 0) :
  Calls prog 70 #[.pointer (some ⟨b, 0, none⟩)] w fun e w' => e = .returned (.string ⟨#[]⟩) ∧ Go.Ai.Ext w w' := by
 have hUS := fun W q => Lib.run_unsafeString_none (P := prog) W 158 3 9 q
 have c1 : w.drew.cell? ⟨b, 1, none⟩ = some (.slice (some ⟨g, 0, none⟩) 0 cap) := h0
 have hSD : (Builtin.unsafeSliceData_ #[93] 158 #[.slice (some ⟨g, 0, none⟩) 0 cap]).run prog w.drew = .ok (.pointer (some ⟨g, 0, none⟩)) w.drew :=
  Lib.run_unsafeSliceData_row _ _ _ _ _ _ hc0
 clear hc0
 go_enter func70, ntmps70
 go_wp2
 go_region
 all_goals (go_wp2; go_ret; exact ⟨rfl, (Go.Ai.Ext.refl w).drew⟩)
theorem string_some (b g cap cells : Nat) (l : List UInt8) (w : World) (h0 : w.cell? ⟨b, 1, none⟩ = some (.slice (some ⟨g, 0, none⟩) l.length cap)) (hl : l ≠ []) (hcap : l.length ≤ cap) (hsh : w.shape? g = some (5, cells)) (hn : l.length ≤ cells)
  (h63 : l.length ≤ 9223372036854775807) (hcell : ∀ j x, l[j]? = some x → w.cell? ⟨g, j, none⟩ = some (.int .u8 x.toNat)) :
  Calls prog 70 #[.pointer (some ⟨b, 0, none⟩)] w fun e w' => e = .returned (.string ⟨l.toArray⟩) ∧ w' = (w.freeze ⟨g, 0, none⟩ l.length).drew := by
 have hl0 : l.length ≠ 0 := by simpa using hl
 have c1 : w.drew.cell? ⟨b, 1, none⟩ = some (.slice (some ⟨g, 0, none⟩) l.length cap) := h0
 have hSD : (Builtin.unsafeSliceData_ #[93] 158 #[.slice (some ⟨g, 0, none⟩) l.length cap]).run prog w.drew = .ok (.pointer (some ⟨g, 0, none⟩)) w.drew :=
  Lib.run_unsafeSliceData_row _ _ _ _ _ _ (by omega)
 have hUS : (Builtin.unsafeString_ #[158, 3] 9 #[.pointer (some ⟨g, 0, none⟩), .int .i64 l.length]).run prog w.drew = .ok (.string ⟨l.toArray⟩) (w.drew.freeze ⟨g, 0, none⟩ l.length) :=
  Lib.run_unsafeString_row w.drew 158 3 9 5 underlying158 cellsByte g cells hsh l hl hn h63 (fun j x hx => by
   have := hcell j x hx
   have e : (⟨g, 0, none⟩ : Addr).add j = ⟨g, j, none⟩ := by
    unfold Addr.add
    by_cases hj : j = 0
    ·subst hj; simp
    ·simp [hj]
   rw [e]; exact this)
 go_enter func70, ntmps70
 go_wp2
 go_region
 all_goals (go_wp2; go_ret; first | exact ⟨rfl, rfl⟩ | exact ⟨rfl, by unfold World.freeze; split <;> rfl⟩)
end Go.Proofs.Tryz

namespace Go.Proofs
open Go.Shelf
def Tryz.lays156_ren : Go.Shelf.Ren := ⟨fun | 156 => 142 | 165 => 165 | 166 => 69 | 169 => 70 | 240 => 107 | 241 => 170 | 276 => 138 | 277 => 173 | n => n, fun | 31 => 162 | 9 => 9 | 3 => 3 | 4 => 4 | 0 => 0 | 20 => 20 | 72 => 95 | 76 => 118 | 70 => 92 | 37 => 93 | 75 => 30 | 127 => 158 | 164 => 134 | 5 => 5 | 80 => 105 | n => n, fun | n => n⟩
theorem Tryz.lays156 : Go.Proofs.Lays.n156 Tryz.prog Tryz.lays156_ren := {
 mixed := by kernel_rfl
 f156 := Tryz.func142.trans (congrArg some (by kernel_rfl))
 f165 := Tryz.func165.trans (congrArg some (by kernel_rfl))
 f166 := Tryz.func69.trans (congrArg some (by kernel_rfl))
 f169 := Tryz.func70.trans (congrArg some (by kernel_rfl))
 f240 := Tryz.func107.trans (congrArg some (by kernel_rfl))
 f241 := Tryz.func170.trans (congrArg some (by kernel_rfl))
 f276 := Tryz.func138.trans (congrArg some (by kernel_rfl))
 f277 := Tryz.func173.trans (congrArg some (by kernel_rfl))
 t0 := Tryz.underlying0
 a0 := Tryz.isAgg0
 z0 := Tryz.sizeOf0
 v0 := Tryz.zeroValue0
 t3 := Tryz.underlying3
 a3 := Tryz.isAgg3
 z3 := Tryz.sizeOf3
 v3 := Tryz.zeroValue3
 t4 := Tryz.underlying4
 a4 := Tryz.isAgg4
 z4 := Tryz.sizeOf4
 v4 := Tryz.zeroValue4
 t9 := Tryz.underlying9
 a9 := Tryz.isAgg9
 z9 := Tryz.sizeOf9
 v9 := Tryz.zeroValue9
 t20 := Tryz.underlying20
 a20 := Tryz.isAgg20
 z20 := Tryz.sizeOf20
 v20 := Tryz.zeroValue20
 t31 := Tryz.underlying162
 a31 := Tryz.isAgg162
 z31 := Tryz.sizeOf162
 v31 := Tryz.zeroValue162
 t37 := Tryz.underlying93
 a37 := Tryz.isAgg93
 z37 := Tryz.sizeOf93
 v37 := Tryz.zeroValue93
 t70 := Tryz.underlying92
 a70 := Tryz.isAgg92
 z70 := Tryz.sizeOf92
 v70 := Tryz.zeroValue92
 t72 := Tryz.underlying95
 a72 := Tryz.isAgg95
 z72 := Tryz.sizeOf95
 v72 := Tryz.zeroValue95
 t75 := Tryz.underlying30
 a75 := Tryz.isAgg30
 z75 := Tryz.sizeOf30
 v75 := Tryz.zeroValue30
 t76 := Tryz.underlying118
 a76 := Tryz.isAgg118
 z76 := Tryz.sizeOf118
 v76 := Tryz.zeroValue118
 t127 := Tryz.underlying158
 a127 := Tryz.isAgg158
 z127 := Tryz.sizeOf158
 v127 := Tryz.zeroValue158
 t164 := Tryz.underlying134
 a164 := Tryz.isAgg134
 z164 := Tryz.sizeOf134
 v164 := Tryz.zeroValue134 }
theorem Tryz.Builder_Extra_156 : Builder.Extra Tryz.prog Tryz.lays156_ren := {
 sizeBuilder := by kernel_rfl
 liesBuilder := by kernel_rfl
 t5 := Tryz.underlying5
 a5 := Tryz.isAgg5
 z5 := Tryz.sizeOf5
 v5 := Tryz.zeroValue5
 infoByte := by kernel_rfl
 cellsByte := by kernel_rfl
 sizeByte := by kernel_rfl
 neB5 := by decide }
open Go.RowKit in
theorem Tryz.strings_Join_none (a : Option Addr) (c : Nat) (sep : ByteArray) (w : World) :
  Calls Tryz.prog 142 #[.slice a 0 c, .string sep] w fun e w' => e = .returned (.string ⟨#[]⟩) ∧ w' = w := Any.strings_Join_none Tryz.lays156 Tryz.Builder_Extra_156 a c sep w
open Go.RowKit in
theorem Tryz.strings_Join (bk o c : Nat) (xs : List ByteArray) (sep : ByteArray) (w : World) (hcells : ∀ (j : Nat) x, xs[j]? = some x → w.cell? ⟨bk, o + j, none⟩ = some (.string x)) (hbk : bk < w.heap.size) (hN : xs.length ≤ 140737488355328) (hcap : xs.length ≤ c) (hlen : (Lib.join (xs.map (·.data.toList)) sep.data.toList).length ≤ 140737488355328) :
  Calls Tryz.prog 142 #[.slice (some ⟨bk, o, none⟩) xs.length c, .string sep] w fun e w' => e = .returned (.string ⟨(Lib.join (xs.map (·.data.toList)) sep.data.toList).toArray⟩) ∧ Below w.heap.size w w' := Any.strings_Join Tryz.lays156 Tryz.Builder_Extra_156 bk o c xs sep w hcells hbk hN hcap hlen
end Go.Proofs

