/- Part KE of the proof that a law of this program answers yes at every input: no conditions beyond the given statement. -/
import Derived.KernelRfl
import Derived.Test.YtidkidjjncmciaaGreatDoorProg
import Derived.WalkKit
import Derived.Lib.Builder
import Derived.Lib.UnsafeStr
import Derived.Laws.Externs
import Derived.Shelf.Strings.OnBuilder
import Derived.Test.YtidkidjjncmciaaGreatDoorKD
import Derived.Test.YtidkidjjncmciaaGreatDoorKC
set_option linter.unusedSimpArgs false
set_option linter.unusedVariables false
set_option linter.all false
/- The evaluator's environment for this program: tables, each checked. -/
namespace Go.Ai.T
open Go
noncomputable def prim : Nat → Option (Id → List A → Heap → Option (A × Heap))
  | 55 => some (errorsAs 46 128 188 [(103, 46), (129, 128)])
  | 65 => some (builderString 5)
  | 97 => some (builderCheck [74, 76])
  | 129 => some stringsJoin
  | _ => none
def drawTab : List ((Nat × Nat) × List (Nat × Nat)) := [((4, 5), [(5, 4), (6, 4)]), ((5, 10), []), ((7, 13), [(3, 5)]), ((12, 2), [(12, 1), (12, 3), (12, 5), (12, 7)]), ((12, 4), [(4, 5)]), ((13, 1), [(1, 6), (8, 6), (1, 10), (12, 6), (12, 10), (1, 14)]), ((20, 8), [(1, 0)]), ((20, 11), [(1, 4)]), ((20, 13), [(1, 4)]), ((23, 1), [(21, 23)]), ((24, 1), [(4, 2), (8, 2), (8, 5), (12, 2), (12, 5), (12, 9), (17, 2), (17, 5), (17, 9), (17, 14)]), ((27, 14), [(5, 4)]), ((31, 2), [(5, 1)]), ((31, 5), [(4, 5)]), ((33, 6), [(12, 7)]), ((36, 6), []), ((50, 4), []), ((53, 10), [(1, 0)]), ((62, 2), [(6, 10)]), ((63, 6), [(3, 4)]), ((65, 1), []), ((71, 4), []), ((71, 15), [(1, 2)]), ((71, 16), [(3, 5)]), ((71, 18), [(1, 2)]), ((71, 19), [(3, 5)]), ((71, 21), [(4, 5)]), ((72, 3), [(6, 4), (10, 4), (10, 8)]), ((84, 10), [(1, 0)]), ((89, 1), [(10, 12)]), ((96, 8), []), ((101, 8), [(3, 5)]), ((102, 1), [(2, 5)]), ((104, 1), [(2, 5)]), ((107, 6), []), ((116, 5), [(4, 0)]), ((116, 6), []), ((120, 1), [(14, 16)]), ((120, 6), [(17, 20)]), ((123, 22), [(4, 2)]), ((130, 3), [(9, 10)]), ((134, 3), [(9, 10)]), ((140, 2), []), ((147, 3), []), ((150, 1), []), ((150, 6), []), ((153, 3), []), ((161, 0), [(12, 8)])]
def liveTab : List ((Nat × Nat) × List Nat) := [((9, 10), [0, 1, 5, 7, 8]), ((20, 4), [1, 4, 6, 7, 8, 9]), ((27, 11), [2, 7, 10, 37, 38, 39]), ((30, 3), [0, 1, 2, 7, 13, 14, 15]), ((33, 4), [0, 1, 2, 7]), ((36, 4), [0, 1, 4, 5]), ((38, 1), [0, 1, 3, 4, 14, 15, 16]), ((44, 2), [1, 4, 7, 8, 9]), ((45, 3), [2, 6, 8, 17, 18, 19]), ((46, 2), [0, 3]), ((48, 3), [0, 3, 7, 8]), ((50, 2), [0, 3, 4, 5]), ((53, 5), [1, 4, 6, 7, 8, 9, 10]), ((56, 2), [0, 1, 4, 5]), ((57, 3), [2, 6, 7, 8, 9]), ((59, 3), [0, 1, 5, 6]), ((63, 3), [0, 4, 5, 6, 7]), ((66, 1), [0, 1, 9, 10, 11]), ((67, 2), [0, 1, 4, 5]), ((70, 4), [0, 1, 2, 6, 8, 9, 16, 17, 18]), ((72, 5), [1, 2, 3, 7]), ((73, 4), [1, 2, 6, 15, 16, 17]), ((81, 3), [0, 1, 4, 5, 6, 7]), ((82, 2), [0, 2, 3]), ((84, 7), [1, 4, 5, 6, 8, 9, 10]), ((88, 1), [0, 1, 3, 6, 8]), ((88, 18), [1, 3, 6, 8, 48, 49, 50]), ((101, 3), [1, 4, 5, 11, 12, 13]), ((107, 4), [2, 3, 4, 5]), ((109, 8), [1, 2, 4, 40, 41, 42]), ((112, 2), [0, 1, 5]), ((114, 22), [0, 1, 4, 6, 7, 8, 9]), ((116, 3), [2, 3, 6, 8, 9, 10]), ((120, 9), [1, 2, 4, 6]), ((122, 2), [0, 3]), ((123, 17), [1, 5, 6]), ((129, 12), [0, 1, 5, 39, 40, 41]), ((129, 22), [1, 8, 63, 64, 65]), ((132, 3), [0, 1, 2, 7, 13, 14, 15]), ((135, 4), [1, 2, 6, 15, 16, 17]), ((138, 3), [1, 2, 7, 10, 11, 12]), ((139, 3), [1, 2, 7, 10, 11, 12]), ((140, 5), [0, 2, 3, 4]), ((141, 5), [0, 1, 4, 5, 6, 7, 8]), ((142, 3), [0, 3, 4]), ((143, 3), [0, 1, 2, 3, 8, 9]), ((149, 3), [5, 12, 13, 14]), ((151, 3), [0, 1]), ((152, 2), [0, 1, 4, 7, 8]), ((159, 3), [0, 3, 4]), ((162, 3), [0, 2, 3, 4, 5, 10, 11])]
noncomputable def E : Env where
  P := Go.Proofs.Tryz.prog
  frz t := [128, 188].contains t
  prim := prim
  keep f := [27, 103, 105].contains f
  raw f := f == 116
  draw f i := (drawTab.find? fun q => q.1.1 == f && q.1.2 == i).map (·.2)
  live f i := ((liveTab.find? fun q => q.1.1 == f && q.1.2 == i).map (·.2)).getD []
theorem E_P : E.P = Go.Proofs.Tryz.prog := rfl
@[simp] theorem raw_E (f : Nat) : E.raw f = (f == 116) := rfl
@[simp] theorem bytesT_112 : bytesT E.P 112 = some 56 := by kernel_rfl
@[simp] theorem bytesT_28 : bytesT E.P 28 = some 16 := by kernel_rfl
@[simp] theorem bytesT_3 : bytesT E.P 3 = some 8 := by kernel_rfl
@[simp] theorem bytesT_5 : bytesT E.P 5 = some 1 := by kernel_rfl
@[simp] theorem bytesT_60 : bytesT E.P 60 = some 120 := by kernel_rfl
@[simp] theorem bytesT_62 : bytesT E.P 62 = some 160 := by kernel_rfl
@[simp] theorem bytesT_9 : bytesT E.P 9 = some 16 := by kernel_rfl
@[simp] theorem bytesT_94 : bytesT E.P 94 = some 56 := by kernel_rfl
@[simp] theorem concrete_103 : E.P.concrete 103 = true := by kernel_rfl
@[simp] theorem concrete_128 : E.P.concrete 128 = true := by kernel_rfl
@[simp] theorem concrete_129 : E.P.concrete 129 = true := by kernel_rfl
@[simp] theorem concrete_188 : E.P.concrete 188 = true := by kernel_rfl
@[simp] theorem concrete_248 : E.P.concrete 248 = true := by kernel_rfl
@[simp] theorem concrete_46 : E.P.concrete 46 = true := by kernel_rfl
@[simp] theorem concrete_9 : E.P.concrete 9 = true := by kernel_rfl
@[simp] theorem fieldT_112_0 : fieldT E.P 112 0 = some 0 := by kernel_rfl
@[simp] theorem fieldT_112_1 : fieldT E.P 112 1 = some 1 := by kernel_rfl
@[simp] theorem fieldT_112_2 : fieldT E.P 112 2 = some 2 := by kernel_rfl
@[simp] theorem fieldT_112_3 : fieldT E.P 112 3 = some 3 := by kernel_rfl
@[simp] theorem fieldT_112_4 : fieldT E.P 112 4 = some 4 := by kernel_rfl
@[simp] theorem fieldT_131_0 : fieldT E.P 131 0 = some 0 := by kernel_rfl
@[simp] theorem fieldT_131_1 : fieldT E.P 131 1 = some 1 := by kernel_rfl
@[simp] theorem fieldT_147_0 : fieldT E.P 147 0 = some 0 := by kernel_rfl
@[simp] theorem fieldT_147_1 : fieldT E.P 147 1 = some 1 := by kernel_rfl
@[simp] theorem fieldT_147_2 : fieldT E.P 147 2 = some 2 := by kernel_rfl
@[simp] theorem fieldT_147_3 : fieldT E.P 147 3 = some 3 := by kernel_rfl
@[simp] theorem fieldT_155_0 : fieldT E.P 155 0 = some 0 := by kernel_rfl
@[simp] theorem fieldT_155_1 : fieldT E.P 155 1 = some 1 := by kernel_rfl
@[simp] theorem fieldT_155_2 : fieldT E.P 155 2 = some 2 := by kernel_rfl
@[simp] theorem fieldT_155_3 : fieldT E.P 155 3 = some 3 := by kernel_rfl
@[simp] theorem fieldT_158_0 : fieldT E.P 158 0 = some 0 := by kernel_rfl
@[simp] theorem fieldT_158_1 : fieldT E.P 158 1 = some 1 := by kernel_rfl
@[simp] theorem fieldT_163_0 : fieldT E.P 163 0 = some 0 := by kernel_rfl
@[simp] theorem fieldT_163_1 : fieldT E.P 163 1 = some 1 := by kernel_rfl
@[simp] theorem fieldT_190_1 : fieldT E.P 190 1 = some 1 := by kernel_rfl
@[simp] theorem fieldT_26_0 : fieldT E.P 26 0 = some 0 := by kernel_rfl
@[simp] theorem fieldT_26_1 : fieldT E.P 26 1 = some 1 := by kernel_rfl
@[simp] theorem fieldT_26_2 : fieldT E.P 26 2 = some 2 := by kernel_rfl
@[simp] theorem fieldT_26_3 : fieldT E.P 26 3 = some 3 := by kernel_rfl
@[simp] theorem fieldT_26_4 : fieldT E.P 26 4 = some 4 := by kernel_rfl
@[simp] theorem fieldT_52_0 : fieldT E.P 52 0 = some 0 := by kernel_rfl
@[simp] theorem fieldT_52_1 : fieldT E.P 52 1 = some 1 := by kernel_rfl
@[simp] theorem fieldT_52_2 : fieldT E.P 52 2 = some 2 := by kernel_rfl
@[simp] theorem fieldT_60_0 : fieldT E.P 60 0 = some 0 := by kernel_rfl
@[simp] theorem fieldT_60_1 : fieldT E.P 60 1 = some 1 := by kernel_rfl
@[simp] theorem fieldT_60_2 : fieldT E.P 60 2 = some 2 := by kernel_rfl
@[simp] theorem fieldT_60_3 : fieldT E.P 60 3 = some 3 := by kernel_rfl
@[simp] theorem fieldT_60_4 : fieldT E.P 60 4 = some 4 := by kernel_rfl
@[simp] theorem fieldT_60_5 : fieldT E.P 60 5 = some 5 := by kernel_rfl
@[simp] theorem fieldT_60_6 : fieldT E.P 60 6 = some 6 := by kernel_rfl
@[simp] theorem fieldT_60_7 : fieldT E.P 60 7 = some 7 := by kernel_rfl
@[simp] theorem fieldT_62_0 : fieldT E.P 62 0 = some 0 := by kernel_rfl
@[simp] theorem fieldT_62_1 : fieldT E.P 62 1 = some 1 := by kernel_rfl
@[simp] theorem fieldT_62_2 : fieldT E.P 62 2 = some 2 := by kernel_rfl
@[simp] theorem fieldT_62_3 : fieldT E.P 62 3 = some 10 := by kernel_rfl
@[simp] theorem fieldT_67_0 : fieldT E.P 67 0 = some 0 := by kernel_rfl
@[simp] theorem fieldT_67_1 : fieldT E.P 67 1 = some 1 := by kernel_rfl
@[simp] theorem fieldT_67_2 : fieldT E.P 67 2 = some 2 := by kernel_rfl
@[simp] theorem fieldT_67_3 : fieldT E.P 67 3 = some 3 := by kernel_rfl
@[simp] theorem fieldT_67_4 : fieldT E.P 67 4 = some 4 := by kernel_rfl
@[simp] theorem fieldT_74_0 : fieldT E.P 74 0 = some 0 := by kernel_rfl
@[simp] theorem fieldT_74_1 : fieldT E.P 74 1 = some 1 := by kernel_rfl
@[simp] theorem fieldT_76_0 : fieldT E.P 76 0 = some 0 := by kernel_rfl
@[simp] theorem fieldT_94_0 : fieldT E.P 94 0 = some 0 := by kernel_rfl
@[simp] theorem fieldT_94_1 : fieldT E.P 94 1 = some 1 := by kernel_rfl
@[simp] theorem fieldT_94_2 : fieldT E.P 94 2 = some 2 := by kernel_rfl
@[simp] theorem fieldT_94_3 : fieldT E.P 94 3 = some 3 := by kernel_rfl
@[simp] theorem fieldT_94_4 : fieldT E.P 94 4 = some 4 := by kernel_rfl
@[simp] theorem kindT_103 : kindT E.P 103 = Kd.ptr := by kernel_rfl
@[simp] theorem kindT_112 : kindT E.P 112 = Kd.struct := by kernel_rfl
@[simp] theorem kindT_128 : kindT E.P 128 = Kd.ptr := by kernel_rfl
@[simp] theorem kindT_129 : kindT E.P 129 = Kd.ptr := by kernel_rfl
@[simp] theorem kindT_132 : kindT E.P 132 = Kd.other := by kernel_rfl
@[simp] theorem kindT_140 : kindT E.P 140 = Kd.int IntKind.u8 := by kernel_rfl
@[simp] theorem kindT_149 : kindT E.P 149 = Kd.ptr := by kernel_rfl
@[simp] theorem kindT_153 : kindT E.P 153 = Kd.slice 9 := by kernel_rfl
@[simp] theorem kindT_186 : kindT E.P 186 = Kd.slice 28 := by kernel_rfl
@[simp] theorem kindT_188 : kindT E.P 188 = Kd.ptr := by kernel_rfl
@[simp] theorem kindT_20 : kindT E.P 20 = Kd.iface := by kernel_rfl
@[simp] theorem kindT_23 : kindT E.P 23 = Kd.slice 62 := by kernel_rfl
@[simp] theorem kindT_24 : kindT E.P 24 = Kd.int IntKind.u32 := by kernel_rfl
@[simp] theorem kindT_248 : kindT E.P 248 = Kd.ptr := by kernel_rfl
@[simp] theorem kindT_28 : kindT E.P 28 = Kd.iface := by kernel_rfl
@[simp] theorem kindT_3 : kindT E.P 3 = Kd.int IntKind.i64 := by kernel_rfl
@[simp] theorem kindT_39 : kindT E.P 39 = Kd.int IntKind.u64 := by kernel_rfl
@[simp] theorem kindT_4 : kindT E.P 4 = Kd.bool := by kernel_rfl
@[simp] theorem kindT_46 : kindT E.P 46 = Kd.int IntKind.i64 := by kernel_rfl
@[simp] theorem kindT_5 : kindT E.P 5 = Kd.int IntKind.u8 := by kernel_rfl
@[simp] theorem kindT_58 : kindT E.P 58 = Kd.slice 60 := by kernel_rfl
@[simp] theorem kindT_60 : kindT E.P 60 = Kd.struct := by kernel_rfl
@[simp] theorem kindT_62 : kindT E.P 62 = Kd.struct := by kernel_rfl
@[simp] theorem kindT_65 : kindT E.P 65 = Kd.slice 112 := by kernel_rfl
@[simp] theorem kindT_71 : kindT E.P 71 = Kd.ptr := by kernel_rfl
@[simp] theorem kindT_72 : kindT E.P 72 = Kd.slice 5 := by kernel_rfl
@[simp] theorem kindT_88 : kindT E.P 88 = Kd.int IntKind.u64 := by kernel_rfl
@[simp] theorem kindT_9 : kindT E.P 9 = Kd.str := by kernel_rfl
@[simp] theorem kindT_90 : kindT E.P 90 = Kd.slice 94 := by kernel_rfl
@[simp] theorem kindT_94 : kindT E.P 94 = Kd.struct := by kernel_rfl
@[simp] theorem kindT_96 : kindT E.P 96 = Kd.slice 3 := by kernel_rfl
@[simp] theorem partT_112_2 : partT E.P 112 2 = some (2, 1, false) := by kernel_rfl
@[simp] theorem partT_112_3 : partT E.P 112 3 = some (3, 1, false) := by kernel_rfl
@[simp] theorem placesT_112 : placesT E.P 112 = some [(0, 1), (1, 1), (2, 1), (3, 1), (4, 1)] := by kernel_rfl
@[simp] theorem placesT_131 : placesT E.P 131 = some [(0, 1), (1, 1)] := by kernel_rfl
@[simp] theorem placesT_147 : placesT E.P 147 = some [(0, 1), (1, 1), (2, 1), (3, 1)] := by kernel_rfl
@[simp] theorem placesT_155 : placesT E.P 155 = some [(0, 1), (1, 1), (2, 1), (3, 1)] := by kernel_rfl
@[simp] theorem placesT_158 : placesT E.P 158 = some [(0, 1), (1, 1)] := by kernel_rfl
@[simp] theorem placesT_163 : placesT E.P 163 = some [(0, 1), (1, 1)] := by kernel_rfl
@[simp] theorem placesT_190 : placesT E.P 190 = some [(0, 1), (1, 1)] := by kernel_rfl
@[simp] theorem placesT_26 : placesT E.P 26 = some [(0, 1), (1, 1), (2, 1), (3, 1), (4, 1)] := by kernel_rfl
@[simp] theorem placesT_52 : placesT E.P 52 = some [(0, 1), (1, 1), (2, 1)] := by kernel_rfl
@[simp] theorem placesT_60 : placesT E.P 60 = some [(0, 1), (1, 1), (2, 1), (3, 1), (4, 1), (5, 1), (6, 1), (7, 1)] := by kernel_rfl
@[simp] theorem placesT_62 : placesT E.P 62 = some [(0, 1), (1, 1), (2, 8), (10, 1)] := by kernel_rfl
@[simp] theorem placesT_67 : placesT E.P 67 = some [(0, 1), (1, 1), (2, 1), (3, 1), (4, 1)] := by kernel_rfl
@[simp] theorem placesT_94 : placesT E.P 94 = some [(0, 1), (1, 1), (2, 1), (3, 1), (4, 1)] := by kernel_rfl
@[simp] theorem shapeT_112 : shapeT E.P 112 = some (5, true) := by kernel_rfl
@[simp] theorem shapeT_120 : shapeT E.P 120 = some (1, false) := by kernel_rfl
@[simp] theorem shapeT_128 : shapeT E.P 128 = some (1, false) := by kernel_rfl
@[simp] theorem shapeT_135 : shapeT E.P 135 = some (3, true) := by kernel_rfl
@[simp] theorem shapeT_138 : shapeT E.P 138 = some (1, false) := by kernel_rfl
@[simp] theorem shapeT_153 : shapeT E.P 153 = some (1, false) := by kernel_rfl
@[simp] theorem shapeT_155 : shapeT E.P 155 = some (4, true) := by kernel_rfl
@[simp] theorem shapeT_158 : shapeT E.P 158 = some (2, true) := by kernel_rfl
@[simp] theorem shapeT_163 : shapeT E.P 163 = some (2, true) := by kernel_rfl
@[simp] theorem shapeT_23 : shapeT E.P 23 = some (1, false) := by kernel_rfl
@[simp] theorem shapeT_24 : shapeT E.P 24 = some (1, false) := by kernel_rfl
@[simp] theorem shapeT_26 : shapeT E.P 26 = some (5, true) := by kernel_rfl
@[simp] theorem shapeT_28 : shapeT E.P 28 = some (1, false) := by kernel_rfl
@[simp] theorem shapeT_3 : shapeT E.P 3 = some (1, false) := by kernel_rfl
@[simp] theorem shapeT_39 : shapeT E.P 39 = some (1, false) := by kernel_rfl
@[simp] theorem shapeT_4 : shapeT E.P 4 = some (1, false) := by kernel_rfl
@[simp] theorem shapeT_46 : shapeT E.P 46 = some (1, false) := by kernel_rfl
@[simp] theorem shapeT_5 : shapeT E.P 5 = some (1, false) := by kernel_rfl
@[simp] theorem shapeT_52 : shapeT E.P 52 = some (3, true) := by kernel_rfl
@[simp] theorem shapeT_58 : shapeT E.P 58 = some (1, false) := by kernel_rfl
@[simp] theorem shapeT_60 : shapeT E.P 60 = some (8, true) := by kernel_rfl
@[simp] theorem shapeT_62 : shapeT E.P 62 = some (11, true) := by kernel_rfl
@[simp] theorem shapeT_63 : shapeT E.P 63 = some (1, false) := by kernel_rfl
@[simp] theorem shapeT_65 : shapeT E.P 65 = some (1, false) := by kernel_rfl
@[simp] theorem shapeT_71 : shapeT E.P 71 = some (1, false) := by kernel_rfl
@[simp] theorem shapeT_72 : shapeT E.P 72 = some (1, false) := by kernel_rfl
@[simp] theorem shapeT_9 : shapeT E.P 9 = some (1, false) := by kernel_rfl
@[simp] theorem shapeT_94 : shapeT E.P 94 = some (5, true) := by kernel_rfl
@[simp] theorem szT_112 : szT E.P 112 = some 5 := by kernel_rfl
@[simp] theorem szT_135 : szT E.P 135 = some 3 := by kernel_rfl
@[simp] theorem szT_138 : szT E.P 138 = some 1 := by kernel_rfl
@[simp] theorem szT_153 : szT E.P 153 = some 1 := by kernel_rfl
@[simp] theorem szT_155 : szT E.P 155 = some 4 := by kernel_rfl
@[simp] theorem szT_158 : szT E.P 158 = some 2 := by kernel_rfl
@[simp] theorem szT_163 : szT E.P 163 = some 2 := by kernel_rfl
@[simp] theorem szT_23 : szT E.P 23 = some 1 := by kernel_rfl
@[simp] theorem szT_24 : szT E.P 24 = some 1 := by kernel_rfl
@[simp] theorem szT_26 : szT E.P 26 = some 5 := by kernel_rfl
@[simp] theorem szT_28 : szT E.P 28 = some 1 := by kernel_rfl
@[simp] theorem szT_3 : szT E.P 3 = some 1 := by kernel_rfl
@[simp] theorem szT_39 : szT E.P 39 = some 1 := by kernel_rfl
@[simp] theorem szT_4 : szT E.P 4 = some 1 := by kernel_rfl
@[simp] theorem szT_5 : szT E.P 5 = some 1 := by kernel_rfl
@[simp] theorem szT_58 : szT E.P 58 = some 1 := by kernel_rfl
@[simp] theorem szT_60 : szT E.P 60 = some 8 := by kernel_rfl
@[simp] theorem szT_62 : szT E.P 62 = some 11 := by kernel_rfl
@[simp] theorem szT_65 : szT E.P 65 = some 1 := by kernel_rfl
@[simp] theorem szT_71 : szT E.P 71 = some 1 := by kernel_rfl
@[simp] theorem szT_72 : szT E.P 72 = some 1 := by kernel_rfl
@[simp] theorem szT_9 : szT E.P 9 = some 1 := by kernel_rfl
@[simp] theorem szT_94 : szT E.P 94 = some 5 := by kernel_rfl
@[simp] theorem und_132 : (E.P.underlying 132).isSome = true := by kernel_rfl
@[simp] theorem und_24 : (E.P.underlying 24).isSome = true := by kernel_rfl
@[simp] theorem und_3 : (E.P.underlying 3).isSome = true := by kernel_rfl
@[simp] theorem und_39 : (E.P.underlying 39).isSome = true := by kernel_rfl
@[simp] theorem und_5 : (E.P.underlying 5).isSome = true := by kernel_rfl
@[simp] theorem und_71 : (E.P.underlying 71).isSome = true := by kernel_rfl
@[simp] theorem und_72 : (E.P.underlying 72).isSome = true := by kernel_rfl
@[simp] theorem und_9 : (E.P.underlying 9).isSome = true := by kernel_rfl
@[simp] theorem zeroT_112 : zeroT E.P 112 = some [A.int IntKind.i64 0, A.int IntKind.i64 0, A.int IntKind.u64 0, A.str [], A.str []] := by kernel_rfl
@[simp] theorem zeroT_128 : zeroT E.P 128 = some [A.nilp] := by kernel_rfl
@[simp] theorem zeroT_131 : zeroT E.P 131 = some [A.int IntKind.i64 0, A.nili] := by kernel_rfl
@[simp] theorem zeroT_135 : zeroT E.P 135 = some [A.nilp, A.nilp, A.int IntKind.u64 0] := by kernel_rfl
@[simp] theorem zeroT_147 : zeroT E.P 147 = some [A.str [], A.int IntKind.i64 0, A.nili, A.int IntKind.i64 0] := by kernel_rfl
@[simp] theorem zeroT_155 : zeroT E.P 155 = some [A.int IntKind.i64 0, A.int IntKind.u64 0, A.str [], A.nils] := by kernel_rfl
@[simp] theorem zeroT_158 : zeroT E.P 158 = some [A.nils, A.str []] := by kernel_rfl
@[simp] theorem zeroT_163 : zeroT E.P 163 = some [A.nils, A.str []] := by kernel_rfl
@[simp] theorem zeroT_190 : zeroT E.P 190 = some [A.int IntKind.i64 0, A.nili] := by kernel_rfl
@[simp] theorem zeroT_26 : zeroT E.P 26 = some [A.str [], A.str [], A.nils, A.int IntKind.u32 0, A.str []] := by kernel_rfl
@[simp] theorem zeroT_28 : zeroT E.P 28 = some [A.nili] := by kernel_rfl
@[simp] theorem zeroT_3 : zeroT E.P 3 = some [A.int IntKind.i64 0] := by kernel_rfl
@[simp] theorem zeroT_46 : zeroT E.P 46 = some [A.int IntKind.i64 0] := by kernel_rfl
@[simp] theorem zeroT_5 : zeroT E.P 5 = some [A.int IntKind.u8 0] := by kernel_rfl
@[simp] theorem zeroT_52 : zeroT E.P 52 = some [A.nils, A.int IntKind.u32 0, A.str []] := by kernel_rfl
@[simp] theorem zeroT_60 : zeroT E.P 60 = some [A.int IntKind.i64 0, A.str [], A.bool false, A.int IntKind.u64 0, A.nils, A.nils, A.str [], A.str []] := by kernel_rfl
@[simp] theorem zeroT_62 : zeroT E.P 62 = some [A.str [], A.bool false, A.int IntKind.i64 0, A.str [], A.bool false, A.int IntKind.u64 0, A.nils, A.nils, A.str [], A.str [], A.str []] := by kernel_rfl
@[simp] theorem zeroT_67 : zeroT E.P 67 = some [A.nili, A.str [], A.int IntKind.i64 0, A.int IntKind.i64 0, A.nils] := by kernel_rfl
@[simp] theorem zeroT_74 : zeroT E.P 74 = some [A.nilp, A.nils] := by kernel_rfl
@[simp] theorem zeroT_76 : zeroT E.P 76 = some [A.nilp, A.nils] := by kernel_rfl
@[simp] theorem zeroT_9 : zeroT E.P 9 = some [A.str []] := by kernel_rfl
@[simp] theorem zeroT_94 : zeroT E.P 94 = some [A.int IntKind.i64 0, A.int IntKind.i64 0, A.int IntKind.u64 0, A.str [], A.str []] := by kernel_rfl
@[simp] theorem frz_103 : E.frz 103 = false := by kernel_rfl
@[simp] theorem frz_128 : E.frz 128 = true := by kernel_rfl
@[simp] theorem frz_129 : E.frz 129 = false := by kernel_rfl
@[simp] theorem frz_188 : E.frz 188 = true := by kernel_rfl
@[simp] theorem frz_248 : E.frz 248 = false := by kernel_rfl
@[simp] theorem frz_46 : E.frz 46 = false := by kernel_rfl
@[simp] theorem frz_9 : E.frz 9 = false := by kernel_rfl
@[simp] theorem draw_4_5 : E.draw 4 5 = some [(5, 4), (6, 4)] := by kernel_rfl
@[simp] theorem draw_5_10 : E.draw 5 10 = some [] := by kernel_rfl
@[simp] theorem draw_7_13 : E.draw 7 13 = some [(3, 5)] := by kernel_rfl
@[simp] theorem draw_12_2 : E.draw 12 2 = some [(12, 1), (12, 3), (12, 5), (12, 7)] := by kernel_rfl
@[simp] theorem draw_12_4 : E.draw 12 4 = some [(4, 5)] := by kernel_rfl
@[simp] theorem draw_13_1 : E.draw 13 1 = some [(1, 6), (8, 6), (1, 10), (12, 6), (12, 10), (1, 14)] := by kernel_rfl
@[simp] theorem draw_20_8 : E.draw 20 8 = some [(1, 0)] := by kernel_rfl
@[simp] theorem draw_20_11 : E.draw 20 11 = some [(1, 4)] := by kernel_rfl
@[simp] theorem draw_20_13 : E.draw 20 13 = some [(1, 4)] := by kernel_rfl
@[simp] theorem draw_23_1 : E.draw 23 1 = some [(21, 23)] := by kernel_rfl
@[simp] theorem draw_24_1 : E.draw 24 1 = some [(4, 2), (8, 2), (8, 5), (12, 2), (12, 5), (12, 9), (17, 2), (17, 5), (17, 9), (17, 14)] := by kernel_rfl
@[simp] theorem draw_27_14 : E.draw 27 14 = some [(5, 4)] := by kernel_rfl
@[simp] theorem draw_31_2 : E.draw 31 2 = some [(5, 1)] := by kernel_rfl
@[simp] theorem draw_31_5 : E.draw 31 5 = some [(4, 5)] := by kernel_rfl
@[simp] theorem draw_33_6 : E.draw 33 6 = some [(12, 7)] := by kernel_rfl
@[simp] theorem draw_36_6 : E.draw 36 6 = some [] := by kernel_rfl
@[simp] theorem draw_50_4 : E.draw 50 4 = some [] := by kernel_rfl
@[simp] theorem draw_53_10 : E.draw 53 10 = some [(1, 0)] := by kernel_rfl
@[simp] theorem draw_62_2 : E.draw 62 2 = some [(6, 10)] := by kernel_rfl
@[simp] theorem draw_63_6 : E.draw 63 6 = some [(3, 4)] := by kernel_rfl
@[simp] theorem draw_65_1 : E.draw 65 1 = some [] := by kernel_rfl
@[simp] theorem draw_71_4 : E.draw 71 4 = some [] := by kernel_rfl
@[simp] theorem draw_71_15 : E.draw 71 15 = some [(1, 2)] := by kernel_rfl
@[simp] theorem draw_71_16 : E.draw 71 16 = some [(3, 5)] := by kernel_rfl
@[simp] theorem draw_71_18 : E.draw 71 18 = some [(1, 2)] := by kernel_rfl
@[simp] theorem draw_71_19 : E.draw 71 19 = some [(3, 5)] := by kernel_rfl
@[simp] theorem draw_71_21 : E.draw 71 21 = some [(4, 5)] := by kernel_rfl
@[simp] theorem draw_72_3 : E.draw 72 3 = some [(6, 4), (10, 4), (10, 8)] := by kernel_rfl
@[simp] theorem draw_84_10 : E.draw 84 10 = some [(1, 0)] := by kernel_rfl
@[simp] theorem draw_89_1 : E.draw 89 1 = some [(10, 12)] := by kernel_rfl
@[simp] theorem draw_96_8 : E.draw 96 8 = some [] := by kernel_rfl
@[simp] theorem draw_101_8 : E.draw 101 8 = some [(3, 5)] := by kernel_rfl
@[simp] theorem draw_102_1 : E.draw 102 1 = some [(2, 5)] := by kernel_rfl
@[simp] theorem draw_104_1 : E.draw 104 1 = some [(2, 5)] := by kernel_rfl
@[simp] theorem draw_107_6 : E.draw 107 6 = some [] := by kernel_rfl
@[simp] theorem draw_116_5 : E.draw 116 5 = some [(4, 0)] := by kernel_rfl
@[simp] theorem draw_116_6 : E.draw 116 6 = some [] := by kernel_rfl
@[simp] theorem draw_120_1 : E.draw 120 1 = some [(14, 16)] := by kernel_rfl
@[simp] theorem draw_120_6 : E.draw 120 6 = some [(17, 20)] := by kernel_rfl
@[simp] theorem draw_123_22 : E.draw 123 22 = some [(4, 2)] := by kernel_rfl
@[simp] theorem draw_130_3 : E.draw 130 3 = some [(9, 10)] := by kernel_rfl
@[simp] theorem draw_134_3 : E.draw 134 3 = some [(9, 10)] := by kernel_rfl
@[simp] theorem draw_140_2 : E.draw 140 2 = some [] := by kernel_rfl
@[simp] theorem draw_147_3 : E.draw 147 3 = some [] := by kernel_rfl
@[simp] theorem draw_150_1 : E.draw 150 1 = some [] := by kernel_rfl
@[simp] theorem draw_150_6 : E.draw 150 6 = some [] := by kernel_rfl
@[simp] theorem draw_153_3 : E.draw 153 3 = some [] := by kernel_rfl
@[simp] theorem draw_161_0 : E.draw 161 0 = some [(12, 8)] := by kernel_rfl
@[simp] theorem live_9_10 : E.live 9 10 = [0, 1, 5, 7, 8] := by kernel_rfl
@[simp] theorem live_20_4 : E.live 20 4 = [1, 4, 6, 7, 8, 9] := by kernel_rfl
@[simp] theorem live_27_11 : E.live 27 11 = [2, 7, 10, 37, 38, 39] := by kernel_rfl
@[simp] theorem live_30_3 : E.live 30 3 = [0, 1, 2, 7, 13, 14, 15] := by kernel_rfl
@[simp] theorem live_33_4 : E.live 33 4 = [0, 1, 2, 7] := by kernel_rfl
@[simp] theorem live_36_4 : E.live 36 4 = [0, 1, 4, 5] := by kernel_rfl
@[simp] theorem live_38_1 : E.live 38 1 = [0, 1, 3, 4, 14, 15, 16] := by kernel_rfl
@[simp] theorem live_44_2 : E.live 44 2 = [1, 4, 7, 8, 9] := by kernel_rfl
@[simp] theorem live_45_3 : E.live 45 3 = [2, 6, 8, 17, 18, 19] := by kernel_rfl
@[simp] theorem live_46_2 : E.live 46 2 = [0, 3] := by kernel_rfl
@[simp] theorem live_48_3 : E.live 48 3 = [0, 3, 7, 8] := by kernel_rfl
@[simp] theorem live_50_2 : E.live 50 2 = [0, 3, 4, 5] := by kernel_rfl
@[simp] theorem live_53_5 : E.live 53 5 = [1, 4, 6, 7, 8, 9, 10] := by kernel_rfl
@[simp] theorem live_56_2 : E.live 56 2 = [0, 1, 4, 5] := by kernel_rfl
@[simp] theorem live_57_3 : E.live 57 3 = [2, 6, 7, 8, 9] := by kernel_rfl
@[simp] theorem live_59_3 : E.live 59 3 = [0, 1, 5, 6] := by kernel_rfl
@[simp] theorem live_63_3 : E.live 63 3 = [0, 4, 5, 6, 7] := by kernel_rfl
@[simp] theorem live_66_1 : E.live 66 1 = [0, 1, 9, 10, 11] := by kernel_rfl
@[simp] theorem live_67_2 : E.live 67 2 = [0, 1, 4, 5] := by kernel_rfl
@[simp] theorem live_70_4 : E.live 70 4 = [0, 1, 2, 6, 8, 9, 16, 17, 18] := by kernel_rfl
@[simp] theorem live_72_5 : E.live 72 5 = [1, 2, 3, 7] := by kernel_rfl
@[simp] theorem live_73_4 : E.live 73 4 = [1, 2, 6, 15, 16, 17] := by kernel_rfl
@[simp] theorem live_81_3 : E.live 81 3 = [0, 1, 4, 5, 6, 7] := by kernel_rfl
@[simp] theorem live_82_2 : E.live 82 2 = [0, 2, 3] := by kernel_rfl
@[simp] theorem live_84_7 : E.live 84 7 = [1, 4, 5, 6, 8, 9, 10] := by kernel_rfl
@[simp] theorem live_88_1 : E.live 88 1 = [0, 1, 3, 6, 8] := by kernel_rfl
@[simp] theorem live_88_18 : E.live 88 18 = [1, 3, 6, 8, 48, 49, 50] := by kernel_rfl
@[simp] theorem live_101_3 : E.live 101 3 = [1, 4, 5, 11, 12, 13] := by kernel_rfl
@[simp] theorem live_107_4 : E.live 107 4 = [2, 3, 4, 5] := by kernel_rfl
@[simp] theorem live_109_8 : E.live 109 8 = [1, 2, 4, 40, 41, 42] := by kernel_rfl
@[simp] theorem live_112_2 : E.live 112 2 = [0, 1, 5] := by kernel_rfl
@[simp] theorem live_114_22 : E.live 114 22 = [0, 1, 4, 6, 7, 8, 9] := by kernel_rfl
@[simp] theorem live_116_3 : E.live 116 3 = [2, 3, 6, 8, 9, 10] := by kernel_rfl
@[simp] theorem live_120_9 : E.live 120 9 = [1, 2, 4, 6] := by kernel_rfl
@[simp] theorem live_122_2 : E.live 122 2 = [0, 3] := by kernel_rfl
@[simp] theorem live_123_17 : E.live 123 17 = [1, 5, 6] := by kernel_rfl
@[simp] theorem live_129_12 : E.live 129 12 = [0, 1, 5, 39, 40, 41] := by kernel_rfl
@[simp] theorem live_129_22 : E.live 129 22 = [1, 8, 63, 64, 65] := by kernel_rfl
@[simp] theorem live_132_3 : E.live 132 3 = [0, 1, 2, 7, 13, 14, 15] := by kernel_rfl
@[simp] theorem live_135_4 : E.live 135 4 = [1, 2, 6, 15, 16, 17] := by kernel_rfl
@[simp] theorem live_138_3 : E.live 138 3 = [1, 2, 7, 10, 11, 12] := by kernel_rfl
@[simp] theorem live_139_3 : E.live 139 3 = [1, 2, 7, 10, 11, 12] := by kernel_rfl
@[simp] theorem live_140_5 : E.live 140 5 = [0, 2, 3, 4] := by kernel_rfl
@[simp] theorem live_141_5 : E.live 141 5 = [0, 1, 4, 5, 6, 7, 8] := by kernel_rfl
@[simp] theorem live_142_3 : E.live 142 3 = [0, 3, 4] := by kernel_rfl
@[simp] theorem live_143_3 : E.live 143 3 = [0, 1, 2, 3, 8, 9] := by kernel_rfl
@[simp] theorem live_149_3 : E.live 149 3 = [5, 12, 13, 14] := by kernel_rfl
@[simp] theorem live_151_3 : E.live 151 3 = [0, 1] := by kernel_rfl
@[simp] theorem live_152_2 : E.live 152 2 = [0, 1, 4, 7, 8] := by kernel_rfl
@[simp] theorem live_159_3 : E.live 159 3 = [0, 3, 4] := by kernel_rfl
@[simp] theorem live_162_3 : E.live 162 3 = [0, 2, 3, 4, 5, 10, 11] := by kernel_rfl
noncomputable def L_9_10 : Code := ((Go.Proofs.Tryz.f9.body.getD .skip).loopAt 10).getD .skip
noncomputable def L_20_4 : Code := ((Go.Proofs.Tryz.f20.body.getD .skip).loopAt 4).getD .skip
noncomputable def L_27_11 : Code := ((Go.Proofs.Tryz.f27.body.getD .skip).loopAt 11).getD .skip
noncomputable def L_30_3 : Code := ((Go.Proofs.Tryz.f30.body.getD .skip).loopAt 3).getD .skip
noncomputable def L_33_4 : Code := ((Go.Proofs.Tryz.f33.body.getD .skip).loopAt 4).getD .skip
noncomputable def L_36_4 : Code := ((Go.Proofs.Tryz.f36.body.getD .skip).loopAt 4).getD .skip
noncomputable def L_38_1 : Code := ((Go.Proofs.Tryz.f38.body.getD .skip).loopAt 1).getD .skip
noncomputable def L_44_2 : Code := ((Go.Proofs.Tryz.f44.body.getD .skip).loopAt 2).getD .skip
noncomputable def L_45_3 : Code := ((Go.Proofs.Tryz.f45.body.getD .skip).loopAt 3).getD .skip
noncomputable def L_46_2 : Code := ((Go.Proofs.Tryz.f46.body.getD .skip).loopAt 2).getD .skip
noncomputable def L_48_3 : Code := ((Go.Proofs.Tryz.f48.body.getD .skip).loopAt 3).getD .skip
noncomputable def L_50_2 : Code := ((Go.Proofs.Tryz.f50.body.getD .skip).loopAt 2).getD .skip
noncomputable def L_53_5 : Code := ((Go.Proofs.Tryz.f53.body.getD .skip).loopAt 5).getD .skip
noncomputable def L_56_2 : Code := ((Go.Proofs.Tryz.f56.body.getD .skip).loopAt 2).getD .skip
noncomputable def L_57_3 : Code := ((Go.Proofs.Tryz.f57.body.getD .skip).loopAt 3).getD .skip
noncomputable def L_59_3 : Code := ((Go.Proofs.Tryz.f59.body.getD .skip).loopAt 3).getD .skip
noncomputable def L_63_3 : Code := ((Go.Proofs.Tryz.f63.body.getD .skip).loopAt 3).getD .skip
noncomputable def L_66_1 : Code := ((Go.Proofs.Tryz.f66.body.getD .skip).loopAt 1).getD .skip
noncomputable def L_67_2 : Code := ((Go.Proofs.Tryz.f67.body.getD .skip).loopAt 2).getD .skip
noncomputable def L_70_4 : Code := ((Go.Proofs.Tryz.f70.body.getD .skip).loopAt 4).getD .skip
noncomputable def L_72_5 : Code := ((Go.Proofs.Tryz.f72.body.getD .skip).loopAt 5).getD .skip
noncomputable def L_73_4 : Code := ((Go.Proofs.Tryz.f73.body.getD .skip).loopAt 4).getD .skip
noncomputable def L_81_3 : Code := ((Go.Proofs.Tryz.f81.body.getD .skip).loopAt 3).getD .skip
noncomputable def L_82_2 : Code := ((Go.Proofs.Tryz.f82.body.getD .skip).loopAt 2).getD .skip
noncomputable def L_84_7 : Code := ((Go.Proofs.Tryz.f84.body.getD .skip).loopAt 7).getD .skip
noncomputable def L_88_1 : Code := ((Go.Proofs.Tryz.f88.body.getD .skip).loopAt 1).getD .skip
noncomputable def L_88_18 : Code := ((Go.Proofs.Tryz.f88.body.getD .skip).loopAt 18).getD .skip
noncomputable def L_101_3 : Code := ((Go.Proofs.Tryz.f101.body.getD .skip).loopAt 3).getD .skip
noncomputable def L_107_4 : Code := ((Go.Proofs.Tryz.f107.body.getD .skip).loopAt 4).getD .skip
noncomputable def L_109_8 : Code := ((Go.Proofs.Tryz.f109.body.getD .skip).loopAt 8).getD .skip
noncomputable def L_112_2 : Code := ((Go.Proofs.Tryz.f112.body.getD .skip).loopAt 2).getD .skip
noncomputable def L_114_22 : Code := ((Go.Proofs.Tryz.f114.body.getD .skip).loopAt 22).getD .skip
noncomputable def L_116_3 : Code := ((Go.Proofs.Tryz.f116.body.getD .skip).loopAt 3).getD .skip
noncomputable def L_120_9 : Code := ((Go.Proofs.Tryz.f120.body.getD .skip).loopAt 9).getD .skip
noncomputable def L_122_2 : Code := ((Go.Proofs.Tryz.f122.body.getD .skip).loopAt 2).getD .skip
noncomputable def L_123_17 : Code := ((Go.Proofs.Tryz.f123.body.getD .skip).loopAt 17).getD .skip
noncomputable def L_129_12 : Code := ((Go.Proofs.Tryz.f129.body.getD .skip).loopAt 12).getD .skip
noncomputable def L_129_22 : Code := ((Go.Proofs.Tryz.f129.body.getD .skip).loopAt 22).getD .skip
noncomputable def L_132_3 : Code := ((Go.Proofs.Tryz.f132.body.getD .skip).loopAt 3).getD .skip
noncomputable def L_135_4 : Code := ((Go.Proofs.Tryz.f135.body.getD .skip).loopAt 4).getD .skip
noncomputable def L_138_3 : Code := ((Go.Proofs.Tryz.f138.body.getD .skip).loopAt 3).getD .skip
noncomputable def L_139_3 : Code := ((Go.Proofs.Tryz.f139.body.getD .skip).loopAt 3).getD .skip
noncomputable def L_140_5 : Code := ((Go.Proofs.Tryz.f140.body.getD .skip).loopAt 5).getD .skip
noncomputable def L_141_5 : Code := ((Go.Proofs.Tryz.f141.body.getD .skip).loopAt 5).getD .skip
noncomputable def L_142_3 : Code := ((Go.Proofs.Tryz.f142.body.getD .skip).loopAt 3).getD .skip
noncomputable def L_143_3 : Code := ((Go.Proofs.Tryz.f143.body.getD .skip).loopAt 3).getD .skip
noncomputable def L_149_3 : Code := ((Go.Proofs.Tryz.f149.body.getD .skip).loopAt 3).getD .skip
noncomputable def L_151_3 : Code := ((Go.Proofs.Tryz.f151.body.getD .skip).loopAt 3).getD .skip
noncomputable def L_152_2 : Code := ((Go.Proofs.Tryz.f152.body.getD .skip).loopAt 2).getD .skip
noncomputable def L_159_3 : Code := ((Go.Proofs.Tryz.f159.body.getD .skip).loopAt 3).getD .skip
noncomputable def L_162_3 : Code := ((Go.Proofs.Tryz.f162.body.getD .skip).loopAt 3).getD .skip
@[simp] theorem key_9_10 : L_9_10.key = 10 := by kernel_rfl
@[simp] theorem key_20_4 : L_20_4.key = 4 := by kernel_rfl
@[simp] theorem key_27_11 : L_27_11.key = 11 := by kernel_rfl
@[simp] theorem key_30_3 : L_30_3.key = 3 := by kernel_rfl
@[simp] theorem key_33_4 : L_33_4.key = 4 := by kernel_rfl
@[simp] theorem key_36_4 : L_36_4.key = 4 := by kernel_rfl
@[simp] theorem key_38_1 : L_38_1.key = 1 := by kernel_rfl
@[simp] theorem key_44_2 : L_44_2.key = 2 := by kernel_rfl
@[simp] theorem key_45_3 : L_45_3.key = 3 := by kernel_rfl
@[simp] theorem key_46_2 : L_46_2.key = 2 := by kernel_rfl
@[simp] theorem key_48_3 : L_48_3.key = 3 := by kernel_rfl
@[simp] theorem key_50_2 : L_50_2.key = 2 := by kernel_rfl
@[simp] theorem key_53_5 : L_53_5.key = 5 := by kernel_rfl
@[simp] theorem key_56_2 : L_56_2.key = 2 := by kernel_rfl
@[simp] theorem key_57_3 : L_57_3.key = 3 := by kernel_rfl
@[simp] theorem key_59_3 : L_59_3.key = 3 := by kernel_rfl
@[simp] theorem key_63_3 : L_63_3.key = 3 := by kernel_rfl
@[simp] theorem key_66_1 : L_66_1.key = 1 := by kernel_rfl
@[simp] theorem key_67_2 : L_67_2.key = 2 := by kernel_rfl
@[simp] theorem key_70_4 : L_70_4.key = 4 := by kernel_rfl
@[simp] theorem key_72_5 : L_72_5.key = 5 := by kernel_rfl
@[simp] theorem key_73_4 : L_73_4.key = 4 := by kernel_rfl
@[simp] theorem key_81_3 : L_81_3.key = 3 := by kernel_rfl
@[simp] theorem key_82_2 : L_82_2.key = 2 := by kernel_rfl
@[simp] theorem key_84_7 : L_84_7.key = 7 := by kernel_rfl
@[simp] theorem key_88_1 : L_88_1.key = 1 := by kernel_rfl
@[simp] theorem key_88_18 : L_88_18.key = 18 := by kernel_rfl
@[simp] theorem key_101_3 : L_101_3.key = 3 := by kernel_rfl
@[simp] theorem key_107_4 : L_107_4.key = 4 := by kernel_rfl
@[simp] theorem key_109_8 : L_109_8.key = 8 := by kernel_rfl
@[simp] theorem key_112_2 : L_112_2.key = 2 := by kernel_rfl
@[simp] theorem key_114_22 : L_114_22.key = 22 := by kernel_rfl
@[simp] theorem key_116_3 : L_116_3.key = 3 := by kernel_rfl
@[simp] theorem key_120_9 : L_120_9.key = 9 := by kernel_rfl
@[simp] theorem key_122_2 : L_122_2.key = 2 := by kernel_rfl
@[simp] theorem key_123_17 : L_123_17.key = 17 := by kernel_rfl
@[simp] theorem key_129_12 : L_129_12.key = 12 := by kernel_rfl
@[simp] theorem key_129_22 : L_129_22.key = 22 := by kernel_rfl
@[simp] theorem key_132_3 : L_132_3.key = 3 := by kernel_rfl
@[simp] theorem key_135_4 : L_135_4.key = 4 := by kernel_rfl
@[simp] theorem key_138_3 : L_138_3.key = 3 := by kernel_rfl
@[simp] theorem key_139_3 : L_139_3.key = 3 := by kernel_rfl
@[simp] theorem key_140_5 : L_140_5.key = 5 := by kernel_rfl
@[simp] theorem key_141_5 : L_141_5.key = 5 := by kernel_rfl
@[simp] theorem key_142_3 : L_142_3.key = 3 := by kernel_rfl
@[simp] theorem key_143_3 : L_143_3.key = 3 := by kernel_rfl
@[simp] theorem key_149_3 : L_149_3.key = 3 := by kernel_rfl
@[simp] theorem key_151_3 : L_151_3.key = 3 := by kernel_rfl
@[simp] theorem key_152_2 : L_152_2.key = 2 := by kernel_rfl
@[simp] theorem key_159_3 : L_159_3.key = 3 := by kernel_rfl
@[simp] theorem key_162_3 : L_162_3.key = 3 := by kernel_rfl
theorem eq_2 {p : Id} {args : List A} {h : Heap} : callW E p 2 args h = (execW E 2 p ((Go.Proofs.Tryz.f2.body).getD .skip) (initFr args) 0 h).bind (resX E.P false p Go.Proofs.Tryz.f2.results.toList) := callW_eq Go.Proofs.Tryz.f2 (by kernel_rfl) (by kernel_rfl) (by kernel_rfl) rfl (by kernel_rfl)
theorem eq_3 {p : Id} {args : List A} {h : Heap} : callW E p 3 args h = (execW E 3 p ((Go.Proofs.Tryz.f3.body).getD .skip) (initFr args) 0 h).bind (resX E.P false p Go.Proofs.Tryz.f3.results.toList) := callW_eq Go.Proofs.Tryz.f3 (by kernel_rfl) (by kernel_rfl) (by kernel_rfl) rfl (by kernel_rfl)
theorem eq_4 {p : Id} {args : List A} {h : Heap} : callW E p 4 args h = (execW E 4 p ((Go.Proofs.Tryz.f4.body).getD .skip) (initFr args) 0 h).bind (resX E.P false p Go.Proofs.Tryz.f4.results.toList) := callW_eq Go.Proofs.Tryz.f4 (by kernel_rfl) (by kernel_rfl) (by kernel_rfl) rfl (by kernel_rfl)
theorem eq_5 {p : Id} {args : List A} {h : Heap} : callW E p 5 args h = (execW E 5 p ((Go.Proofs.Tryz.f5.body).getD .skip) (initFr args) 0 h).bind (resX E.P false p Go.Proofs.Tryz.f5.results.toList) := callW_eq Go.Proofs.Tryz.f5 (by kernel_rfl) (by kernel_rfl) (by kernel_rfl) rfl (by kernel_rfl)
theorem eq_6 {p : Id} {args : List A} {h : Heap} : callW E p 6 args h = (execW E 6 p ((Go.Proofs.Tryz.f6.body).getD .skip) (initFr args) 0 h).bind (resX E.P false p Go.Proofs.Tryz.f6.results.toList) := callW_eq Go.Proofs.Tryz.f6 (by kernel_rfl) (by kernel_rfl) (by kernel_rfl) rfl (by kernel_rfl)
theorem eq_7 {p : Id} {args : List A} {h : Heap} : callW E p 7 args h = (execW E 7 p ((Go.Proofs.Tryz.f7.body).getD .skip) (initFr args) 0 h).bind (resX E.P false p Go.Proofs.Tryz.f7.results.toList) := callW_eq Go.Proofs.Tryz.f7 (by kernel_rfl) (by kernel_rfl) (by kernel_rfl) rfl (by kernel_rfl)
theorem eq_8 {p : Id} {args : List A} {h : Heap} : callW E p 8 args h = (execW E 8 p ((Go.Proofs.Tryz.f8.body).getD .skip) (initFr args) 0 h).bind (resX E.P false p Go.Proofs.Tryz.f8.results.toList) := callW_eq Go.Proofs.Tryz.f8 (by kernel_rfl) (by kernel_rfl) (by kernel_rfl) rfl (by kernel_rfl)
theorem rd_9_10 {p : Id} {L : List Nat} {c0 c : Nat} {fr : Fr} {h : Heap} : iterW E 9 p L L_9_10 c0 fr c h = (execW E 9 p ((((Go.Proofs.Tryz.f9.body).getD .skip).loopAt 10).getD .skip) fr c h).bind (loopX E 9 p L L_9_10 c0) := iterW_eq2 (by kernel_rfl)
theorem eq_9 {p : Id} {args : List A} {h : Heap} : callW E p 9 args h = (execW E 9 p (((Go.Proofs.Tryz.f9.body).getD .skip).hide [(10, L_9_10)]) (initFr args) 0 h).bind (resX E.P false p Go.Proofs.Tryz.f9.results.toList) := callW_eq Go.Proofs.Tryz.f9 (by kernel_rfl) (by kernel_rfl) (by kernel_rfl) rfl (by kernel_rfl)
theorem eq_10 {p : Id} {args : List A} {h : Heap} : callW E p 10 args h = (execW E 10 p ((Go.Proofs.Tryz.f10.body).getD .skip) (initFr args) 0 h).bind (resX E.P false p Go.Proofs.Tryz.f10.results.toList) := callW_eq Go.Proofs.Tryz.f10 (by kernel_rfl) (by kernel_rfl) (by kernel_rfl) rfl (by kernel_rfl)
theorem eq_11 {p : Id} {args : List A} {h : Heap} : callW E p 11 args h = (execW E 11 p ((Go.Proofs.Tryz.f11.body).getD .skip) (initFr args) 0 h).bind (resX E.P false p Go.Proofs.Tryz.f11.results.toList) := callW_eq Go.Proofs.Tryz.f11 (by kernel_rfl) (by kernel_rfl) (by kernel_rfl) rfl (by kernel_rfl)
theorem eq_12 {p : Id} {args : List A} {h : Heap} : callW E p 12 args h = (execW E 12 p ((Go.Proofs.Tryz.f12.body).getD .skip) (initFr args) 0 h).bind (resX E.P false p Go.Proofs.Tryz.f12.results.toList) := callW_eq Go.Proofs.Tryz.f12 (by kernel_rfl) (by kernel_rfl) (by kernel_rfl) rfl (by kernel_rfl)
theorem eq_13 {p : Id} {args : List A} {h : Heap} : callW E p 13 args h = (execW E 13 p ((Go.Proofs.Tryz.f13.body).getD .skip) (initFr args) 0 h).bind (resX E.P false p Go.Proofs.Tryz.f13.results.toList) := callW_eq Go.Proofs.Tryz.f13 (by kernel_rfl) (by kernel_rfl) (by kernel_rfl) rfl (by kernel_rfl)
theorem eq_14 {p : Id} {args : List A} {h : Heap} : callW E p 14 args h = (execW E 14 p ((Go.Proofs.Tryz.f14.body).getD .skip) (initFr args) 0 h).bind (resX E.P false p Go.Proofs.Tryz.f14.results.toList) := callW_eq Go.Proofs.Tryz.f14 (by kernel_rfl) (by kernel_rfl) (by kernel_rfl) rfl (by kernel_rfl)
theorem eq_15 {p : Id} {args : List A} {h : Heap} : callW E p 15 args h = (execW E 15 p ((Go.Proofs.Tryz.f15.body).getD .skip) (initFr args) 0 h).bind (resX E.P false p Go.Proofs.Tryz.f15.results.toList) := callW_eq Go.Proofs.Tryz.f15 (by kernel_rfl) (by kernel_rfl) (by kernel_rfl) rfl (by kernel_rfl)
theorem eq_16 {p : Id} {args : List A} {h : Heap} : callW E p 16 args h = (execW E 16 p ((Go.Proofs.Tryz.f16.body).getD .skip) (initFr args) 0 h).bind (resX E.P false p Go.Proofs.Tryz.f16.results.toList) := callW_eq Go.Proofs.Tryz.f16 (by kernel_rfl) (by kernel_rfl) (by kernel_rfl) rfl (by kernel_rfl)
theorem eq_17 {p : Id} {args : List A} {h : Heap} : callW E p 17 args h = (execW E 17 p ((Go.Proofs.Tryz.f17.body).getD .skip) (initFr args) 0 h).bind (resX E.P false p Go.Proofs.Tryz.f17.results.toList) := callW_eq Go.Proofs.Tryz.f17 (by kernel_rfl) (by kernel_rfl) (by kernel_rfl) rfl (by kernel_rfl)
theorem eq_18 {p : Id} {args : List A} {h : Heap} : callW E p 18 args h = (execW E 18 p ((Go.Proofs.Tryz.f18.body).getD .skip) (initFr args) 0 h).bind (resX E.P false p Go.Proofs.Tryz.f18.results.toList) := callW_eq Go.Proofs.Tryz.f18 (by kernel_rfl) (by kernel_rfl) (by kernel_rfl) rfl (by kernel_rfl)
theorem eq_19 {p : Id} {args : List A} {h : Heap} : callW E p 19 args h = (execW E 19 p ((Go.Proofs.Tryz.f19.body).getD .skip) (initFr args) 0 h).bind (resX E.P false p Go.Proofs.Tryz.f19.results.toList) := callW_eq Go.Proofs.Tryz.f19 (by kernel_rfl) (by kernel_rfl) (by kernel_rfl) rfl (by kernel_rfl)
theorem rd_20_4 {p : Id} {L : List Nat} {c0 c : Nat} {fr : Fr} {h : Heap} : iterW E 20 p L L_20_4 c0 fr c h = (execW E 20 p ((((Go.Proofs.Tryz.f20.body).getD .skip).loopAt 4).getD .skip) fr c h).bind (loopX E 20 p L L_20_4 c0) := iterW_eq2 (by kernel_rfl)
theorem eq_20 {p : Id} {args : List A} {h : Heap} : callW E p 20 args h = (execW E 20 p (((Go.Proofs.Tryz.f20.body).getD .skip).hide [(4, L_20_4)]) (initFr args) 0 h).bind (resX E.P false p Go.Proofs.Tryz.f20.results.toList) := callW_eq Go.Proofs.Tryz.f20 (by kernel_rfl) (by kernel_rfl) (by kernel_rfl) rfl (by kernel_rfl)
theorem eq_21 {p : Id} {args : List A} {h : Heap} : callW E p 21 args h = (execW E 21 p ((Go.Proofs.Tryz.f21.body).getD .skip) (initFr args) 0 h).bind (resX E.P false p Go.Proofs.Tryz.f21.results.toList) := callW_eq Go.Proofs.Tryz.f21 (by kernel_rfl) (by kernel_rfl) (by kernel_rfl) rfl (by kernel_rfl)
theorem eq_22 {p : Id} {args : List A} {h : Heap} : callW E p 22 args h = (execW E 22 p ((Go.Proofs.Tryz.f22.body).getD .skip) (initFr args) 0 h).bind (resX E.P false p Go.Proofs.Tryz.f22.results.toList) := callW_eq Go.Proofs.Tryz.f22 (by kernel_rfl) (by kernel_rfl) (by kernel_rfl) rfl (by kernel_rfl)
theorem eq_23 {p : Id} {args : List A} {h : Heap} : callW E p 23 args h = (execW E 23 p ((Go.Proofs.Tryz.f23.body).getD .skip) (initFr args) 0 h).bind (resX E.P false p Go.Proofs.Tryz.f23.results.toList) := callW_eq Go.Proofs.Tryz.f23 (by kernel_rfl) (by kernel_rfl) (by kernel_rfl) rfl (by kernel_rfl)
theorem eq_24 {p : Id} {args : List A} {h : Heap} : callW E p 24 args h = (execW E 24 p ((Go.Proofs.Tryz.f24.body).getD .skip) (initFr args) 0 h).bind (resX E.P false p Go.Proofs.Tryz.f24.results.toList) := callW_eq Go.Proofs.Tryz.f24 (by kernel_rfl) (by kernel_rfl) (by kernel_rfl) rfl (by kernel_rfl)
theorem eq_25 {p : Id} {args : List A} {h : Heap} : callW E p 25 args h = (execW E 25 p ((Go.Proofs.Tryz.f25.body).getD .skip) (initFr args) 0 h).bind (resX E.P false p Go.Proofs.Tryz.f25.results.toList) := callW_eq Go.Proofs.Tryz.f25 (by kernel_rfl) (by kernel_rfl) (by kernel_rfl) rfl (by kernel_rfl)
theorem eq_26 {p : Id} {args : List A} {h : Heap} : callW E p 26 args h = (execW E 26 p ((Go.Proofs.Tryz.f26.body).getD .skip) (initFr args) 0 h).bind (resX E.P false p Go.Proofs.Tryz.f26.results.toList) := callW_eq Go.Proofs.Tryz.f26 (by kernel_rfl) (by kernel_rfl) (by kernel_rfl) rfl (by kernel_rfl)
theorem rd_27_11 {p : Id} {L : List Nat} {c0 c : Nat} {fr : Fr} {h : Heap} : iterW E 27 p L L_27_11 c0 fr c h = (execW E 27 p ((((Go.Proofs.Tryz.f27.body).getD .skip).loopAt 11).getD .skip) fr c h).bind (loopX E 27 p L L_27_11 c0) := iterW_eq2 (by kernel_rfl)
theorem eq_27 {p : Id} {args : List A} {h : Heap} : callW E p 27 args h = (execW E 27 p (((Go.Proofs.Tryz.f27.body).getD .skip).hide [(11, L_27_11)]) (initFr args) 0 h).bind (resX E.P true p Go.Proofs.Tryz.f27.results.toList) := callW_eq Go.Proofs.Tryz.f27 (by kernel_rfl) (by kernel_rfl) (by kernel_rfl) rfl (by kernel_rfl)
theorem eq_28 {p : Id} {args : List A} {h : Heap} : callW E p 28 args h = (execW E 28 p ((Go.Proofs.Tryz.f28.body).getD .skip) (initFr args) 0 h).bind (resX E.P false p Go.Proofs.Tryz.f28.results.toList) := callW_eq Go.Proofs.Tryz.f28 (by kernel_rfl) (by kernel_rfl) (by kernel_rfl) rfl (by kernel_rfl)
theorem eq_29 {p : Id} {args : List A} {h : Heap} : callW E p 29 args h = (execW E 29 p ((Go.Proofs.Tryz.f29.body).getD .skip) (initFr args) 0 h).bind (resX E.P false p Go.Proofs.Tryz.f29.results.toList) := callW_eq Go.Proofs.Tryz.f29 (by kernel_rfl) (by kernel_rfl) (by kernel_rfl) rfl (by kernel_rfl)
theorem rd_30_3 {p : Id} {L : List Nat} {c0 c : Nat} {fr : Fr} {h : Heap} : iterW E 30 p L L_30_3 c0 fr c h = (execW E 30 p ((((Go.Proofs.Tryz.f30.body).getD .skip).loopAt 3).getD .skip) fr c h).bind (loopX E 30 p L L_30_3 c0) := iterW_eq2 (by kernel_rfl)
theorem eq_30 {p : Id} {args : List A} {h : Heap} : callW E p 30 args h = (execW E 30 p (((Go.Proofs.Tryz.f30.body).getD .skip).hide [(3, L_30_3)]) (initFr args) 0 h).bind (resX E.P false p Go.Proofs.Tryz.f30.results.toList) := callW_eq Go.Proofs.Tryz.f30 (by kernel_rfl) (by kernel_rfl) (by kernel_rfl) rfl (by kernel_rfl)
theorem eq_31 {p : Id} {args : List A} {h : Heap} : callW E p 31 args h = (execW E 31 p ((Go.Proofs.Tryz.f31.body).getD .skip) (initFr args) 0 h).bind (resX E.P false p Go.Proofs.Tryz.f31.results.toList) := callW_eq Go.Proofs.Tryz.f31 (by kernel_rfl) (by kernel_rfl) (by kernel_rfl) rfl (by kernel_rfl)
theorem eq_32 {p : Id} {args : List A} {h : Heap} : callW E p 32 args h = (execW E 32 p ((Go.Proofs.Tryz.f32.body).getD .skip) (initFr args) 0 h).bind (resX E.P false p Go.Proofs.Tryz.f32.results.toList) := callW_eq Go.Proofs.Tryz.f32 (by kernel_rfl) (by kernel_rfl) (by kernel_rfl) rfl (by kernel_rfl)
theorem rd_33_4 {p : Id} {L : List Nat} {c0 c : Nat} {fr : Fr} {h : Heap} : iterW E 33 p L L_33_4 c0 fr c h = (execW E 33 p ((((Go.Proofs.Tryz.f33.body).getD .skip).loopAt 4).getD .skip) fr c h).bind (loopX E 33 p L L_33_4 c0) := iterW_eq2 (by kernel_rfl)
theorem eq_33 {p : Id} {args : List A} {h : Heap} : callW E p 33 args h = (execW E 33 p (((Go.Proofs.Tryz.f33.body).getD .skip).hide [(4, L_33_4)]) (initFr args) 0 h).bind (resX E.P false p Go.Proofs.Tryz.f33.results.toList) := callW_eq Go.Proofs.Tryz.f33 (by kernel_rfl) (by kernel_rfl) (by kernel_rfl) rfl (by kernel_rfl)
theorem eq_34 {p : Id} {args : List A} {h : Heap} : callW E p 34 args h = (execW E 34 p ((Go.Proofs.Tryz.f34.body).getD .skip) (initFr args) 0 h).bind (resX E.P false p Go.Proofs.Tryz.f34.results.toList) := callW_eq Go.Proofs.Tryz.f34 (by kernel_rfl) (by kernel_rfl) (by kernel_rfl) rfl (by kernel_rfl)
theorem eq_35 {p : Id} {args : List A} {h : Heap} : callW E p 35 args h = (execW E 35 p ((Go.Proofs.Tryz.f35.body).getD .skip) (initFr args) 0 h).bind (resX E.P false p Go.Proofs.Tryz.f35.results.toList) := callW_eq Go.Proofs.Tryz.f35 (by kernel_rfl) (by kernel_rfl) (by kernel_rfl) rfl (by kernel_rfl)
theorem rd_36_4 {p : Id} {L : List Nat} {c0 c : Nat} {fr : Fr} {h : Heap} : iterW E 36 p L L_36_4 c0 fr c h = (execW E 36 p ((((Go.Proofs.Tryz.f36.body).getD .skip).loopAt 4).getD .skip) fr c h).bind (loopX E 36 p L L_36_4 c0) := iterW_eq2 (by kernel_rfl)
theorem eq_36 {p : Id} {args : List A} {h : Heap} : callW E p 36 args h = (execW E 36 p (((Go.Proofs.Tryz.f36.body).getD .skip).hide [(4, L_36_4)]) (initFr args) 0 h).bind (resX E.P false p Go.Proofs.Tryz.f36.results.toList) := callW_eq Go.Proofs.Tryz.f36 (by kernel_rfl) (by kernel_rfl) (by kernel_rfl) rfl (by kernel_rfl)
theorem eq_37 {p : Id} {args : List A} {h : Heap} : callW E p 37 args h = (execW E 37 p ((Go.Proofs.Tryz.f37.body).getD .skip) (initFr args) 0 h).bind (resX E.P false p Go.Proofs.Tryz.f37.results.toList) := callW_eq Go.Proofs.Tryz.f37 (by kernel_rfl) (by kernel_rfl) (by kernel_rfl) rfl (by kernel_rfl)
theorem rd_38_1 {p : Id} {L : List Nat} {c0 c : Nat} {fr : Fr} {h : Heap} : iterW E 38 p L L_38_1 c0 fr c h = (execW E 38 p ((((Go.Proofs.Tryz.f38.body).getD .skip).loopAt 1).getD .skip) fr c h).bind (loopX E 38 p L L_38_1 c0) := iterW_eq2 (by kernel_rfl)
theorem eq_38 {p : Id} {args : List A} {h : Heap} : callW E p 38 args h = (execW E 38 p (((Go.Proofs.Tryz.f38.body).getD .skip).hide [(1, L_38_1)]) (initFr args) 0 h).bind (resX E.P false p Go.Proofs.Tryz.f38.results.toList) := callW_eq Go.Proofs.Tryz.f38 (by kernel_rfl) (by kernel_rfl) (by kernel_rfl) rfl (by kernel_rfl)
theorem eq_39 {p : Id} {args : List A} {h : Heap} : callW E p 39 args h = (execW E 39 p ((Go.Proofs.Tryz.f39.body).getD .skip) (initFr args) 0 h).bind (resX E.P false p Go.Proofs.Tryz.f39.results.toList) := callW_eq Go.Proofs.Tryz.f39 (by kernel_rfl) (by kernel_rfl) (by kernel_rfl) rfl (by kernel_rfl)
theorem eq_40 {p : Id} {args : List A} {h : Heap} : callW E p 40 args h = (execW E 40 p ((Go.Proofs.Tryz.f40.body).getD .skip) (initFr args) 0 h).bind (resX E.P false p Go.Proofs.Tryz.f40.results.toList) := callW_eq Go.Proofs.Tryz.f40 (by kernel_rfl) (by kernel_rfl) (by kernel_rfl) rfl (by kernel_rfl)
theorem eq_41 {p : Id} {args : List A} {h : Heap} : callW E p 41 args h = (execW E 41 p ((Go.Proofs.Tryz.f41.body).getD .skip) (initFr args) 0 h).bind (resX E.P false p Go.Proofs.Tryz.f41.results.toList) := callW_eq Go.Proofs.Tryz.f41 (by kernel_rfl) (by kernel_rfl) (by kernel_rfl) rfl (by kernel_rfl)
theorem eq_42 {p : Id} {args : List A} {h : Heap} : callW E p 42 args h = (execW E 42 p ((Go.Proofs.Tryz.f42.body).getD .skip) (initFr args) 0 h).bind (resX E.P false p Go.Proofs.Tryz.f42.results.toList) := callW_eq Go.Proofs.Tryz.f42 (by kernel_rfl) (by kernel_rfl) (by kernel_rfl) rfl (by kernel_rfl)
theorem eq_43 {p : Id} {args : List A} {h : Heap} : callW E p 43 args h = (execW E 43 p ((Go.Proofs.Tryz.f43.body).getD .skip) (initFr args) 0 h).bind (resX E.P false p Go.Proofs.Tryz.f43.results.toList) := callW_eq Go.Proofs.Tryz.f43 (by kernel_rfl) (by kernel_rfl) (by kernel_rfl) rfl (by kernel_rfl)
theorem rd_44_2 {p : Id} {L : List Nat} {c0 c : Nat} {fr : Fr} {h : Heap} : iterW E 44 p L L_44_2 c0 fr c h = (execW E 44 p ((((Go.Proofs.Tryz.f44.body).getD .skip).loopAt 2).getD .skip) fr c h).bind (loopX E 44 p L L_44_2 c0) := iterW_eq2 (by kernel_rfl)
theorem eq_44 {p : Id} {args : List A} {h : Heap} : callW E p 44 args h = (execW E 44 p (((Go.Proofs.Tryz.f44.body).getD .skip).hide [(2, L_44_2)]) (initFr args) 0 h).bind (resX E.P false p Go.Proofs.Tryz.f44.results.toList) := callW_eq Go.Proofs.Tryz.f44 (by kernel_rfl) (by kernel_rfl) (by kernel_rfl) rfl (by kernel_rfl)
theorem rd_45_3 {p : Id} {L : List Nat} {c0 c : Nat} {fr : Fr} {h : Heap} : iterW E 45 p L L_45_3 c0 fr c h = (execW E 45 p ((((Go.Proofs.Tryz.f45.body).getD .skip).loopAt 3).getD .skip) fr c h).bind (loopX E 45 p L L_45_3 c0) := iterW_eq2 (by kernel_rfl)
theorem eq_45 {p : Id} {args : List A} {h : Heap} : callW E p 45 args h = (execW E 45 p (((Go.Proofs.Tryz.f45.body).getD .skip).hide [(3, L_45_3)]) (initFr args) 0 h).bind (resX E.P false p Go.Proofs.Tryz.f45.results.toList) := callW_eq Go.Proofs.Tryz.f45 (by kernel_rfl) (by kernel_rfl) (by kernel_rfl) rfl (by kernel_rfl)
theorem rd_46_2 {p : Id} {L : List Nat} {c0 c : Nat} {fr : Fr} {h : Heap} : iterW E 46 p L L_46_2 c0 fr c h = (execW E 46 p ((((Go.Proofs.Tryz.f46.body).getD .skip).loopAt 2).getD .skip) fr c h).bind (loopX E 46 p L L_46_2 c0) := iterW_eq2 (by kernel_rfl)
theorem eq_46 {p : Id} {args : List A} {h : Heap} : callW E p 46 args h = (execW E 46 p (((Go.Proofs.Tryz.f46.body).getD .skip).hide [(2, L_46_2)]) (initFr args) 0 h).bind (resX E.P false p Go.Proofs.Tryz.f46.results.toList) := callW_eq Go.Proofs.Tryz.f46 (by kernel_rfl) (by kernel_rfl) (by kernel_rfl) rfl (by kernel_rfl)
theorem eq_47 {p : Id} {args : List A} {h : Heap} : callW E p 47 args h = (execW E 47 p ((Go.Proofs.Tryz.f47.body).getD .skip) (initFr args) 0 h).bind (resX E.P false p Go.Proofs.Tryz.f47.results.toList) := callW_eq Go.Proofs.Tryz.f47 (by kernel_rfl) (by kernel_rfl) (by kernel_rfl) rfl (by kernel_rfl)
theorem rd_48_3 {p : Id} {L : List Nat} {c0 c : Nat} {fr : Fr} {h : Heap} : iterW E 48 p L L_48_3 c0 fr c h = (execW E 48 p ((((Go.Proofs.Tryz.f48.body).getD .skip).loopAt 3).getD .skip) fr c h).bind (loopX E 48 p L L_48_3 c0) := iterW_eq2 (by kernel_rfl)
theorem eq_48 {p : Id} {args : List A} {h : Heap} : callW E p 48 args h = (execW E 48 p (((Go.Proofs.Tryz.f48.body).getD .skip).hide [(3, L_48_3)]) (initFr args) 0 h).bind (resX E.P false p Go.Proofs.Tryz.f48.results.toList) := callW_eq Go.Proofs.Tryz.f48 (by kernel_rfl) (by kernel_rfl) (by kernel_rfl) rfl (by kernel_rfl)
theorem eq_49 {p : Id} {args : List A} {h : Heap} : callW E p 49 args h = (execW E 49 p ((Go.Proofs.Tryz.f49.body).getD .skip) (initFr args) 0 h).bind (resX E.P false p Go.Proofs.Tryz.f49.results.toList) := callW_eq Go.Proofs.Tryz.f49 (by kernel_rfl) (by kernel_rfl) (by kernel_rfl) rfl (by kernel_rfl)
theorem rd_50_2 {p : Id} {L : List Nat} {c0 c : Nat} {fr : Fr} {h : Heap} : iterW E 50 p L L_50_2 c0 fr c h = (execW E 50 p ((((Go.Proofs.Tryz.f50.body).getD .skip).loopAt 2).getD .skip) fr c h).bind (loopX E 50 p L L_50_2 c0) := iterW_eq2 (by kernel_rfl)
theorem eq_50 {p : Id} {args : List A} {h : Heap} : callW E p 50 args h = (execW E 50 p (((Go.Proofs.Tryz.f50.body).getD .skip).hide [(2, L_50_2)]) (initFr args) 0 h).bind (resX E.P false p Go.Proofs.Tryz.f50.results.toList) := callW_eq Go.Proofs.Tryz.f50 (by kernel_rfl) (by kernel_rfl) (by kernel_rfl) rfl (by kernel_rfl)
theorem eq_51 {p : Id} {args : List A} {h : Heap} : callW E p 51 args h = (execW E 51 p ((Go.Proofs.Tryz.f51.body).getD .skip) (initFr args) 0 h).bind (resX E.P false p Go.Proofs.Tryz.f51.results.toList) := callW_eq Go.Proofs.Tryz.f51 (by kernel_rfl) (by kernel_rfl) (by kernel_rfl) rfl (by kernel_rfl)
theorem eq_52 {p : Id} {args : List A} {h : Heap} : callW E p 52 args h = (execW E 52 p ((Go.Proofs.Tryz.f52.body).getD .skip) (initFr args) 0 h).bind (resX E.P false p Go.Proofs.Tryz.f52.results.toList) := callW_eq Go.Proofs.Tryz.f52 (by kernel_rfl) (by kernel_rfl) (by kernel_rfl) rfl (by kernel_rfl)
theorem rd_53_5 {p : Id} {L : List Nat} {c0 c : Nat} {fr : Fr} {h : Heap} : iterW E 53 p L L_53_5 c0 fr c h = (execW E 53 p ((((Go.Proofs.Tryz.f53.body).getD .skip).loopAt 5).getD .skip) fr c h).bind (loopX E 53 p L L_53_5 c0) := iterW_eq2 (by kernel_rfl)
theorem eq_53 {p : Id} {args : List A} {h : Heap} : callW E p 53 args h = (execW E 53 p (((Go.Proofs.Tryz.f53.body).getD .skip).hide [(5, L_53_5)]) (initFr args) 0 h).bind (resX E.P false p Go.Proofs.Tryz.f53.results.toList) := callW_eq Go.Proofs.Tryz.f53 (by kernel_rfl) (by kernel_rfl) (by kernel_rfl) rfl (by kernel_rfl)
theorem eq_54 {p : Id} {args : List A} {h : Heap} : callW E p 54 args h = (execW E 54 p ((Go.Proofs.Tryz.f54.body).getD .skip) (initFr args) 0 h).bind (resX E.P false p Go.Proofs.Tryz.f54.results.toList) := callW_eq Go.Proofs.Tryz.f54 (by kernel_rfl) (by kernel_rfl) (by kernel_rfl) rfl (by kernel_rfl)
theorem rd_56_2 {p : Id} {L : List Nat} {c0 c : Nat} {fr : Fr} {h : Heap} : iterW E 56 p L L_56_2 c0 fr c h = (execW E 56 p ((((Go.Proofs.Tryz.f56.body).getD .skip).loopAt 2).getD .skip) fr c h).bind (loopX E 56 p L L_56_2 c0) := iterW_eq2 (by kernel_rfl)
theorem eq_56 {p : Id} {args : List A} {h : Heap} : callW E p 56 args h = (execW E 56 p (((Go.Proofs.Tryz.f56.body).getD .skip).hide [(2, L_56_2)]) (initFr args) 0 h).bind (resX E.P false p Go.Proofs.Tryz.f56.results.toList) := callW_eq Go.Proofs.Tryz.f56 (by kernel_rfl) (by kernel_rfl) (by kernel_rfl) rfl (by kernel_rfl)
theorem rd_57_3 {p : Id} {L : List Nat} {c0 c : Nat} {fr : Fr} {h : Heap} : iterW E 57 p L L_57_3 c0 fr c h = (execW E 57 p ((((Go.Proofs.Tryz.f57.body).getD .skip).loopAt 3).getD .skip) fr c h).bind (loopX E 57 p L L_57_3 c0) := iterW_eq2 (by kernel_rfl)
theorem eq_57 {p : Id} {args : List A} {h : Heap} : callW E p 57 args h = (execW E 57 p (((Go.Proofs.Tryz.f57.body).getD .skip).hide [(3, L_57_3)]) (initFr args) 0 h).bind (resX E.P false p Go.Proofs.Tryz.f57.results.toList) := callW_eq Go.Proofs.Tryz.f57 (by kernel_rfl) (by kernel_rfl) (by kernel_rfl) rfl (by kernel_rfl)
theorem eq_58 {p : Id} {args : List A} {h : Heap} : callW E p 58 args h = (execW E 58 p ((Go.Proofs.Tryz.f58.body).getD .skip) (initFr args) 0 h).bind (resX E.P false p Go.Proofs.Tryz.f58.results.toList) := callW_eq Go.Proofs.Tryz.f58 (by kernel_rfl) (by kernel_rfl) (by kernel_rfl) rfl (by kernel_rfl)
theorem rd_59_3 {p : Id} {L : List Nat} {c0 c : Nat} {fr : Fr} {h : Heap} : iterW E 59 p L L_59_3 c0 fr c h = (execW E 59 p ((((Go.Proofs.Tryz.f59.body).getD .skip).loopAt 3).getD .skip) fr c h).bind (loopX E 59 p L L_59_3 c0) := iterW_eq2 (by kernel_rfl)
theorem eq_59 {p : Id} {args : List A} {h : Heap} : callW E p 59 args h = (execW E 59 p (((Go.Proofs.Tryz.f59.body).getD .skip).hide [(3, L_59_3)]) (initFr args) 0 h).bind (resX E.P false p Go.Proofs.Tryz.f59.results.toList) := callW_eq Go.Proofs.Tryz.f59 (by kernel_rfl) (by kernel_rfl) (by kernel_rfl) rfl (by kernel_rfl)
theorem eq_60 {p : Id} {args : List A} {h : Heap} : callW E p 60 args h = (execW E 60 p ((Go.Proofs.Tryz.f60.body).getD .skip) (initFr args) 0 h).bind (resX E.P false p Go.Proofs.Tryz.f60.results.toList) := callW_eq Go.Proofs.Tryz.f60 (by kernel_rfl) (by kernel_rfl) (by kernel_rfl) rfl (by kernel_rfl)
theorem eq_61 {p : Id} {args : List A} {h : Heap} : callW E p 61 args h = (execW E 61 p ((Go.Proofs.Tryz.f61.body).getD .skip) (initFr args) 0 h).bind (resX E.P false p Go.Proofs.Tryz.f61.results.toList) := callW_eq Go.Proofs.Tryz.f61 (by kernel_rfl) (by kernel_rfl) (by kernel_rfl) rfl (by kernel_rfl)
theorem eq_62 {p : Id} {args : List A} {h : Heap} : callW E p 62 args h = (execW E 62 p ((Go.Proofs.Tryz.f62.body).getD .skip) (initFr args) 0 h).bind (resX E.P false p Go.Proofs.Tryz.f62.results.toList) := callW_eq Go.Proofs.Tryz.f62 (by kernel_rfl) (by kernel_rfl) (by kernel_rfl) rfl (by kernel_rfl)
theorem rd_63_3 {p : Id} {L : List Nat} {c0 c : Nat} {fr : Fr} {h : Heap} : iterW E 63 p L L_63_3 c0 fr c h = (execW E 63 p ((((Go.Proofs.Tryz.f63.body).getD .skip).loopAt 3).getD .skip) fr c h).bind (loopX E 63 p L L_63_3 c0) := iterW_eq2 (by kernel_rfl)
theorem eq_63 {p : Id} {args : List A} {h : Heap} : callW E p 63 args h = (execW E 63 p (((Go.Proofs.Tryz.f63.body).getD .skip).hide [(3, L_63_3)]) (initFr args) 0 h).bind (resX E.P false p Go.Proofs.Tryz.f63.results.toList) := callW_eq Go.Proofs.Tryz.f63 (by kernel_rfl) (by kernel_rfl) (by kernel_rfl) rfl (by kernel_rfl)
theorem eq_64 {p : Id} {args : List A} {h : Heap} : callW E p 64 args h = (execW E 64 p ((Go.Proofs.Tryz.f64.body).getD .skip) (initFr args) 0 h).bind (resX E.P false p Go.Proofs.Tryz.f64.results.toList) := callW_eq Go.Proofs.Tryz.f64 (by kernel_rfl) (by kernel_rfl) (by kernel_rfl) rfl (by kernel_rfl)
theorem rd_66_1 {p : Id} {L : List Nat} {c0 c : Nat} {fr : Fr} {h : Heap} : iterW E 66 p L L_66_1 c0 fr c h = (execW E 66 p ((((Go.Proofs.Tryz.f66.body).getD .skip).loopAt 1).getD .skip) fr c h).bind (loopX E 66 p L L_66_1 c0) := iterW_eq2 (by kernel_rfl)
theorem eq_66 {p : Id} {args : List A} {h : Heap} : callW E p 66 args h = (execW E 66 p (((Go.Proofs.Tryz.f66.body).getD .skip).hide [(1, L_66_1)]) (initFr args) 0 h).bind (resX E.P false p Go.Proofs.Tryz.f66.results.toList) := callW_eq Go.Proofs.Tryz.f66 (by kernel_rfl) (by kernel_rfl) (by kernel_rfl) rfl (by kernel_rfl)
theorem rd_67_2 {p : Id} {L : List Nat} {c0 c : Nat} {fr : Fr} {h : Heap} : iterW E 67 p L L_67_2 c0 fr c h = (execW E 67 p ((((Go.Proofs.Tryz.f67.body).getD .skip).loopAt 2).getD .skip) fr c h).bind (loopX E 67 p L L_67_2 c0) := iterW_eq2 (by kernel_rfl)
theorem eq_67 {p : Id} {args : List A} {h : Heap} : callW E p 67 args h = (execW E 67 p (((Go.Proofs.Tryz.f67.body).getD .skip).hide [(2, L_67_2)]) (initFr args) 0 h).bind (resX E.P false p Go.Proofs.Tryz.f67.results.toList) := callW_eq Go.Proofs.Tryz.f67 (by kernel_rfl) (by kernel_rfl) (by kernel_rfl) rfl (by kernel_rfl)
theorem eq_68 {p : Id} {args : List A} {h : Heap} : callW E p 68 args h = (execW E 68 p ((Go.Proofs.Tryz.f68.body).getD .skip) (initFr args) 0 h).bind (resX E.P false p Go.Proofs.Tryz.f68.results.toList) := callW_eq Go.Proofs.Tryz.f68 (by kernel_rfl) (by kernel_rfl) (by kernel_rfl) rfl (by kernel_rfl)
theorem eq_69 {p : Id} {args : List A} {h : Heap} : callW E p 69 args h = (execW E 69 p ((Go.Proofs.Tryz.f69.body).getD .skip) (initFr args) 0 h).bind (resX E.P false p Go.Proofs.Tryz.f69.results.toList) := callW_eq Go.Proofs.Tryz.f69 (by kernel_rfl) (by kernel_rfl) (by kernel_rfl) rfl (by kernel_rfl)
theorem rd_70_4 {p : Id} {L : List Nat} {c0 c : Nat} {fr : Fr} {h : Heap} : iterW E 70 p L L_70_4 c0 fr c h = (execW E 70 p ((((Go.Proofs.Tryz.f70.body).getD .skip).loopAt 4).getD .skip) fr c h).bind (loopX E 70 p L L_70_4 c0) := iterW_eq2 (by kernel_rfl)
theorem eq_70 {p : Id} {args : List A} {h : Heap} : callW E p 70 args h = (execW E 70 p (((Go.Proofs.Tryz.f70.body).getD .skip).hide [(4, L_70_4)]) (initFr args) 0 h).bind (resX E.P false p Go.Proofs.Tryz.f70.results.toList) := callW_eq Go.Proofs.Tryz.f70 (by kernel_rfl) (by kernel_rfl) (by kernel_rfl) rfl (by kernel_rfl)
theorem eq_71 {p : Id} {args : List A} {h : Heap} : callW E p 71 args h = (execW E 71 p ((Go.Proofs.Tryz.f71.body).getD .skip) (initFr args) 0 h).bind (resX E.P false p Go.Proofs.Tryz.f71.results.toList) := callW_eq Go.Proofs.Tryz.f71 (by kernel_rfl) (by kernel_rfl) (by kernel_rfl) rfl (by kernel_rfl)
theorem rd_72_5 {p : Id} {L : List Nat} {c0 c : Nat} {fr : Fr} {h : Heap} : iterW E 72 p L L_72_5 c0 fr c h = (execW E 72 p ((((Go.Proofs.Tryz.f72.body).getD .skip).loopAt 5).getD .skip) fr c h).bind (loopX E 72 p L L_72_5 c0) := iterW_eq2 (by kernel_rfl)
theorem eq_72 {p : Id} {args : List A} {h : Heap} : callW E p 72 args h = (execW E 72 p (((Go.Proofs.Tryz.f72.body).getD .skip).hide [(5, L_72_5)]) (initFr args) 0 h).bind (resX E.P false p Go.Proofs.Tryz.f72.results.toList) := callW_eq Go.Proofs.Tryz.f72 (by kernel_rfl) (by kernel_rfl) (by kernel_rfl) rfl (by kernel_rfl)
theorem rd_73_4 {p : Id} {L : List Nat} {c0 c : Nat} {fr : Fr} {h : Heap} : iterW E 73 p L L_73_4 c0 fr c h = (execW E 73 p ((((Go.Proofs.Tryz.f73.body).getD .skip).loopAt 4).getD .skip) fr c h).bind (loopX E 73 p L L_73_4 c0) := iterW_eq2 (by kernel_rfl)
theorem eq_73 {p : Id} {args : List A} {h : Heap} : callW E p 73 args h = (execW E 73 p (((Go.Proofs.Tryz.f73.body).getD .skip).hide [(4, L_73_4)]) (initFr args) 0 h).bind (resX E.P false p Go.Proofs.Tryz.f73.results.toList) := callW_eq Go.Proofs.Tryz.f73 (by kernel_rfl) (by kernel_rfl) (by kernel_rfl) rfl (by kernel_rfl)
theorem eq_74 {p : Id} {args : List A} {h : Heap} : callW E p 74 args h = (execW E 74 p ((Go.Proofs.Tryz.f74.body).getD .skip) (initFr args) 0 h).bind (resX E.P false p Go.Proofs.Tryz.f74.results.toList) := callW_eq Go.Proofs.Tryz.f74 (by kernel_rfl) (by kernel_rfl) (by kernel_rfl) rfl (by kernel_rfl)
theorem eq_75 {p : Id} {args : List A} {h : Heap} : callW E p 75 args h = (execW E 75 p ((Go.Proofs.Tryz.f75.body).getD .skip) (initFr args) 0 h).bind (resX E.P false p Go.Proofs.Tryz.f75.results.toList) := callW_eq Go.Proofs.Tryz.f75 (by kernel_rfl) (by kernel_rfl) (by kernel_rfl) rfl (by kernel_rfl)
theorem eq_76 {p : Id} {args : List A} {h : Heap} : callW E p 76 args h = (execW E 76 p ((Go.Proofs.Tryz.f76.body).getD .skip) (initFr args) 0 h).bind (resX E.P false p Go.Proofs.Tryz.f76.results.toList) := callW_eq Go.Proofs.Tryz.f76 (by kernel_rfl) (by kernel_rfl) (by kernel_rfl) rfl (by kernel_rfl)
theorem eq_77 {p : Id} {args : List A} {h : Heap} : callW E p 77 args h = (execW E 77 p ((Go.Proofs.Tryz.f77.body).getD .skip) (initFr args) 0 h).bind (resX E.P false p Go.Proofs.Tryz.f77.results.toList) := callW_eq Go.Proofs.Tryz.f77 (by kernel_rfl) (by kernel_rfl) (by kernel_rfl) rfl (by kernel_rfl)
theorem eq_78 {p : Id} {args : List A} {h : Heap} : callW E p 78 args h = (execW E 78 p ((Go.Proofs.Tryz.f78.body).getD .skip) (initFr args) 0 h).bind (resX E.P false p Go.Proofs.Tryz.f78.results.toList) := callW_eq Go.Proofs.Tryz.f78 (by kernel_rfl) (by kernel_rfl) (by kernel_rfl) rfl (by kernel_rfl)
theorem eq_79 {p : Id} {args : List A} {h : Heap} : callW E p 79 args h = (execW E 79 p ((Go.Proofs.Tryz.f79.body).getD .skip) (initFr args) 0 h).bind (resX E.P false p Go.Proofs.Tryz.f79.results.toList) := callW_eq Go.Proofs.Tryz.f79 (by kernel_rfl) (by kernel_rfl) (by kernel_rfl) rfl (by kernel_rfl)
theorem eq_80 {p : Id} {args : List A} {h : Heap} : callW E p 80 args h = (execW E 80 p ((Go.Proofs.Tryz.f80.body).getD .skip) (initFr args) 0 h).bind (resX E.P false p Go.Proofs.Tryz.f80.results.toList) := callW_eq Go.Proofs.Tryz.f80 (by kernel_rfl) (by kernel_rfl) (by kernel_rfl) rfl (by kernel_rfl)
theorem rd_81_3 {p : Id} {L : List Nat} {c0 c : Nat} {fr : Fr} {h : Heap} : iterW E 81 p L L_81_3 c0 fr c h = (execW E 81 p ((((Go.Proofs.Tryz.f81.body).getD .skip).loopAt 3).getD .skip) fr c h).bind (loopX E 81 p L L_81_3 c0) := iterW_eq2 (by kernel_rfl)
theorem eq_81 {p : Id} {args : List A} {h : Heap} : callW E p 81 args h = (execW E 81 p (((Go.Proofs.Tryz.f81.body).getD .skip).hide [(3, L_81_3)]) (initFr args) 0 h).bind (resX E.P false p Go.Proofs.Tryz.f81.results.toList) := callW_eq Go.Proofs.Tryz.f81 (by kernel_rfl) (by kernel_rfl) (by kernel_rfl) rfl (by kernel_rfl)
theorem rd_82_2 {p : Id} {L : List Nat} {c0 c : Nat} {fr : Fr} {h : Heap} : iterW E 82 p L L_82_2 c0 fr c h = (execW E 82 p ((((Go.Proofs.Tryz.f82.body).getD .skip).loopAt 2).getD .skip) fr c h).bind (loopX E 82 p L L_82_2 c0) := iterW_eq2 (by kernel_rfl)
theorem eq_82 {p : Id} {args : List A} {h : Heap} : callW E p 82 args h = (execW E 82 p (((Go.Proofs.Tryz.f82.body).getD .skip).hide [(2, L_82_2)]) (initFr args) 0 h).bind (resX E.P false p Go.Proofs.Tryz.f82.results.toList) := callW_eq Go.Proofs.Tryz.f82 (by kernel_rfl) (by kernel_rfl) (by kernel_rfl) rfl (by kernel_rfl)
theorem eq_83 {p : Id} {args : List A} {h : Heap} : callW E p 83 args h = (execW E 83 p ((Go.Proofs.Tryz.f83.body).getD .skip) (initFr args) 0 h).bind (resX E.P false p Go.Proofs.Tryz.f83.results.toList) := callW_eq Go.Proofs.Tryz.f83 (by kernel_rfl) (by kernel_rfl) (by kernel_rfl) rfl (by kernel_rfl)
theorem rd_84_7 {p : Id} {L : List Nat} {c0 c : Nat} {fr : Fr} {h : Heap} : iterW E 84 p L L_84_7 c0 fr c h = (execW E 84 p ((((Go.Proofs.Tryz.f84.body).getD .skip).loopAt 7).getD .skip) fr c h).bind (loopX E 84 p L L_84_7 c0) := iterW_eq2 (by kernel_rfl)
theorem eq_84 {p : Id} {args : List A} {h : Heap} : callW E p 84 args h = (execW E 84 p (((Go.Proofs.Tryz.f84.body).getD .skip).hide [(7, L_84_7)]) (initFr args) 0 h).bind (resX E.P false p Go.Proofs.Tryz.f84.results.toList) := callW_eq Go.Proofs.Tryz.f84 (by kernel_rfl) (by kernel_rfl) (by kernel_rfl) rfl (by kernel_rfl)
theorem rd_88_1 {p : Id} {L : List Nat} {c0 c : Nat} {fr : Fr} {h : Heap} : iterW E 88 p L L_88_1 c0 fr c h = (execW E 88 p (((((Go.Proofs.Tryz.f88.body).getD .skip).loopAt 1).getD .skip).hide [(18, L_88_18)]) fr c h).bind (loopX E 88 p L L_88_1 c0) := iterW_eq2 (by kernel_rfl)
theorem rd_88_18 {p : Id} {L : List Nat} {c0 c : Nat} {fr : Fr} {h : Heap} : iterW E 88 p L L_88_18 c0 fr c h = (execW E 88 p ((((Go.Proofs.Tryz.f88.body).getD .skip).loopAt 18).getD .skip) fr c h).bind (loopX E 88 p L L_88_18 c0) := iterW_eq2 (by kernel_rfl)
theorem eq_88 {p : Id} {args : List A} {h : Heap} : callW E p 88 args h = (execW E 88 p (((Go.Proofs.Tryz.f88.body).getD .skip).hide [(1, L_88_1)]) (initFr args) 0 h).bind (resX E.P false p Go.Proofs.Tryz.f88.results.toList) := callW_eq Go.Proofs.Tryz.f88 (by kernel_rfl) (by kernel_rfl) (by kernel_rfl) rfl (by kernel_rfl)
theorem eq_89 {p : Id} {args : List A} {h : Heap} : callW E p 89 args h = (execW E 89 p ((Go.Proofs.Tryz.f89.body).getD .skip) (initFr args) 0 h).bind (resX E.P false p Go.Proofs.Tryz.f89.results.toList) := callW_eq Go.Proofs.Tryz.f89 (by kernel_rfl) (by kernel_rfl) (by kernel_rfl) rfl (by kernel_rfl)
theorem eq_90 {p : Id} {args : List A} {h : Heap} : callW E p 90 args h = (execW E 90 p ((Go.Proofs.Tryz.f90.body).getD .skip) (initFr args) 0 h).bind (resX E.P false p Go.Proofs.Tryz.f90.results.toList) := callW_eq Go.Proofs.Tryz.f90 (by kernel_rfl) (by kernel_rfl) (by kernel_rfl) rfl (by kernel_rfl)
theorem eq_91 {p : Id} {args : List A} {h : Heap} : callW E p 91 args h = (execW E 91 p ((Go.Proofs.Tryz.f91.body).getD .skip) (initFr args) 0 h).bind (resX E.P false p Go.Proofs.Tryz.f91.results.toList) := callW_eq Go.Proofs.Tryz.f91 (by kernel_rfl) (by kernel_rfl) (by kernel_rfl) rfl (by kernel_rfl)
theorem eq_92 {p : Id} {args : List A} {h : Heap} : callW E p 92 args h = (execW E 92 p ((Go.Proofs.Tryz.f92.body).getD .skip) (initFr args) 0 h).bind (resX E.P false p Go.Proofs.Tryz.f92.results.toList) := callW_eq Go.Proofs.Tryz.f92 (by kernel_rfl) (by kernel_rfl) (by kernel_rfl) rfl (by kernel_rfl)
theorem eq_93 {p : Id} {args : List A} {h : Heap} : callW E p 93 args h = (execW E 93 p ((Go.Proofs.Tryz.f93.body).getD .skip) (initFr args) 0 h).bind (resX E.P false p Go.Proofs.Tryz.f93.results.toList) := callW_eq Go.Proofs.Tryz.f93 (by kernel_rfl) (by kernel_rfl) (by kernel_rfl) rfl (by kernel_rfl)
theorem eq_94 {p : Id} {args : List A} {h : Heap} : callW E p 94 args h = (execW E 94 p ((Go.Proofs.Tryz.f94.body).getD .skip) (initFr args) 0 h).bind (resX E.P false p Go.Proofs.Tryz.f94.results.toList) := callW_eq Go.Proofs.Tryz.f94 (by kernel_rfl) (by kernel_rfl) (by kernel_rfl) rfl (by kernel_rfl)
theorem eq_95 {p : Id} {args : List A} {h : Heap} : callW E p 95 args h = (execW E 95 p ((Go.Proofs.Tryz.f95.body).getD .skip) (initFr args) 0 h).bind (resX E.P false p Go.Proofs.Tryz.f95.results.toList) := callW_eq Go.Proofs.Tryz.f95 (by kernel_rfl) (by kernel_rfl) (by kernel_rfl) rfl (by kernel_rfl)
theorem eq_96 {p : Id} {args : List A} {h : Heap} : callW E p 96 args h = (execW E 96 p ((Go.Proofs.Tryz.f96.body).getD .skip) (initFr args) 0 h).bind (resX E.P false p Go.Proofs.Tryz.f96.results.toList) := callW_eq Go.Proofs.Tryz.f96 (by kernel_rfl) (by kernel_rfl) (by kernel_rfl) rfl (by kernel_rfl)
theorem eq_98 {p : Id} {args : List A} {h : Heap} : callW E p 98 args h = (execW E 98 p ((Go.Proofs.Tryz.f98.body).getD .skip) (initFr args) 0 h).bind (resX E.P false p Go.Proofs.Tryz.f98.results.toList) := callW_eq Go.Proofs.Tryz.f98 (by kernel_rfl) (by kernel_rfl) (by kernel_rfl) rfl (by kernel_rfl)
theorem eq_99 {p : Id} {args : List A} {h : Heap} : callW E p 99 args h = (execW E 99 p ((Go.Proofs.Tryz.f99.body).getD .skip) (initFr args) 0 h).bind (resX E.P false p Go.Proofs.Tryz.f99.results.toList) := callW_eq Go.Proofs.Tryz.f99 (by kernel_rfl) (by kernel_rfl) (by kernel_rfl) rfl (by kernel_rfl)
theorem eq_100 {p : Id} {args : List A} {h : Heap} : callW E p 100 args h = (execW E 100 p ((Go.Proofs.Tryz.f100.body).getD .skip) (initFr args) 0 h).bind (resX E.P false p Go.Proofs.Tryz.f100.results.toList) := callW_eq Go.Proofs.Tryz.f100 (by kernel_rfl) (by kernel_rfl) (by kernel_rfl) rfl (by kernel_rfl)
theorem rd_101_3 {p : Id} {L : List Nat} {c0 c : Nat} {fr : Fr} {h : Heap} : iterW E 101 p L L_101_3 c0 fr c h = (execW E 101 p ((((Go.Proofs.Tryz.f101.body).getD .skip).loopAt 3).getD .skip) fr c h).bind (loopX E 101 p L L_101_3 c0) := iterW_eq2 (by kernel_rfl)
theorem eq_101 {p : Id} {args : List A} {h : Heap} : callW E p 101 args h = (execW E 101 p (((Go.Proofs.Tryz.f101.body).getD .skip).hide [(3, L_101_3)]) (initFr args) 0 h).bind (resX E.P false p Go.Proofs.Tryz.f101.results.toList) := callW_eq Go.Proofs.Tryz.f101 (by kernel_rfl) (by kernel_rfl) (by kernel_rfl) rfl (by kernel_rfl)
theorem eq_102 {p : Id} {args : List A} {h : Heap} : callW E p 102 args h = (execW E 102 p ((Go.Proofs.Tryz.f102.body).getD .skip) (initFr args) 0 h).bind (resX E.P false p Go.Proofs.Tryz.f102.results.toList) := callW_eq Go.Proofs.Tryz.f102 (by kernel_rfl) (by kernel_rfl) (by kernel_rfl) rfl (by kernel_rfl)
theorem eq_103 {p : Id} {args : List A} {h : Heap} : callW E p 103 args h = (execW E 103 p ((Go.Proofs.Tryz.f103.body).getD .skip) (initFr args) 0 h).bind (resX E.P true p Go.Proofs.Tryz.f103.results.toList) := callW_eq Go.Proofs.Tryz.f103 (by kernel_rfl) (by kernel_rfl) (by kernel_rfl) rfl (by kernel_rfl)
theorem eq_104 {p : Id} {args : List A} {h : Heap} : callW E p 104 args h = (execW E 104 p ((Go.Proofs.Tryz.f104.body).getD .skip) (initFr args) 0 h).bind (resX E.P false p Go.Proofs.Tryz.f104.results.toList) := callW_eq Go.Proofs.Tryz.f104 (by kernel_rfl) (by kernel_rfl) (by kernel_rfl) rfl (by kernel_rfl)
theorem eq_105 {p : Id} {args : List A} {h : Heap} : callW E p 105 args h = (execW E 105 p ((Go.Proofs.Tryz.f105.body).getD .skip) (initFr args) 0 h).bind (resX E.P true p Go.Proofs.Tryz.f105.results.toList) := callW_eq Go.Proofs.Tryz.f105 (by kernel_rfl) (by kernel_rfl) (by kernel_rfl) rfl (by kernel_rfl)
theorem eq_106 {p : Id} {args : List A} {h : Heap} : callW E p 106 args h = (execW E 106 p ((Go.Proofs.Tryz.f106.body).getD .skip) (initFr args) 0 h).bind (resX E.P false p Go.Proofs.Tryz.f106.results.toList) := callW_eq Go.Proofs.Tryz.f106 (by kernel_rfl) (by kernel_rfl) (by kernel_rfl) rfl (by kernel_rfl)
theorem rd_107_4 {p : Id} {L : List Nat} {c0 c : Nat} {fr : Fr} {h : Heap} : iterW E 107 p L L_107_4 c0 fr c h = (execW E 107 p ((((Go.Proofs.Tryz.f107.body).getD .skip).loopAt 4).getD .skip) fr c h).bind (loopX E 107 p L L_107_4 c0) := iterW_eq2 (by kernel_rfl)
theorem eq_107 {p : Id} {args : List A} {h : Heap} : callW E p 107 args h = (execW E 107 p (((Go.Proofs.Tryz.f107.body).getD .skip).hide [(4, L_107_4)]) (initFr args) 0 h).bind (resX E.P false p Go.Proofs.Tryz.f107.results.toList) := callW_eq Go.Proofs.Tryz.f107 (by kernel_rfl) (by kernel_rfl) (by kernel_rfl) rfl (by kernel_rfl)
theorem eq_108 {p : Id} {args : List A} {h : Heap} : callW E p 108 args h = (execW E 108 p ((Go.Proofs.Tryz.f108.body).getD .skip) (initFr args) 0 h).bind (resX E.P false p Go.Proofs.Tryz.f108.results.toList) := callW_eq Go.Proofs.Tryz.f108 (by kernel_rfl) (by kernel_rfl) (by kernel_rfl) rfl (by kernel_rfl)
theorem rd_109_8 {p : Id} {L : List Nat} {c0 c : Nat} {fr : Fr} {h : Heap} : iterW E 109 p L L_109_8 c0 fr c h = (execW E 109 p ((((Go.Proofs.Tryz.f109.body).getD .skip).loopAt 8).getD .skip) fr c h).bind (loopX E 109 p L L_109_8 c0) := iterW_eq2 (by kernel_rfl)
theorem eq_109 {p : Id} {args : List A} {h : Heap} : callW E p 109 args h = (execW E 109 p (((Go.Proofs.Tryz.f109.body).getD .skip).hide [(8, L_109_8)]) (initFr args) 0 h).bind (resX E.P false p Go.Proofs.Tryz.f109.results.toList) := callW_eq Go.Proofs.Tryz.f109 (by kernel_rfl) (by kernel_rfl) (by kernel_rfl) rfl (by kernel_rfl)
theorem eq_110 {p : Id} {args : List A} {h : Heap} : callW E p 110 args h = (execW E 110 p ((Go.Proofs.Tryz.f110.body).getD .skip) (initFr args) 0 h).bind (resX E.P false p Go.Proofs.Tryz.f110.results.toList) := callW_eq Go.Proofs.Tryz.f110 (by kernel_rfl) (by kernel_rfl) (by kernel_rfl) rfl (by kernel_rfl)
theorem eq_111 {p : Id} {args : List A} {h : Heap} : callW E p 111 args h = (execW E 111 p ((Go.Proofs.Tryz.f111.body).getD .skip) (initFr args) 0 h).bind (resX E.P false p Go.Proofs.Tryz.f111.results.toList) := callW_eq Go.Proofs.Tryz.f111 (by kernel_rfl) (by kernel_rfl) (by kernel_rfl) rfl (by kernel_rfl)
theorem rd_112_2 {p : Id} {L : List Nat} {c0 c : Nat} {fr : Fr} {h : Heap} : iterW E 112 p L L_112_2 c0 fr c h = (execW E 112 p ((((Go.Proofs.Tryz.f112.body).getD .skip).loopAt 2).getD .skip) fr c h).bind (loopX E 112 p L L_112_2 c0) := iterW_eq2 (by kernel_rfl)
theorem eq_112 {p : Id} {args : List A} {h : Heap} : callW E p 112 args h = (execW E 112 p (((Go.Proofs.Tryz.f112.body).getD .skip).hide [(2, L_112_2)]) (initFr args) 0 h).bind (resX E.P false p Go.Proofs.Tryz.f112.results.toList) := callW_eq Go.Proofs.Tryz.f112 (by kernel_rfl) (by kernel_rfl) (by kernel_rfl) rfl (by kernel_rfl)
theorem eq_113 {p : Id} {args : List A} {h : Heap} : callW E p 113 args h = (execW E 113 p ((Go.Proofs.Tryz.f113.body).getD .skip) (initFr args) 0 h).bind (resX E.P false p Go.Proofs.Tryz.f113.results.toList) := callW_eq Go.Proofs.Tryz.f113 (by kernel_rfl) (by kernel_rfl) (by kernel_rfl) rfl (by kernel_rfl)
theorem rd_114_22 {p : Id} {L : List Nat} {c0 c : Nat} {fr : Fr} {h : Heap} : iterW E 114 p L L_114_22 c0 fr c h = (execW E 114 p ((((Go.Proofs.Tryz.f114.body).getD .skip).loopAt 22).getD .skip) fr c h).bind (loopX E 114 p L L_114_22 c0) := iterW_eq2 (by kernel_rfl)
theorem eq_114 {p : Id} {args : List A} {h : Heap} : callW E p 114 args h = (execW E 114 p (((Go.Proofs.Tryz.f114.body).getD .skip).hide [(22, L_114_22)]) (initFr args) 0 h).bind (resX E.P false p Go.Proofs.Tryz.f114.results.toList) := callW_eq Go.Proofs.Tryz.f114 (by kernel_rfl) (by kernel_rfl) (by kernel_rfl) rfl (by kernel_rfl)
theorem eq_115 {p : Id} {args : List A} {h : Heap} : callW E p 115 args h = (execW E 115 p ((Go.Proofs.Tryz.f115.body).getD .skip) (initFr args) 0 h).bind (resX E.P false p Go.Proofs.Tryz.f115.results.toList) := callW_eq Go.Proofs.Tryz.f115 (by kernel_rfl) (by kernel_rfl) (by kernel_rfl) rfl (by kernel_rfl)
theorem rd_116_3 {p : Id} {L : List Nat} {c0 c : Nat} {fr : Fr} {h : Heap} : iterW E 116 p L L_116_3 c0 fr c h = (execW E 116 p ((((Go.Proofs.Tryz.f116.body).getD .skip).loopAt 3).getD .skip) fr c h).bind (loopX E 116 p L L_116_3 c0) := iterW_eq2 (by kernel_rfl)
theorem eq_116 {p : Id} {args : List A} {h : Heap} : callW E p 116 args h = (execW E 116 p (((Go.Proofs.Tryz.f116.body).getD .skip).hide [(3, L_116_3)]) (initFr args) 0 h).bind (resX E.P false p Go.Proofs.Tryz.f116.results.toList) := callW_eq Go.Proofs.Tryz.f116 (by kernel_rfl) (by kernel_rfl) (by kernel_rfl) rfl (by kernel_rfl)
theorem rd_120_9 {p : Id} {L : List Nat} {c0 c : Nat} {fr : Fr} {h : Heap} : iterW E 120 p L L_120_9 c0 fr c h = (execW E 120 p ((((Go.Proofs.Tryz.f120.body).getD .skip).loopAt 9).getD .skip) fr c h).bind (loopX E 120 p L L_120_9 c0) := iterW_eq2 (by kernel_rfl)
theorem eq_120 {p : Id} {args : List A} {h : Heap} : callW E p 120 args h = (execW E 120 p (((Go.Proofs.Tryz.f120.body).getD .skip).hide [(9, L_120_9)]) (initFr args) 0 h).bind (resX E.P false p Go.Proofs.Tryz.f120.results.toList) := callW_eq Go.Proofs.Tryz.f120 (by kernel_rfl) (by kernel_rfl) (by kernel_rfl) rfl (by kernel_rfl)
theorem eq_121 {p : Id} {args : List A} {h : Heap} : callW E p 121 args h = (execW E 121 p ((Go.Proofs.Tryz.f121.body).getD .skip) (initFr args) 0 h).bind (resX E.P false p Go.Proofs.Tryz.f121.results.toList) := callW_eq Go.Proofs.Tryz.f121 (by kernel_rfl) (by kernel_rfl) (by kernel_rfl) rfl (by kernel_rfl)
theorem rd_122_2 {p : Id} {L : List Nat} {c0 c : Nat} {fr : Fr} {h : Heap} : iterW E 122 p L L_122_2 c0 fr c h = (execW E 122 p ((((Go.Proofs.Tryz.f122.body).getD .skip).loopAt 2).getD .skip) fr c h).bind (loopX E 122 p L L_122_2 c0) := iterW_eq2 (by kernel_rfl)
theorem eq_122 {p : Id} {args : List A} {h : Heap} : callW E p 122 args h = (execW E 122 p (((Go.Proofs.Tryz.f122.body).getD .skip).hide [(2, L_122_2)]) (initFr args) 0 h).bind (resX E.P false p Go.Proofs.Tryz.f122.results.toList) := callW_eq Go.Proofs.Tryz.f122 (by kernel_rfl) (by kernel_rfl) (by kernel_rfl) rfl (by kernel_rfl)
theorem rd_123_17 {p : Id} {L : List Nat} {c0 c : Nat} {fr : Fr} {h : Heap} : iterW E 123 p L L_123_17 c0 fr c h = (execW E 123 p ((((Go.Proofs.Tryz.f123.body).getD .skip).loopAt 17).getD .skip) fr c h).bind (loopX E 123 p L L_123_17 c0) := iterW_eq2 (by kernel_rfl)
theorem eq_123 {p : Id} {args : List A} {h : Heap} : callW E p 123 args h = (execW E 123 p (((Go.Proofs.Tryz.f123.body).getD .skip).hide [(17, L_123_17)]) (initFr args) 0 h).bind (resX E.P false p Go.Proofs.Tryz.f123.results.toList) := callW_eq Go.Proofs.Tryz.f123 (by kernel_rfl) (by kernel_rfl) (by kernel_rfl) rfl (by kernel_rfl)
theorem eq_124 {p : Id} {args : List A} {h : Heap} : callW E p 124 args h = (execW E 124 p ((Go.Proofs.Tryz.f124.body).getD .skip) (initFr args) 0 h).bind (resX E.P false p Go.Proofs.Tryz.f124.results.toList) := callW_eq Go.Proofs.Tryz.f124 (by kernel_rfl) (by kernel_rfl) (by kernel_rfl) rfl (by kernel_rfl)
theorem eq_125 {p : Id} {args : List A} {h : Heap} : callW E p 125 args h = (execW E 125 p ((Go.Proofs.Tryz.f125.body).getD .skip) (initFr args) 0 h).bind (resX E.P false p Go.Proofs.Tryz.f125.results.toList) := callW_eq Go.Proofs.Tryz.f125 (by kernel_rfl) (by kernel_rfl) (by kernel_rfl) rfl (by kernel_rfl)
theorem eq_127 {p : Id} {args : List A} {h : Heap} : callW E p 127 args h = (execW E 127 p ((Go.Proofs.Tryz.f127.body).getD .skip) (initFr args) 0 h).bind (resX E.P false p Go.Proofs.Tryz.f127.results.toList) := callW_eq Go.Proofs.Tryz.f127 (by kernel_rfl) (by kernel_rfl) (by kernel_rfl) rfl (by kernel_rfl)
theorem eq_128 {p : Id} {args : List A} {h : Heap} : callW E p 128 args h = (execW E 128 p ((Go.Proofs.Tryz.f128.body).getD .skip) (initFr args) 0 h).bind (resX E.P false p Go.Proofs.Tryz.f128.results.toList) := callW_eq Go.Proofs.Tryz.f128 (by kernel_rfl) (by kernel_rfl) (by kernel_rfl) rfl (by kernel_rfl)
theorem rd_129_12 {p : Id} {L : List Nat} {c0 c : Nat} {fr : Fr} {h : Heap} : iterW E 129 p L L_129_12 c0 fr c h = (execW E 129 p ((((Go.Proofs.Tryz.f129.body).getD .skip).loopAt 12).getD .skip) fr c h).bind (loopX E 129 p L L_129_12 c0) := iterW_eq2 (by kernel_rfl)
theorem rd_129_22 {p : Id} {L : List Nat} {c0 c : Nat} {fr : Fr} {h : Heap} : iterW E 129 p L L_129_22 c0 fr c h = (execW E 129 p ((((Go.Proofs.Tryz.f129.body).getD .skip).loopAt 22).getD .skip) fr c h).bind (loopX E 129 p L L_129_22 c0) := iterW_eq2 (by kernel_rfl)
theorem eq_130 {p : Id} {args : List A} {h : Heap} : callW E p 130 args h = (execW E 130 p ((Go.Proofs.Tryz.f130.body).getD .skip) (initFr args) 0 h).bind (resX E.P false p Go.Proofs.Tryz.f130.results.toList) := callW_eq Go.Proofs.Tryz.f130 (by kernel_rfl) (by kernel_rfl) (by kernel_rfl) rfl (by kernel_rfl)
theorem eq_131 {p : Id} {args : List A} {h : Heap} : callW E p 131 args h = (execW E 131 p ((Go.Proofs.Tryz.f131.body).getD .skip) (initFr args) 0 h).bind (resX E.P false p Go.Proofs.Tryz.f131.results.toList) := callW_eq Go.Proofs.Tryz.f131 (by kernel_rfl) (by kernel_rfl) (by kernel_rfl) rfl (by kernel_rfl)
theorem rd_132_3 {p : Id} {L : List Nat} {c0 c : Nat} {fr : Fr} {h : Heap} : iterW E 132 p L L_132_3 c0 fr c h = (execW E 132 p ((((Go.Proofs.Tryz.f132.body).getD .skip).loopAt 3).getD .skip) fr c h).bind (loopX E 132 p L L_132_3 c0) := iterW_eq2 (by kernel_rfl)
theorem eq_132 {p : Id} {args : List A} {h : Heap} : callW E p 132 args h = (execW E 132 p (((Go.Proofs.Tryz.f132.body).getD .skip).hide [(3, L_132_3)]) (initFr args) 0 h).bind (resX E.P false p Go.Proofs.Tryz.f132.results.toList) := callW_eq Go.Proofs.Tryz.f132 (by kernel_rfl) (by kernel_rfl) (by kernel_rfl) rfl (by kernel_rfl)
theorem eq_133 {p : Id} {args : List A} {h : Heap} : callW E p 133 args h = (execW E 133 p ((Go.Proofs.Tryz.f133.body).getD .skip) (initFr args) 0 h).bind (resX E.P false p Go.Proofs.Tryz.f133.results.toList) := callW_eq Go.Proofs.Tryz.f133 (by kernel_rfl) (by kernel_rfl) (by kernel_rfl) rfl (by kernel_rfl)
theorem eq_134 {p : Id} {args : List A} {h : Heap} : callW E p 134 args h = (execW E 134 p ((Go.Proofs.Tryz.f134.body).getD .skip) (initFr args) 0 h).bind (resX E.P false p Go.Proofs.Tryz.f134.results.toList) := callW_eq Go.Proofs.Tryz.f134 (by kernel_rfl) (by kernel_rfl) (by kernel_rfl) rfl (by kernel_rfl)
theorem rd_135_4 {p : Id} {L : List Nat} {c0 c : Nat} {fr : Fr} {h : Heap} : iterW E 135 p L L_135_4 c0 fr c h = (execW E 135 p ((((Go.Proofs.Tryz.f135.body).getD .skip).loopAt 4).getD .skip) fr c h).bind (loopX E 135 p L L_135_4 c0) := iterW_eq2 (by kernel_rfl)
theorem eq_135 {p : Id} {args : List A} {h : Heap} : callW E p 135 args h = (execW E 135 p (((Go.Proofs.Tryz.f135.body).getD .skip).hide [(4, L_135_4)]) (initFr args) 0 h).bind (resX E.P false p Go.Proofs.Tryz.f135.results.toList) := callW_eq Go.Proofs.Tryz.f135 (by kernel_rfl) (by kernel_rfl) (by kernel_rfl) rfl (by kernel_rfl)
theorem eq_136 {p : Id} {args : List A} {h : Heap} : callW E p 136 args h = (execW E 136 p ((Go.Proofs.Tryz.f136.body).getD .skip) (initFr args) 0 h).bind (resX E.P false p Go.Proofs.Tryz.f136.results.toList) := callW_eq Go.Proofs.Tryz.f136 (by kernel_rfl) (by kernel_rfl) (by kernel_rfl) rfl (by kernel_rfl)
theorem eq_137 {p : Id} {args : List A} {h : Heap} : callW E p 137 args h = (execW E 137 p ((Go.Proofs.Tryz.f137.body).getD .skip) (initFr args) 0 h).bind (resX E.P false p Go.Proofs.Tryz.f137.results.toList) := callW_eq Go.Proofs.Tryz.f137 (by kernel_rfl) (by kernel_rfl) (by kernel_rfl) rfl (by kernel_rfl)
theorem rd_138_3 {p : Id} {L : List Nat} {c0 c : Nat} {fr : Fr} {h : Heap} : iterW E 138 p L L_138_3 c0 fr c h = (execW E 138 p ((((Go.Proofs.Tryz.f138.body).getD .skip).loopAt 3).getD .skip) fr c h).bind (loopX E 138 p L L_138_3 c0) := iterW_eq2 (by kernel_rfl)
theorem eq_138 {p : Id} {args : List A} {h : Heap} : callW E p 138 args h = (execW E 138 p (((Go.Proofs.Tryz.f138.body).getD .skip).hide [(3, L_138_3)]) (initFr args) 0 h).bind (resX E.P false p Go.Proofs.Tryz.f138.results.toList) := callW_eq Go.Proofs.Tryz.f138 (by kernel_rfl) (by kernel_rfl) (by kernel_rfl) rfl (by kernel_rfl)
theorem rd_139_3 {p : Id} {L : List Nat} {c0 c : Nat} {fr : Fr} {h : Heap} : iterW E 139 p L L_139_3 c0 fr c h = (execW E 139 p ((((Go.Proofs.Tryz.f139.body).getD .skip).loopAt 3).getD .skip) fr c h).bind (loopX E 139 p L L_139_3 c0) := iterW_eq2 (by kernel_rfl)
theorem eq_139 {p : Id} {args : List A} {h : Heap} : callW E p 139 args h = (execW E 139 p (((Go.Proofs.Tryz.f139.body).getD .skip).hide [(3, L_139_3)]) (initFr args) 0 h).bind (resX E.P false p Go.Proofs.Tryz.f139.results.toList) := callW_eq Go.Proofs.Tryz.f139 (by kernel_rfl) (by kernel_rfl) (by kernel_rfl) rfl (by kernel_rfl)
theorem rd_140_5 {p : Id} {L : List Nat} {c0 c : Nat} {fr : Fr} {h : Heap} : iterW E 140 p L L_140_5 c0 fr c h = (execW E 140 p ((((Go.Proofs.Tryz.f140.body).getD .skip).loopAt 5).getD .skip) fr c h).bind (loopX E 140 p L L_140_5 c0) := iterW_eq2 (by kernel_rfl)
theorem eq_140 {p : Id} {args : List A} {h : Heap} : callW E p 140 args h = (execW E 140 p (((Go.Proofs.Tryz.f140.body).getD .skip).hide [(5, L_140_5)]) (initFr args) 0 h).bind (resX E.P false p Go.Proofs.Tryz.f140.results.toList) := callW_eq Go.Proofs.Tryz.f140 (by kernel_rfl) (by kernel_rfl) (by kernel_rfl) rfl (by kernel_rfl)
theorem rd_141_5 {p : Id} {L : List Nat} {c0 c : Nat} {fr : Fr} {h : Heap} : iterW E 141 p L L_141_5 c0 fr c h = (execW E 141 p ((((Go.Proofs.Tryz.f141.body).getD .skip).loopAt 5).getD .skip) fr c h).bind (loopX E 141 p L L_141_5 c0) := iterW_eq2 (by kernel_rfl)
theorem eq_141 {p : Id} {args : List A} {h : Heap} : callW E p 141 args h = (execW E 141 p (((Go.Proofs.Tryz.f141.body).getD .skip).hide [(5, L_141_5)]) (initFr args) 0 h).bind (resX E.P false p Go.Proofs.Tryz.f141.results.toList) := callW_eq Go.Proofs.Tryz.f141 (by kernel_rfl) (by kernel_rfl) (by kernel_rfl) rfl (by kernel_rfl)
theorem rd_142_3 {p : Id} {L : List Nat} {c0 c : Nat} {fr : Fr} {h : Heap} : iterW E 142 p L L_142_3 c0 fr c h = (execW E 142 p ((((Go.Proofs.Tryz.f142.body).getD .skip).loopAt 3).getD .skip) fr c h).bind (loopX E 142 p L L_142_3 c0) := iterW_eq2 (by kernel_rfl)
theorem eq_142 {p : Id} {args : List A} {h : Heap} : callW E p 142 args h = (execW E 142 p (((Go.Proofs.Tryz.f142.body).getD .skip).hide [(3, L_142_3)]) (initFr args) 0 h).bind (resX E.P false p Go.Proofs.Tryz.f142.results.toList) := callW_eq Go.Proofs.Tryz.f142 (by kernel_rfl) (by kernel_rfl) (by kernel_rfl) rfl (by kernel_rfl)
theorem rd_143_3 {p : Id} {L : List Nat} {c0 c : Nat} {fr : Fr} {h : Heap} : iterW E 143 p L L_143_3 c0 fr c h = (execW E 143 p ((((Go.Proofs.Tryz.f143.body).getD .skip).loopAt 3).getD .skip) fr c h).bind (loopX E 143 p L L_143_3 c0) := iterW_eq2 (by kernel_rfl)
theorem eq_143 {p : Id} {args : List A} {h : Heap} : callW E p 143 args h = (execW E 143 p (((Go.Proofs.Tryz.f143.body).getD .skip).hide [(3, L_143_3)]) (initFr args) 0 h).bind (resX E.P false p Go.Proofs.Tryz.f143.results.toList) := callW_eq Go.Proofs.Tryz.f143 (by kernel_rfl) (by kernel_rfl) (by kernel_rfl) rfl (by kernel_rfl)
theorem eq_144 {p : Id} {args : List A} {h : Heap} : callW E p 144 args h = (execW E 144 p ((Go.Proofs.Tryz.f144.body).getD .skip) (initFr args) 0 h).bind (resX E.P false p Go.Proofs.Tryz.f144.results.toList) := callW_eq Go.Proofs.Tryz.f144 (by kernel_rfl) (by kernel_rfl) (by kernel_rfl) rfl (by kernel_rfl)
theorem eq_145 {p : Id} {args : List A} {h : Heap} : callW E p 145 args h = (execW E 145 p ((Go.Proofs.Tryz.f145.body).getD .skip) (initFr args) 0 h).bind (resX E.P false p Go.Proofs.Tryz.f145.results.toList) := callW_eq Go.Proofs.Tryz.f145 (by kernel_rfl) (by kernel_rfl) (by kernel_rfl) rfl (by kernel_rfl)
theorem eq_146 {p : Id} {args : List A} {h : Heap} : callW E p 146 args h = (execW E 146 p ((Go.Proofs.Tryz.f146.body).getD .skip) (initFr args) 0 h).bind (resX E.P false p Go.Proofs.Tryz.f146.results.toList) := callW_eq Go.Proofs.Tryz.f146 (by kernel_rfl) (by kernel_rfl) (by kernel_rfl) rfl (by kernel_rfl)
theorem eq_147 {p : Id} {args : List A} {h : Heap} : callW E p 147 args h = (execW E 147 p ((Go.Proofs.Tryz.f147.body).getD .skip) (initFr args) 0 h).bind (resX E.P false p Go.Proofs.Tryz.f147.results.toList) := callW_eq Go.Proofs.Tryz.f147 (by kernel_rfl) (by kernel_rfl) (by kernel_rfl) rfl (by kernel_rfl)
theorem eq_148 {p : Id} {args : List A} {h : Heap} : callW E p 148 args h = (execW E 148 p ((Go.Proofs.Tryz.f148.body).getD .skip) (initFr args) 0 h).bind (resX E.P false p Go.Proofs.Tryz.f148.results.toList) := callW_eq Go.Proofs.Tryz.f148 (by kernel_rfl) (by kernel_rfl) (by kernel_rfl) rfl (by kernel_rfl)
theorem rd_149_3 {p : Id} {L : List Nat} {c0 c : Nat} {fr : Fr} {h : Heap} : iterW E 149 p L L_149_3 c0 fr c h = (execW E 149 p ((((Go.Proofs.Tryz.f149.body).getD .skip).loopAt 3).getD .skip) fr c h).bind (loopX E 149 p L L_149_3 c0) := iterW_eq2 (by kernel_rfl)
theorem eq_149 {p : Id} {args : List A} {h : Heap} : callW E p 149 args h = (execW E 149 p (((Go.Proofs.Tryz.f149.body).getD .skip).hide [(3, L_149_3)]) (initFr args) 0 h).bind (resX E.P false p Go.Proofs.Tryz.f149.results.toList) := callW_eq Go.Proofs.Tryz.f149 (by kernel_rfl) (by kernel_rfl) (by kernel_rfl) rfl (by kernel_rfl)
theorem eq_150 {p : Id} {args : List A} {h : Heap} : callW E p 150 args h = (execW E 150 p ((Go.Proofs.Tryz.f150.body).getD .skip) (initFr args) 0 h).bind (resX E.P false p Go.Proofs.Tryz.f150.results.toList) := callW_eq Go.Proofs.Tryz.f150 (by kernel_rfl) (by kernel_rfl) (by kernel_rfl) rfl (by kernel_rfl)
theorem rd_151_3 {p : Id} {L : List Nat} {c0 c : Nat} {fr : Fr} {h : Heap} : iterW E 151 p L L_151_3 c0 fr c h = (execW E 151 p ((((Go.Proofs.Tryz.f151.body).getD .skip).loopAt 3).getD .skip) fr c h).bind (loopX E 151 p L L_151_3 c0) := iterW_eq2 (by kernel_rfl)
theorem eq_151 {p : Id} {args : List A} {h : Heap} : callW E p 151 args h = (execW E 151 p (((Go.Proofs.Tryz.f151.body).getD .skip).hide [(3, L_151_3)]) (initFr args) 0 h).bind (resX E.P false p Go.Proofs.Tryz.f151.results.toList) := callW_eq Go.Proofs.Tryz.f151 (by kernel_rfl) (by kernel_rfl) (by kernel_rfl) rfl (by kernel_rfl)
theorem rd_152_2 {p : Id} {L : List Nat} {c0 c : Nat} {fr : Fr} {h : Heap} : iterW E 152 p L L_152_2 c0 fr c h = (execW E 152 p ((((Go.Proofs.Tryz.f152.body).getD .skip).loopAt 2).getD .skip) fr c h).bind (loopX E 152 p L L_152_2 c0) := iterW_eq2 (by kernel_rfl)
theorem eq_152 {p : Id} {args : List A} {h : Heap} : callW E p 152 args h = (execW E 152 p (((Go.Proofs.Tryz.f152.body).getD .skip).hide [(2, L_152_2)]) (initFr args) 0 h).bind (resX E.P false p Go.Proofs.Tryz.f152.results.toList) := callW_eq Go.Proofs.Tryz.f152 (by kernel_rfl) (by kernel_rfl) (by kernel_rfl) rfl (by kernel_rfl)
theorem eq_153 {p : Id} {args : List A} {h : Heap} : callW E p 153 args h = (execW E 153 p ((Go.Proofs.Tryz.f153.body).getD .skip) (initFr args) 0 h).bind (resX E.P false p Go.Proofs.Tryz.f153.results.toList) := callW_eq Go.Proofs.Tryz.f153 (by kernel_rfl) (by kernel_rfl) (by kernel_rfl) rfl (by kernel_rfl)
theorem eq_154 {p : Id} {args : List A} {h : Heap} : callW E p 154 args h = (execW E 154 p ((Go.Proofs.Tryz.f154.body).getD .skip) (initFr args) 0 h).bind (resX E.P false p Go.Proofs.Tryz.f154.results.toList) := callW_eq Go.Proofs.Tryz.f154 (by kernel_rfl) (by kernel_rfl) (by kernel_rfl) rfl (by kernel_rfl)
theorem eq_155 {p : Id} {args : List A} {h : Heap} : callW E p 155 args h = (execW E 155 p ((Go.Proofs.Tryz.f155.body).getD .skip) (initFr args) 0 h).bind (resX E.P false p Go.Proofs.Tryz.f155.results.toList) := callW_eq Go.Proofs.Tryz.f155 (by kernel_rfl) (by kernel_rfl) (by kernel_rfl) rfl (by kernel_rfl)
theorem eq_156 {p : Id} {args : List A} {h : Heap} : callW E p 156 args h = (execW E 156 p ((Go.Proofs.Tryz.f156.body).getD .skip) (initFr args) 0 h).bind (resX E.P false p Go.Proofs.Tryz.f156.results.toList) := callW_eq Go.Proofs.Tryz.f156 (by kernel_rfl) (by kernel_rfl) (by kernel_rfl) rfl (by kernel_rfl)
theorem eq_157 {p : Id} {args : List A} {h : Heap} : callW E p 157 args h = (execW E 157 p ((Go.Proofs.Tryz.f157.body).getD .skip) (initFr args) 0 h).bind (resX E.P false p Go.Proofs.Tryz.f157.results.toList) := callW_eq Go.Proofs.Tryz.f157 (by kernel_rfl) (by kernel_rfl) (by kernel_rfl) rfl (by kernel_rfl)
theorem eq_158 {p : Id} {args : List A} {h : Heap} : callW E p 158 args h = (execW E 158 p ((Go.Proofs.Tryz.f158.body).getD .skip) (initFr args) 0 h).bind (resX E.P false p Go.Proofs.Tryz.f158.results.toList) := callW_eq Go.Proofs.Tryz.f158 (by kernel_rfl) (by kernel_rfl) (by kernel_rfl) rfl (by kernel_rfl)
theorem rd_159_3 {p : Id} {L : List Nat} {c0 c : Nat} {fr : Fr} {h : Heap} : iterW E 159 p L L_159_3 c0 fr c h = (execW E 159 p ((((Go.Proofs.Tryz.f159.body).getD .skip).loopAt 3).getD .skip) fr c h).bind (loopX E 159 p L L_159_3 c0) := iterW_eq2 (by kernel_rfl)
theorem eq_159 {p : Id} {args : List A} {h : Heap} : callW E p 159 args h = (execW E 159 p (((Go.Proofs.Tryz.f159.body).getD .skip).hide [(3, L_159_3)]) (initFr args) 0 h).bind (resX E.P false p Go.Proofs.Tryz.f159.results.toList) := callW_eq Go.Proofs.Tryz.f159 (by kernel_rfl) (by kernel_rfl) (by kernel_rfl) rfl (by kernel_rfl)
theorem eq_160 {p : Id} {args : List A} {h : Heap} : callW E p 160 args h = (execW E 160 p ((Go.Proofs.Tryz.f160.body).getD .skip) (initFr args) 0 h).bind (resX E.P false p Go.Proofs.Tryz.f160.results.toList) := callW_eq Go.Proofs.Tryz.f160 (by kernel_rfl) (by kernel_rfl) (by kernel_rfl) rfl (by kernel_rfl)
theorem eq_161 {p : Id} {args : List A} {h : Heap} : callW E p 161 args h = (execW E 161 p ((Go.Proofs.Tryz.f161.body).getD .skip) (initFr args) 0 h).bind (resX E.P false p Go.Proofs.Tryz.f161.results.toList) := callW_eq Go.Proofs.Tryz.f161 (by kernel_rfl) (by kernel_rfl) (by kernel_rfl) rfl (by kernel_rfl)
theorem rd_162_3 {p : Id} {L : List Nat} {c0 c : Nat} {fr : Fr} {h : Heap} : iterW E 162 p L L_162_3 c0 fr c h = (execW E 162 p ((((Go.Proofs.Tryz.f162.body).getD .skip).loopAt 3).getD .skip) fr c h).bind (loopX E 162 p L L_162_3 c0) := iterW_eq2 (by kernel_rfl)
theorem eq_162 {p : Id} {args : List A} {h : Heap} : callW E p 162 args h = (execW E 162 p (((Go.Proofs.Tryz.f162.body).getD .skip).hide [(3, L_162_3)]) (initFr args) 0 h).bind (resX E.P false p Go.Proofs.Tryz.f162.results.toList) := callW_eq Go.Proofs.Tryz.f162 (by kernel_rfl) (by kernel_rfl) (by kernel_rfl) rfl (by kernel_rfl)
theorem eq_184 {p : Id} {args : List A} {h : Heap} : callW E p 184 args h = (execW E 184 p ((Go.Proofs.Tryz.f184.body).getD .skip) (initFr args) 0 h).bind (resX E.P false p Go.Proofs.Tryz.f184.results.toList) := callW_eq Go.Proofs.Tryz.f184 (by kernel_rfl) (by kernel_rfl) (by kernel_rfl) rfl (by kernel_rfl)
theorem eq_200 {p : Id} {args : List A} {h : Heap} : callW E p 200 args h = (execW E 200 p ((Go.Proofs.Tryz.f200.body).getD .skip) (initFr args) 0 h).bind (resX E.P false p Go.Proofs.Tryz.f200.results.toList) := callW_eq Go.Proofs.Tryz.f200 (by kernel_rfl) (by kernel_rfl) (by kernel_rfl) rfl (by kernel_rfl)
theorem eq_205 {p : Id} {args : List A} {h : Heap} : callW E p 205 args h = (execW E 205 p ((Go.Proofs.Tryz.f205.body).getD .skip) (initFr args) 0 h).bind (resX E.P false p Go.Proofs.Tryz.f205.results.toList) := callW_eq Go.Proofs.Tryz.f205 (by kernel_rfl) (by kernel_rfl) (by kernel_rfl) rfl (by kernel_rfl)
end Go.Ai.T

namespace Go.Ai.T
theorem envB_ok : envB E = true := by kernel_rfl
end Go.Ai.T

/- The library's functions' walks in this program. -/
namespace Go.Proofs.Tryz
open Go.RowKit

set_option maxHeartbeats 1000000 in
set_option maxRecDepth 100000 in
theorem check_used (b : Nat) (w : World) (h0 : w.cell? ⟨b, 0, none⟩ = some (.pointer (some ⟨b, 0, none⟩))) :
    Calls prog 97 #[.pointer (some ⟨b, 0, none⟩)] w fun e w' => e = .returned (.tuple #[]) ∧ w' = w := by
  have hp : prog.underlying 71 = some (.pointer 74) := by kernel_rfl
  obtain ⟨j, hj⟩ : ∃ j, prog.info? 74 = some j := Option.isSome_iff_exists.1 (by kernel_rfl)
  go_enter func97, ntmps97
  go_wp2
  rw [Lib.run_neq_ptr_same w _ hp hj]
  go_wp2
  go_end0
  exact ⟨rfl, rfl⟩

set_option maxHeartbeats 1000000 in
set_option maxRecDepth 100000 in
theorem check_fresh (b : Nat) (w : World) (t : Nat) (h0 : w.cell? ⟨b, 0, none⟩ = some (.pointer none)) (hsh : w.shape? b = some (t, 2)) (hlies : liesAt prog prog.depth t (2 / prog.cellsOf t) 0 74 1 = true) (hfz : w.frozen? ⟨b, 0, none⟩ = false) :
    Calls prog 97 #[.pointer (some ⟨b, 0, none⟩)] w fun e w' => e = .returned (.tuple #[]) ∧ w' = w.setCell ⟨b, 0, none⟩ (.pointer (some ⟨b, 0, none⟩)) := by
  have hp : prog.underlying 71 = some (.pointer 74) := by kernel_rfl
  have hu : prog.underlying 132 = some .unsafePointer := by kernel_rfl
  obtain ⟨j, hj, hjs⟩ : ∃ j, prog.info? 74 = some j ∧ j.size = 2 := Option.map_eq_some_iff.1 (show (prog.info? 74).map (·.size) = some 2 by kernel_rfl)
  have h131 : prog.funcs[126]? = some f126 := by kernel_rfl
  go_enter func97, ntmps97
  go_wp2
  rw [Lib.run_to_unsafe w ⟨b, 0, none⟩ hp hu hj (by rw [hjs]; decide) hsh (Nat.zero_lt_succ 1)]
  simp only [Result.andThen]
  rw [Oper.upon_value]
  go_wp2
  rw [run_callFunc_extern h131 (by kernel_rfl) (by kernel_rfl) (by kernel_rfl) (e := Extern.AbiNoEscape.same) (by kernel_rfl)]
  rw [Lib.run_noEscape]
  simp only [Result.andThen]
  rw [Oper.upon_value]
  go_wp2
  rw [Lib.run_from_unsafe w ⟨b, 0, none⟩ hu hp hj hsh hlies]
  simp only [Result.andThen]
  rw [Oper.upon_value]
  go_wp2
  go_end0
  exact ⟨rfl, rfl⟩
theorem lies_B : liesAt prog prog.depth 74 (2 / prog.cellsOf 74) 0 74 1 = true := by kernel_rfl
theorem lies_W : liesAt prog prog.depth 76 (2 / prog.cellsOf 76) 0 74 1 = true := by kernel_rfl
end Go.Proofs.Tryz

/- The library's functions' walks in this program: String. -/
namespace Go.Proofs.Tryz
open Go.RowKit

set_option maxHeartbeats 2000000
set_option maxRecDepth 100000
theorem cellsByte : prog.cellsOf 5 = 1 := by kernel_rfl
theorem string_nil (b : Nat) (w : World) (h0 : w.cell? ⟨b, 1, none⟩ = some (.slice none 0 0)) :
    Calls prog 65 #[.pointer (some ⟨b, 0, none⟩)] w fun e w' => e = .returned (.string ⟨#[]⟩) ∧ Go.Ai.Ext w w' := by
  have hUS := fun W q => Lib.run_unsafeString_none (P := prog) W 149 3 9 q
  have c1 : w.drew.cell? ⟨b, 1, none⟩ = some (.slice none 0 0) := h0
  have hSD : (Builtin.unsafeSliceData_ #[72] 149 #[.slice none 0 0]).run prog w.drew = .ok (.pointer none) w.drew := rfl
  go_enter func65, ntmps65
  go_wp2
  go_region
  all_goals (go_wp2; go_ret; exact ⟨rfl, (Go.Ai.Ext.refl w).drew⟩)
theorem string_zero (b g : Nat) (w : World) (sh : TypeId × Nat) (h0 : w.cell? ⟨b, 1, none⟩ = some (.slice (some ⟨g, 0, none⟩) 0 0)) (hsh : w.shape? g = some sh) :
    Calls prog 65 #[.pointer (some ⟨b, 0, none⟩)] w fun e w' => e = .returned (.string ⟨#[]⟩) ∧ Go.Ai.Ext w w' := by
  have hUS := fun W q => Lib.run_unsafeString_none (P := prog) W 149 3 9 q
  have c1 : w.drew.cell? ⟨b, 1, none⟩ = some (.slice (some ⟨g, 0, none⟩) 0 0) := h0
  have hlt : b < w.heap.size := by
    rcases Nat.lt_or_ge b w.heap.size with h' | h'
    · exact h'
    · simp [World.cell?, Array.getElem?_eq_none h'] at h0
  have hSD : (Builtin.unsafeSliceData_ #[72] 149 #[.slice (some ⟨g, 0, none⟩) 0 0]).run prog w.drew = .ok (.pointer (some ⟨w.drew.heap.size, 0, none⟩)) (w.drew.alloc (.view ⟨g, 0, none⟩ 5)) :=
    Lib.run_unsafeSliceData_zero w.drew _ _ 5 underlying149 ⟨g, 0, none⟩ 0 sh hsh
  have c2 : (w.drew.alloc (.view ⟨g, 0, none⟩ 5)).cell? ⟨b, 1, none⟩ = some (.slice (some ⟨g, 0, none⟩) 0 0) := by
    exact (World.cell?_alloc_lt w.drew _ ⟨b, 1, none⟩ hlt).trans h0
  have c3 : (w.alloc (.view ⟨g, 0, none⟩ 5)).drew.cell? ⟨b, 1, none⟩ = some (.slice (some ⟨g, 0, none⟩) 0 0) := c2
  have c0 : w.cell? ⟨b, 1, none⟩ = some (.slice (some ⟨g, 0, none⟩) 0 0) := c1
  go_enter func65, ntmps65
  go_wp2
  go_region
  all_goals (go_wp2; go_ret; exact ⟨rfl, (Go.Ai.Ext.alloc w _).drew⟩)
theorem string_room (b g cap : Nat) (w : World) (h0 : w.cell? ⟨b, 1, none⟩ = some (.slice (some ⟨g, 0, none⟩) 0 cap)) (hc0 : cap ≠ 0) :
    Calls prog 65 #[.pointer (some ⟨b, 0, none⟩)] w fun e w' => e = .returned (.string ⟨#[]⟩) ∧ Go.Ai.Ext w w' := by
  have hUS := fun W q => Lib.run_unsafeString_none (P := prog) W 149 3 9 q
  have c1 : w.drew.cell? ⟨b, 1, none⟩ = some (.slice (some ⟨g, 0, none⟩) 0 cap) := h0
  have hSD : (Builtin.unsafeSliceData_ #[72] 149 #[.slice (some ⟨g, 0, none⟩) 0 cap]).run prog w.drew = .ok (.pointer (some ⟨g, 0, none⟩)) w.drew :=
    Lib.run_unsafeSliceData_row _ _ _ _ _ _ hc0
  clear hc0
  go_enter func65, ntmps65
  go_wp2
  go_region
  all_goals (go_wp2; go_ret; exact ⟨rfl, (Go.Ai.Ext.refl w).drew⟩)
theorem string_some (b g cap cells : Nat) (l : List UInt8) (w : World) (h0 : w.cell? ⟨b, 1, none⟩ = some (.slice (some ⟨g, 0, none⟩) l.length cap)) (hl : l ≠ []) (hcap : l.length ≤ cap) (hsh : w.shape? g = some (5, cells)) (hn : l.length ≤ cells)
    (h63 : l.length ≤ 9223372036854775807) (hcell : ∀ j x, l[j]? = some x → w.cell? ⟨g, j, none⟩ = some (.int .u8 x.toNat)) :
    Calls prog 65 #[.pointer (some ⟨b, 0, none⟩)] w fun e w' => e = .returned (.string ⟨l.toArray⟩) ∧ w' = (w.freeze ⟨g, 0, none⟩ l.length).drew := by
  have hl0 : l.length ≠ 0 := by simpa using hl
  have c1 : w.drew.cell? ⟨b, 1, none⟩ = some (.slice (some ⟨g, 0, none⟩) l.length cap) := h0
  have hSD : (Builtin.unsafeSliceData_ #[72] 149 #[.slice (some ⟨g, 0, none⟩) l.length cap]).run prog w.drew = .ok (.pointer (some ⟨g, 0, none⟩)) w.drew :=
    Lib.run_unsafeSliceData_row _ _ _ _ _ _ (by omega)
  have hUS : (Builtin.unsafeString_ #[149, 3] 9 #[.pointer (some ⟨g, 0, none⟩), .int .i64 l.length]).run prog w.drew = .ok (.string ⟨l.toArray⟩) (w.drew.freeze ⟨g, 0, none⟩ l.length) :=
    Lib.run_unsafeString_row w.drew 149 3 9 5 underlying149 cellsByte g cells hsh l hl hn h63 (fun j x hx => by
      have := hcell j x hx
      have e : (⟨g, 0, none⟩ : Addr).add j = ⟨g, j, none⟩ := by
        unfold Addr.add
        by_cases hj : j = 0
        · subst hj; simp
        · simp [hj]
      rw [e]; exact this)
  go_enter func65, ntmps65
  go_wp2
  go_region
  all_goals (go_wp2; go_ret; first | exact ⟨rfl, rfl⟩ | exact ⟨rfl, by unfold World.freeze; split <;> rfl⟩)
end Go.Proofs.Tryz

/- strings.Join in this program, by the library of contracts: what the tool that lays contracts has written. -/
namespace Go.Proofs
open Go.Shelf
def Tryz.lays156_ren : Go.Shelf.Ren := ⟨fun | 156 => 129 | 165 => 153 | 166 => 64 | 169 => 65 | 240 => 97 | 241 => 161 | 276 => 126 | 277 => 163 | n => n, fun | 31 => 153 | 9 => 9 | 3 => 3 | 4 => 4 | 0 => 0 | 20 => 20 | 72 => 74 | 76 => 113 | 70 => 71 | 37 => 72 | 75 => 28 | 127 => 149 | 164 => 132 | 5 => 5 | 80 => 83 | n => n, fun | n => n⟩
theorem Tryz.lays156 : Go.Proofs.Lays.n156 Tryz.prog Tryz.lays156_ren := {
  mixed := by kernel_rfl
  f156 := Tryz.func129.trans (congrArg some (by kernel_rfl))
  f165 := Tryz.func153.trans (congrArg some (by kernel_rfl))
  f166 := Tryz.func64.trans (congrArg some (by kernel_rfl))
  f169 := Tryz.func65.trans (congrArg some (by kernel_rfl))
  f240 := Tryz.func97.trans (congrArg some (by kernel_rfl))
  f241 := Tryz.func161.trans (congrArg some (by kernel_rfl))
  f276 := Tryz.func126.trans (congrArg some (by kernel_rfl))
  f277 := Tryz.func163.trans (congrArg some (by kernel_rfl))
  t0 := Tryz.underlying0
  a0 := Tryz.isAgg0
  z0 := Tryz.sizeOf0
  v0 := Tryz.zeroValue0
  t3 := Tryz.underlying3
  a3 := Tryz.isAgg3
  z3 := Tryz.sizeOf3
  v3 := Tryz.zeroValue3
  t4 := Tryz.underlying4
  a4 := Tryz.isAgg4
  z4 := Tryz.sizeOf4
  v4 := Tryz.zeroValue4
  t9 := Tryz.underlying9
  a9 := Tryz.isAgg9
  z9 := Tryz.sizeOf9
  v9 := Tryz.zeroValue9
  t20 := Tryz.underlying20
  a20 := Tryz.isAgg20
  z20 := Tryz.sizeOf20
  v20 := Tryz.zeroValue20
  t31 := Tryz.underlying153
  a31 := Tryz.isAgg153
  z31 := Tryz.sizeOf153
  v31 := Tryz.zeroValue153
  t37 := Tryz.underlying72
  a37 := Tryz.isAgg72
  z37 := Tryz.sizeOf72
  v37 := Tryz.zeroValue72
  t70 := Tryz.underlying71
  a70 := Tryz.isAgg71
  z70 := Tryz.sizeOf71
  v70 := Tryz.zeroValue71
  t72 := Tryz.underlying74
  a72 := Tryz.isAgg74
  z72 := Tryz.sizeOf74
  v72 := Tryz.zeroValue74
  t75 := Tryz.underlying28
  a75 := Tryz.isAgg28
  z75 := Tryz.sizeOf28
  v75 := Tryz.zeroValue28
  t76 := Tryz.underlying113
  a76 := Tryz.isAgg113
  z76 := Tryz.sizeOf113
  v76 := Tryz.zeroValue113
  t127 := Tryz.underlying149
  a127 := Tryz.isAgg149
  z127 := Tryz.sizeOf149
  v127 := Tryz.zeroValue149
  t164 := Tryz.underlying132
  a164 := Tryz.isAgg132
  z164 := Tryz.sizeOf132
  v164 := Tryz.zeroValue132 }
theorem Tryz.Builder_Extra_156 : Builder.Extra Tryz.prog Tryz.lays156_ren := {
  sizeBuilder := by kernel_rfl
  liesBuilder := by kernel_rfl
  t5 := Tryz.underlying5
  a5 := Tryz.isAgg5
  z5 := Tryz.sizeOf5
  v5 := Tryz.zeroValue5
  infoByte := by kernel_rfl
  cellsByte := by kernel_rfl
  sizeByte := by kernel_rfl
  neB5 := by decide }
open Go.RowKit in
/-- No element: the empty string; the world is as it was. (Whatever the slice's address and capacity: a nil slice too.) (LAID: no walk: one application.) -/
theorem Tryz.strings_Join_none (a : Option Addr) (c : Nat) (sep : ByteArray) (w : World) :
    Calls Tryz.prog 129 #[.slice a 0 c, .string sep] w fun e w' => e = .returned (.string ⟨#[]⟩) ∧ w' = w := Any.strings_Join_none Tryz.lays156 Tryz.Builder_Extra_156 a c sep w
open Go.RowKit in
/-- strings.Join: "Join concatenates the elements of its first argument to create a single string. The separator string sep is placed between elements in the resulting string.": HOWEVER MANY ELEMENTS. Below the heap's end the world is as it was. (LAID: no walk: one application.) -/
theorem Tryz.strings_Join (bk o c : Nat) (xs : List ByteArray) (sep : ByteArray) (w : World) (hcells : ∀ (j : Nat) x, xs[j]? = some x → w.cell? ⟨bk, o + j, none⟩ = some (.string x)) (hbk : bk < w.heap.size) (hN : xs.length ≤ 140737488355328) (hcap : xs.length ≤ c) (hlen : (Lib.join (xs.map (·.data.toList)) sep.data.toList).length ≤ 140737488355328) :
    Calls Tryz.prog 129 #[.slice (some ⟨bk, o, none⟩) xs.length c, .string sep] w fun e w' => e = .returned (.string ⟨(Lib.join (xs.map (·.data.toList)) sep.data.toList).toArray⟩) ∧ Below w.heap.size w w' := Any.strings_Join Tryz.lays156 Tryz.Builder_Extra_156 bk o c xs sep w hcells hbk hN hcap hlen
end Go.Proofs

