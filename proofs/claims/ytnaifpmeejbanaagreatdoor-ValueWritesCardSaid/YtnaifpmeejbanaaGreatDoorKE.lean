/- Part KE of the proof that a law of this program answers yes at every input: no conditions beyond the given statement. -/
import Derived.KernelRfl
import Derived.Test.YtnaifpmeejbanaaGreatDoorProg
import Derived.WalkKit
import Derived.Lib.Builder
import Derived.Lib.UnsafeStr
import Derived.Laws.Externs
import Derived.Shelf.Strings.OnBuilder
import Derived.Test.YtnaifpmeejbanaaGreatDoorKD
import Derived.Test.YtnaifpmeejbanaaGreatDoorKC
set_option linter.unusedSimpArgs false
set_option linter.unusedVariables false
set_option linter.all false
/- The evaluator's environment for this program: tables, each checked. -/
namespace Go.Ai.T
open Go
noncomputable def prim : Nat → Option (Id → List A → Heap → Option (A × Heap))
  | 76 => some (errorsAs 61 133 188 [(111, 61), (134, 133)])
  | 81 => some (builderString 5)
  | 85 => some stringsJoin
  | 119 => some (builderCheck [119, 139])
  | _ => none
def drawTab : List ((Nat × Nat) × List (Nat × Nat)) := [((4, 5), [(18, 15), (21, 15)]), ((4, 7), [(5, 4), (6, 4)]), ((7, 7), [(5, 3), (14, 3), (14, 6), (14, 11)]), ((8, 11), []), ((9, 5), [(3, 2)]), ((11, 4), []), ((11, 15), [(1, 2)]), ((11, 16), [(3, 5)]), ((11, 18), [(1, 2)]), ((11, 19), [(3, 5)]), ((11, 21), [(4, 5)]), ((12, 10), [(1, 0)]), ((13, 2), [(5, 1)]), ((13, 5), [(4, 5)]), ((14, 10), [(1, 0)]), ((16, 6), []), ((23, 6), []), ((29, 1), [(10, 12)]), ((30, 22), [(4, 2)]), ((32, 1), [(14, 16)]), ((32, 6), [(17, 20)]), ((39, 14), [(5, 4)]), ((42, 8), [(3, 5)]), ((43, 1), [(2, 5)]), ((45, 1), [(2, 5)]), ((48, 4), []), ((50, 5), [(4, 0)]), ((50, 6), []), ((56, 3), [(6, 4), (10, 4), (10, 8)]), ((57, 6), [(12, 7)]), ((78, 2), [(6, 10)]), ((79, 6), [(3, 4)]), ((81, 1), []), ((86, 3), [(9, 10)]), ((89, 3), [(9, 10)]), ((118, 8), []), ((121, 3), []), ((132, 0), [(12, 8)]), ((137, 2), []), ((138, 3), []), ((141, 1), []), ((141, 6), [])]
def liveTab : List ((Nat × Nat) × List Nat) := [((12, 7), [1, 4, 5, 6, 8, 9, 10]), ((14, 5), [1, 4, 6, 7, 8, 9, 10]), ((16, 4), [2, 3, 4, 5]), ((23, 4), [0, 1, 4, 5]), ((25, 8), [1, 2, 4, 40, 41, 42]), ((30, 17), [1, 5, 6]), ((32, 9), [1, 2, 4, 6]), ((34, 2), [1, 4, 7, 8, 9]), ((39, 11), [2, 7, 10, 37, 38, 39]), ((41, 1), [0, 1, 9, 10, 11]), ((42, 3), [1, 4, 5, 11, 12, 13]), ((48, 2), [0, 3, 4, 5]), ((50, 3), [2, 3, 6, 8, 9, 10]), ((53, 4), [0, 1, 2, 6, 8, 9, 16, 17, 18]), ((56, 5), [1, 2, 3, 7]), ((57, 4), [0, 1, 2, 7]), ((58, 4), [1, 2, 6, 15, 16, 17]), ((59, 4), [1, 2, 6, 15, 16, 17]), ((62, 3), [2, 6, 8, 17, 18, 19]), ((65, 2), [0, 3]), ((66, 2), [0, 2, 3]), ((67, 3), [2, 6, 7, 8, 9]), ((74, 2), [0, 1, 4, 5]), ((79, 3), [0, 4, 5, 6, 7]), ((85, 12), [0, 1, 5, 39, 40, 41]), ((85, 22), [1, 8, 63, 64, 65]), ((87, 3), [0, 1, 2, 7, 13, 14, 15]), ((90, 3), [0, 1, 2, 7, 13, 14, 15]), ((91, 3), [0, 1, 4, 5, 6, 7]), ((92, 2), [0, 1, 4, 5]), ((98, 3), [1, 2, 7, 10, 11, 12]), ((99, 3), [1, 2, 7, 10, 11, 12]), ((105, 22), [0, 1, 4, 6, 7, 8, 9]), ((107, 2), [0, 3]), ((108, 3), [0, 3, 4]), ((109, 3), [0, 1, 5, 6]), ((115, 1), [0, 1, 3, 6, 8]), ((115, 18), [1, 3, 6, 8, 48, 49, 50]), ((120, 2), [0, 1, 4, 7, 8]), ((125, 2), [0, 1, 5]), ((133, 5), [0, 1, 4, 5, 6, 7, 8]), ((134, 3), [0, 3, 4]), ((135, 3), [0, 1, 2, 3, 8, 9]), ((136, 3), [0, 3, 7, 8]), ((137, 5), [0, 2, 3, 4]), ((140, 3), [5, 12, 13, 14]), ((142, 3), [0, 1]), ((148, 3), [0, 2, 3, 4, 5, 10, 11])]
noncomputable def E : Env where
  P := Go.Proofs.Tryz.prog
  frz t := [133, 188].contains t
  prim := prim
  keep f := [39, 44, 46].contains f
  raw f := f == 50
  draw f i := (drawTab.find? fun q => q.1.1 == f && q.1.2 == i).map (·.2)
  live f i := ((liveTab.find? fun q => q.1.1 == f && q.1.2 == i).map (·.2)).getD []
theorem E_P : E.P = Go.Proofs.Tryz.prog := rfl
@[simp] theorem raw_E (f : Nat) : E.raw f = (f == 50) := rfl
@[simp] theorem bytesT_120 : bytesT E.P 120 = some 56 := by kernel_rfl
@[simp] theorem bytesT_27 : bytesT E.P 27 = some 120 := by kernel_rfl
@[simp] theorem bytesT_29 : bytesT E.P 29 = some 16 := by kernel_rfl
@[simp] theorem bytesT_3 : bytesT E.P 3 = some 8 := by kernel_rfl
@[simp] theorem bytesT_35 : bytesT E.P 35 = some 160 := by kernel_rfl
@[simp] theorem bytesT_5 : bytesT E.P 5 = some 1 := by kernel_rfl
@[simp] theorem bytesT_9 : bytesT E.P 9 = some 16 := by kernel_rfl
@[simp] theorem bytesT_91 : bytesT E.P 91 = some 56 := by kernel_rfl
@[simp] theorem concrete_111 : E.P.concrete 111 = true := by kernel_rfl
@[simp] theorem concrete_133 : E.P.concrete 133 = true := by kernel_rfl
@[simp] theorem concrete_134 : E.P.concrete 134 = true := by kernel_rfl
@[simp] theorem concrete_188 : E.P.concrete 188 = true := by kernel_rfl
@[simp] theorem concrete_236 : E.P.concrete 236 = true := by kernel_rfl
@[simp] theorem concrete_61 : E.P.concrete 61 = true := by kernel_rfl
@[simp] theorem concrete_9 : E.P.concrete 9 = true := by kernel_rfl
@[simp] theorem fieldT_119_0 : fieldT E.P 119 0 = some 0 := by kernel_rfl
@[simp] theorem fieldT_119_1 : fieldT E.P 119 1 = some 1 := by kernel_rfl
@[simp] theorem fieldT_120_0 : fieldT E.P 120 0 = some 0 := by kernel_rfl
@[simp] theorem fieldT_120_1 : fieldT E.P 120 1 = some 1 := by kernel_rfl
@[simp] theorem fieldT_120_2 : fieldT E.P 120 2 = some 2 := by kernel_rfl
@[simp] theorem fieldT_120_3 : fieldT E.P 120 3 = some 3 := by kernel_rfl
@[simp] theorem fieldT_120_4 : fieldT E.P 120 4 = some 4 := by kernel_rfl
@[simp] theorem fieldT_136_0 : fieldT E.P 136 0 = some 0 := by kernel_rfl
@[simp] theorem fieldT_136_1 : fieldT E.P 136 1 = some 1 := by kernel_rfl
@[simp] theorem fieldT_139_0 : fieldT E.P 139 0 = some 0 := by kernel_rfl
@[simp] theorem fieldT_164_0 : fieldT E.P 164 0 = some 0 := by kernel_rfl
@[simp] theorem fieldT_164_1 : fieldT E.P 164 1 = some 1 := by kernel_rfl
@[simp] theorem fieldT_164_2 : fieldT E.P 164 2 = some 2 := by kernel_rfl
@[simp] theorem fieldT_164_3 : fieldT E.P 164 3 = some 3 := by kernel_rfl
@[simp] theorem fieldT_190_1 : fieldT E.P 190 1 = some 1 := by kernel_rfl
@[simp] theorem fieldT_27_0 : fieldT E.P 27 0 = some 0 := by kernel_rfl
@[simp] theorem fieldT_27_1 : fieldT E.P 27 1 = some 1 := by kernel_rfl
@[simp] theorem fieldT_27_2 : fieldT E.P 27 2 = some 2 := by kernel_rfl
@[simp] theorem fieldT_27_3 : fieldT E.P 27 3 = some 3 := by kernel_rfl
@[simp] theorem fieldT_27_4 : fieldT E.P 27 4 = some 4 := by kernel_rfl
@[simp] theorem fieldT_27_5 : fieldT E.P 27 5 = some 5 := by kernel_rfl
@[simp] theorem fieldT_27_6 : fieldT E.P 27 6 = some 6 := by kernel_rfl
@[simp] theorem fieldT_27_7 : fieldT E.P 27 7 = some 7 := by kernel_rfl
@[simp] theorem fieldT_35_0 : fieldT E.P 35 0 = some 0 := by kernel_rfl
@[simp] theorem fieldT_35_1 : fieldT E.P 35 1 = some 1 := by kernel_rfl
@[simp] theorem fieldT_35_2 : fieldT E.P 35 2 = some 2 := by kernel_rfl
@[simp] theorem fieldT_35_3 : fieldT E.P 35 3 = some 10 := by kernel_rfl
@[simp] theorem fieldT_72_0 : fieldT E.P 72 0 = some 0 := by kernel_rfl
@[simp] theorem fieldT_72_1 : fieldT E.P 72 1 = some 1 := by kernel_rfl
@[simp] theorem fieldT_72_2 : fieldT E.P 72 2 = some 2 := by kernel_rfl
@[simp] theorem fieldT_72_3 : fieldT E.P 72 3 = some 3 := by kernel_rfl
@[simp] theorem fieldT_76_0 : fieldT E.P 76 0 = some 0 := by kernel_rfl
@[simp] theorem fieldT_76_1 : fieldT E.P 76 1 = some 1 := by kernel_rfl
@[simp] theorem fieldT_76_2 : fieldT E.P 76 2 = some 2 := by kernel_rfl
@[simp] theorem fieldT_76_3 : fieldT E.P 76 3 = some 3 := by kernel_rfl
@[simp] theorem fieldT_76_4 : fieldT E.P 76 4 = some 4 := by kernel_rfl
@[simp] theorem fieldT_78_0 : fieldT E.P 78 0 = some 0 := by kernel_rfl
@[simp] theorem fieldT_78_1 : fieldT E.P 78 1 = some 1 := by kernel_rfl
@[simp] theorem fieldT_83_0 : fieldT E.P 83 0 = some 0 := by kernel_rfl
@[simp] theorem fieldT_83_1 : fieldT E.P 83 1 = some 1 := by kernel_rfl
@[simp] theorem fieldT_91_0 : fieldT E.P 91 0 = some 0 := by kernel_rfl
@[simp] theorem fieldT_91_1 : fieldT E.P 91 1 = some 1 := by kernel_rfl
@[simp] theorem fieldT_91_2 : fieldT E.P 91 2 = some 2 := by kernel_rfl
@[simp] theorem fieldT_91_3 : fieldT E.P 91 3 = some 3 := by kernel_rfl
@[simp] theorem fieldT_91_4 : fieldT E.P 91 4 = some 4 := by kernel_rfl
@[simp] theorem kindT_111 : kindT E.P 111 = Kd.ptr := by kernel_rfl
@[simp] theorem kindT_116 : kindT E.P 116 = Kd.ptr := by kernel_rfl
@[simp] theorem kindT_117 : kindT E.P 117 = Kd.slice 5 := by kernel_rfl
@[simp] theorem kindT_120 : kindT E.P 120 = Kd.struct := by kernel_rfl
@[simp] theorem kindT_133 : kindT E.P 133 = Kd.ptr := by kernel_rfl
@[simp] theorem kindT_134 : kindT E.P 134 = Kd.ptr := by kernel_rfl
@[simp] theorem kindT_146 : kindT E.P 146 = Kd.int IntKind.u64 := by kernel_rfl
@[simp] theorem kindT_149 : kindT E.P 149 = Kd.other := by kernel_rfl
@[simp] theorem kindT_157 : kindT E.P 157 = Kd.int IntKind.u8 := by kernel_rfl
@[simp] theorem kindT_166 : kindT E.P 166 = Kd.ptr := by kernel_rfl
@[simp] theorem kindT_186 : kindT E.P 186 = Kd.slice 29 := by kernel_rfl
@[simp] theorem kindT_188 : kindT E.P 188 = Kd.ptr := by kernel_rfl
@[simp] theorem kindT_20 : kindT E.P 20 = Kd.iface := by kernel_rfl
@[simp] theorem kindT_23 : kindT E.P 23 = Kd.int IntKind.u64 := by kernel_rfl
@[simp] theorem kindT_236 : kindT E.P 236 = Kd.ptr := by kernel_rfl
@[simp] theorem kindT_24 : kindT E.P 24 = Kd.slice 27 := by kernel_rfl
@[simp] theorem kindT_25 : kindT E.P 25 = Kd.slice 35 := by kernel_rfl
@[simp] theorem kindT_27 : kindT E.P 27 = Kd.struct := by kernel_rfl
@[simp] theorem kindT_29 : kindT E.P 29 = Kd.iface := by kernel_rfl
@[simp] theorem kindT_3 : kindT E.P 3 = Kd.int IntKind.i64 := by kernel_rfl
@[simp] theorem kindT_35 : kindT E.P 35 = Kd.struct := by kernel_rfl
@[simp] theorem kindT_4 : kindT E.P 4 = Kd.bool := by kernel_rfl
@[simp] theorem kindT_5 : kindT E.P 5 = Kd.int IntKind.u8 := by kernel_rfl
@[simp] theorem kindT_61 : kindT E.P 61 = Kd.int IntKind.i64 := by kernel_rfl
@[simp] theorem kindT_70 : kindT E.P 70 = Kd.slice 9 := by kernel_rfl
@[simp] theorem kindT_74 : kindT E.P 74 = Kd.slice 120 := by kernel_rfl
@[simp] theorem kindT_87 : kindT E.P 87 = Kd.slice 91 := by kernel_rfl
@[simp] theorem kindT_9 : kindT E.P 9 = Kd.str := by kernel_rfl
@[simp] theorem kindT_91 : kindT E.P 91 = Kd.struct := by kernel_rfl
@[simp] theorem kindT_93 : kindT E.P 93 = Kd.slice 3 := by kernel_rfl
@[simp] theorem partT_120_3 : partT E.P 120 3 = some (3, 1, false) := by kernel_rfl
@[simp] theorem placesT_120 : placesT E.P 120 = some [(0, 1), (1, 1), (2, 1), (3, 1), (4, 1)] := by kernel_rfl
@[simp] theorem placesT_136 : placesT E.P 136 = some [(0, 1), (1, 1)] := by kernel_rfl
@[simp] theorem placesT_164 : placesT E.P 164 = some [(0, 1), (1, 1), (2, 1), (3, 1)] := by kernel_rfl
@[simp] theorem placesT_190 : placesT E.P 190 = some [(0, 1), (1, 1)] := by kernel_rfl
@[simp] theorem placesT_27 : placesT E.P 27 = some [(0, 1), (1, 1), (2, 1), (3, 1), (4, 1), (5, 1), (6, 1), (7, 1)] := by kernel_rfl
@[simp] theorem placesT_35 : placesT E.P 35 = some [(0, 1), (1, 1), (2, 8), (10, 1)] := by kernel_rfl
@[simp] theorem placesT_72 : placesT E.P 72 = some [(0, 1), (1, 1), (2, 1), (3, 1)] := by kernel_rfl
@[simp] theorem placesT_76 : placesT E.P 76 = some [(0, 1), (1, 1), (2, 1), (3, 1), (4, 1)] := by kernel_rfl
@[simp] theorem placesT_78 : placesT E.P 78 = some [(0, 1), (1, 1)] := by kernel_rfl
@[simp] theorem placesT_83 : placesT E.P 83 = some [(0, 1), (1, 1)] := by kernel_rfl
@[simp] theorem placesT_91 : placesT E.P 91 = some [(0, 1), (1, 1), (2, 1), (3, 1), (4, 1)] := by kernel_rfl
@[simp] theorem shapeT_116 : shapeT E.P 116 = some (1, false) := by kernel_rfl
@[simp] theorem shapeT_117 : shapeT E.P 117 = some (1, false) := by kernel_rfl
@[simp] theorem shapeT_120 : shapeT E.P 120 = some (5, true) := by kernel_rfl
@[simp] theorem shapeT_133 : shapeT E.P 133 = some (1, false) := by kernel_rfl
@[simp] theorem shapeT_152 : shapeT E.P 152 = some (3, true) := by kernel_rfl
@[simp] theorem shapeT_155 : shapeT E.P 155 = some (1, false) := by kernel_rfl
@[simp] theorem shapeT_23 : shapeT E.P 23 = some (1, false) := by kernel_rfl
@[simp] theorem shapeT_24 : shapeT E.P 24 = some (1, false) := by kernel_rfl
@[simp] theorem shapeT_25 : shapeT E.P 25 = some (1, false) := by kernel_rfl
@[simp] theorem shapeT_27 : shapeT E.P 27 = some (8, true) := by kernel_rfl
@[simp] theorem shapeT_29 : shapeT E.P 29 = some (1, false) := by kernel_rfl
@[simp] theorem shapeT_3 : shapeT E.P 3 = some (1, false) := by kernel_rfl
@[simp] theorem shapeT_31 : shapeT E.P 31 = some (1, false) := by kernel_rfl
@[simp] theorem shapeT_35 : shapeT E.P 35 = some (11, true) := by kernel_rfl
@[simp] theorem shapeT_37 : shapeT E.P 37 = some (1, false) := by kernel_rfl
@[simp] theorem shapeT_4 : shapeT E.P 4 = some (1, false) := by kernel_rfl
@[simp] theorem shapeT_5 : shapeT E.P 5 = some (1, false) := by kernel_rfl
@[simp] theorem shapeT_61 : shapeT E.P 61 = some (1, false) := by kernel_rfl
@[simp] theorem shapeT_70 : shapeT E.P 70 = some (1, false) := by kernel_rfl
@[simp] theorem shapeT_72 : shapeT E.P 72 = some (4, true) := by kernel_rfl
@[simp] theorem shapeT_74 : shapeT E.P 74 = some (1, false) := by kernel_rfl
@[simp] theorem shapeT_78 : shapeT E.P 78 = some (2, true) := by kernel_rfl
@[simp] theorem shapeT_83 : shapeT E.P 83 = some (2, true) := by kernel_rfl
@[simp] theorem shapeT_9 : shapeT E.P 9 = some (1, false) := by kernel_rfl
@[simp] theorem shapeT_91 : shapeT E.P 91 = some (5, true) := by kernel_rfl
@[simp] theorem szT_116 : szT E.P 116 = some 1 := by kernel_rfl
@[simp] theorem szT_117 : szT E.P 117 = some 1 := by kernel_rfl
@[simp] theorem szT_120 : szT E.P 120 = some 5 := by kernel_rfl
@[simp] theorem szT_152 : szT E.P 152 = some 3 := by kernel_rfl
@[simp] theorem szT_155 : szT E.P 155 = some 1 := by kernel_rfl
@[simp] theorem szT_23 : szT E.P 23 = some 1 := by kernel_rfl
@[simp] theorem szT_24 : szT E.P 24 = some 1 := by kernel_rfl
@[simp] theorem szT_25 : szT E.P 25 = some 1 := by kernel_rfl
@[simp] theorem szT_27 : szT E.P 27 = some 8 := by kernel_rfl
@[simp] theorem szT_29 : szT E.P 29 = some 1 := by kernel_rfl
@[simp] theorem szT_3 : szT E.P 3 = some 1 := by kernel_rfl
@[simp] theorem szT_35 : szT E.P 35 = some 11 := by kernel_rfl
@[simp] theorem szT_4 : szT E.P 4 = some 1 := by kernel_rfl
@[simp] theorem szT_5 : szT E.P 5 = some 1 := by kernel_rfl
@[simp] theorem szT_70 : szT E.P 70 = some 1 := by kernel_rfl
@[simp] theorem szT_72 : szT E.P 72 = some 4 := by kernel_rfl
@[simp] theorem szT_74 : szT E.P 74 = some 1 := by kernel_rfl
@[simp] theorem szT_78 : szT E.P 78 = some 2 := by kernel_rfl
@[simp] theorem szT_83 : szT E.P 83 = some 2 := by kernel_rfl
@[simp] theorem szT_9 : szT E.P 9 = some 1 := by kernel_rfl
@[simp] theorem szT_91 : szT E.P 91 = some 5 := by kernel_rfl
@[simp] theorem und_116 : (E.P.underlying 116).isSome = true := by kernel_rfl
@[simp] theorem und_117 : (E.P.underlying 117).isSome = true := by kernel_rfl
@[simp] theorem und_149 : (E.P.underlying 149).isSome = true := by kernel_rfl
@[simp] theorem und_23 : (E.P.underlying 23).isSome = true := by kernel_rfl
@[simp] theorem und_3 : (E.P.underlying 3).isSome = true := by kernel_rfl
@[simp] theorem und_5 : (E.P.underlying 5).isSome = true := by kernel_rfl
@[simp] theorem und_9 : (E.P.underlying 9).isSome = true := by kernel_rfl
@[simp] theorem zeroT_119 : zeroT E.P 119 = some [A.nilp, A.nils] := by kernel_rfl
@[simp] theorem zeroT_120 : zeroT E.P 120 = some [A.int IntKind.i64 0, A.int IntKind.i64 0, A.int IntKind.u64 0, A.str [], A.str []] := by kernel_rfl
@[simp] theorem zeroT_133 : zeroT E.P 133 = some [A.nilp] := by kernel_rfl
@[simp] theorem zeroT_136 : zeroT E.P 136 = some [A.int IntKind.i64 0, A.nili] := by kernel_rfl
@[simp] theorem zeroT_139 : zeroT E.P 139 = some [A.nilp, A.nils] := by kernel_rfl
@[simp] theorem zeroT_152 : zeroT E.P 152 = some [A.nilp, A.nilp, A.int IntKind.u64 0] := by kernel_rfl
@[simp] theorem zeroT_164 : zeroT E.P 164 = some [A.str [], A.int IntKind.i64 0, A.nili, A.int IntKind.i64 0] := by kernel_rfl
@[simp] theorem zeroT_190 : zeroT E.P 190 = some [A.int IntKind.i64 0, A.nili] := by kernel_rfl
@[simp] theorem zeroT_27 : zeroT E.P 27 = some [A.int IntKind.i64 0, A.str [], A.bool false, A.int IntKind.u64 0, A.nils, A.nils, A.str [], A.str []] := by kernel_rfl
@[simp] theorem zeroT_29 : zeroT E.P 29 = some [A.nili] := by kernel_rfl
@[simp] theorem zeroT_3 : zeroT E.P 3 = some [A.int IntKind.i64 0] := by kernel_rfl
@[simp] theorem zeroT_35 : zeroT E.P 35 = some [A.str [], A.bool false, A.int IntKind.i64 0, A.str [], A.bool false, A.int IntKind.u64 0, A.nils, A.nils, A.str [], A.str [], A.str []] := by kernel_rfl
@[simp] theorem zeroT_5 : zeroT E.P 5 = some [A.int IntKind.u8 0] := by kernel_rfl
@[simp] theorem zeroT_61 : zeroT E.P 61 = some [A.int IntKind.i64 0] := by kernel_rfl
@[simp] theorem zeroT_72 : zeroT E.P 72 = some [A.int IntKind.i64 0, A.int IntKind.u64 0, A.str [], A.nils] := by kernel_rfl
@[simp] theorem zeroT_76 : zeroT E.P 76 = some [A.nili, A.str [], A.int IntKind.i64 0, A.int IntKind.i64 0, A.nils] := by kernel_rfl
@[simp] theorem zeroT_78 : zeroT E.P 78 = some [A.nils, A.str []] := by kernel_rfl
@[simp] theorem zeroT_83 : zeroT E.P 83 = some [A.nils, A.str []] := by kernel_rfl
@[simp] theorem zeroT_9 : zeroT E.P 9 = some [A.str []] := by kernel_rfl
@[simp] theorem zeroT_91 : zeroT E.P 91 = some [A.int IntKind.i64 0, A.int IntKind.i64 0, A.int IntKind.u64 0, A.str [], A.str []] := by kernel_rfl
@[simp] theorem frz_111 : E.frz 111 = false := by kernel_rfl
@[simp] theorem frz_133 : E.frz 133 = true := by kernel_rfl
@[simp] theorem frz_134 : E.frz 134 = false := by kernel_rfl
@[simp] theorem frz_188 : E.frz 188 = true := by kernel_rfl
@[simp] theorem frz_236 : E.frz 236 = false := by kernel_rfl
@[simp] theorem frz_61 : E.frz 61 = false := by kernel_rfl
@[simp] theorem frz_9 : E.frz 9 = false := by kernel_rfl
@[simp] theorem draw_4_5 : E.draw 4 5 = some [(18, 15), (21, 15)] := by kernel_rfl
@[simp] theorem draw_4_7 : E.draw 4 7 = some [(5, 4), (6, 4)] := by kernel_rfl
@[simp] theorem draw_7_7 : E.draw 7 7 = some [(5, 3), (14, 3), (14, 6), (14, 11)] := by kernel_rfl
@[simp] theorem draw_8_11 : E.draw 8 11 = some [] := by kernel_rfl
@[simp] theorem draw_9_5 : E.draw 9 5 = some [(3, 2)] := by kernel_rfl
@[simp] theorem draw_11_4 : E.draw 11 4 = some [] := by kernel_rfl
@[simp] theorem draw_11_15 : E.draw 11 15 = some [(1, 2)] := by kernel_rfl
@[simp] theorem draw_11_16 : E.draw 11 16 = some [(3, 5)] := by kernel_rfl
@[simp] theorem draw_11_18 : E.draw 11 18 = some [(1, 2)] := by kernel_rfl
@[simp] theorem draw_11_19 : E.draw 11 19 = some [(3, 5)] := by kernel_rfl
@[simp] theorem draw_11_21 : E.draw 11 21 = some [(4, 5)] := by kernel_rfl
@[simp] theorem draw_12_10 : E.draw 12 10 = some [(1, 0)] := by kernel_rfl
@[simp] theorem draw_13_2 : E.draw 13 2 = some [(5, 1)] := by kernel_rfl
@[simp] theorem draw_13_5 : E.draw 13 5 = some [(4, 5)] := by kernel_rfl
@[simp] theorem draw_14_10 : E.draw 14 10 = some [(1, 0)] := by kernel_rfl
@[simp] theorem draw_16_6 : E.draw 16 6 = some [] := by kernel_rfl
@[simp] theorem draw_23_6 : E.draw 23 6 = some [] := by kernel_rfl
@[simp] theorem draw_29_1 : E.draw 29 1 = some [(10, 12)] := by kernel_rfl
@[simp] theorem draw_30_22 : E.draw 30 22 = some [(4, 2)] := by kernel_rfl
@[simp] theorem draw_32_1 : E.draw 32 1 = some [(14, 16)] := by kernel_rfl
@[simp] theorem draw_32_6 : E.draw 32 6 = some [(17, 20)] := by kernel_rfl
@[simp] theorem draw_39_14 : E.draw 39 14 = some [(5, 4)] := by kernel_rfl
@[simp] theorem draw_42_8 : E.draw 42 8 = some [(3, 5)] := by kernel_rfl
@[simp] theorem draw_43_1 : E.draw 43 1 = some [(2, 5)] := by kernel_rfl
@[simp] theorem draw_45_1 : E.draw 45 1 = some [(2, 5)] := by kernel_rfl
@[simp] theorem draw_48_4 : E.draw 48 4 = some [] := by kernel_rfl
@[simp] theorem draw_50_5 : E.draw 50 5 = some [(4, 0)] := by kernel_rfl
@[simp] theorem draw_50_6 : E.draw 50 6 = some [] := by kernel_rfl
@[simp] theorem draw_56_3 : E.draw 56 3 = some [(6, 4), (10, 4), (10, 8)] := by kernel_rfl
@[simp] theorem draw_57_6 : E.draw 57 6 = some [(12, 7)] := by kernel_rfl
@[simp] theorem draw_78_2 : E.draw 78 2 = some [(6, 10)] := by kernel_rfl
@[simp] theorem draw_79_6 : E.draw 79 6 = some [(3, 4)] := by kernel_rfl
@[simp] theorem draw_81_1 : E.draw 81 1 = some [] := by kernel_rfl
@[simp] theorem draw_86_3 : E.draw 86 3 = some [(9, 10)] := by kernel_rfl
@[simp] theorem draw_89_3 : E.draw 89 3 = some [(9, 10)] := by kernel_rfl
@[simp] theorem draw_118_8 : E.draw 118 8 = some [] := by kernel_rfl
@[simp] theorem draw_121_3 : E.draw 121 3 = some [] := by kernel_rfl
@[simp] theorem draw_132_0 : E.draw 132 0 = some [(12, 8)] := by kernel_rfl
@[simp] theorem draw_137_2 : E.draw 137 2 = some [] := by kernel_rfl
@[simp] theorem draw_138_3 : E.draw 138 3 = some [] := by kernel_rfl
@[simp] theorem draw_141_1 : E.draw 141 1 = some [] := by kernel_rfl
@[simp] theorem draw_141_6 : E.draw 141 6 = some [] := by kernel_rfl
@[simp] theorem live_12_7 : E.live 12 7 = [1, 4, 5, 6, 8, 9, 10] := by kernel_rfl
@[simp] theorem live_14_5 : E.live 14 5 = [1, 4, 6, 7, 8, 9, 10] := by kernel_rfl
@[simp] theorem live_16_4 : E.live 16 4 = [2, 3, 4, 5] := by kernel_rfl
@[simp] theorem live_23_4 : E.live 23 4 = [0, 1, 4, 5] := by kernel_rfl
@[simp] theorem live_25_8 : E.live 25 8 = [1, 2, 4, 40, 41, 42] := by kernel_rfl
@[simp] theorem live_30_17 : E.live 30 17 = [1, 5, 6] := by kernel_rfl
@[simp] theorem live_32_9 : E.live 32 9 = [1, 2, 4, 6] := by kernel_rfl
@[simp] theorem live_34_2 : E.live 34 2 = [1, 4, 7, 8, 9] := by kernel_rfl
@[simp] theorem live_39_11 : E.live 39 11 = [2, 7, 10, 37, 38, 39] := by kernel_rfl
@[simp] theorem live_41_1 : E.live 41 1 = [0, 1, 9, 10, 11] := by kernel_rfl
@[simp] theorem live_42_3 : E.live 42 3 = [1, 4, 5, 11, 12, 13] := by kernel_rfl
@[simp] theorem live_48_2 : E.live 48 2 = [0, 3, 4, 5] := by kernel_rfl
@[simp] theorem live_50_3 : E.live 50 3 = [2, 3, 6, 8, 9, 10] := by kernel_rfl
@[simp] theorem live_53_4 : E.live 53 4 = [0, 1, 2, 6, 8, 9, 16, 17, 18] := by kernel_rfl
@[simp] theorem live_56_5 : E.live 56 5 = [1, 2, 3, 7] := by kernel_rfl
@[simp] theorem live_57_4 : E.live 57 4 = [0, 1, 2, 7] := by kernel_rfl
@[simp] theorem live_58_4 : E.live 58 4 = [1, 2, 6, 15, 16, 17] := by kernel_rfl
@[simp] theorem live_59_4 : E.live 59 4 = [1, 2, 6, 15, 16, 17] := by kernel_rfl
@[simp] theorem live_62_3 : E.live 62 3 = [2, 6, 8, 17, 18, 19] := by kernel_rfl
@[simp] theorem live_65_2 : E.live 65 2 = [0, 3] := by kernel_rfl
@[simp] theorem live_66_2 : E.live 66 2 = [0, 2, 3] := by kernel_rfl
@[simp] theorem live_67_3 : E.live 67 3 = [2, 6, 7, 8, 9] := by kernel_rfl
@[simp] theorem live_74_2 : E.live 74 2 = [0, 1, 4, 5] := by kernel_rfl
@[simp] theorem live_79_3 : E.live 79 3 = [0, 4, 5, 6, 7] := by kernel_rfl
@[simp] theorem live_85_12 : E.live 85 12 = [0, 1, 5, 39, 40, 41] := by kernel_rfl
@[simp] theorem live_85_22 : E.live 85 22 = [1, 8, 63, 64, 65] := by kernel_rfl
@[simp] theorem live_87_3 : E.live 87 3 = [0, 1, 2, 7, 13, 14, 15] := by kernel_rfl
@[simp] theorem live_90_3 : E.live 90 3 = [0, 1, 2, 7, 13, 14, 15] := by kernel_rfl
@[simp] theorem live_91_3 : E.live 91 3 = [0, 1, 4, 5, 6, 7] := by kernel_rfl
@[simp] theorem live_92_2 : E.live 92 2 = [0, 1, 4, 5] := by kernel_rfl
@[simp] theorem live_98_3 : E.live 98 3 = [1, 2, 7, 10, 11, 12] := by kernel_rfl
@[simp] theorem live_99_3 : E.live 99 3 = [1, 2, 7, 10, 11, 12] := by kernel_rfl
@[simp] theorem live_105_22 : E.live 105 22 = [0, 1, 4, 6, 7, 8, 9] := by kernel_rfl
@[simp] theorem live_107_2 : E.live 107 2 = [0, 3] := by kernel_rfl
@[simp] theorem live_108_3 : E.live 108 3 = [0, 3, 4] := by kernel_rfl
@[simp] theorem live_109_3 : E.live 109 3 = [0, 1, 5, 6] := by kernel_rfl
@[simp] theorem live_115_1 : E.live 115 1 = [0, 1, 3, 6, 8] := by kernel_rfl
@[simp] theorem live_115_18 : E.live 115 18 = [1, 3, 6, 8, 48, 49, 50] := by kernel_rfl
@[simp] theorem live_120_2 : E.live 120 2 = [0, 1, 4, 7, 8] := by kernel_rfl
@[simp] theorem live_125_2 : E.live 125 2 = [0, 1, 5] := by kernel_rfl
@[simp] theorem live_133_5 : E.live 133 5 = [0, 1, 4, 5, 6, 7, 8] := by kernel_rfl
@[simp] theorem live_134_3 : E.live 134 3 = [0, 3, 4] := by kernel_rfl
@[simp] theorem live_135_3 : E.live 135 3 = [0, 1, 2, 3, 8, 9] := by kernel_rfl
@[simp] theorem live_136_3 : E.live 136 3 = [0, 3, 7, 8] := by kernel_rfl
@[simp] theorem live_137_5 : E.live 137 5 = [0, 2, 3, 4] := by kernel_rfl
@[simp] theorem live_140_3 : E.live 140 3 = [5, 12, 13, 14] := by kernel_rfl
@[simp] theorem live_142_3 : E.live 142 3 = [0, 1] := by kernel_rfl
@[simp] theorem live_148_3 : E.live 148 3 = [0, 2, 3, 4, 5, 10, 11] := by kernel_rfl
noncomputable def L_12_7 : Code := ((Go.Proofs.Tryz.f12.body.getD .skip).loopAt 7).getD .skip
noncomputable def L_14_5 : Code := ((Go.Proofs.Tryz.f14.body.getD .skip).loopAt 5).getD .skip
noncomputable def L_16_4 : Code := ((Go.Proofs.Tryz.f16.body.getD .skip).loopAt 4).getD .skip
noncomputable def L_23_4 : Code := ((Go.Proofs.Tryz.f23.body.getD .skip).loopAt 4).getD .skip
noncomputable def L_25_8 : Code := ((Go.Proofs.Tryz.f25.body.getD .skip).loopAt 8).getD .skip
noncomputable def L_30_17 : Code := ((Go.Proofs.Tryz.f30.body.getD .skip).loopAt 17).getD .skip
noncomputable def L_32_9 : Code := ((Go.Proofs.Tryz.f32.body.getD .skip).loopAt 9).getD .skip
noncomputable def L_34_2 : Code := ((Go.Proofs.Tryz.f34.body.getD .skip).loopAt 2).getD .skip
noncomputable def L_39_11 : Code := ((Go.Proofs.Tryz.f39.body.getD .skip).loopAt 11).getD .skip
noncomputable def L_41_1 : Code := ((Go.Proofs.Tryz.f41.body.getD .skip).loopAt 1).getD .skip
noncomputable def L_42_3 : Code := ((Go.Proofs.Tryz.f42.body.getD .skip).loopAt 3).getD .skip
noncomputable def L_48_2 : Code := ((Go.Proofs.Tryz.f48.body.getD .skip).loopAt 2).getD .skip
noncomputable def L_50_3 : Code := ((Go.Proofs.Tryz.f50.body.getD .skip).loopAt 3).getD .skip
noncomputable def L_53_4 : Code := ((Go.Proofs.Tryz.f53.body.getD .skip).loopAt 4).getD .skip
noncomputable def L_56_5 : Code := ((Go.Proofs.Tryz.f56.body.getD .skip).loopAt 5).getD .skip
noncomputable def L_57_4 : Code := ((Go.Proofs.Tryz.f57.body.getD .skip).loopAt 4).getD .skip
noncomputable def L_58_4 : Code := ((Go.Proofs.Tryz.f58.body.getD .skip).loopAt 4).getD .skip
noncomputable def L_59_4 : Code := ((Go.Proofs.Tryz.f59.body.getD .skip).loopAt 4).getD .skip
noncomputable def L_62_3 : Code := ((Go.Proofs.Tryz.f62.body.getD .skip).loopAt 3).getD .skip
noncomputable def L_65_2 : Code := ((Go.Proofs.Tryz.f65.body.getD .skip).loopAt 2).getD .skip
noncomputable def L_66_2 : Code := ((Go.Proofs.Tryz.f66.body.getD .skip).loopAt 2).getD .skip
noncomputable def L_67_3 : Code := ((Go.Proofs.Tryz.f67.body.getD .skip).loopAt 3).getD .skip
noncomputable def L_74_2 : Code := ((Go.Proofs.Tryz.f74.body.getD .skip).loopAt 2).getD .skip
noncomputable def L_79_3 : Code := ((Go.Proofs.Tryz.f79.body.getD .skip).loopAt 3).getD .skip
noncomputable def L_85_12 : Code := ((Go.Proofs.Tryz.f85.body.getD .skip).loopAt 12).getD .skip
noncomputable def L_85_22 : Code := ((Go.Proofs.Tryz.f85.body.getD .skip).loopAt 22).getD .skip
noncomputable def L_87_3 : Code := ((Go.Proofs.Tryz.f87.body.getD .skip).loopAt 3).getD .skip
noncomputable def L_90_3 : Code := ((Go.Proofs.Tryz.f90.body.getD .skip).loopAt 3).getD .skip
noncomputable def L_91_3 : Code := ((Go.Proofs.Tryz.f91.body.getD .skip).loopAt 3).getD .skip
noncomputable def L_92_2 : Code := ((Go.Proofs.Tryz.f92.body.getD .skip).loopAt 2).getD .skip
noncomputable def L_98_3 : Code := ((Go.Proofs.Tryz.f98.body.getD .skip).loopAt 3).getD .skip
noncomputable def L_99_3 : Code := ((Go.Proofs.Tryz.f99.body.getD .skip).loopAt 3).getD .skip
noncomputable def L_105_22 : Code := ((Go.Proofs.Tryz.f105.body.getD .skip).loopAt 22).getD .skip
noncomputable def L_107_2 : Code := ((Go.Proofs.Tryz.f107.body.getD .skip).loopAt 2).getD .skip
noncomputable def L_108_3 : Code := ((Go.Proofs.Tryz.f108.body.getD .skip).loopAt 3).getD .skip
noncomputable def L_109_3 : Code := ((Go.Proofs.Tryz.f109.body.getD .skip).loopAt 3).getD .skip
noncomputable def L_115_1 : Code := ((Go.Proofs.Tryz.f115.body.getD .skip).loopAt 1).getD .skip
noncomputable def L_115_18 : Code := ((Go.Proofs.Tryz.f115.body.getD .skip).loopAt 18).getD .skip
noncomputable def L_120_2 : Code := ((Go.Proofs.Tryz.f120.body.getD .skip).loopAt 2).getD .skip
noncomputable def L_125_2 : Code := ((Go.Proofs.Tryz.f125.body.getD .skip).loopAt 2).getD .skip
noncomputable def L_133_5 : Code := ((Go.Proofs.Tryz.f133.body.getD .skip).loopAt 5).getD .skip
noncomputable def L_134_3 : Code := ((Go.Proofs.Tryz.f134.body.getD .skip).loopAt 3).getD .skip
noncomputable def L_135_3 : Code := ((Go.Proofs.Tryz.f135.body.getD .skip).loopAt 3).getD .skip
noncomputable def L_136_3 : Code := ((Go.Proofs.Tryz.f136.body.getD .skip).loopAt 3).getD .skip
noncomputable def L_137_5 : Code := ((Go.Proofs.Tryz.f137.body.getD .skip).loopAt 5).getD .skip
noncomputable def L_140_3 : Code := ((Go.Proofs.Tryz.f140.body.getD .skip).loopAt 3).getD .skip
noncomputable def L_142_3 : Code := ((Go.Proofs.Tryz.f142.body.getD .skip).loopAt 3).getD .skip
noncomputable def L_148_3 : Code := ((Go.Proofs.Tryz.f148.body.getD .skip).loopAt 3).getD .skip
@[simp] theorem key_12_7 : L_12_7.key = 7 := by kernel_rfl
@[simp] theorem key_14_5 : L_14_5.key = 5 := by kernel_rfl
@[simp] theorem key_16_4 : L_16_4.key = 4 := by kernel_rfl
@[simp] theorem key_23_4 : L_23_4.key = 4 := by kernel_rfl
@[simp] theorem key_25_8 : L_25_8.key = 8 := by kernel_rfl
@[simp] theorem key_30_17 : L_30_17.key = 17 := by kernel_rfl
@[simp] theorem key_32_9 : L_32_9.key = 9 := by kernel_rfl
@[simp] theorem key_34_2 : L_34_2.key = 2 := by kernel_rfl
@[simp] theorem key_39_11 : L_39_11.key = 11 := by kernel_rfl
@[simp] theorem key_41_1 : L_41_1.key = 1 := by kernel_rfl
@[simp] theorem key_42_3 : L_42_3.key = 3 := by kernel_rfl
@[simp] theorem key_48_2 : L_48_2.key = 2 := by kernel_rfl
@[simp] theorem key_50_3 : L_50_3.key = 3 := by kernel_rfl
@[simp] theorem key_53_4 : L_53_4.key = 4 := by kernel_rfl
@[simp] theorem key_56_5 : L_56_5.key = 5 := by kernel_rfl
@[simp] theorem key_57_4 : L_57_4.key = 4 := by kernel_rfl
@[simp] theorem key_58_4 : L_58_4.key = 4 := by kernel_rfl
@[simp] theorem key_59_4 : L_59_4.key = 4 := by kernel_rfl
@[simp] theorem key_62_3 : L_62_3.key = 3 := by kernel_rfl
@[simp] theorem key_65_2 : L_65_2.key = 2 := by kernel_rfl
@[simp] theorem key_66_2 : L_66_2.key = 2 := by kernel_rfl
@[simp] theorem key_67_3 : L_67_3.key = 3 := by kernel_rfl
@[simp] theorem key_74_2 : L_74_2.key = 2 := by kernel_rfl
@[simp] theorem key_79_3 : L_79_3.key = 3 := by kernel_rfl
@[simp] theorem key_85_12 : L_85_12.key = 12 := by kernel_rfl
@[simp] theorem key_85_22 : L_85_22.key = 22 := by kernel_rfl
@[simp] theorem key_87_3 : L_87_3.key = 3 := by kernel_rfl
@[simp] theorem key_90_3 : L_90_3.key = 3 := by kernel_rfl
@[simp] theorem key_91_3 : L_91_3.key = 3 := by kernel_rfl
@[simp] theorem key_92_2 : L_92_2.key = 2 := by kernel_rfl
@[simp] theorem key_98_3 : L_98_3.key = 3 := by kernel_rfl
@[simp] theorem key_99_3 : L_99_3.key = 3 := by kernel_rfl
@[simp] theorem key_105_22 : L_105_22.key = 22 := by kernel_rfl
@[simp] theorem key_107_2 : L_107_2.key = 2 := by kernel_rfl
@[simp] theorem key_108_3 : L_108_3.key = 3 := by kernel_rfl
@[simp] theorem key_109_3 : L_109_3.key = 3 := by kernel_rfl
@[simp] theorem key_115_1 : L_115_1.key = 1 := by kernel_rfl
@[simp] theorem key_115_18 : L_115_18.key = 18 := by kernel_rfl
@[simp] theorem key_120_2 : L_120_2.key = 2 := by kernel_rfl
@[simp] theorem key_125_2 : L_125_2.key = 2 := by kernel_rfl
@[simp] theorem key_133_5 : L_133_5.key = 5 := by kernel_rfl
@[simp] theorem key_134_3 : L_134_3.key = 3 := by kernel_rfl
@[simp] theorem key_135_3 : L_135_3.key = 3 := by kernel_rfl
@[simp] theorem key_136_3 : L_136_3.key = 3 := by kernel_rfl
@[simp] theorem key_137_5 : L_137_5.key = 5 := by kernel_rfl
@[simp] theorem key_140_3 : L_140_3.key = 3 := by kernel_rfl
@[simp] theorem key_142_3 : L_142_3.key = 3 := by kernel_rfl
@[simp] theorem key_148_3 : L_148_3.key = 3 := by kernel_rfl
theorem eq_2 {p : Id} {args : List A} {h : Heap} : callW E p 2 args h = (execW E 2 p ((Go.Proofs.Tryz.f2.body).getD .skip) (initFr args) 0 h).bind (resX E.P false p Go.Proofs.Tryz.f2.results.toList) := callW_eq Go.Proofs.Tryz.f2 (by kernel_rfl) (by kernel_rfl) (by kernel_rfl) rfl (by kernel_rfl)
theorem eq_3 {p : Id} {args : List A} {h : Heap} : callW E p 3 args h = (execW E 3 p ((Go.Proofs.Tryz.f3.body).getD .skip) (initFr args) 0 h).bind (resX E.P false p Go.Proofs.Tryz.f3.results.toList) := callW_eq Go.Proofs.Tryz.f3 (by kernel_rfl) (by kernel_rfl) (by kernel_rfl) rfl (by kernel_rfl)
theorem eq_4 {p : Id} {args : List A} {h : Heap} : callW E p 4 args h = (execW E 4 p ((Go.Proofs.Tryz.f4.body).getD .skip) (initFr args) 0 h).bind (resX E.P false p Go.Proofs.Tryz.f4.results.toList) := callW_eq Go.Proofs.Tryz.f4 (by kernel_rfl) (by kernel_rfl) (by kernel_rfl) rfl (by kernel_rfl)
theorem eq_5 {p : Id} {args : List A} {h : Heap} : callW E p 5 args h = (execW E 5 p ((Go.Proofs.Tryz.f5.body).getD .skip) (initFr args) 0 h).bind (resX E.P false p Go.Proofs.Tryz.f5.results.toList) := callW_eq Go.Proofs.Tryz.f5 (by kernel_rfl) (by kernel_rfl) (by kernel_rfl) rfl (by kernel_rfl)
theorem eq_6 {p : Id} {args : List A} {h : Heap} : callW E p 6 args h = (execW E 6 p ((Go.Proofs.Tryz.f6.body).getD .skip) (initFr args) 0 h).bind (resX E.P false p Go.Proofs.Tryz.f6.results.toList) := callW_eq Go.Proofs.Tryz.f6 (by kernel_rfl) (by kernel_rfl) (by kernel_rfl) rfl (by kernel_rfl)
theorem eq_7 {p : Id} {args : List A} {h : Heap} : callW E p 7 args h = (execW E 7 p ((Go.Proofs.Tryz.f7.body).getD .skip) (initFr args) 0 h).bind (resX E.P false p Go.Proofs.Tryz.f7.results.toList) := callW_eq Go.Proofs.Tryz.f7 (by kernel_rfl) (by kernel_rfl) (by kernel_rfl) rfl (by kernel_rfl)
theorem eq_8 {p : Id} {args : List A} {h : Heap} : callW E p 8 args h = (execW E 8 p ((Go.Proofs.Tryz.f8.body).getD .skip) (initFr args) 0 h).bind (resX E.P false p Go.Proofs.Tryz.f8.results.toList) := callW_eq Go.Proofs.Tryz.f8 (by kernel_rfl) (by kernel_rfl) (by kernel_rfl) rfl (by kernel_rfl)
theorem eq_9 {p : Id} {args : List A} {h : Heap} : callW E p 9 args h = (execW E 9 p ((Go.Proofs.Tryz.f9.body).getD .skip) (initFr args) 0 h).bind (resX E.P false p Go.Proofs.Tryz.f9.results.toList) := callW_eq Go.Proofs.Tryz.f9 (by kernel_rfl) (by kernel_rfl) (by kernel_rfl) rfl (by kernel_rfl)
theorem eq_10 {p : Id} {args : List A} {h : Heap} : callW E p 10 args h = (execW E 10 p ((Go.Proofs.Tryz.f10.body).getD .skip) (initFr args) 0 h).bind (resX E.P false p Go.Proofs.Tryz.f10.results.toList) := callW_eq Go.Proofs.Tryz.f10 (by kernel_rfl) (by kernel_rfl) (by kernel_rfl) rfl (by kernel_rfl)
theorem eq_11 {p : Id} {args : List A} {h : Heap} : callW E p 11 args h = (execW E 11 p ((Go.Proofs.Tryz.f11.body).getD .skip) (initFr args) 0 h).bind (resX E.P false p Go.Proofs.Tryz.f11.results.toList) := callW_eq Go.Proofs.Tryz.f11 (by kernel_rfl) (by kernel_rfl) (by kernel_rfl) rfl (by kernel_rfl)
theorem rd_12_7 {p : Id} {L : List Nat} {c0 c : Nat} {fr : Fr} {h : Heap} : iterW E 12 p L L_12_7 c0 fr c h = (execW E 12 p ((((Go.Proofs.Tryz.f12.body).getD .skip).loopAt 7).getD .skip) fr c h).bind (loopX E 12 p L L_12_7 c0) := iterW_eq2 (by kernel_rfl)
theorem eq_12 {p : Id} {args : List A} {h : Heap} : callW E p 12 args h = (execW E 12 p (((Go.Proofs.Tryz.f12.body).getD .skip).hide [(7, L_12_7)]) (initFr args) 0 h).bind (resX E.P false p Go.Proofs.Tryz.f12.results.toList) := callW_eq Go.Proofs.Tryz.f12 (by kernel_rfl) (by kernel_rfl) (by kernel_rfl) rfl (by kernel_rfl)
theorem eq_13 {p : Id} {args : List A} {h : Heap} : callW E p 13 args h = (execW E 13 p ((Go.Proofs.Tryz.f13.body).getD .skip) (initFr args) 0 h).bind (resX E.P false p Go.Proofs.Tryz.f13.results.toList) := callW_eq Go.Proofs.Tryz.f13 (by kernel_rfl) (by kernel_rfl) (by kernel_rfl) rfl (by kernel_rfl)
theorem rd_14_5 {p : Id} {L : List Nat} {c0 c : Nat} {fr : Fr} {h : Heap} : iterW E 14 p L L_14_5 c0 fr c h = (execW E 14 p ((((Go.Proofs.Tryz.f14.body).getD .skip).loopAt 5).getD .skip) fr c h).bind (loopX E 14 p L L_14_5 c0) := iterW_eq2 (by kernel_rfl)
theorem eq_14 {p : Id} {args : List A} {h : Heap} : callW E p 14 args h = (execW E 14 p (((Go.Proofs.Tryz.f14.body).getD .skip).hide [(5, L_14_5)]) (initFr args) 0 h).bind (resX E.P false p Go.Proofs.Tryz.f14.results.toList) := callW_eq Go.Proofs.Tryz.f14 (by kernel_rfl) (by kernel_rfl) (by kernel_rfl) rfl (by kernel_rfl)
theorem eq_15 {p : Id} {args : List A} {h : Heap} : callW E p 15 args h = (execW E 15 p ((Go.Proofs.Tryz.f15.body).getD .skip) (initFr args) 0 h).bind (resX E.P false p Go.Proofs.Tryz.f15.results.toList) := callW_eq Go.Proofs.Tryz.f15 (by kernel_rfl) (by kernel_rfl) (by kernel_rfl) rfl (by kernel_rfl)
theorem rd_16_4 {p : Id} {L : List Nat} {c0 c : Nat} {fr : Fr} {h : Heap} : iterW E 16 p L L_16_4 c0 fr c h = (execW E 16 p ((((Go.Proofs.Tryz.f16.body).getD .skip).loopAt 4).getD .skip) fr c h).bind (loopX E 16 p L L_16_4 c0) := iterW_eq2 (by kernel_rfl)
theorem eq_16 {p : Id} {args : List A} {h : Heap} : callW E p 16 args h = (execW E 16 p (((Go.Proofs.Tryz.f16.body).getD .skip).hide [(4, L_16_4)]) (initFr args) 0 h).bind (resX E.P false p Go.Proofs.Tryz.f16.results.toList) := callW_eq Go.Proofs.Tryz.f16 (by kernel_rfl) (by kernel_rfl) (by kernel_rfl) rfl (by kernel_rfl)
theorem eq_17 {p : Id} {args : List A} {h : Heap} : callW E p 17 args h = (execW E 17 p ((Go.Proofs.Tryz.f17.body).getD .skip) (initFr args) 0 h).bind (resX E.P false p Go.Proofs.Tryz.f17.results.toList) := callW_eq Go.Proofs.Tryz.f17 (by kernel_rfl) (by kernel_rfl) (by kernel_rfl) rfl (by kernel_rfl)
theorem eq_18 {p : Id} {args : List A} {h : Heap} : callW E p 18 args h = (execW E 18 p ((Go.Proofs.Tryz.f18.body).getD .skip) (initFr args) 0 h).bind (resX E.P false p Go.Proofs.Tryz.f18.results.toList) := callW_eq Go.Proofs.Tryz.f18 (by kernel_rfl) (by kernel_rfl) (by kernel_rfl) rfl (by kernel_rfl)
theorem eq_19 {p : Id} {args : List A} {h : Heap} : callW E p 19 args h = (execW E 19 p ((Go.Proofs.Tryz.f19.body).getD .skip) (initFr args) 0 h).bind (resX E.P false p Go.Proofs.Tryz.f19.results.toList) := callW_eq Go.Proofs.Tryz.f19 (by kernel_rfl) (by kernel_rfl) (by kernel_rfl) rfl (by kernel_rfl)
theorem eq_20 {p : Id} {args : List A} {h : Heap} : callW E p 20 args h = (execW E 20 p ((Go.Proofs.Tryz.f20.body).getD .skip) (initFr args) 0 h).bind (resX E.P false p Go.Proofs.Tryz.f20.results.toList) := callW_eq Go.Proofs.Tryz.f20 (by kernel_rfl) (by kernel_rfl) (by kernel_rfl) rfl (by kernel_rfl)
theorem eq_21 {p : Id} {args : List A} {h : Heap} : callW E p 21 args h = (execW E 21 p ((Go.Proofs.Tryz.f21.body).getD .skip) (initFr args) 0 h).bind (resX E.P false p Go.Proofs.Tryz.f21.results.toList) := callW_eq Go.Proofs.Tryz.f21 (by kernel_rfl) (by kernel_rfl) (by kernel_rfl) rfl (by kernel_rfl)
theorem eq_22 {p : Id} {args : List A} {h : Heap} : callW E p 22 args h = (execW E 22 p ((Go.Proofs.Tryz.f22.body).getD .skip) (initFr args) 0 h).bind (resX E.P false p Go.Proofs.Tryz.f22.results.toList) := callW_eq Go.Proofs.Tryz.f22 (by kernel_rfl) (by kernel_rfl) (by kernel_rfl) rfl (by kernel_rfl)
theorem rd_23_4 {p : Id} {L : List Nat} {c0 c : Nat} {fr : Fr} {h : Heap} : iterW E 23 p L L_23_4 c0 fr c h = (execW E 23 p ((((Go.Proofs.Tryz.f23.body).getD .skip).loopAt 4).getD .skip) fr c h).bind (loopX E 23 p L L_23_4 c0) := iterW_eq2 (by kernel_rfl)
theorem eq_23 {p : Id} {args : List A} {h : Heap} : callW E p 23 args h = (execW E 23 p (((Go.Proofs.Tryz.f23.body).getD .skip).hide [(4, L_23_4)]) (initFr args) 0 h).bind (resX E.P false p Go.Proofs.Tryz.f23.results.toList) := callW_eq Go.Proofs.Tryz.f23 (by kernel_rfl) (by kernel_rfl) (by kernel_rfl) rfl (by kernel_rfl)
theorem eq_24 {p : Id} {args : List A} {h : Heap} : callW E p 24 args h = (execW E 24 p ((Go.Proofs.Tryz.f24.body).getD .skip) (initFr args) 0 h).bind (resX E.P false p Go.Proofs.Tryz.f24.results.toList) := callW_eq Go.Proofs.Tryz.f24 (by kernel_rfl) (by kernel_rfl) (by kernel_rfl) rfl (by kernel_rfl)
theorem rd_25_8 {p : Id} {L : List Nat} {c0 c : Nat} {fr : Fr} {h : Heap} : iterW E 25 p L L_25_8 c0 fr c h = (execW E 25 p ((((Go.Proofs.Tryz.f25.body).getD .skip).loopAt 8).getD .skip) fr c h).bind (loopX E 25 p L L_25_8 c0) := iterW_eq2 (by kernel_rfl)
theorem eq_25 {p : Id} {args : List A} {h : Heap} : callW E p 25 args h = (execW E 25 p (((Go.Proofs.Tryz.f25.body).getD .skip).hide [(8, L_25_8)]) (initFr args) 0 h).bind (resX E.P false p Go.Proofs.Tryz.f25.results.toList) := callW_eq Go.Proofs.Tryz.f25 (by kernel_rfl) (by kernel_rfl) (by kernel_rfl) rfl (by kernel_rfl)
theorem eq_26 {p : Id} {args : List A} {h : Heap} : callW E p 26 args h = (execW E 26 p ((Go.Proofs.Tryz.f26.body).getD .skip) (initFr args) 0 h).bind (resX E.P false p Go.Proofs.Tryz.f26.results.toList) := callW_eq Go.Proofs.Tryz.f26 (by kernel_rfl) (by kernel_rfl) (by kernel_rfl) rfl (by kernel_rfl)
theorem eq_27 {p : Id} {args : List A} {h : Heap} : callW E p 27 args h = (execW E 27 p ((Go.Proofs.Tryz.f27.body).getD .skip) (initFr args) 0 h).bind (resX E.P false p Go.Proofs.Tryz.f27.results.toList) := callW_eq Go.Proofs.Tryz.f27 (by kernel_rfl) (by kernel_rfl) (by kernel_rfl) rfl (by kernel_rfl)
theorem eq_28 {p : Id} {args : List A} {h : Heap} : callW E p 28 args h = (execW E 28 p ((Go.Proofs.Tryz.f28.body).getD .skip) (initFr args) 0 h).bind (resX E.P false p Go.Proofs.Tryz.f28.results.toList) := callW_eq Go.Proofs.Tryz.f28 (by kernel_rfl) (by kernel_rfl) (by kernel_rfl) rfl (by kernel_rfl)
theorem eq_29 {p : Id} {args : List A} {h : Heap} : callW E p 29 args h = (execW E 29 p ((Go.Proofs.Tryz.f29.body).getD .skip) (initFr args) 0 h).bind (resX E.P false p Go.Proofs.Tryz.f29.results.toList) := callW_eq Go.Proofs.Tryz.f29 (by kernel_rfl) (by kernel_rfl) (by kernel_rfl) rfl (by kernel_rfl)
theorem rd_30_17 {p : Id} {L : List Nat} {c0 c : Nat} {fr : Fr} {h : Heap} : iterW E 30 p L L_30_17 c0 fr c h = (execW E 30 p ((((Go.Proofs.Tryz.f30.body).getD .skip).loopAt 17).getD .skip) fr c h).bind (loopX E 30 p L L_30_17 c0) := iterW_eq2 (by kernel_rfl)
theorem eq_30 {p : Id} {args : List A} {h : Heap} : callW E p 30 args h = (execW E 30 p (((Go.Proofs.Tryz.f30.body).getD .skip).hide [(17, L_30_17)]) (initFr args) 0 h).bind (resX E.P false p Go.Proofs.Tryz.f30.results.toList) := callW_eq Go.Proofs.Tryz.f30 (by kernel_rfl) (by kernel_rfl) (by kernel_rfl) rfl (by kernel_rfl)
theorem eq_31 {p : Id} {args : List A} {h : Heap} : callW E p 31 args h = (execW E 31 p ((Go.Proofs.Tryz.f31.body).getD .skip) (initFr args) 0 h).bind (resX E.P false p Go.Proofs.Tryz.f31.results.toList) := callW_eq Go.Proofs.Tryz.f31 (by kernel_rfl) (by kernel_rfl) (by kernel_rfl) rfl (by kernel_rfl)
theorem rd_32_9 {p : Id} {L : List Nat} {c0 c : Nat} {fr : Fr} {h : Heap} : iterW E 32 p L L_32_9 c0 fr c h = (execW E 32 p ((((Go.Proofs.Tryz.f32.body).getD .skip).loopAt 9).getD .skip) fr c h).bind (loopX E 32 p L L_32_9 c0) := iterW_eq2 (by kernel_rfl)
theorem eq_32 {p : Id} {args : List A} {h : Heap} : callW E p 32 args h = (execW E 32 p (((Go.Proofs.Tryz.f32.body).getD .skip).hide [(9, L_32_9)]) (initFr args) 0 h).bind (resX E.P false p Go.Proofs.Tryz.f32.results.toList) := callW_eq Go.Proofs.Tryz.f32 (by kernel_rfl) (by kernel_rfl) (by kernel_rfl) rfl (by kernel_rfl)
theorem eq_33 {p : Id} {args : List A} {h : Heap} : callW E p 33 args h = (execW E 33 p ((Go.Proofs.Tryz.f33.body).getD .skip) (initFr args) 0 h).bind (resX E.P false p Go.Proofs.Tryz.f33.results.toList) := callW_eq Go.Proofs.Tryz.f33 (by kernel_rfl) (by kernel_rfl) (by kernel_rfl) rfl (by kernel_rfl)
theorem rd_34_2 {p : Id} {L : List Nat} {c0 c : Nat} {fr : Fr} {h : Heap} : iterW E 34 p L L_34_2 c0 fr c h = (execW E 34 p ((((Go.Proofs.Tryz.f34.body).getD .skip).loopAt 2).getD .skip) fr c h).bind (loopX E 34 p L L_34_2 c0) := iterW_eq2 (by kernel_rfl)
theorem eq_34 {p : Id} {args : List A} {h : Heap} : callW E p 34 args h = (execW E 34 p (((Go.Proofs.Tryz.f34.body).getD .skip).hide [(2, L_34_2)]) (initFr args) 0 h).bind (resX E.P false p Go.Proofs.Tryz.f34.results.toList) := callW_eq Go.Proofs.Tryz.f34 (by kernel_rfl) (by kernel_rfl) (by kernel_rfl) rfl (by kernel_rfl)
theorem eq_35 {p : Id} {args : List A} {h : Heap} : callW E p 35 args h = (execW E 35 p ((Go.Proofs.Tryz.f35.body).getD .skip) (initFr args) 0 h).bind (resX E.P false p Go.Proofs.Tryz.f35.results.toList) := callW_eq Go.Proofs.Tryz.f35 (by kernel_rfl) (by kernel_rfl) (by kernel_rfl) rfl (by kernel_rfl)
theorem eq_36 {p : Id} {args : List A} {h : Heap} : callW E p 36 args h = (execW E 36 p ((Go.Proofs.Tryz.f36.body).getD .skip) (initFr args) 0 h).bind (resX E.P false p Go.Proofs.Tryz.f36.results.toList) := callW_eq Go.Proofs.Tryz.f36 (by kernel_rfl) (by kernel_rfl) (by kernel_rfl) rfl (by kernel_rfl)
theorem eq_37 {p : Id} {args : List A} {h : Heap} : callW E p 37 args h = (execW E 37 p ((Go.Proofs.Tryz.f37.body).getD .skip) (initFr args) 0 h).bind (resX E.P false p Go.Proofs.Tryz.f37.results.toList) := callW_eq Go.Proofs.Tryz.f37 (by kernel_rfl) (by kernel_rfl) (by kernel_rfl) rfl (by kernel_rfl)
theorem eq_38 {p : Id} {args : List A} {h : Heap} : callW E p 38 args h = (execW E 38 p ((Go.Proofs.Tryz.f38.body).getD .skip) (initFr args) 0 h).bind (resX E.P false p Go.Proofs.Tryz.f38.results.toList) := callW_eq Go.Proofs.Tryz.f38 (by kernel_rfl) (by kernel_rfl) (by kernel_rfl) rfl (by kernel_rfl)
theorem rd_39_11 {p : Id} {L : List Nat} {c0 c : Nat} {fr : Fr} {h : Heap} : iterW E 39 p L L_39_11 c0 fr c h = (execW E 39 p ((((Go.Proofs.Tryz.f39.body).getD .skip).loopAt 11).getD .skip) fr c h).bind (loopX E 39 p L L_39_11 c0) := iterW_eq2 (by kernel_rfl)
theorem eq_39 {p : Id} {args : List A} {h : Heap} : callW E p 39 args h = (execW E 39 p (((Go.Proofs.Tryz.f39.body).getD .skip).hide [(11, L_39_11)]) (initFr args) 0 h).bind (resX E.P true p Go.Proofs.Tryz.f39.results.toList) := callW_eq Go.Proofs.Tryz.f39 (by kernel_rfl) (by kernel_rfl) (by kernel_rfl) rfl (by kernel_rfl)
theorem eq_40 {p : Id} {args : List A} {h : Heap} : callW E p 40 args h = (execW E 40 p ((Go.Proofs.Tryz.f40.body).getD .skip) (initFr args) 0 h).bind (resX E.P false p Go.Proofs.Tryz.f40.results.toList) := callW_eq Go.Proofs.Tryz.f40 (by kernel_rfl) (by kernel_rfl) (by kernel_rfl) rfl (by kernel_rfl)
theorem rd_41_1 {p : Id} {L : List Nat} {c0 c : Nat} {fr : Fr} {h : Heap} : iterW E 41 p L L_41_1 c0 fr c h = (execW E 41 p ((((Go.Proofs.Tryz.f41.body).getD .skip).loopAt 1).getD .skip) fr c h).bind (loopX E 41 p L L_41_1 c0) := iterW_eq2 (by kernel_rfl)
theorem eq_41 {p : Id} {args : List A} {h : Heap} : callW E p 41 args h = (execW E 41 p (((Go.Proofs.Tryz.f41.body).getD .skip).hide [(1, L_41_1)]) (initFr args) 0 h).bind (resX E.P false p Go.Proofs.Tryz.f41.results.toList) := callW_eq Go.Proofs.Tryz.f41 (by kernel_rfl) (by kernel_rfl) (by kernel_rfl) rfl (by kernel_rfl)
theorem rd_42_3 {p : Id} {L : List Nat} {c0 c : Nat} {fr : Fr} {h : Heap} : iterW E 42 p L L_42_3 c0 fr c h = (execW E 42 p ((((Go.Proofs.Tryz.f42.body).getD .skip).loopAt 3).getD .skip) fr c h).bind (loopX E 42 p L L_42_3 c0) := iterW_eq2 (by kernel_rfl)
theorem eq_42 {p : Id} {args : List A} {h : Heap} : callW E p 42 args h = (execW E 42 p (((Go.Proofs.Tryz.f42.body).getD .skip).hide [(3, L_42_3)]) (initFr args) 0 h).bind (resX E.P false p Go.Proofs.Tryz.f42.results.toList) := callW_eq Go.Proofs.Tryz.f42 (by kernel_rfl) (by kernel_rfl) (by kernel_rfl) rfl (by kernel_rfl)
theorem eq_43 {p : Id} {args : List A} {h : Heap} : callW E p 43 args h = (execW E 43 p ((Go.Proofs.Tryz.f43.body).getD .skip) (initFr args) 0 h).bind (resX E.P false p Go.Proofs.Tryz.f43.results.toList) := callW_eq Go.Proofs.Tryz.f43 (by kernel_rfl) (by kernel_rfl) (by kernel_rfl) rfl (by kernel_rfl)
theorem eq_44 {p : Id} {args : List A} {h : Heap} : callW E p 44 args h = (execW E 44 p ((Go.Proofs.Tryz.f44.body).getD .skip) (initFr args) 0 h).bind (resX E.P true p Go.Proofs.Tryz.f44.results.toList) := callW_eq Go.Proofs.Tryz.f44 (by kernel_rfl) (by kernel_rfl) (by kernel_rfl) rfl (by kernel_rfl)
theorem eq_45 {p : Id} {args : List A} {h : Heap} : callW E p 45 args h = (execW E 45 p ((Go.Proofs.Tryz.f45.body).getD .skip) (initFr args) 0 h).bind (resX E.P false p Go.Proofs.Tryz.f45.results.toList) := callW_eq Go.Proofs.Tryz.f45 (by kernel_rfl) (by kernel_rfl) (by kernel_rfl) rfl (by kernel_rfl)
theorem eq_46 {p : Id} {args : List A} {h : Heap} : callW E p 46 args h = (execW E 46 p ((Go.Proofs.Tryz.f46.body).getD .skip) (initFr args) 0 h).bind (resX E.P true p Go.Proofs.Tryz.f46.results.toList) := callW_eq Go.Proofs.Tryz.f46 (by kernel_rfl) (by kernel_rfl) (by kernel_rfl) rfl (by kernel_rfl)
theorem eq_47 {p : Id} {args : List A} {h : Heap} : callW E p 47 args h = (execW E 47 p ((Go.Proofs.Tryz.f47.body).getD .skip) (initFr args) 0 h).bind (resX E.P false p Go.Proofs.Tryz.f47.results.toList) := callW_eq Go.Proofs.Tryz.f47 (by kernel_rfl) (by kernel_rfl) (by kernel_rfl) rfl (by kernel_rfl)
theorem rd_48_2 {p : Id} {L : List Nat} {c0 c : Nat} {fr : Fr} {h : Heap} : iterW E 48 p L L_48_2 c0 fr c h = (execW E 48 p ((((Go.Proofs.Tryz.f48.body).getD .skip).loopAt 2).getD .skip) fr c h).bind (loopX E 48 p L L_48_2 c0) := iterW_eq2 (by kernel_rfl)
theorem eq_48 {p : Id} {args : List A} {h : Heap} : callW E p 48 args h = (execW E 48 p (((Go.Proofs.Tryz.f48.body).getD .skip).hide [(2, L_48_2)]) (initFr args) 0 h).bind (resX E.P false p Go.Proofs.Tryz.f48.results.toList) := callW_eq Go.Proofs.Tryz.f48 (by kernel_rfl) (by kernel_rfl) (by kernel_rfl) rfl (by kernel_rfl)
theorem eq_49 {p : Id} {args : List A} {h : Heap} : callW E p 49 args h = (execW E 49 p ((Go.Proofs.Tryz.f49.body).getD .skip) (initFr args) 0 h).bind (resX E.P false p Go.Proofs.Tryz.f49.results.toList) := callW_eq Go.Proofs.Tryz.f49 (by kernel_rfl) (by kernel_rfl) (by kernel_rfl) rfl (by kernel_rfl)
theorem rd_50_3 {p : Id} {L : List Nat} {c0 c : Nat} {fr : Fr} {h : Heap} : iterW E 50 p L L_50_3 c0 fr c h = (execW E 50 p ((((Go.Proofs.Tryz.f50.body).getD .skip).loopAt 3).getD .skip) fr c h).bind (loopX E 50 p L L_50_3 c0) := iterW_eq2 (by kernel_rfl)
theorem eq_50 {p : Id} {args : List A} {h : Heap} : callW E p 50 args h = (execW E 50 p (((Go.Proofs.Tryz.f50.body).getD .skip).hide [(3, L_50_3)]) (initFr args) 0 h).bind (resX E.P false p Go.Proofs.Tryz.f50.results.toList) := callW_eq Go.Proofs.Tryz.f50 (by kernel_rfl) (by kernel_rfl) (by kernel_rfl) rfl (by kernel_rfl)
theorem eq_51 {p : Id} {args : List A} {h : Heap} : callW E p 51 args h = (execW E 51 p ((Go.Proofs.Tryz.f51.body).getD .skip) (initFr args) 0 h).bind (resX E.P false p Go.Proofs.Tryz.f51.results.toList) := callW_eq Go.Proofs.Tryz.f51 (by kernel_rfl) (by kernel_rfl) (by kernel_rfl) rfl (by kernel_rfl)
theorem eq_52 {p : Id} {args : List A} {h : Heap} : callW E p 52 args h = (execW E 52 p ((Go.Proofs.Tryz.f52.body).getD .skip) (initFr args) 0 h).bind (resX E.P false p Go.Proofs.Tryz.f52.results.toList) := callW_eq Go.Proofs.Tryz.f52 (by kernel_rfl) (by kernel_rfl) (by kernel_rfl) rfl (by kernel_rfl)
theorem rd_53_4 {p : Id} {L : List Nat} {c0 c : Nat} {fr : Fr} {h : Heap} : iterW E 53 p L L_53_4 c0 fr c h = (execW E 53 p ((((Go.Proofs.Tryz.f53.body).getD .skip).loopAt 4).getD .skip) fr c h).bind (loopX E 53 p L L_53_4 c0) := iterW_eq2 (by kernel_rfl)
theorem eq_53 {p : Id} {args : List A} {h : Heap} : callW E p 53 args h = (execW E 53 p (((Go.Proofs.Tryz.f53.body).getD .skip).hide [(4, L_53_4)]) (initFr args) 0 h).bind (resX E.P false p Go.Proofs.Tryz.f53.results.toList) := callW_eq Go.Proofs.Tryz.f53 (by kernel_rfl) (by kernel_rfl) (by kernel_rfl) rfl (by kernel_rfl)
theorem eq_54 {p : Id} {args : List A} {h : Heap} : callW E p 54 args h = (execW E 54 p ((Go.Proofs.Tryz.f54.body).getD .skip) (initFr args) 0 h).bind (resX E.P false p Go.Proofs.Tryz.f54.results.toList) := callW_eq Go.Proofs.Tryz.f54 (by kernel_rfl) (by kernel_rfl) (by kernel_rfl) rfl (by kernel_rfl)
theorem eq_55 {p : Id} {args : List A} {h : Heap} : callW E p 55 args h = (execW E 55 p ((Go.Proofs.Tryz.f55.body).getD .skip) (initFr args) 0 h).bind (resX E.P false p Go.Proofs.Tryz.f55.results.toList) := callW_eq Go.Proofs.Tryz.f55 (by kernel_rfl) (by kernel_rfl) (by kernel_rfl) rfl (by kernel_rfl)
theorem rd_56_5 {p : Id} {L : List Nat} {c0 c : Nat} {fr : Fr} {h : Heap} : iterW E 56 p L L_56_5 c0 fr c h = (execW E 56 p ((((Go.Proofs.Tryz.f56.body).getD .skip).loopAt 5).getD .skip) fr c h).bind (loopX E 56 p L L_56_5 c0) := iterW_eq2 (by kernel_rfl)
theorem eq_56 {p : Id} {args : List A} {h : Heap} : callW E p 56 args h = (execW E 56 p (((Go.Proofs.Tryz.f56.body).getD .skip).hide [(5, L_56_5)]) (initFr args) 0 h).bind (resX E.P false p Go.Proofs.Tryz.f56.results.toList) := callW_eq Go.Proofs.Tryz.f56 (by kernel_rfl) (by kernel_rfl) (by kernel_rfl) rfl (by kernel_rfl)
theorem rd_57_4 {p : Id} {L : List Nat} {c0 c : Nat} {fr : Fr} {h : Heap} : iterW E 57 p L L_57_4 c0 fr c h = (execW E 57 p ((((Go.Proofs.Tryz.f57.body).getD .skip).loopAt 4).getD .skip) fr c h).bind (loopX E 57 p L L_57_4 c0) := iterW_eq2 (by kernel_rfl)
theorem eq_57 {p : Id} {args : List A} {h : Heap} : callW E p 57 args h = (execW E 57 p (((Go.Proofs.Tryz.f57.body).getD .skip).hide [(4, L_57_4)]) (initFr args) 0 h).bind (resX E.P false p Go.Proofs.Tryz.f57.results.toList) := callW_eq Go.Proofs.Tryz.f57 (by kernel_rfl) (by kernel_rfl) (by kernel_rfl) rfl (by kernel_rfl)
theorem rd_58_4 {p : Id} {L : List Nat} {c0 c : Nat} {fr : Fr} {h : Heap} : iterW E 58 p L L_58_4 c0 fr c h = (execW E 58 p ((((Go.Proofs.Tryz.f58.body).getD .skip).loopAt 4).getD .skip) fr c h).bind (loopX E 58 p L L_58_4 c0) := iterW_eq2 (by kernel_rfl)
theorem eq_58 {p : Id} {args : List A} {h : Heap} : callW E p 58 args h = (execW E 58 p (((Go.Proofs.Tryz.f58.body).getD .skip).hide [(4, L_58_4)]) (initFr args) 0 h).bind (resX E.P false p Go.Proofs.Tryz.f58.results.toList) := callW_eq Go.Proofs.Tryz.f58 (by kernel_rfl) (by kernel_rfl) (by kernel_rfl) rfl (by kernel_rfl)
theorem rd_59_4 {p : Id} {L : List Nat} {c0 c : Nat} {fr : Fr} {h : Heap} : iterW E 59 p L L_59_4 c0 fr c h = (execW E 59 p ((((Go.Proofs.Tryz.f59.body).getD .skip).loopAt 4).getD .skip) fr c h).bind (loopX E 59 p L L_59_4 c0) := iterW_eq2 (by kernel_rfl)
theorem eq_59 {p : Id} {args : List A} {h : Heap} : callW E p 59 args h = (execW E 59 p (((Go.Proofs.Tryz.f59.body).getD .skip).hide [(4, L_59_4)]) (initFr args) 0 h).bind (resX E.P false p Go.Proofs.Tryz.f59.results.toList) := callW_eq Go.Proofs.Tryz.f59 (by kernel_rfl) (by kernel_rfl) (by kernel_rfl) rfl (by kernel_rfl)
theorem eq_60 {p : Id} {args : List A} {h : Heap} : callW E p 60 args h = (execW E 60 p ((Go.Proofs.Tryz.f60.body).getD .skip) (initFr args) 0 h).bind (resX E.P false p Go.Proofs.Tryz.f60.results.toList) := callW_eq Go.Proofs.Tryz.f60 (by kernel_rfl) (by kernel_rfl) (by kernel_rfl) rfl (by kernel_rfl)
theorem eq_61 {p : Id} {args : List A} {h : Heap} : callW E p 61 args h = (execW E 61 p ((Go.Proofs.Tryz.f61.body).getD .skip) (initFr args) 0 h).bind (resX E.P false p Go.Proofs.Tryz.f61.results.toList) := callW_eq Go.Proofs.Tryz.f61 (by kernel_rfl) (by kernel_rfl) (by kernel_rfl) rfl (by kernel_rfl)
theorem rd_62_3 {p : Id} {L : List Nat} {c0 c : Nat} {fr : Fr} {h : Heap} : iterW E 62 p L L_62_3 c0 fr c h = (execW E 62 p ((((Go.Proofs.Tryz.f62.body).getD .skip).loopAt 3).getD .skip) fr c h).bind (loopX E 62 p L L_62_3 c0) := iterW_eq2 (by kernel_rfl)
theorem eq_62 {p : Id} {args : List A} {h : Heap} : callW E p 62 args h = (execW E 62 p (((Go.Proofs.Tryz.f62.body).getD .skip).hide [(3, L_62_3)]) (initFr args) 0 h).bind (resX E.P false p Go.Proofs.Tryz.f62.results.toList) := callW_eq Go.Proofs.Tryz.f62 (by kernel_rfl) (by kernel_rfl) (by kernel_rfl) rfl (by kernel_rfl)
theorem eq_63 {p : Id} {args : List A} {h : Heap} : callW E p 63 args h = (execW E 63 p ((Go.Proofs.Tryz.f63.body).getD .skip) (initFr args) 0 h).bind (resX E.P false p Go.Proofs.Tryz.f63.results.toList) := callW_eq Go.Proofs.Tryz.f63 (by kernel_rfl) (by kernel_rfl) (by kernel_rfl) rfl (by kernel_rfl)
theorem eq_64 {p : Id} {args : List A} {h : Heap} : callW E p 64 args h = (execW E 64 p ((Go.Proofs.Tryz.f64.body).getD .skip) (initFr args) 0 h).bind (resX E.P false p Go.Proofs.Tryz.f64.results.toList) := callW_eq Go.Proofs.Tryz.f64 (by kernel_rfl) (by kernel_rfl) (by kernel_rfl) rfl (by kernel_rfl)
theorem rd_65_2 {p : Id} {L : List Nat} {c0 c : Nat} {fr : Fr} {h : Heap} : iterW E 65 p L L_65_2 c0 fr c h = (execW E 65 p ((((Go.Proofs.Tryz.f65.body).getD .skip).loopAt 2).getD .skip) fr c h).bind (loopX E 65 p L L_65_2 c0) := iterW_eq2 (by kernel_rfl)
theorem eq_65 {p : Id} {args : List A} {h : Heap} : callW E p 65 args h = (execW E 65 p (((Go.Proofs.Tryz.f65.body).getD .skip).hide [(2, L_65_2)]) (initFr args) 0 h).bind (resX E.P false p Go.Proofs.Tryz.f65.results.toList) := callW_eq Go.Proofs.Tryz.f65 (by kernel_rfl) (by kernel_rfl) (by kernel_rfl) rfl (by kernel_rfl)
theorem rd_66_2 {p : Id} {L : List Nat} {c0 c : Nat} {fr : Fr} {h : Heap} : iterW E 66 p L L_66_2 c0 fr c h = (execW E 66 p ((((Go.Proofs.Tryz.f66.body).getD .skip).loopAt 2).getD .skip) fr c h).bind (loopX E 66 p L L_66_2 c0) := iterW_eq2 (by kernel_rfl)
theorem eq_66 {p : Id} {args : List A} {h : Heap} : callW E p 66 args h = (execW E 66 p (((Go.Proofs.Tryz.f66.body).getD .skip).hide [(2, L_66_2)]) (initFr args) 0 h).bind (resX E.P false p Go.Proofs.Tryz.f66.results.toList) := callW_eq Go.Proofs.Tryz.f66 (by kernel_rfl) (by kernel_rfl) (by kernel_rfl) rfl (by kernel_rfl)
theorem rd_67_3 {p : Id} {L : List Nat} {c0 c : Nat} {fr : Fr} {h : Heap} : iterW E 67 p L L_67_3 c0 fr c h = (execW E 67 p ((((Go.Proofs.Tryz.f67.body).getD .skip).loopAt 3).getD .skip) fr c h).bind (loopX E 67 p L L_67_3 c0) := iterW_eq2 (by kernel_rfl)
theorem eq_67 {p : Id} {args : List A} {h : Heap} : callW E p 67 args h = (execW E 67 p (((Go.Proofs.Tryz.f67.body).getD .skip).hide [(3, L_67_3)]) (initFr args) 0 h).bind (resX E.P false p Go.Proofs.Tryz.f67.results.toList) := callW_eq Go.Proofs.Tryz.f67 (by kernel_rfl) (by kernel_rfl) (by kernel_rfl) rfl (by kernel_rfl)
theorem eq_68 {p : Id} {args : List A} {h : Heap} : callW E p 68 args h = (execW E 68 p ((Go.Proofs.Tryz.f68.body).getD .skip) (initFr args) 0 h).bind (resX E.P false p Go.Proofs.Tryz.f68.results.toList) := callW_eq Go.Proofs.Tryz.f68 (by kernel_rfl) (by kernel_rfl) (by kernel_rfl) rfl (by kernel_rfl)
theorem eq_69 {p : Id} {args : List A} {h : Heap} : callW E p 69 args h = (execW E 69 p ((Go.Proofs.Tryz.f69.body).getD .skip) (initFr args) 0 h).bind (resX E.P false p Go.Proofs.Tryz.f69.results.toList) := callW_eq Go.Proofs.Tryz.f69 (by kernel_rfl) (by kernel_rfl) (by kernel_rfl) rfl (by kernel_rfl)
theorem eq_70 {p : Id} {args : List A} {h : Heap} : callW E p 70 args h = (execW E 70 p ((Go.Proofs.Tryz.f70.body).getD .skip) (initFr args) 0 h).bind (resX E.P false p Go.Proofs.Tryz.f70.results.toList) := callW_eq Go.Proofs.Tryz.f70 (by kernel_rfl) (by kernel_rfl) (by kernel_rfl) rfl (by kernel_rfl)
theorem eq_71 {p : Id} {args : List A} {h : Heap} : callW E p 71 args h = (execW E 71 p ((Go.Proofs.Tryz.f71.body).getD .skip) (initFr args) 0 h).bind (resX E.P false p Go.Proofs.Tryz.f71.results.toList) := callW_eq Go.Proofs.Tryz.f71 (by kernel_rfl) (by kernel_rfl) (by kernel_rfl) rfl (by kernel_rfl)
theorem eq_72 {p : Id} {args : List A} {h : Heap} : callW E p 72 args h = (execW E 72 p ((Go.Proofs.Tryz.f72.body).getD .skip) (initFr args) 0 h).bind (resX E.P false p Go.Proofs.Tryz.f72.results.toList) := callW_eq Go.Proofs.Tryz.f72 (by kernel_rfl) (by kernel_rfl) (by kernel_rfl) rfl (by kernel_rfl)
theorem eq_73 {p : Id} {args : List A} {h : Heap} : callW E p 73 args h = (execW E 73 p ((Go.Proofs.Tryz.f73.body).getD .skip) (initFr args) 0 h).bind (resX E.P false p Go.Proofs.Tryz.f73.results.toList) := callW_eq Go.Proofs.Tryz.f73 (by kernel_rfl) (by kernel_rfl) (by kernel_rfl) rfl (by kernel_rfl)
theorem rd_74_2 {p : Id} {L : List Nat} {c0 c : Nat} {fr : Fr} {h : Heap} : iterW E 74 p L L_74_2 c0 fr c h = (execW E 74 p ((((Go.Proofs.Tryz.f74.body).getD .skip).loopAt 2).getD .skip) fr c h).bind (loopX E 74 p L L_74_2 c0) := iterW_eq2 (by kernel_rfl)
theorem eq_74 {p : Id} {args : List A} {h : Heap} : callW E p 74 args h = (execW E 74 p (((Go.Proofs.Tryz.f74.body).getD .skip).hide [(2, L_74_2)]) (initFr args) 0 h).bind (resX E.P false p Go.Proofs.Tryz.f74.results.toList) := callW_eq Go.Proofs.Tryz.f74 (by kernel_rfl) (by kernel_rfl) (by kernel_rfl) rfl (by kernel_rfl)
theorem eq_75 {p : Id} {args : List A} {h : Heap} : callW E p 75 args h = (execW E 75 p ((Go.Proofs.Tryz.f75.body).getD .skip) (initFr args) 0 h).bind (resX E.P false p Go.Proofs.Tryz.f75.results.toList) := callW_eq Go.Proofs.Tryz.f75 (by kernel_rfl) (by kernel_rfl) (by kernel_rfl) rfl (by kernel_rfl)
theorem eq_77 {p : Id} {args : List A} {h : Heap} : callW E p 77 args h = (execW E 77 p ((Go.Proofs.Tryz.f77.body).getD .skip) (initFr args) 0 h).bind (resX E.P false p Go.Proofs.Tryz.f77.results.toList) := callW_eq Go.Proofs.Tryz.f77 (by kernel_rfl) (by kernel_rfl) (by kernel_rfl) rfl (by kernel_rfl)
theorem eq_78 {p : Id} {args : List A} {h : Heap} : callW E p 78 args h = (execW E 78 p ((Go.Proofs.Tryz.f78.body).getD .skip) (initFr args) 0 h).bind (resX E.P false p Go.Proofs.Tryz.f78.results.toList) := callW_eq Go.Proofs.Tryz.f78 (by kernel_rfl) (by kernel_rfl) (by kernel_rfl) rfl (by kernel_rfl)
theorem rd_79_3 {p : Id} {L : List Nat} {c0 c : Nat} {fr : Fr} {h : Heap} : iterW E 79 p L L_79_3 c0 fr c h = (execW E 79 p ((((Go.Proofs.Tryz.f79.body).getD .skip).loopAt 3).getD .skip) fr c h).bind (loopX E 79 p L L_79_3 c0) := iterW_eq2 (by kernel_rfl)
theorem eq_79 {p : Id} {args : List A} {h : Heap} : callW E p 79 args h = (execW E 79 p (((Go.Proofs.Tryz.f79.body).getD .skip).hide [(3, L_79_3)]) (initFr args) 0 h).bind (resX E.P false p Go.Proofs.Tryz.f79.results.toList) := callW_eq Go.Proofs.Tryz.f79 (by kernel_rfl) (by kernel_rfl) (by kernel_rfl) rfl (by kernel_rfl)
theorem eq_80 {p : Id} {args : List A} {h : Heap} : callW E p 80 args h = (execW E 80 p ((Go.Proofs.Tryz.f80.body).getD .skip) (initFr args) 0 h).bind (resX E.P false p Go.Proofs.Tryz.f80.results.toList) := callW_eq Go.Proofs.Tryz.f80 (by kernel_rfl) (by kernel_rfl) (by kernel_rfl) rfl (by kernel_rfl)
theorem eq_82 {p : Id} {args : List A} {h : Heap} : callW E p 82 args h = (execW E 82 p ((Go.Proofs.Tryz.f82.body).getD .skip) (initFr args) 0 h).bind (resX E.P false p Go.Proofs.Tryz.f82.results.toList) := callW_eq Go.Proofs.Tryz.f82 (by kernel_rfl) (by kernel_rfl) (by kernel_rfl) rfl (by kernel_rfl)
theorem eq_83 {p : Id} {args : List A} {h : Heap} : callW E p 83 args h = (execW E 83 p ((Go.Proofs.Tryz.f83.body).getD .skip) (initFr args) 0 h).bind (resX E.P false p Go.Proofs.Tryz.f83.results.toList) := callW_eq Go.Proofs.Tryz.f83 (by kernel_rfl) (by kernel_rfl) (by kernel_rfl) rfl (by kernel_rfl)
theorem eq_84 {p : Id} {args : List A} {h : Heap} : callW E p 84 args h = (execW E 84 p ((Go.Proofs.Tryz.f84.body).getD .skip) (initFr args) 0 h).bind (resX E.P false p Go.Proofs.Tryz.f84.results.toList) := callW_eq Go.Proofs.Tryz.f84 (by kernel_rfl) (by kernel_rfl) (by kernel_rfl) rfl (by kernel_rfl)
theorem rd_85_12 {p : Id} {L : List Nat} {c0 c : Nat} {fr : Fr} {h : Heap} : iterW E 85 p L L_85_12 c0 fr c h = (execW E 85 p ((((Go.Proofs.Tryz.f85.body).getD .skip).loopAt 12).getD .skip) fr c h).bind (loopX E 85 p L L_85_12 c0) := iterW_eq2 (by kernel_rfl)
theorem rd_85_22 {p : Id} {L : List Nat} {c0 c : Nat} {fr : Fr} {h : Heap} : iterW E 85 p L L_85_22 c0 fr c h = (execW E 85 p ((((Go.Proofs.Tryz.f85.body).getD .skip).loopAt 22).getD .skip) fr c h).bind (loopX E 85 p L L_85_22 c0) := iterW_eq2 (by kernel_rfl)
theorem eq_86 {p : Id} {args : List A} {h : Heap} : callW E p 86 args h = (execW E 86 p ((Go.Proofs.Tryz.f86.body).getD .skip) (initFr args) 0 h).bind (resX E.P false p Go.Proofs.Tryz.f86.results.toList) := callW_eq Go.Proofs.Tryz.f86 (by kernel_rfl) (by kernel_rfl) (by kernel_rfl) rfl (by kernel_rfl)
theorem rd_87_3 {p : Id} {L : List Nat} {c0 c : Nat} {fr : Fr} {h : Heap} : iterW E 87 p L L_87_3 c0 fr c h = (execW E 87 p ((((Go.Proofs.Tryz.f87.body).getD .skip).loopAt 3).getD .skip) fr c h).bind (loopX E 87 p L L_87_3 c0) := iterW_eq2 (by kernel_rfl)
theorem eq_87 {p : Id} {args : List A} {h : Heap} : callW E p 87 args h = (execW E 87 p (((Go.Proofs.Tryz.f87.body).getD .skip).hide [(3, L_87_3)]) (initFr args) 0 h).bind (resX E.P false p Go.Proofs.Tryz.f87.results.toList) := callW_eq Go.Proofs.Tryz.f87 (by kernel_rfl) (by kernel_rfl) (by kernel_rfl) rfl (by kernel_rfl)
theorem eq_88 {p : Id} {args : List A} {h : Heap} : callW E p 88 args h = (execW E 88 p ((Go.Proofs.Tryz.f88.body).getD .skip) (initFr args) 0 h).bind (resX E.P false p Go.Proofs.Tryz.f88.results.toList) := callW_eq Go.Proofs.Tryz.f88 (by kernel_rfl) (by kernel_rfl) (by kernel_rfl) rfl (by kernel_rfl)
theorem eq_89 {p : Id} {args : List A} {h : Heap} : callW E p 89 args h = (execW E 89 p ((Go.Proofs.Tryz.f89.body).getD .skip) (initFr args) 0 h).bind (resX E.P false p Go.Proofs.Tryz.f89.results.toList) := callW_eq Go.Proofs.Tryz.f89 (by kernel_rfl) (by kernel_rfl) (by kernel_rfl) rfl (by kernel_rfl)
theorem rd_90_3 {p : Id} {L : List Nat} {c0 c : Nat} {fr : Fr} {h : Heap} : iterW E 90 p L L_90_3 c0 fr c h = (execW E 90 p ((((Go.Proofs.Tryz.f90.body).getD .skip).loopAt 3).getD .skip) fr c h).bind (loopX E 90 p L L_90_3 c0) := iterW_eq2 (by kernel_rfl)
theorem eq_90 {p : Id} {args : List A} {h : Heap} : callW E p 90 args h = (execW E 90 p (((Go.Proofs.Tryz.f90.body).getD .skip).hide [(3, L_90_3)]) (initFr args) 0 h).bind (resX E.P false p Go.Proofs.Tryz.f90.results.toList) := callW_eq Go.Proofs.Tryz.f90 (by kernel_rfl) (by kernel_rfl) (by kernel_rfl) rfl (by kernel_rfl)
theorem rd_91_3 {p : Id} {L : List Nat} {c0 c : Nat} {fr : Fr} {h : Heap} : iterW E 91 p L L_91_3 c0 fr c h = (execW E 91 p ((((Go.Proofs.Tryz.f91.body).getD .skip).loopAt 3).getD .skip) fr c h).bind (loopX E 91 p L L_91_3 c0) := iterW_eq2 (by kernel_rfl)
theorem eq_91 {p : Id} {args : List A} {h : Heap} : callW E p 91 args h = (execW E 91 p (((Go.Proofs.Tryz.f91.body).getD .skip).hide [(3, L_91_3)]) (initFr args) 0 h).bind (resX E.P false p Go.Proofs.Tryz.f91.results.toList) := callW_eq Go.Proofs.Tryz.f91 (by kernel_rfl) (by kernel_rfl) (by kernel_rfl) rfl (by kernel_rfl)
theorem rd_92_2 {p : Id} {L : List Nat} {c0 c : Nat} {fr : Fr} {h : Heap} : iterW E 92 p L L_92_2 c0 fr c h = (execW E 92 p ((((Go.Proofs.Tryz.f92.body).getD .skip).loopAt 2).getD .skip) fr c h).bind (loopX E 92 p L L_92_2 c0) := iterW_eq2 (by kernel_rfl)
theorem eq_92 {p : Id} {args : List A} {h : Heap} : callW E p 92 args h = (execW E 92 p (((Go.Proofs.Tryz.f92.body).getD .skip).hide [(2, L_92_2)]) (initFr args) 0 h).bind (resX E.P false p Go.Proofs.Tryz.f92.results.toList) := callW_eq Go.Proofs.Tryz.f92 (by kernel_rfl) (by kernel_rfl) (by kernel_rfl) rfl (by kernel_rfl)
theorem eq_93 {p : Id} {args : List A} {h : Heap} : callW E p 93 args h = (execW E 93 p ((Go.Proofs.Tryz.f93.body).getD .skip) (initFr args) 0 h).bind (resX E.P false p Go.Proofs.Tryz.f93.results.toList) := callW_eq Go.Proofs.Tryz.f93 (by kernel_rfl) (by kernel_rfl) (by kernel_rfl) rfl (by kernel_rfl)
theorem eq_94 {p : Id} {args : List A} {h : Heap} : callW E p 94 args h = (execW E 94 p ((Go.Proofs.Tryz.f94.body).getD .skip) (initFr args) 0 h).bind (resX E.P false p Go.Proofs.Tryz.f94.results.toList) := callW_eq Go.Proofs.Tryz.f94 (by kernel_rfl) (by kernel_rfl) (by kernel_rfl) rfl (by kernel_rfl)
theorem eq_95 {p : Id} {args : List A} {h : Heap} : callW E p 95 args h = (execW E 95 p ((Go.Proofs.Tryz.f95.body).getD .skip) (initFr args) 0 h).bind (resX E.P false p Go.Proofs.Tryz.f95.results.toList) := callW_eq Go.Proofs.Tryz.f95 (by kernel_rfl) (by kernel_rfl) (by kernel_rfl) rfl (by kernel_rfl)
theorem eq_96 {p : Id} {args : List A} {h : Heap} : callW E p 96 args h = (execW E 96 p ((Go.Proofs.Tryz.f96.body).getD .skip) (initFr args) 0 h).bind (resX E.P false p Go.Proofs.Tryz.f96.results.toList) := callW_eq Go.Proofs.Tryz.f96 (by kernel_rfl) (by kernel_rfl) (by kernel_rfl) rfl (by kernel_rfl)
theorem eq_97 {p : Id} {args : List A} {h : Heap} : callW E p 97 args h = (execW E 97 p ((Go.Proofs.Tryz.f97.body).getD .skip) (initFr args) 0 h).bind (resX E.P false p Go.Proofs.Tryz.f97.results.toList) := callW_eq Go.Proofs.Tryz.f97 (by kernel_rfl) (by kernel_rfl) (by kernel_rfl) rfl (by kernel_rfl)
theorem rd_98_3 {p : Id} {L : List Nat} {c0 c : Nat} {fr : Fr} {h : Heap} : iterW E 98 p L L_98_3 c0 fr c h = (execW E 98 p ((((Go.Proofs.Tryz.f98.body).getD .skip).loopAt 3).getD .skip) fr c h).bind (loopX E 98 p L L_98_3 c0) := iterW_eq2 (by kernel_rfl)
theorem eq_98 {p : Id} {args : List A} {h : Heap} : callW E p 98 args h = (execW E 98 p (((Go.Proofs.Tryz.f98.body).getD .skip).hide [(3, L_98_3)]) (initFr args) 0 h).bind (resX E.P false p Go.Proofs.Tryz.f98.results.toList) := callW_eq Go.Proofs.Tryz.f98 (by kernel_rfl) (by kernel_rfl) (by kernel_rfl) rfl (by kernel_rfl)
theorem rd_99_3 {p : Id} {L : List Nat} {c0 c : Nat} {fr : Fr} {h : Heap} : iterW E 99 p L L_99_3 c0 fr c h = (execW E 99 p ((((Go.Proofs.Tryz.f99.body).getD .skip).loopAt 3).getD .skip) fr c h).bind (loopX E 99 p L L_99_3 c0) := iterW_eq2 (by kernel_rfl)
theorem eq_99 {p : Id} {args : List A} {h : Heap} : callW E p 99 args h = (execW E 99 p (((Go.Proofs.Tryz.f99.body).getD .skip).hide [(3, L_99_3)]) (initFr args) 0 h).bind (resX E.P false p Go.Proofs.Tryz.f99.results.toList) := callW_eq Go.Proofs.Tryz.f99 (by kernel_rfl) (by kernel_rfl) (by kernel_rfl) rfl (by kernel_rfl)
theorem eq_100 {p : Id} {args : List A} {h : Heap} : callW E p 100 args h = (execW E 100 p ((Go.Proofs.Tryz.f100.body).getD .skip) (initFr args) 0 h).bind (resX E.P false p Go.Proofs.Tryz.f100.results.toList) := callW_eq Go.Proofs.Tryz.f100 (by kernel_rfl) (by kernel_rfl) (by kernel_rfl) rfl (by kernel_rfl)
theorem eq_101 {p : Id} {args : List A} {h : Heap} : callW E p 101 args h = (execW E 101 p ((Go.Proofs.Tryz.f101.body).getD .skip) (initFr args) 0 h).bind (resX E.P false p Go.Proofs.Tryz.f101.results.toList) := callW_eq Go.Proofs.Tryz.f101 (by kernel_rfl) (by kernel_rfl) (by kernel_rfl) rfl (by kernel_rfl)
theorem eq_102 {p : Id} {args : List A} {h : Heap} : callW E p 102 args h = (execW E 102 p ((Go.Proofs.Tryz.f102.body).getD .skip) (initFr args) 0 h).bind (resX E.P false p Go.Proofs.Tryz.f102.results.toList) := callW_eq Go.Proofs.Tryz.f102 (by kernel_rfl) (by kernel_rfl) (by kernel_rfl) rfl (by kernel_rfl)
theorem eq_103 {p : Id} {args : List A} {h : Heap} : callW E p 103 args h = (execW E 103 p ((Go.Proofs.Tryz.f103.body).getD .skip) (initFr args) 0 h).bind (resX E.P false p Go.Proofs.Tryz.f103.results.toList) := callW_eq Go.Proofs.Tryz.f103 (by kernel_rfl) (by kernel_rfl) (by kernel_rfl) rfl (by kernel_rfl)
theorem eq_104 {p : Id} {args : List A} {h : Heap} : callW E p 104 args h = (execW E 104 p ((Go.Proofs.Tryz.f104.body).getD .skip) (initFr args) 0 h).bind (resX E.P false p Go.Proofs.Tryz.f104.results.toList) := callW_eq Go.Proofs.Tryz.f104 (by kernel_rfl) (by kernel_rfl) (by kernel_rfl) rfl (by kernel_rfl)
theorem rd_105_22 {p : Id} {L : List Nat} {c0 c : Nat} {fr : Fr} {h : Heap} : iterW E 105 p L L_105_22 c0 fr c h = (execW E 105 p ((((Go.Proofs.Tryz.f105.body).getD .skip).loopAt 22).getD .skip) fr c h).bind (loopX E 105 p L L_105_22 c0) := iterW_eq2 (by kernel_rfl)
theorem eq_105 {p : Id} {args : List A} {h : Heap} : callW E p 105 args h = (execW E 105 p (((Go.Proofs.Tryz.f105.body).getD .skip).hide [(22, L_105_22)]) (initFr args) 0 h).bind (resX E.P false p Go.Proofs.Tryz.f105.results.toList) := callW_eq Go.Proofs.Tryz.f105 (by kernel_rfl) (by kernel_rfl) (by kernel_rfl) rfl (by kernel_rfl)
theorem eq_106 {p : Id} {args : List A} {h : Heap} : callW E p 106 args h = (execW E 106 p ((Go.Proofs.Tryz.f106.body).getD .skip) (initFr args) 0 h).bind (resX E.P false p Go.Proofs.Tryz.f106.results.toList) := callW_eq Go.Proofs.Tryz.f106 (by kernel_rfl) (by kernel_rfl) (by kernel_rfl) rfl (by kernel_rfl)
theorem rd_107_2 {p : Id} {L : List Nat} {c0 c : Nat} {fr : Fr} {h : Heap} : iterW E 107 p L L_107_2 c0 fr c h = (execW E 107 p ((((Go.Proofs.Tryz.f107.body).getD .skip).loopAt 2).getD .skip) fr c h).bind (loopX E 107 p L L_107_2 c0) := iterW_eq2 (by kernel_rfl)
theorem eq_107 {p : Id} {args : List A} {h : Heap} : callW E p 107 args h = (execW E 107 p (((Go.Proofs.Tryz.f107.body).getD .skip).hide [(2, L_107_2)]) (initFr args) 0 h).bind (resX E.P false p Go.Proofs.Tryz.f107.results.toList) := callW_eq Go.Proofs.Tryz.f107 (by kernel_rfl) (by kernel_rfl) (by kernel_rfl) rfl (by kernel_rfl)
theorem rd_108_3 {p : Id} {L : List Nat} {c0 c : Nat} {fr : Fr} {h : Heap} : iterW E 108 p L L_108_3 c0 fr c h = (execW E 108 p ((((Go.Proofs.Tryz.f108.body).getD .skip).loopAt 3).getD .skip) fr c h).bind (loopX E 108 p L L_108_3 c0) := iterW_eq2 (by kernel_rfl)
theorem eq_108 {p : Id} {args : List A} {h : Heap} : callW E p 108 args h = (execW E 108 p (((Go.Proofs.Tryz.f108.body).getD .skip).hide [(3, L_108_3)]) (initFr args) 0 h).bind (resX E.P false p Go.Proofs.Tryz.f108.results.toList) := callW_eq Go.Proofs.Tryz.f108 (by kernel_rfl) (by kernel_rfl) (by kernel_rfl) rfl (by kernel_rfl)
theorem rd_109_3 {p : Id} {L : List Nat} {c0 c : Nat} {fr : Fr} {h : Heap} : iterW E 109 p L L_109_3 c0 fr c h = (execW E 109 p ((((Go.Proofs.Tryz.f109.body).getD .skip).loopAt 3).getD .skip) fr c h).bind (loopX E 109 p L L_109_3 c0) := iterW_eq2 (by kernel_rfl)
theorem eq_109 {p : Id} {args : List A} {h : Heap} : callW E p 109 args h = (execW E 109 p (((Go.Proofs.Tryz.f109.body).getD .skip).hide [(3, L_109_3)]) (initFr args) 0 h).bind (resX E.P false p Go.Proofs.Tryz.f109.results.toList) := callW_eq Go.Proofs.Tryz.f109 (by kernel_rfl) (by kernel_rfl) (by kernel_rfl) rfl (by kernel_rfl)
theorem eq_110 {p : Id} {args : List A} {h : Heap} : callW E p 110 args h = (execW E 110 p ((Go.Proofs.Tryz.f110.body).getD .skip) (initFr args) 0 h).bind (resX E.P false p Go.Proofs.Tryz.f110.results.toList) := callW_eq Go.Proofs.Tryz.f110 (by kernel_rfl) (by kernel_rfl) (by kernel_rfl) rfl (by kernel_rfl)
theorem eq_111 {p : Id} {args : List A} {h : Heap} : callW E p 111 args h = (execW E 111 p ((Go.Proofs.Tryz.f111.body).getD .skip) (initFr args) 0 h).bind (resX E.P false p Go.Proofs.Tryz.f111.results.toList) := callW_eq Go.Proofs.Tryz.f111 (by kernel_rfl) (by kernel_rfl) (by kernel_rfl) rfl (by kernel_rfl)
theorem rd_115_1 {p : Id} {L : List Nat} {c0 c : Nat} {fr : Fr} {h : Heap} : iterW E 115 p L L_115_1 c0 fr c h = (execW E 115 p (((((Go.Proofs.Tryz.f115.body).getD .skip).loopAt 1).getD .skip).hide [(18, L_115_18)]) fr c h).bind (loopX E 115 p L L_115_1 c0) := iterW_eq2 (by kernel_rfl)
theorem rd_115_18 {p : Id} {L : List Nat} {c0 c : Nat} {fr : Fr} {h : Heap} : iterW E 115 p L L_115_18 c0 fr c h = (execW E 115 p ((((Go.Proofs.Tryz.f115.body).getD .skip).loopAt 18).getD .skip) fr c h).bind (loopX E 115 p L L_115_18 c0) := iterW_eq2 (by kernel_rfl)
theorem eq_115 {p : Id} {args : List A} {h : Heap} : callW E p 115 args h = (execW E 115 p (((Go.Proofs.Tryz.f115.body).getD .skip).hide [(1, L_115_1)]) (initFr args) 0 h).bind (resX E.P false p Go.Proofs.Tryz.f115.results.toList) := callW_eq Go.Proofs.Tryz.f115 (by kernel_rfl) (by kernel_rfl) (by kernel_rfl) rfl (by kernel_rfl)
theorem eq_116 {p : Id} {args : List A} {h : Heap} : callW E p 116 args h = (execW E 116 p ((Go.Proofs.Tryz.f116.body).getD .skip) (initFr args) 0 h).bind (resX E.P false p Go.Proofs.Tryz.f116.results.toList) := callW_eq Go.Proofs.Tryz.f116 (by kernel_rfl) (by kernel_rfl) (by kernel_rfl) rfl (by kernel_rfl)
theorem eq_117 {p : Id} {args : List A} {h : Heap} : callW E p 117 args h = (execW E 117 p ((Go.Proofs.Tryz.f117.body).getD .skip) (initFr args) 0 h).bind (resX E.P false p Go.Proofs.Tryz.f117.results.toList) := callW_eq Go.Proofs.Tryz.f117 (by kernel_rfl) (by kernel_rfl) (by kernel_rfl) rfl (by kernel_rfl)
theorem eq_118 {p : Id} {args : List A} {h : Heap} : callW E p 118 args h = (execW E 118 p ((Go.Proofs.Tryz.f118.body).getD .skip) (initFr args) 0 h).bind (resX E.P false p Go.Proofs.Tryz.f118.results.toList) := callW_eq Go.Proofs.Tryz.f118 (by kernel_rfl) (by kernel_rfl) (by kernel_rfl) rfl (by kernel_rfl)
theorem rd_120_2 {p : Id} {L : List Nat} {c0 c : Nat} {fr : Fr} {h : Heap} : iterW E 120 p L L_120_2 c0 fr c h = (execW E 120 p ((((Go.Proofs.Tryz.f120.body).getD .skip).loopAt 2).getD .skip) fr c h).bind (loopX E 120 p L L_120_2 c0) := iterW_eq2 (by kernel_rfl)
theorem eq_120 {p : Id} {args : List A} {h : Heap} : callW E p 120 args h = (execW E 120 p (((Go.Proofs.Tryz.f120.body).getD .skip).hide [(2, L_120_2)]) (initFr args) 0 h).bind (resX E.P false p Go.Proofs.Tryz.f120.results.toList) := callW_eq Go.Proofs.Tryz.f120 (by kernel_rfl) (by kernel_rfl) (by kernel_rfl) rfl (by kernel_rfl)
theorem eq_121 {p : Id} {args : List A} {h : Heap} : callW E p 121 args h = (execW E 121 p ((Go.Proofs.Tryz.f121.body).getD .skip) (initFr args) 0 h).bind (resX E.P false p Go.Proofs.Tryz.f121.results.toList) := callW_eq Go.Proofs.Tryz.f121 (by kernel_rfl) (by kernel_rfl) (by kernel_rfl) rfl (by kernel_rfl)
theorem eq_122 {p : Id} {args : List A} {h : Heap} : callW E p 122 args h = (execW E 122 p ((Go.Proofs.Tryz.f122.body).getD .skip) (initFr args) 0 h).bind (resX E.P false p Go.Proofs.Tryz.f122.results.toList) := callW_eq Go.Proofs.Tryz.f122 (by kernel_rfl) (by kernel_rfl) (by kernel_rfl) rfl (by kernel_rfl)
theorem eq_123 {p : Id} {args : List A} {h : Heap} : callW E p 123 args h = (execW E 123 p ((Go.Proofs.Tryz.f123.body).getD .skip) (initFr args) 0 h).bind (resX E.P false p Go.Proofs.Tryz.f123.results.toList) := callW_eq Go.Proofs.Tryz.f123 (by kernel_rfl) (by kernel_rfl) (by kernel_rfl) rfl (by kernel_rfl)
theorem eq_124 {p : Id} {args : List A} {h : Heap} : callW E p 124 args h = (execW E 124 p ((Go.Proofs.Tryz.f124.body).getD .skip) (initFr args) 0 h).bind (resX E.P false p Go.Proofs.Tryz.f124.results.toList) := callW_eq Go.Proofs.Tryz.f124 (by kernel_rfl) (by kernel_rfl) (by kernel_rfl) rfl (by kernel_rfl)
theorem rd_125_2 {p : Id} {L : List Nat} {c0 c : Nat} {fr : Fr} {h : Heap} : iterW E 125 p L L_125_2 c0 fr c h = (execW E 125 p ((((Go.Proofs.Tryz.f125.body).getD .skip).loopAt 2).getD .skip) fr c h).bind (loopX E 125 p L L_125_2 c0) := iterW_eq2 (by kernel_rfl)
theorem eq_125 {p : Id} {args : List A} {h : Heap} : callW E p 125 args h = (execW E 125 p (((Go.Proofs.Tryz.f125.body).getD .skip).hide [(2, L_125_2)]) (initFr args) 0 h).bind (resX E.P false p Go.Proofs.Tryz.f125.results.toList) := callW_eq Go.Proofs.Tryz.f125 (by kernel_rfl) (by kernel_rfl) (by kernel_rfl) rfl (by kernel_rfl)
theorem eq_129 {p : Id} {args : List A} {h : Heap} : callW E p 129 args h = (execW E 129 p ((Go.Proofs.Tryz.f129.body).getD .skip) (initFr args) 0 h).bind (resX E.P false p Go.Proofs.Tryz.f129.results.toList) := callW_eq Go.Proofs.Tryz.f129 (by kernel_rfl) (by kernel_rfl) (by kernel_rfl) rfl (by kernel_rfl)
theorem eq_130 {p : Id} {args : List A} {h : Heap} : callW E p 130 args h = (execW E 130 p ((Go.Proofs.Tryz.f130.body).getD .skip) (initFr args) 0 h).bind (resX E.P false p Go.Proofs.Tryz.f130.results.toList) := callW_eq Go.Proofs.Tryz.f130 (by kernel_rfl) (by kernel_rfl) (by kernel_rfl) rfl (by kernel_rfl)
theorem eq_132 {p : Id} {args : List A} {h : Heap} : callW E p 132 args h = (execW E 132 p ((Go.Proofs.Tryz.f132.body).getD .skip) (initFr args) 0 h).bind (resX E.P false p Go.Proofs.Tryz.f132.results.toList) := callW_eq Go.Proofs.Tryz.f132 (by kernel_rfl) (by kernel_rfl) (by kernel_rfl) rfl (by kernel_rfl)
theorem rd_133_5 {p : Id} {L : List Nat} {c0 c : Nat} {fr : Fr} {h : Heap} : iterW E 133 p L L_133_5 c0 fr c h = (execW E 133 p ((((Go.Proofs.Tryz.f133.body).getD .skip).loopAt 5).getD .skip) fr c h).bind (loopX E 133 p L L_133_5 c0) := iterW_eq2 (by kernel_rfl)
theorem eq_133 {p : Id} {args : List A} {h : Heap} : callW E p 133 args h = (execW E 133 p (((Go.Proofs.Tryz.f133.body).getD .skip).hide [(5, L_133_5)]) (initFr args) 0 h).bind (resX E.P false p Go.Proofs.Tryz.f133.results.toList) := callW_eq Go.Proofs.Tryz.f133 (by kernel_rfl) (by kernel_rfl) (by kernel_rfl) rfl (by kernel_rfl)
theorem rd_134_3 {p : Id} {L : List Nat} {c0 c : Nat} {fr : Fr} {h : Heap} : iterW E 134 p L L_134_3 c0 fr c h = (execW E 134 p ((((Go.Proofs.Tryz.f134.body).getD .skip).loopAt 3).getD .skip) fr c h).bind (loopX E 134 p L L_134_3 c0) := iterW_eq2 (by kernel_rfl)
theorem eq_134 {p : Id} {args : List A} {h : Heap} : callW E p 134 args h = (execW E 134 p (((Go.Proofs.Tryz.f134.body).getD .skip).hide [(3, L_134_3)]) (initFr args) 0 h).bind (resX E.P false p Go.Proofs.Tryz.f134.results.toList) := callW_eq Go.Proofs.Tryz.f134 (by kernel_rfl) (by kernel_rfl) (by kernel_rfl) rfl (by kernel_rfl)
theorem rd_135_3 {p : Id} {L : List Nat} {c0 c : Nat} {fr : Fr} {h : Heap} : iterW E 135 p L L_135_3 c0 fr c h = (execW E 135 p ((((Go.Proofs.Tryz.f135.body).getD .skip).loopAt 3).getD .skip) fr c h).bind (loopX E 135 p L L_135_3 c0) := iterW_eq2 (by kernel_rfl)
theorem eq_135 {p : Id} {args : List A} {h : Heap} : callW E p 135 args h = (execW E 135 p (((Go.Proofs.Tryz.f135.body).getD .skip).hide [(3, L_135_3)]) (initFr args) 0 h).bind (resX E.P false p Go.Proofs.Tryz.f135.results.toList) := callW_eq Go.Proofs.Tryz.f135 (by kernel_rfl) (by kernel_rfl) (by kernel_rfl) rfl (by kernel_rfl)
theorem rd_136_3 {p : Id} {L : List Nat} {c0 c : Nat} {fr : Fr} {h : Heap} : iterW E 136 p L L_136_3 c0 fr c h = (execW E 136 p ((((Go.Proofs.Tryz.f136.body).getD .skip).loopAt 3).getD .skip) fr c h).bind (loopX E 136 p L L_136_3 c0) := iterW_eq2 (by kernel_rfl)
theorem eq_136 {p : Id} {args : List A} {h : Heap} : callW E p 136 args h = (execW E 136 p (((Go.Proofs.Tryz.f136.body).getD .skip).hide [(3, L_136_3)]) (initFr args) 0 h).bind (resX E.P false p Go.Proofs.Tryz.f136.results.toList) := callW_eq Go.Proofs.Tryz.f136 (by kernel_rfl) (by kernel_rfl) (by kernel_rfl) rfl (by kernel_rfl)
theorem rd_137_5 {p : Id} {L : List Nat} {c0 c : Nat} {fr : Fr} {h : Heap} : iterW E 137 p L L_137_5 c0 fr c h = (execW E 137 p ((((Go.Proofs.Tryz.f137.body).getD .skip).loopAt 5).getD .skip) fr c h).bind (loopX E 137 p L L_137_5 c0) := iterW_eq2 (by kernel_rfl)
theorem eq_137 {p : Id} {args : List A} {h : Heap} : callW E p 137 args h = (execW E 137 p (((Go.Proofs.Tryz.f137.body).getD .skip).hide [(5, L_137_5)]) (initFr args) 0 h).bind (resX E.P false p Go.Proofs.Tryz.f137.results.toList) := callW_eq Go.Proofs.Tryz.f137 (by kernel_rfl) (by kernel_rfl) (by kernel_rfl) rfl (by kernel_rfl)
theorem eq_138 {p : Id} {args : List A} {h : Heap} : callW E p 138 args h = (execW E 138 p ((Go.Proofs.Tryz.f138.body).getD .skip) (initFr args) 0 h).bind (resX E.P false p Go.Proofs.Tryz.f138.results.toList) := callW_eq Go.Proofs.Tryz.f138 (by kernel_rfl) (by kernel_rfl) (by kernel_rfl) rfl (by kernel_rfl)
theorem eq_139 {p : Id} {args : List A} {h : Heap} : callW E p 139 args h = (execW E 139 p ((Go.Proofs.Tryz.f139.body).getD .skip) (initFr args) 0 h).bind (resX E.P false p Go.Proofs.Tryz.f139.results.toList) := callW_eq Go.Proofs.Tryz.f139 (by kernel_rfl) (by kernel_rfl) (by kernel_rfl) rfl (by kernel_rfl)
theorem rd_140_3 {p : Id} {L : List Nat} {c0 c : Nat} {fr : Fr} {h : Heap} : iterW E 140 p L L_140_3 c0 fr c h = (execW E 140 p ((((Go.Proofs.Tryz.f140.body).getD .skip).loopAt 3).getD .skip) fr c h).bind (loopX E 140 p L L_140_3 c0) := iterW_eq2 (by kernel_rfl)
theorem eq_140 {p : Id} {args : List A} {h : Heap} : callW E p 140 args h = (execW E 140 p (((Go.Proofs.Tryz.f140.body).getD .skip).hide [(3, L_140_3)]) (initFr args) 0 h).bind (resX E.P false p Go.Proofs.Tryz.f140.results.toList) := callW_eq Go.Proofs.Tryz.f140 (by kernel_rfl) (by kernel_rfl) (by kernel_rfl) rfl (by kernel_rfl)
theorem eq_141 {p : Id} {args : List A} {h : Heap} : callW E p 141 args h = (execW E 141 p ((Go.Proofs.Tryz.f141.body).getD .skip) (initFr args) 0 h).bind (resX E.P false p Go.Proofs.Tryz.f141.results.toList) := callW_eq Go.Proofs.Tryz.f141 (by kernel_rfl) (by kernel_rfl) (by kernel_rfl) rfl (by kernel_rfl)
theorem rd_142_3 {p : Id} {L : List Nat} {c0 c : Nat} {fr : Fr} {h : Heap} : iterW E 142 p L L_142_3 c0 fr c h = (execW E 142 p ((((Go.Proofs.Tryz.f142.body).getD .skip).loopAt 3).getD .skip) fr c h).bind (loopX E 142 p L L_142_3 c0) := iterW_eq2 (by kernel_rfl)
theorem eq_142 {p : Id} {args : List A} {h : Heap} : callW E p 142 args h = (execW E 142 p (((Go.Proofs.Tryz.f142.body).getD .skip).hide [(3, L_142_3)]) (initFr args) 0 h).bind (resX E.P false p Go.Proofs.Tryz.f142.results.toList) := callW_eq Go.Proofs.Tryz.f142 (by kernel_rfl) (by kernel_rfl) (by kernel_rfl) rfl (by kernel_rfl)
theorem eq_144 {p : Id} {args : List A} {h : Heap} : callW E p 144 args h = (execW E 144 p ((Go.Proofs.Tryz.f144.body).getD .skip) (initFr args) 0 h).bind (resX E.P false p Go.Proofs.Tryz.f144.results.toList) := callW_eq Go.Proofs.Tryz.f144 (by kernel_rfl) (by kernel_rfl) (by kernel_rfl) rfl (by kernel_rfl)
theorem eq_145 {p : Id} {args : List A} {h : Heap} : callW E p 145 args h = (execW E 145 p ((Go.Proofs.Tryz.f145.body).getD .skip) (initFr args) 0 h).bind (resX E.P false p Go.Proofs.Tryz.f145.results.toList) := callW_eq Go.Proofs.Tryz.f145 (by kernel_rfl) (by kernel_rfl) (by kernel_rfl) rfl (by kernel_rfl)
theorem eq_146 {p : Id} {args : List A} {h : Heap} : callW E p 146 args h = (execW E 146 p ((Go.Proofs.Tryz.f146.body).getD .skip) (initFr args) 0 h).bind (resX E.P false p Go.Proofs.Tryz.f146.results.toList) := callW_eq Go.Proofs.Tryz.f146 (by kernel_rfl) (by kernel_rfl) (by kernel_rfl) rfl (by kernel_rfl)
theorem eq_147 {p : Id} {args : List A} {h : Heap} : callW E p 147 args h = (execW E 147 p ((Go.Proofs.Tryz.f147.body).getD .skip) (initFr args) 0 h).bind (resX E.P false p Go.Proofs.Tryz.f147.results.toList) := callW_eq Go.Proofs.Tryz.f147 (by kernel_rfl) (by kernel_rfl) (by kernel_rfl) rfl (by kernel_rfl)
theorem rd_148_3 {p : Id} {L : List Nat} {c0 c : Nat} {fr : Fr} {h : Heap} : iterW E 148 p L L_148_3 c0 fr c h = (execW E 148 p ((((Go.Proofs.Tryz.f148.body).getD .skip).loopAt 3).getD .skip) fr c h).bind (loopX E 148 p L L_148_3 c0) := iterW_eq2 (by kernel_rfl)
theorem eq_148 {p : Id} {args : List A} {h : Heap} : callW E p 148 args h = (execW E 148 p (((Go.Proofs.Tryz.f148.body).getD .skip).hide [(3, L_148_3)]) (initFr args) 0 h).bind (resX E.P false p Go.Proofs.Tryz.f148.results.toList) := callW_eq Go.Proofs.Tryz.f148 (by kernel_rfl) (by kernel_rfl) (by kernel_rfl) rfl (by kernel_rfl)
theorem eq_169 {p : Id} {args : List A} {h : Heap} : callW E p 169 args h = (execW E 169 p ((Go.Proofs.Tryz.f169.body).getD .skip) (initFr args) 0 h).bind (resX E.P false p Go.Proofs.Tryz.f169.results.toList) := callW_eq Go.Proofs.Tryz.f169 (by kernel_rfl) (by kernel_rfl) (by kernel_rfl) rfl (by kernel_rfl)
theorem eq_185 {p : Id} {args : List A} {h : Heap} : callW E p 185 args h = (execW E 185 p ((Go.Proofs.Tryz.f185.body).getD .skip) (initFr args) 0 h).bind (resX E.P false p Go.Proofs.Tryz.f185.results.toList) := callW_eq Go.Proofs.Tryz.f185 (by kernel_rfl) (by kernel_rfl) (by kernel_rfl) rfl (by kernel_rfl)
theorem eq_190 {p : Id} {args : List A} {h : Heap} : callW E p 190 args h = (execW E 190 p ((Go.Proofs.Tryz.f190.body).getD .skip) (initFr args) 0 h).bind (resX E.P false p Go.Proofs.Tryz.f190.results.toList) := callW_eq Go.Proofs.Tryz.f190 (by kernel_rfl) (by kernel_rfl) (by kernel_rfl) rfl (by kernel_rfl)
end Go.Ai.T

namespace Go.Ai.T
theorem envB_ok : envB E = true := by kernel_rfl
end Go.Ai.T

/- The library's functions' walks in this program. -/
namespace Go.Proofs.Tryz
open Go.RowKit

set_option maxHeartbeats 1000000 in
set_option maxRecDepth 100000 in
theorem check_used (b : Nat) (w : World) (h0 : w.cell? ⟨b, 0, none⟩ = some (.pointer (some ⟨b, 0, none⟩))) :
    Calls prog 119 #[.pointer (some ⟨b, 0, none⟩)] w fun e w' => e = .returned (.tuple #[]) ∧ w' = w := by
  have hp : prog.underlying 116 = some (.pointer 119) := by kernel_rfl
  obtain ⟨j, hj⟩ : ∃ j, prog.info? 119 = some j := Option.isSome_iff_exists.1 (by kernel_rfl)
  go_enter func119, ntmps119
  go_wp2
  rw [Lib.run_neq_ptr_same w _ hp hj]
  go_wp2
  go_end0
  exact ⟨rfl, rfl⟩

set_option maxHeartbeats 1000000 in
set_option maxRecDepth 100000 in
theorem check_fresh (b : Nat) (w : World) (t : Nat) (h0 : w.cell? ⟨b, 0, none⟩ = some (.pointer none)) (hsh : w.shape? b = some (t, 2)) (hlies : liesAt prog prog.depth t (2 / prog.cellsOf t) 0 119 1 = true) (hfz : w.frozen? ⟨b, 0, none⟩ = false) :
    Calls prog 119 #[.pointer (some ⟨b, 0, none⟩)] w fun e w' => e = .returned (.tuple #[]) ∧ w' = w.setCell ⟨b, 0, none⟩ (.pointer (some ⟨b, 0, none⟩)) := by
  have hp : prog.underlying 116 = some (.pointer 119) := by kernel_rfl
  have hu : prog.underlying 149 = some .unsafePointer := by kernel_rfl
  obtain ⟨j, hj, hjs⟩ : ∃ j, prog.info? 119 = some j ∧ j.size = 2 := Option.map_eq_some_iff.1 (show (prog.info? 119).map (·.size) = some 2 by kernel_rfl)
  have h131 : prog.funcs[131]? = some f131 := by kernel_rfl
  go_enter func119, ntmps119
  go_wp2
  rw [Lib.run_to_unsafe w ⟨b, 0, none⟩ hp hu hj (by rw [hjs]; decide) hsh (Nat.zero_lt_succ 1)]
  simp only [Result.andThen]
  rw [Oper.upon_value]
  go_wp2
  rw [run_callFunc_extern h131 (by kernel_rfl) (by kernel_rfl) (by kernel_rfl) (e := Extern.AbiNoEscape.same) (by kernel_rfl)]
  rw [Lib.run_noEscape]
  simp only [Result.andThen]
  rw [Oper.upon_value]
  go_wp2
  rw [Lib.run_from_unsafe w ⟨b, 0, none⟩ hu hp hj hsh hlies]
  simp only [Result.andThen]
  rw [Oper.upon_value]
  go_wp2
  go_end0
  exact ⟨rfl, rfl⟩
theorem lies_119 : liesAt prog prog.depth 119 (2 / prog.cellsOf 119) 0 119 1 = true := by kernel_rfl
theorem lies_139 : liesAt prog prog.depth 139 (2 / prog.cellsOf 139) 0 119 1 = true := by kernel_rfl
end Go.Proofs.Tryz

/- The library's functions' walks in this program: String. -/
namespace Go.Proofs.Tryz
open Go.RowKit

set_option maxHeartbeats 2000000
set_option maxRecDepth 100000
theorem cellsByte : prog.cellsOf 5 = 1 := by kernel_rfl
theorem string_nil (b : Nat) (w : World) (h0 : w.cell? ⟨b, 1, none⟩ = some (.slice none 0 0)) :
    Calls prog 81 #[.pointer (some ⟨b, 0, none⟩)] w fun e w' => e = .returned (.string ⟨#[]⟩) ∧ Go.Ai.Ext w w' := by
  have hUS := fun W q => Lib.run_unsafeString_none (P := prog) W 166 3 9 q
  have c1 : w.drew.cell? ⟨b, 1, none⟩ = some (.slice none 0 0) := h0
  have hSD : (Builtin.unsafeSliceData_ #[117] 166 #[.slice none 0 0]).run prog w.drew = .ok (.pointer none) w.drew := rfl
  go_enter func81, ntmps81
  go_wp2
  go_region
  all_goals (go_wp2; go_ret; exact ⟨rfl, (Go.Ai.Ext.refl w).drew⟩)
theorem string_zero (b g : Nat) (w : World) (sh : TypeId × Nat) (h0 : w.cell? ⟨b, 1, none⟩ = some (.slice (some ⟨g, 0, none⟩) 0 0)) (hsh : w.shape? g = some sh) :
    Calls prog 81 #[.pointer (some ⟨b, 0, none⟩)] w fun e w' => e = .returned (.string ⟨#[]⟩) ∧ Go.Ai.Ext w w' := by
  have hUS := fun W q => Lib.run_unsafeString_none (P := prog) W 166 3 9 q
  have c1 : w.drew.cell? ⟨b, 1, none⟩ = some (.slice (some ⟨g, 0, none⟩) 0 0) := h0
  have hlt : b < w.heap.size := by
    rcases Nat.lt_or_ge b w.heap.size with h' | h'
    · exact h'
    · simp [World.cell?, Array.getElem?_eq_none h'] at h0
  have hSD : (Builtin.unsafeSliceData_ #[117] 166 #[.slice (some ⟨g, 0, none⟩) 0 0]).run prog w.drew = .ok (.pointer (some ⟨w.drew.heap.size, 0, none⟩)) (w.drew.alloc (.view ⟨g, 0, none⟩ 5)) :=
    Lib.run_unsafeSliceData_zero w.drew _ _ 5 underlying166 ⟨g, 0, none⟩ 0 sh hsh
  have c2 : (w.drew.alloc (.view ⟨g, 0, none⟩ 5)).cell? ⟨b, 1, none⟩ = some (.slice (some ⟨g, 0, none⟩) 0 0) := by
    exact (World.cell?_alloc_lt w.drew _ ⟨b, 1, none⟩ hlt).trans h0
  have c3 : (w.alloc (.view ⟨g, 0, none⟩ 5)).drew.cell? ⟨b, 1, none⟩ = some (.slice (some ⟨g, 0, none⟩) 0 0) := c2
  have c0 : w.cell? ⟨b, 1, none⟩ = some (.slice (some ⟨g, 0, none⟩) 0 0) := c1
  go_enter func81, ntmps81
  go_wp2
  go_region
  all_goals (go_wp2; go_ret; exact ⟨rfl, (Go.Ai.Ext.alloc w _).drew⟩)
theorem string_room (b g cap : Nat) (w : World) (h0 : w.cell? ⟨b, 1, none⟩ = some (.slice (some ⟨g, 0, none⟩) 0 cap)) (hc0 : cap ≠ 0) :
    Calls prog 81 #[.pointer (some ⟨b, 0, none⟩)] w fun e w' => e = .returned (.string ⟨#[]⟩) ∧ Go.Ai.Ext w w' := by
  have hUS := fun W q => Lib.run_unsafeString_none (P := prog) W 166 3 9 q
  have c1 : w.drew.cell? ⟨b, 1, none⟩ = some (.slice (some ⟨g, 0, none⟩) 0 cap) := h0
  have hSD : (Builtin.unsafeSliceData_ #[117] 166 #[.slice (some ⟨g, 0, none⟩) 0 cap]).run prog w.drew = .ok (.pointer (some ⟨g, 0, none⟩)) w.drew :=
    Lib.run_unsafeSliceData_row _ _ _ _ _ _ hc0
  clear hc0
  go_enter func81, ntmps81
  go_wp2
  go_region
  all_goals (go_wp2; go_ret; exact ⟨rfl, (Go.Ai.Ext.refl w).drew⟩)
theorem string_some (b g cap cells : Nat) (l : List UInt8) (w : World) (h0 : w.cell? ⟨b, 1, none⟩ = some (.slice (some ⟨g, 0, none⟩) l.length cap)) (hl : l ≠ []) (hcap : l.length ≤ cap) (hsh : w.shape? g = some (5, cells)) (hn : l.length ≤ cells)
    (h63 : l.length ≤ 9223372036854775807) (hcell : ∀ j x, l[j]? = some x → w.cell? ⟨g, j, none⟩ = some (.int .u8 x.toNat)) :
    Calls prog 81 #[.pointer (some ⟨b, 0, none⟩)] w fun e w' => e = .returned (.string ⟨l.toArray⟩) ∧ w' = (w.freeze ⟨g, 0, none⟩ l.length).drew := by
  have hl0 : l.length ≠ 0 := by simpa using hl
  have c1 : w.drew.cell? ⟨b, 1, none⟩ = some (.slice (some ⟨g, 0, none⟩) l.length cap) := h0
  have hSD : (Builtin.unsafeSliceData_ #[117] 166 #[.slice (some ⟨g, 0, none⟩) l.length cap]).run prog w.drew = .ok (.pointer (some ⟨g, 0, none⟩)) w.drew :=
    Lib.run_unsafeSliceData_row _ _ _ _ _ _ (by omega)
  have hUS : (Builtin.unsafeString_ #[166, 3] 9 #[.pointer (some ⟨g, 0, none⟩), .int .i64 l.length]).run prog w.drew = .ok (.string ⟨l.toArray⟩) (w.drew.freeze ⟨g, 0, none⟩ l.length) :=
    Lib.run_unsafeString_row w.drew 166 3 9 5 underlying166 cellsByte g cells hsh l hl hn h63 (fun j x hx => by
      have := hcell j x hx
      have e : (⟨g, 0, none⟩ : Addr).add j = ⟨g, j, none⟩ := by
        unfold Addr.add
        by_cases hj : j = 0
        · subst hj; simp
        · simp [hj]
      rw [e]; exact this)
  go_enter func81, ntmps81
  go_wp2
  go_region
  all_goals (go_wp2; go_ret; first | exact ⟨rfl, rfl⟩ | exact ⟨rfl, by unfold World.freeze; split <;> rfl⟩)
end Go.Proofs.Tryz

/- strings.Join in this program, by the library of contracts: what the tool that lays contracts has written. -/
namespace Go.Proofs
open Go.Shelf
def Tryz.lays156_ren : Go.Shelf.Ren := ⟨fun | 156 => 85 | 165 => 121 | 166 => 80 | 169 => 81 | 240 => 119 | 241 => 132 | 276 => 131 | 277 => 143 | n => n, fun | 31 => 70 | 9 => 9 | 3 => 3 | 4 => 4 | 0 => 0 | 20 => 20 | 72 => 119 | 76 => 121 | 70 => 116 | 37 => 117 | 75 => 29 | 127 => 166 | 164 => 149 | 5 => 5 | 80 => 123 | n => n, fun | n => n⟩
theorem Tryz.lays156 : Go.Proofs.Lays.n156 Tryz.prog Tryz.lays156_ren := {
  mixed := by kernel_rfl
  f156 := Tryz.func85.trans (congrArg some (by kernel_rfl))
  f165 := Tryz.func121.trans (congrArg some (by kernel_rfl))
  f166 := Tryz.func80.trans (congrArg some (by kernel_rfl))
  f169 := Tryz.func81.trans (congrArg some (by kernel_rfl))
  f240 := Tryz.func119.trans (congrArg some (by kernel_rfl))
  f241 := Tryz.func132.trans (congrArg some (by kernel_rfl))
  f276 := Tryz.func131.trans (congrArg some (by kernel_rfl))
  f277 := Tryz.func143.trans (congrArg some (by kernel_rfl))
  t0 := Tryz.underlying0
  a0 := Tryz.isAgg0
  z0 := Tryz.sizeOf0
  v0 := Tryz.zeroValue0
  t3 := Tryz.underlying3
  a3 := Tryz.isAgg3
  z3 := Tryz.sizeOf3
  v3 := Tryz.zeroValue3
  t4 := Tryz.underlying4
  a4 := Tryz.isAgg4
  z4 := Tryz.sizeOf4
  v4 := Tryz.zeroValue4
  t9 := Tryz.underlying9
  a9 := Tryz.isAgg9
  z9 := Tryz.sizeOf9
  v9 := Tryz.zeroValue9
  t20 := Tryz.underlying20
  a20 := Tryz.isAgg20
  z20 := Tryz.sizeOf20
  v20 := Tryz.zeroValue20
  t31 := Tryz.underlying70
  a31 := Tryz.isAgg70
  z31 := Tryz.sizeOf70
  v31 := Tryz.zeroValue70
  t37 := Tryz.underlying117
  a37 := Tryz.isAgg117
  z37 := Tryz.sizeOf117
  v37 := Tryz.zeroValue117
  t70 := Tryz.underlying116
  a70 := Tryz.isAgg116
  z70 := Tryz.sizeOf116
  v70 := Tryz.zeroValue116
  t72 := Tryz.underlying119
  a72 := Tryz.isAgg119
  z72 := Tryz.sizeOf119
  v72 := Tryz.zeroValue119
  t75 := Tryz.underlying29
  a75 := Tryz.isAgg29
  z75 := Tryz.sizeOf29
  v75 := Tryz.zeroValue29
  t76 := Tryz.underlying121
  a76 := Tryz.isAgg121
  z76 := Tryz.sizeOf121
  v76 := Tryz.zeroValue121
  t127 := Tryz.underlying166
  a127 := Tryz.isAgg166
  z127 := Tryz.sizeOf166
  v127 := Tryz.zeroValue166
  t164 := Tryz.underlying149
  a164 := Tryz.isAgg149
  z164 := Tryz.sizeOf149
  v164 := Tryz.zeroValue149 }
theorem Tryz.Builder_Extra_156 : Builder.Extra Tryz.prog Tryz.lays156_ren := {
  sizeBuilder := by kernel_rfl
  liesBuilder := by kernel_rfl
  t5 := Tryz.underlying5
  a5 := Tryz.isAgg5
  z5 := Tryz.sizeOf5
  v5 := Tryz.zeroValue5
  infoByte := by kernel_rfl
  cellsByte := by kernel_rfl
  sizeByte := by kernel_rfl
  neB5 := by decide }
open Go.RowKit in
/-- No element: the empty string; the world is as it was. (Whatever the slice's address and capacity: a nil slice too.) (LAID: no walk: one application.) -/
theorem Tryz.strings_Join_none (a : Option Addr) (c : Nat) (sep : ByteArray) (w : World) :
    Calls Tryz.prog 85 #[.slice a 0 c, .string sep] w fun e w' => e = .returned (.string ⟨#[]⟩) ∧ w' = w := Any.strings_Join_none Tryz.lays156 Tryz.Builder_Extra_156 a c sep w
open Go.RowKit in
/-- strings.Join: "Join concatenates the elements of its first argument to create a single string. The separator string sep is placed between elements in the resulting string.": HOWEVER MANY ELEMENTS. Below the heap's end the world is as it was. (LAID: no walk: one application.) -/
theorem Tryz.strings_Join (bk o c : Nat) (xs : List ByteArray) (sep : ByteArray) (w : World) (hcells : ∀ (j : Nat) x, xs[j]? = some x → w.cell? ⟨bk, o + j, none⟩ = some (.string x)) (hbk : bk < w.heap.size) (hN : xs.length ≤ 140737488355328) (hcap : xs.length ≤ c) (hlen : (Lib.join (xs.map (·.data.toList)) sep.data.toList).length ≤ 140737488355328) :
    Calls Tryz.prog 85 #[.slice (some ⟨bk, o, none⟩) xs.length c, .string sep] w fun e w' => e = .returned (.string ⟨(Lib.join (xs.map (·.data.toList)) sep.data.toList).toArray⟩) ∧ Below w.heap.size w w' := Any.strings_Join Tryz.lays156 Tryz.Builder_Extra_156 bk o c xs sep w hcells hbk hN hcap hlen
end Go.Proofs

