/- Part KE of the proof that a law of this program answers yes at every input: no conditions beyond the given statement. -/
import Derived.KernelRfl
import Derived.Test.YtbpllbpgaiphaaaGreatDoorProg
import Derived.Test.YtbpllbpgaiphaaaGreatDoorKD
import Derived.Test.YtbpllbpgaiphaaaGreatDoorKC
set_option linter.unusedSimpArgs false
set_option linter.unusedVariables false
set_option linter.all false
/- The evaluator's environment for this program: tables, each checked. -/
namespace Go.Ai.T
open Go
noncomputable def prim : Nat → Option (Id → List A → Heap → Option (A × Heap))
  | _ => none
def drawTab : List ((Nat × Nat) × List (Nat × Nat)) := [((3, 12), [(25, 27)]), ((6, 9), [(1, 8)]), ((6, 11), [(1, 9)]), ((6, 13), [(1, 9)]), ((6, 15), [(1, 8)]), ((17, 5), []), ((21, 1), [(4, 2)]), ((21, 2), [(4, 2)]), ((24, 2), []), ((25, 3), []), ((44, 3), [(4, 10)]), ((44, 4), []), ((44, 7), [(4, 6)]), ((44, 12), []), ((69, 3), []), ((70, 4), [])]
def liveTab : List ((Nat × Nat) × List Nat) := [((17, 3), [0, 2, 3, 4]), ((19, 5), [0, 5, 10, 11, 12]), ((28, 2), [0, 3]), ((45, 3), [1, 5, 13, 14, 15]), ((45, 6), [1, 5, 13, 14, 15, 20, 21, 22]), ((45, 9), [1, 5, 13, 14, 15, 20, 21, 22, 27, 28, 29]), ((48, 3), [1, 5, 8, 9, 10]), ((50, 3), [1, 5, 8, 9, 10]), ((52, 3), [1, 5, 8, 9, 10]), ((54, 3), [1, 5, 8, 9, 10]), ((80, 3), [1, 5, 8, 9, 10])]
noncomputable def E : Env where
  P := Go.Proofs.Tryz.prog
  frz t := [262, 201].contains t
  prim := prim
  keep f := [107, 336, 338, 17, 44, 69, 70].contains f
  raw f := false
  draw f i := (drawTab.find? fun q => q.1.1 == f && q.1.2 == i).map (·.2)
  live f i := ((liveTab.find? fun q => q.1.1 == f && q.1.2 == i).map (·.2)).getD []
  obj t := [58, 63, 29].contains t
  keepL f := [17].contains f
  feed := false
theorem E_P : E.P = Go.Proofs.Tryz.prog := rfl
@[simp] theorem raw_E (f : Nat) : E.raw f = false := rfl
@[simp] theorem obj_E (t : Nat) : E.obj t = [58, 63, 29].contains t := rfl
@[simp] theorem keepL_E (f : Nat) : E.keepL f = [17].contains f := rfl
@[simp] theorem feed_E : E.feed = false := rfl
@[simp] theorem bytesT_106 : bytesT E.P 106 = some 24 := by kernel_rfl
@[simp] theorem bytesT_121 : bytesT E.P 121 = some 160 := by kernel_rfl
@[simp] theorem bytesT_29 : bytesT E.P 29 = some 216 := by kernel_rfl
@[simp] theorem bytesT_33 : bytesT E.P 33 = some 8 := by kernel_rfl
@[simp] theorem bytesT_37 : bytesT E.P 37 = some 104 := by kernel_rfl
@[simp] theorem bytesT_5 : bytesT E.P 5 = some 1 := by kernel_rfl
@[simp] theorem bytesT_58 : bytesT E.P 58 = some 112 := by kernel_rfl
@[simp] theorem bytesT_63 : bytesT E.P 63 = some 144 := by kernel_rfl
@[simp] theorem bytesT_76 : bytesT E.P 76 = some 192 := by kernel_rfl
@[simp] theorem bytesT_81 : bytesT E.P 81 = some 280 := by kernel_rfl
@[simp] theorem bytesT_86 : bytesT E.P 86 = some 104 := by kernel_rfl
@[simp] theorem bytesT_9 : bytesT E.P 9 = some 16 := by kernel_rfl
@[simp] theorem fieldT_29_0 : fieldT E.P 29 0 = some 0 := by kernel_rfl
@[simp] theorem fieldT_29_10 : fieldT E.P 29 10 = some 10 := by kernel_rfl
@[simp] theorem fieldT_29_3 : fieldT E.P 29 3 = some 3 := by kernel_rfl
@[simp] theorem fieldT_29_4 : fieldT E.P 29 4 = some 4 := by kernel_rfl
@[simp] theorem fieldT_29_5 : fieldT E.P 29 5 = some 5 := by kernel_rfl
@[simp] theorem fieldT_29_6 : fieldT E.P 29 6 = some 6 := by kernel_rfl
@[simp] theorem fieldT_29_7 : fieldT E.P 29 7 = some 7 := by kernel_rfl
@[simp] theorem fieldT_29_8 : fieldT E.P 29 8 = some 8 := by kernel_rfl
@[simp] theorem fieldT_29_9 : fieldT E.P 29 9 = some 9 := by kernel_rfl
@[simp] theorem fieldT_37_0 : fieldT E.P 37 0 = some 0 := by kernel_rfl
@[simp] theorem fieldT_37_1 : fieldT E.P 37 1 = some 1 := by kernel_rfl
@[simp] theorem fieldT_37_2 : fieldT E.P 37 2 = some 2 := by kernel_rfl
@[simp] theorem fieldT_37_3 : fieldT E.P 37 3 = some 3 := by kernel_rfl
@[simp] theorem fieldT_37_4 : fieldT E.P 37 4 = some 4 := by kernel_rfl
@[simp] theorem fieldT_51_0 : fieldT E.P 51 0 = some 0 := by kernel_rfl
@[simp] theorem fieldT_58_2 : fieldT E.P 58 2 = some 4 := by kernel_rfl
@[simp] theorem fieldT_60_0 : fieldT E.P 60 0 = some 0 := by kernel_rfl
@[simp] theorem fieldT_63_1 : fieldT E.P 63 1 = some 1 := by kernel_rfl
@[simp] theorem fieldT_63_2 : fieldT E.P 63 2 = some 6 := by kernel_rfl
@[simp] theorem fieldT_76_3 : fieldT E.P 76 3 = some 3 := by kernel_rfl
@[simp] theorem fieldT_76_4 : fieldT E.P 76 4 = some 4 := by kernel_rfl
@[simp] theorem fieldT_76_7 : fieldT E.P 76 7 = some 10 := by kernel_rfl
@[simp] theorem fieldT_76_8 : fieldT E.P 76 8 = some 11 := by kernel_rfl
@[simp] theorem fieldT_79_1 : fieldT E.P 79 1 = some 1 := by kernel_rfl
@[simp] theorem fieldT_81_10 : fieldT E.P 81 10 = some 13 := by kernel_rfl
@[simp] theorem fieldT_81_3 : fieldT E.P 81 3 = some 3 := by kernel_rfl
@[simp] theorem fieldT_81_7 : fieldT E.P 81 7 = some 10 := by kernel_rfl
@[simp] theorem fieldT_81_8 : fieldT E.P 81 8 = some 11 := by kernel_rfl
@[simp] theorem fieldT_81_9 : fieldT E.P 81 9 = some 12 := by kernel_rfl
@[simp] theorem kindT_103 : kindT E.P 103 = Kd.ptr := by kernel_rfl
@[simp] theorem kindT_104 : kindT E.P 104 = Kd.slice 106 := by kernel_rfl
@[simp] theorem kindT_106 : kindT E.P 106 = Kd.struct := by kernel_rfl
@[simp] theorem kindT_121 : kindT E.P 121 = Kd.struct := by kernel_rfl
@[simp] theorem kindT_187 : kindT E.P 187 = Kd.other := by kernel_rfl
@[simp] theorem kindT_2 : kindT E.P 2 = Kd.int IntKind.i64 := by kernel_rfl
@[simp] theorem kindT_21 : kindT E.P 21 = Kd.int IntKind.i32 := by kernel_rfl
@[simp] theorem kindT_23 : kindT E.P 23 = Kd.slice 37 := by kernel_rfl
@[simp] theorem kindT_24 : kindT E.P 24 = Kd.slice 76 := by kernel_rfl
@[simp] theorem kindT_25 : kindT E.P 25 = Kd.slice 81 := by kernel_rfl
@[simp] theorem kindT_26 : kindT E.P 26 = Kd.slice 86 := by kernel_rfl
@[simp] theorem kindT_27 : kindT E.P 27 = Kd.slice 121 := by kernel_rfl
@[simp] theorem kindT_29 : kindT E.P 29 = Kd.struct := by kernel_rfl
@[simp] theorem kindT_3 : kindT E.P 3 = Kd.int IntKind.i64 := by kernel_rfl
@[simp] theorem kindT_33 : kindT E.P 33 = Kd.int IntKind.u64 := by kernel_rfl
@[simp] theorem kindT_37 : kindT E.P 37 = Kd.struct := by kernel_rfl
@[simp] theorem kindT_4 : kindT E.P 4 = Kd.bool := by kernel_rfl
@[simp] theorem kindT_49 : kindT E.P 49 = Kd.slice 58 := by kernel_rfl
@[simp] theorem kindT_5 : kindT E.P 5 = Kd.int IntKind.u8 := by kernel_rfl
@[simp] theorem kindT_53 : kindT E.P 53 = Kd.slice 5 := by kernel_rfl
@[simp] theorem kindT_56 : kindT E.P 56 = Kd.slice 63 := by kernel_rfl
@[simp] theorem kindT_58 : kindT E.P 58 = Kd.struct := by kernel_rfl
@[simp] theorem kindT_61 : kindT E.P 61 = Kd.slice 29 := by kernel_rfl
@[simp] theorem kindT_63 : kindT E.P 63 = Kd.struct := by kernel_rfl
@[simp] theorem kindT_65 : kindT E.P 65 = Kd.slice 9 := by kernel_rfl
@[simp] theorem kindT_74 : kindT E.P 74 = Kd.slice 33 := by kernel_rfl
@[simp] theorem kindT_76 : kindT E.P 76 = Kd.struct := by kernel_rfl
@[simp] theorem kindT_81 : kindT E.P 81 = Kd.struct := by kernel_rfl
@[simp] theorem kindT_86 : kindT E.P 86 = Kd.struct := by kernel_rfl
@[simp] theorem kindT_9 : kindT E.P 9 = Kd.str := by kernel_rfl
@[simp] theorem placesT_119 : placesT E.P 119 = some [(0, 1), (1, 1), (2, 1), (3, 1), (4, 1), (5, 1), (6, 1), (7, 1)] := by kernel_rfl
@[simp] theorem placesT_121 : placesT E.P 121 = some [(0, 1), (1, 1), (2, 8), (10, 1)] := by kernel_rfl
@[simp] theorem placesT_29 : placesT E.P 29 = some [(0, 1), (1, 1), (2, 1), (3, 1), (4, 1), (5, 1), (6, 1), (7, 1), (8, 1), (9, 1), (10, 1), (11, 1), (12, 1)] := by kernel_rfl
@[simp] theorem placesT_37 : placesT E.P 37 = some [(0, 1), (1, 1), (2, 1), (3, 1), (4, 1), (5, 1), (6, 1), (7, 1)] := by kernel_rfl
@[simp] theorem placesT_58 : placesT E.P 58 = some [(0, 1), (1, 3), (4, 1), (5, 1), (6, 1)] := by kernel_rfl
@[simp] theorem placesT_63 : placesT E.P 63 = some [(0, 1), (1, 5), (6, 1), (7, 1), (8, 1)] := by kernel_rfl
@[simp] theorem placesT_73 : placesT E.P 73 = some [(0, 1), (1, 1)] := by kernel_rfl
@[simp] theorem placesT_76 : placesT E.P 76 = some [(0, 1), (1, 1), (2, 1), (3, 1), (4, 2), (6, 2), (8, 2), (10, 1), (11, 1), (12, 1), (13, 1), (14, 1)] := by kernel_rfl
@[simp] theorem placesT_79 : placesT E.P 79 = some [(0, 1), (1, 1), (2, 1)] := by kernel_rfl
@[simp] theorem placesT_81 : placesT E.P 81 = some [(0, 1), (1, 1), (2, 1), (3, 1), (4, 2), (6, 2), (8, 2), (10, 1), (11, 1), (12, 1), (13, 3), (16, 1), (17, 3), (20, 1), (21, 1), (22, 1), (23, 1)] := by kernel_rfl
@[simp] theorem placesT_86 : placesT E.P 86 = some [(0, 1), (1, 1), (2, 1), (3, 1), (4, 1), (5, 1), (6, 1), (7, 1)] := by kernel_rfl
@[simp] theorem shapeT_106 : shapeT E.P 106 = some (2, true) := by kernel_rfl
@[simp] theorem shapeT_121 : shapeT E.P 121 = some (11, true) := by kernel_rfl
@[simp] theorem shapeT_23 : shapeT E.P 23 = some (1, false) := by kernel_rfl
@[simp] theorem shapeT_24 : shapeT E.P 24 = some (1, false) := by kernel_rfl
@[simp] theorem shapeT_25 : shapeT E.P 25 = some (1, false) := by kernel_rfl
@[simp] theorem shapeT_26 : shapeT E.P 26 = some (1, false) := by kernel_rfl
@[simp] theorem shapeT_27 : shapeT E.P 27 = some (1, false) := by kernel_rfl
@[simp] theorem shapeT_29 : shapeT E.P 29 = some (13, true) := by kernel_rfl
@[simp] theorem shapeT_3 : shapeT E.P 3 = some (1, false) := by kernel_rfl
@[simp] theorem shapeT_33 : shapeT E.P 33 = some (1, false) := by kernel_rfl
@[simp] theorem shapeT_37 : shapeT E.P 37 = some (8, true) := by kernel_rfl
@[simp] theorem shapeT_49 : shapeT E.P 49 = some (1, false) := by kernel_rfl
@[simp] theorem shapeT_5 : shapeT E.P 5 = some (1, false) := by kernel_rfl
@[simp] theorem shapeT_51 : shapeT E.P 51 = some (2, true) := by kernel_rfl
@[simp] theorem shapeT_56 : shapeT E.P 56 = some (1, false) := by kernel_rfl
@[simp] theorem shapeT_58 : shapeT E.P 58 = some (7, true) := by kernel_rfl
@[simp] theorem shapeT_61 : shapeT E.P 61 = some (1, false) := by kernel_rfl
@[simp] theorem shapeT_63 : shapeT E.P 63 = some (9, true) := by kernel_rfl
@[simp] theorem shapeT_74 : shapeT E.P 74 = some (1, false) := by kernel_rfl
@[simp] theorem shapeT_76 : shapeT E.P 76 = some (15, true) := by kernel_rfl
@[simp] theorem shapeT_81 : shapeT E.P 81 = some (24, true) := by kernel_rfl
@[simp] theorem shapeT_86 : shapeT E.P 86 = some (8, true) := by kernel_rfl
@[simp] theorem shapeT_9 : shapeT E.P 9 = some (1, false) := by kernel_rfl
@[simp] theorem szT_106 : szT E.P 106 = some 2 := by kernel_rfl
@[simp] theorem szT_121 : szT E.P 121 = some 11 := by kernel_rfl
@[simp] theorem szT_21 : szT E.P 21 = some 1 := by kernel_rfl
@[simp] theorem szT_23 : szT E.P 23 = some 1 := by kernel_rfl
@[simp] theorem szT_24 : szT E.P 24 = some 1 := by kernel_rfl
@[simp] theorem szT_25 : szT E.P 25 = some 1 := by kernel_rfl
@[simp] theorem szT_26 : szT E.P 26 = some 1 := by kernel_rfl
@[simp] theorem szT_27 : szT E.P 27 = some 1 := by kernel_rfl
@[simp] theorem szT_29 : szT E.P 29 = some 13 := by kernel_rfl
@[simp] theorem szT_3 : szT E.P 3 = some 1 := by kernel_rfl
@[simp] theorem szT_33 : szT E.P 33 = some 1 := by kernel_rfl
@[simp] theorem szT_37 : szT E.P 37 = some 8 := by kernel_rfl
@[simp] theorem szT_4 : szT E.P 4 = some 1 := by kernel_rfl
@[simp] theorem szT_49 : szT E.P 49 = some 1 := by kernel_rfl
@[simp] theorem szT_5 : szT E.P 5 = some 1 := by kernel_rfl
@[simp] theorem szT_51 : szT E.P 51 = some 2 := by kernel_rfl
@[simp] theorem szT_56 : szT E.P 56 = some 1 := by kernel_rfl
@[simp] theorem szT_58 : szT E.P 58 = some 7 := by kernel_rfl
@[simp] theorem szT_61 : szT E.P 61 = some 1 := by kernel_rfl
@[simp] theorem szT_63 : szT E.P 63 = some 9 := by kernel_rfl
@[simp] theorem szT_73 : szT E.P 73 = some 2 := by kernel_rfl
@[simp] theorem szT_74 : szT E.P 74 = some 1 := by kernel_rfl
@[simp] theorem szT_76 : szT E.P 76 = some 15 := by kernel_rfl
@[simp] theorem szT_79 : szT E.P 79 = some 3 := by kernel_rfl
@[simp] theorem szT_81 : szT E.P 81 = some 24 := by kernel_rfl
@[simp] theorem szT_86 : szT E.P 86 = some 8 := by kernel_rfl
@[simp] theorem szT_9 : szT E.P 9 = some 1 := by kernel_rfl
@[simp] theorem und_2 : (E.P.underlying 2).isSome = true := by kernel_rfl
@[simp] theorem und_3 : (E.P.underlying 3).isSome = true := by kernel_rfl
@[simp] theorem und_5 : (E.P.underlying 5).isSome = true := by kernel_rfl
@[simp] theorem und_53 : (E.P.underlying 53).isSome = true := by kernel_rfl
@[simp] theorem zeroT_106 : zeroT E.P 106 = some [A.int IntKind.i64 0, A.str []] := by kernel_rfl
@[simp] theorem zeroT_119 : zeroT E.P 119 = some [A.int IntKind.i64 0, A.str [], A.bool false, A.int IntKind.u64 0, A.nils, A.nils, A.str [], A.str []] := by kernel_rfl
@[simp] theorem zeroT_121 : zeroT E.P 121 = some [A.str [], A.bool false, A.int IntKind.i64 0, A.str [], A.bool false, A.int IntKind.u64 0, A.nils, A.nils, A.str [], A.str [], A.str []] := by kernel_rfl
@[simp] theorem zeroT_187 : zeroT E.P 187 = some [A.int IntKind.u8 0, A.int IntKind.u8 0, A.int IntKind.u8 0, A.int IntKind.u8 0, A.int IntKind.u8 0, A.int IntKind.u8 0, A.int IntKind.u8 0, A.int IntKind.u8 0, A.int IntKind.u8 0, A.int IntKind.u8 0, A.int IntKind.u8 0, A.int IntKind.u8 0, A.int IntKind.u8 0, A.int IntKind.u8 0, A.int IntKind.u8 0, A.int IntKind.u8 0, A.int IntKind.u8 0, A.int IntKind.u8 0, A.int IntKind.u8 0, A.int IntKind.u8 0, A.int IntKind.u8 0, A.int IntKind.u8 0, A.int IntKind.u8 0, A.int IntKind.u8 0] := by kernel_rfl
@[simp] theorem zeroT_29 : zeroT E.P 29 = some [A.str [], A.str [], A.str [], A.int IntKind.i64 0, A.int IntKind.i32 0, A.bool false, A.nils, A.nils, A.nils, A.nils, A.nils, A.str [], A.str []] := by kernel_rfl
@[simp] theorem zeroT_33 : zeroT E.P 33 = some [A.int IntKind.u64 0] := by kernel_rfl
@[simp] theorem zeroT_37 : zeroT E.P 37 = some [A.nils, A.int IntKind.u64 0, A.int IntKind.u64 0, A.int IntKind.i64 0, A.int IntKind.u64 0, A.nils, A.int IntKind.u32 0, A.str []] := by kernel_rfl
@[simp] theorem zeroT_5 : zeroT E.P 5 = some [A.int IntKind.u8 0] := by kernel_rfl
@[simp] theorem zeroT_51 : zeroT E.P 51 = some [A.nils, A.str []] := by kernel_rfl
@[simp] theorem zeroT_58 : zeroT E.P 58 = some [A.bool false, A.nils, A.int IntKind.u32 0, A.str [], A.nils, A.str [], A.str []] := by kernel_rfl
@[simp] theorem zeroT_63 : zeroT E.P 63 = some [A.bool false, A.str [], A.str [], A.nils, A.int IntKind.u32 0, A.str [], A.nils, A.str [], A.str []] := by kernel_rfl
@[simp] theorem zeroT_73 : zeroT E.P 73 = some [A.bool false, A.int IntKind.u64 0] := by kernel_rfl
@[simp] theorem zeroT_76 : zeroT E.P 76 = some [A.nils, A.int IntKind.u64 0, A.int IntKind.u64 0, A.int IntKind.u64 0, A.bool false, A.int IntKind.u64 0, A.bool false, A.int IntKind.u64 0, A.bool false, A.int IntKind.u64 0, A.nils, A.nils, A.nils, A.int IntKind.u32 0, A.str []] := by kernel_rfl
@[simp] theorem zeroT_79 : zeroT E.P 79 = some [A.int IntKind.i32 0, A.nils, A.str []] := by kernel_rfl
@[simp] theorem zeroT_81 : zeroT E.P 81 = some [A.nils, A.int IntKind.u64 0, A.int IntKind.u64 0, A.int IntKind.u64 0, A.bool false, A.int IntKind.u64 0, A.bool false, A.int IntKind.u64 0, A.bool false, A.int IntKind.u64 0, A.int IntKind.i32 0, A.int IntKind.u64 0, A.bool false, A.int IntKind.i32 0, A.nils, A.str [], A.bool false, A.int IntKind.i32 0, A.nils, A.str [], A.nils, A.int IntKind.u32 0, A.int IntKind.u64 0, A.str []] := by kernel_rfl
@[simp] theorem zeroT_86 : zeroT E.P 86 = some [A.nils, A.int IntKind.u64 0, A.int IntKind.u64 0, A.int IntKind.u64 0, A.int IntKind.u64 0, A.nils, A.int IntKind.u32 0, A.str []] := by kernel_rfl
@[simp] theorem zeroT_9 : zeroT E.P 9 = some [A.str []] := by kernel_rfl
@[simp] theorem draw_3_12 : E.draw 3 12 = some [(25, 27)] := by kernel_rfl
@[simp] theorem draw_6_9 : E.draw 6 9 = some [(1, 8)] := by kernel_rfl
@[simp] theorem draw_6_11 : E.draw 6 11 = some [(1, 9)] := by kernel_rfl
@[simp] theorem draw_6_13 : E.draw 6 13 = some [(1, 9)] := by kernel_rfl
@[simp] theorem draw_6_15 : E.draw 6 15 = some [(1, 8)] := by kernel_rfl
@[simp] theorem draw_17_5 : E.draw 17 5 = some [] := by kernel_rfl
@[simp] theorem draw_21_1 : E.draw 21 1 = some [(4, 2)] := by kernel_rfl
@[simp] theorem draw_21_2 : E.draw 21 2 = some [(4, 2)] := by kernel_rfl
@[simp] theorem draw_24_2 : E.draw 24 2 = some [] := by kernel_rfl
@[simp] theorem draw_25_3 : E.draw 25 3 = some [] := by kernel_rfl
@[simp] theorem draw_44_3 : E.draw 44 3 = some [(4, 10)] := by kernel_rfl
@[simp] theorem draw_44_4 : E.draw 44 4 = some [] := by kernel_rfl
@[simp] theorem draw_44_7 : E.draw 44 7 = some [(4, 6)] := by kernel_rfl
@[simp] theorem draw_44_12 : E.draw 44 12 = some [] := by kernel_rfl
@[simp] theorem draw_69_3 : E.draw 69 3 = some [] := by kernel_rfl
@[simp] theorem draw_70_4 : E.draw 70 4 = some [] := by kernel_rfl
@[simp] theorem live_17_3 : E.live 17 3 = [0, 2, 3, 4] := by kernel_rfl
@[simp] theorem live_19_5 : E.live 19 5 = [0, 5, 10, 11, 12] := by kernel_rfl
@[simp] theorem live_28_2 : E.live 28 2 = [0, 3] := by kernel_rfl
@[simp] theorem live_45_3 : E.live 45 3 = [1, 5, 13, 14, 15] := by kernel_rfl
@[simp] theorem live_45_6 : E.live 45 6 = [1, 5, 13, 14, 15, 20, 21, 22] := by kernel_rfl
@[simp] theorem live_45_9 : E.live 45 9 = [1, 5, 13, 14, 15, 20, 21, 22, 27, 28, 29] := by kernel_rfl
@[simp] theorem live_48_3 : E.live 48 3 = [1, 5, 8, 9, 10] := by kernel_rfl
@[simp] theorem live_50_3 : E.live 50 3 = [1, 5, 8, 9, 10] := by kernel_rfl
@[simp] theorem live_52_3 : E.live 52 3 = [1, 5, 8, 9, 10] := by kernel_rfl
@[simp] theorem live_54_3 : E.live 54 3 = [1, 5, 8, 9, 10] := by kernel_rfl
@[simp] theorem live_80_3 : E.live 80 3 = [1, 5, 8, 9, 10] := by kernel_rfl
noncomputable def L_17_3 : Code := ((Go.Proofs.Tryz.f17.body.getD .skip).loopAt 3).getD .skip
noncomputable def L_19_5 : Code := ((Go.Proofs.Tryz.f19.body.getD .skip).loopAt 5).getD .skip
noncomputable def L_28_2 : Code := ((Go.Proofs.Tryz.f28.body.getD .skip).loopAt 2).getD .skip
noncomputable def L_45_3 : Code := ((Go.Proofs.Tryz.f45.body.getD .skip).loopAt 3).getD .skip
noncomputable def L_45_6 : Code := ((Go.Proofs.Tryz.f45.body.getD .skip).loopAt 6).getD .skip
noncomputable def L_45_9 : Code := ((Go.Proofs.Tryz.f45.body.getD .skip).loopAt 9).getD .skip
noncomputable def L_48_3 : Code := ((Go.Proofs.Tryz.f48.body.getD .skip).loopAt 3).getD .skip
noncomputable def L_50_3 : Code := ((Go.Proofs.Tryz.f50.body.getD .skip).loopAt 3).getD .skip
noncomputable def L_52_3 : Code := ((Go.Proofs.Tryz.f52.body.getD .skip).loopAt 3).getD .skip
noncomputable def L_54_3 : Code := ((Go.Proofs.Tryz.f54.body.getD .skip).loopAt 3).getD .skip
noncomputable def L_80_3 : Code := ((Go.Proofs.Tryz.f80.body.getD .skip).loopAt 3).getD .skip
@[simp] theorem key_17_3 : L_17_3.key = 3 := by kernel_rfl
@[simp] theorem key_19_5 : L_19_5.key = 5 := by kernel_rfl
@[simp] theorem key_28_2 : L_28_2.key = 2 := by kernel_rfl
@[simp] theorem key_45_3 : L_45_3.key = 3 := by kernel_rfl
@[simp] theorem key_45_6 : L_45_6.key = 6 := by kernel_rfl
@[simp] theorem key_45_9 : L_45_9.key = 9 := by kernel_rfl
@[simp] theorem key_48_3 : L_48_3.key = 3 := by kernel_rfl
@[simp] theorem key_50_3 : L_50_3.key = 3 := by kernel_rfl
@[simp] theorem key_52_3 : L_52_3.key = 3 := by kernel_rfl
@[simp] theorem key_54_3 : L_54_3.key = 3 := by kernel_rfl
@[simp] theorem key_80_3 : L_80_3.key = 3 := by kernel_rfl
theorem eq_3 {p : Id} {args : List A} {h : Heap} : callW E p 3 args h = (execW E 3 p ((Go.Proofs.Tryz.f3.body).getD .skip) (initFr args) 0 h).bind (resX E.P E.feed false p Go.Proofs.Tryz.f3.results.toList) := callW_eq Go.Proofs.Tryz.f3 (by kernel_rfl) (by kernel_rfl) (by kernel_rfl) rfl (by kernel_rfl)
theorem eq_5 {p : Id} {args : List A} {h : Heap} : callW E p 5 args h = (execW E 5 p ((Go.Proofs.Tryz.f5.body).getD .skip) (initFr args) 0 h).bind (resX E.P E.feed false p Go.Proofs.Tryz.f5.results.toList) := callW_eq Go.Proofs.Tryz.f5 (by kernel_rfl) (by kernel_rfl) (by kernel_rfl) rfl (by kernel_rfl)
theorem eq_6 {p : Id} {args : List A} {h : Heap} : callW E p 6 args h = (execW E 6 p ((Go.Proofs.Tryz.f6.body).getD .skip) (initFr args) 0 h).bind (resX E.P E.feed false p Go.Proofs.Tryz.f6.results.toList) := callW_eq Go.Proofs.Tryz.f6 (by kernel_rfl) (by kernel_rfl) (by kernel_rfl) rfl (by kernel_rfl)
theorem eq_7 {p : Id} {args : List A} {h : Heap} : callW E p 7 args h = (execW E 7 p ((Go.Proofs.Tryz.f7.body).getD .skip) (initFr args) 0 h).bind (resX E.P E.feed false p Go.Proofs.Tryz.f7.results.toList) := callW_eq Go.Proofs.Tryz.f7 (by kernel_rfl) (by kernel_rfl) (by kernel_rfl) rfl (by kernel_rfl)
theorem eq_8 {p : Id} {args : List A} {h : Heap} : callW E p 8 args h = (execW E 8 p ((Go.Proofs.Tryz.f8.body).getD .skip) (initFr args) 0 h).bind (resX E.P E.feed false p Go.Proofs.Tryz.f8.results.toList) := callW_eq Go.Proofs.Tryz.f8 (by kernel_rfl) (by kernel_rfl) (by kernel_rfl) rfl (by kernel_rfl)
theorem eq_9 {p : Id} {args : List A} {h : Heap} : callW E p 9 args h = (execW E 9 p ((Go.Proofs.Tryz.f9.body).getD .skip) (initFr args) 0 h).bind (resX E.P E.feed false p Go.Proofs.Tryz.f9.results.toList) := callW_eq Go.Proofs.Tryz.f9 (by kernel_rfl) (by kernel_rfl) (by kernel_rfl) rfl (by kernel_rfl)
theorem rd_17_3 {p : Id} {L : List Nat} {c0 c : Nat} {fr : Fr} {h : Heap} : iterW E 17 p L L_17_3 c0 fr c h = (execW E 17 p ((((Go.Proofs.Tryz.f17.body).getD .skip).loopAt 3).getD .skip) fr c h).bind (loopX E 17 p L L_17_3 c0) := iterW_eq2 (by kernel_rfl)
theorem eq_17 {p : Id} {args : List A} {h : Heap} : callW E p 17 args h = (execW E 17 p (((Go.Proofs.Tryz.f17.body).getD .skip).hide [(3, L_17_3)]) (initFr args) 0 h).bind (resX E.P E.feed true p Go.Proofs.Tryz.f17.results.toList) := callW_eq Go.Proofs.Tryz.f17 (by kernel_rfl) (by kernel_rfl) (by kernel_rfl) rfl (by kernel_rfl)
theorem eq_18 {p : Id} {args : List A} {h : Heap} : callW E p 18 args h = (execW E 18 p ((Go.Proofs.Tryz.f18.body).getD .skip) (initFr args) 0 h).bind (resX E.P E.feed false p Go.Proofs.Tryz.f18.results.toList) := callW_eq Go.Proofs.Tryz.f18 (by kernel_rfl) (by kernel_rfl) (by kernel_rfl) rfl (by kernel_rfl)
theorem rd_19_5 {p : Id} {L : List Nat} {c0 c : Nat} {fr : Fr} {h : Heap} : iterW E 19 p L L_19_5 c0 fr c h = (execW E 19 p ((((Go.Proofs.Tryz.f19.body).getD .skip).loopAt 5).getD .skip) fr c h).bind (loopX E 19 p L L_19_5 c0) := iterW_eq2 (by kernel_rfl)
theorem eq_19 {p : Id} {args : List A} {h : Heap} : callW E p 19 args h = (execW E 19 p (((Go.Proofs.Tryz.f19.body).getD .skip).hide [(5, L_19_5)]) (initFr args) 0 h).bind (resX E.P E.feed false p Go.Proofs.Tryz.f19.results.toList) := callW_eq Go.Proofs.Tryz.f19 (by kernel_rfl) (by kernel_rfl) (by kernel_rfl) rfl (by kernel_rfl)
theorem eq_20 {p : Id} {args : List A} {h : Heap} : callW E p 20 args h = (execW E 20 p ((Go.Proofs.Tryz.f20.body).getD .skip) (initFr args) 0 h).bind (resX E.P E.feed false p Go.Proofs.Tryz.f20.results.toList) := callW_eq Go.Proofs.Tryz.f20 (by kernel_rfl) (by kernel_rfl) (by kernel_rfl) rfl (by kernel_rfl)
theorem eq_21 {p : Id} {args : List A} {h : Heap} : callW E p 21 args h = (execW E 21 p ((Go.Proofs.Tryz.f21.body).getD .skip) (initFr args) 0 h).bind (resX E.P E.feed false p Go.Proofs.Tryz.f21.results.toList) := callW_eq Go.Proofs.Tryz.f21 (by kernel_rfl) (by kernel_rfl) (by kernel_rfl) rfl (by kernel_rfl)
theorem eq_22 {p : Id} {args : List A} {h : Heap} : callW E p 22 args h = (execW E 22 p ((Go.Proofs.Tryz.f22.body).getD .skip) (initFr args) 0 h).bind (resX E.P E.feed false p Go.Proofs.Tryz.f22.results.toList) := callW_eq Go.Proofs.Tryz.f22 (by kernel_rfl) (by kernel_rfl) (by kernel_rfl) rfl (by kernel_rfl)
theorem eq_23 {p : Id} {args : List A} {h : Heap} : callW E p 23 args h = (execW E 23 p ((Go.Proofs.Tryz.f23.body).getD .skip) (initFr args) 0 h).bind (resX E.P E.feed false p Go.Proofs.Tryz.f23.results.toList) := callW_eq Go.Proofs.Tryz.f23 (by kernel_rfl) (by kernel_rfl) (by kernel_rfl) rfl (by kernel_rfl)
theorem eq_24 {p : Id} {args : List A} {h : Heap} : callW E p 24 args h = (execW E 24 p ((Go.Proofs.Tryz.f24.body).getD .skip) (initFr args) 0 h).bind (resX E.P E.feed false p Go.Proofs.Tryz.f24.results.toList) := callW_eq Go.Proofs.Tryz.f24 (by kernel_rfl) (by kernel_rfl) (by kernel_rfl) rfl (by kernel_rfl)
theorem eq_25 {p : Id} {args : List A} {h : Heap} : callW E p 25 args h = (execW E 25 p ((Go.Proofs.Tryz.f25.body).getD .skip) (initFr args) 0 h).bind (resX E.P E.feed false p Go.Proofs.Tryz.f25.results.toList) := callW_eq Go.Proofs.Tryz.f25 (by kernel_rfl) (by kernel_rfl) (by kernel_rfl) rfl (by kernel_rfl)
theorem eq_26 {p : Id} {args : List A} {h : Heap} : callW E p 26 args h = (execW E 26 p ((Go.Proofs.Tryz.f26.body).getD .skip) (initFr args) 0 h).bind (resX E.P E.feed false p Go.Proofs.Tryz.f26.results.toList) := callW_eq Go.Proofs.Tryz.f26 (by kernel_rfl) (by kernel_rfl) (by kernel_rfl) rfl (by kernel_rfl)
theorem eq_27 {p : Id} {args : List A} {h : Heap} : callW E p 27 args h = (execW E 27 p ((Go.Proofs.Tryz.f27.body).getD .skip) (initFr args) 0 h).bind (resX E.P E.feed false p Go.Proofs.Tryz.f27.results.toList) := callW_eq Go.Proofs.Tryz.f27 (by kernel_rfl) (by kernel_rfl) (by kernel_rfl) rfl (by kernel_rfl)
theorem rd_28_2 {p : Id} {L : List Nat} {c0 c : Nat} {fr : Fr} {h : Heap} : iterW E 28 p L L_28_2 c0 fr c h = (execW E 28 p ((((Go.Proofs.Tryz.f28.body).getD .skip).loopAt 2).getD .skip) fr c h).bind (loopX E 28 p L L_28_2 c0) := iterW_eq2 (by kernel_rfl)
theorem eq_28 {p : Id} {args : List A} {h : Heap} : callW E p 28 args h = (execW E 28 p (((Go.Proofs.Tryz.f28.body).getD .skip).hide [(2, L_28_2)]) (initFr args) 0 h).bind (resX E.P E.feed false p Go.Proofs.Tryz.f28.results.toList) := callW_eq Go.Proofs.Tryz.f28 (by kernel_rfl) (by kernel_rfl) (by kernel_rfl) rfl (by kernel_rfl)
theorem eq_44 {p : Id} {args : List A} {h : Heap} : callW E p 44 args h = (execW E 44 p ((Go.Proofs.Tryz.f44.body).getD .skip) (initFr args) 0 h).bind (resX E.P E.feed true p Go.Proofs.Tryz.f44.results.toList) := callW_eq Go.Proofs.Tryz.f44 (by kernel_rfl) (by kernel_rfl) (by kernel_rfl) rfl (by kernel_rfl)
theorem rd_45_3 {p : Id} {L : List Nat} {c0 c : Nat} {fr : Fr} {h : Heap} : iterW E 45 p L L_45_3 c0 fr c h = (execW E 45 p (((((Go.Proofs.Tryz.f45.body).getD .skip).loopAt 3).getD .skip).hide [(6, L_45_6), (9, L_45_9)]) fr c h).bind (loopX E 45 p L L_45_3 c0) := iterW_eq2 (by kernel_rfl)
theorem rd_45_6 {p : Id} {L : List Nat} {c0 c : Nat} {fr : Fr} {h : Heap} : iterW E 45 p L L_45_6 c0 fr c h = (execW E 45 p (((((Go.Proofs.Tryz.f45.body).getD .skip).loopAt 6).getD .skip).hide [(9, L_45_9)]) fr c h).bind (loopX E 45 p L L_45_6 c0) := iterW_eq2 (by kernel_rfl)
theorem rd_45_9 {p : Id} {L : List Nat} {c0 c : Nat} {fr : Fr} {h : Heap} : iterW E 45 p L L_45_9 c0 fr c h = (execW E 45 p ((((Go.Proofs.Tryz.f45.body).getD .skip).loopAt 9).getD .skip) fr c h).bind (loopX E 45 p L L_45_9 c0) := iterW_eq2 (by kernel_rfl)
theorem eq_45 {p : Id} {args : List A} {h : Heap} : callW E p 45 args h = (execW E 45 p (((Go.Proofs.Tryz.f45.body).getD .skip).hide [(3, L_45_3)]) (initFr args) 0 h).bind (resX E.P E.feed false p Go.Proofs.Tryz.f45.results.toList) := callW_eq Go.Proofs.Tryz.f45 (by kernel_rfl) (by kernel_rfl) (by kernel_rfl) rfl (by kernel_rfl)
theorem eq_46 {p : Id} {args : List A} {h : Heap} : callW E p 46 args h = (execW E 46 p ((Go.Proofs.Tryz.f46.body).getD .skip) (initFr args) 0 h).bind (resX E.P E.feed false p Go.Proofs.Tryz.f46.results.toList) := callW_eq Go.Proofs.Tryz.f46 (by kernel_rfl) (by kernel_rfl) (by kernel_rfl) rfl (by kernel_rfl)
theorem rd_48_3 {p : Id} {L : List Nat} {c0 c : Nat} {fr : Fr} {h : Heap} : iterW E 48 p L L_48_3 c0 fr c h = (execW E 48 p ((((Go.Proofs.Tryz.f48.body).getD .skip).loopAt 3).getD .skip) fr c h).bind (loopX E 48 p L L_48_3 c0) := iterW_eq2 (by kernel_rfl)
theorem eq_48 {p : Id} {args : List A} {h : Heap} : callW E p 48 args h = (execW E 48 p (((Go.Proofs.Tryz.f48.body).getD .skip).hide [(3, L_48_3)]) (initFr args) 0 h).bind (resX E.P E.feed false p Go.Proofs.Tryz.f48.results.toList) := callW_eq Go.Proofs.Tryz.f48 (by kernel_rfl) (by kernel_rfl) (by kernel_rfl) rfl (by kernel_rfl)
theorem rd_50_3 {p : Id} {L : List Nat} {c0 c : Nat} {fr : Fr} {h : Heap} : iterW E 50 p L L_50_3 c0 fr c h = (execW E 50 p ((((Go.Proofs.Tryz.f50.body).getD .skip).loopAt 3).getD .skip) fr c h).bind (loopX E 50 p L L_50_3 c0) := iterW_eq2 (by kernel_rfl)
theorem eq_50 {p : Id} {args : List A} {h : Heap} : callW E p 50 args h = (execW E 50 p (((Go.Proofs.Tryz.f50.body).getD .skip).hide [(3, L_50_3)]) (initFr args) 0 h).bind (resX E.P E.feed false p Go.Proofs.Tryz.f50.results.toList) := callW_eq Go.Proofs.Tryz.f50 (by kernel_rfl) (by kernel_rfl) (by kernel_rfl) rfl (by kernel_rfl)
theorem rd_52_3 {p : Id} {L : List Nat} {c0 c : Nat} {fr : Fr} {h : Heap} : iterW E 52 p L L_52_3 c0 fr c h = (execW E 52 p ((((Go.Proofs.Tryz.f52.body).getD .skip).loopAt 3).getD .skip) fr c h).bind (loopX E 52 p L L_52_3 c0) := iterW_eq2 (by kernel_rfl)
theorem eq_52 {p : Id} {args : List A} {h : Heap} : callW E p 52 args h = (execW E 52 p (((Go.Proofs.Tryz.f52.body).getD .skip).hide [(3, L_52_3)]) (initFr args) 0 h).bind (resX E.P E.feed false p Go.Proofs.Tryz.f52.results.toList) := callW_eq Go.Proofs.Tryz.f52 (by kernel_rfl) (by kernel_rfl) (by kernel_rfl) rfl (by kernel_rfl)
theorem rd_54_3 {p : Id} {L : List Nat} {c0 c : Nat} {fr : Fr} {h : Heap} : iterW E 54 p L L_54_3 c0 fr c h = (execW E 54 p ((((Go.Proofs.Tryz.f54.body).getD .skip).loopAt 3).getD .skip) fr c h).bind (loopX E 54 p L L_54_3 c0) := iterW_eq2 (by kernel_rfl)
theorem eq_54 {p : Id} {args : List A} {h : Heap} : callW E p 54 args h = (execW E 54 p (((Go.Proofs.Tryz.f54.body).getD .skip).hide [(3, L_54_3)]) (initFr args) 0 h).bind (resX E.P E.feed false p Go.Proofs.Tryz.f54.results.toList) := callW_eq Go.Proofs.Tryz.f54 (by kernel_rfl) (by kernel_rfl) (by kernel_rfl) rfl (by kernel_rfl)
theorem eq_56 {p : Id} {args : List A} {h : Heap} : callW E p 56 args h = (execW E 56 p ((Go.Proofs.Tryz.f56.body).getD .skip) (initFr args) 0 h).bind (resX E.P E.feed false p Go.Proofs.Tryz.f56.results.toList) := callW_eq Go.Proofs.Tryz.f56 (by kernel_rfl) (by kernel_rfl) (by kernel_rfl) rfl (by kernel_rfl)
theorem eq_57 {p : Id} {args : List A} {h : Heap} : callW E p 57 args h = (execW E 57 p ((Go.Proofs.Tryz.f57.body).getD .skip) (initFr args) 0 h).bind (resX E.P E.feed false p Go.Proofs.Tryz.f57.results.toList) := callW_eq Go.Proofs.Tryz.f57 (by kernel_rfl) (by kernel_rfl) (by kernel_rfl) rfl (by kernel_rfl)
theorem eq_69 {p : Id} {args : List A} {h : Heap} : callW E p 69 args h = (execW E 69 p ((Go.Proofs.Tryz.f69.body).getD .skip) (initFr args) 0 h).bind (resX E.P E.feed true p Go.Proofs.Tryz.f69.results.toList) := callW_eq Go.Proofs.Tryz.f69 (by kernel_rfl) (by kernel_rfl) (by kernel_rfl) rfl (by kernel_rfl)
theorem eq_70 {p : Id} {args : List A} {h : Heap} : callW E p 70 args h = (execW E 70 p ((Go.Proofs.Tryz.f70.body).getD .skip) (initFr args) 0 h).bind (resX E.P E.feed true p Go.Proofs.Tryz.f70.results.toList) := callW_eq Go.Proofs.Tryz.f70 (by kernel_rfl) (by kernel_rfl) (by kernel_rfl) rfl (by kernel_rfl)
theorem rd_80_3 {p : Id} {L : List Nat} {c0 c : Nat} {fr : Fr} {h : Heap} : iterW E 80 p L L_80_3 c0 fr c h = (execW E 80 p ((((Go.Proofs.Tryz.f80.body).getD .skip).loopAt 3).getD .skip) fr c h).bind (loopX E 80 p L L_80_3 c0) := iterW_eq2 (by kernel_rfl)
theorem eq_80 {p : Id} {args : List A} {h : Heap} : callW E p 80 args h = (execW E 80 p (((Go.Proofs.Tryz.f80.body).getD .skip).hide [(3, L_80_3)]) (initFr args) 0 h).bind (resX E.P E.feed false p Go.Proofs.Tryz.f80.results.toList) := callW_eq Go.Proofs.Tryz.f80 (by kernel_rfl) (by kernel_rfl) (by kernel_rfl) rfl (by kernel_rfl)
theorem eq_82 {p : Id} {args : List A} {h : Heap} : callW E p 82 args h = (execW E 82 p ((Go.Proofs.Tryz.f82.body).getD .skip) (initFr args) 0 h).bind (resX E.P E.feed false p Go.Proofs.Tryz.f82.results.toList) := callW_eq Go.Proofs.Tryz.f82 (by kernel_rfl) (by kernel_rfl) (by kernel_rfl) rfl (by kernel_rfl)
theorem eq_101 {p : Id} {args : List A} {h : Heap} : callW E p 101 args h = (execW E 101 p ((Go.Proofs.Tryz.f101.body).getD .skip) (initFr args) 0 h).bind (resX E.P E.feed false p Go.Proofs.Tryz.f101.results.toList) := callW_eq Go.Proofs.Tryz.f101 (by kernel_rfl) (by kernel_rfl) (by kernel_rfl) rfl (by kernel_rfl)
end Go.Ai.T

namespace Go.Ai.T
theorem envB_ok : envB E = true := by kernel_rfl
end Go.Ai.T

/- The environment of the evaluator is sound for this program. -/
namespace Go.Ai.T
open Go
theorem envS_ok {B : Nat} {W : World} : EnvOK E B W := by
  refine env_ok envB_ok ?_ ?_
  · intro f g hfg
    simp only [E, prim] at hfg
    cases hfg
  · intro f g hfg
    simp only [E, prim] at hfg
    cases hfg
end Go.Ai.T

