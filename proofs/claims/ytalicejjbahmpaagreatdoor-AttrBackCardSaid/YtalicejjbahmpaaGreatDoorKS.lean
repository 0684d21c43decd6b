/- Part KS of the proof that a law of this program answers yes at every input: no conditions beyond the given statement. -/
import Derived.KernelRfl
import Derived.Test.YtalicejjbahmpaaGreatDoorProg
import Derived.Shelf.Small.Strs
import Derived.Shelf.SlicesE.Clone
import Derived.Below
import Derived.Test.YtalicejjbahmpaaGreatDoorKD
import Derived.Test.YtalicejjbahmpaaGreatDoorKC
import Derived.Test.YtalicejjbahmpaaGreatDoorKM
import Derived.Test.YtalicejjbahmpaaGreatDoorKN
set_option linter.unusedSimpArgs false
set_option linter.unusedVariables false
set_option linter.all false
namespace Go.Ai.T0
open Go
noncomputable def prim : Nat → Option (Id → List A → Heap → Option (A × Heap))
 | 49 => some stringsCompare
 | _ => none
def drawTab : List ((Nat × Nat) × List (Nat × Nat)) := [((12, 6), []), ((80, 1), [(4, 2)]), ((81, 4), []), ((81, 6), []), ((82, 5), []), ((82, 11), []), ((82, 17), []), ((82, 23), []), ((82, 35), []), ((142, 3), [])]
def liveTab : List ((Nat × Nat) × List Nat) := [((12, 4), [0, 2, 3]), ((46, 3), [1, 5, 8, 9, 10]), ((48, 2), [0, 1, 2, 6, 7, 8]), ((48, 7), [0, 1, 2, 6]), ((48, 9), [0, 1, 2, 6, 7, 8]), ((81, 1), [0, 1, 2, 3, 8]), ((81, 4), [0, 1, 2, 3, 8, 9]), ((82, 3), [0, 1, 4, 10, 11]), ((82, 9), [0, 10, 13]), ((82, 15), [0, 2, 4, 14, 15]), ((82, 21), [0, 14, 17]), ((82, 33), [0, 1, 2, 3, 4, 18, 19, 20, 21, 22]), ((121, 3), [1, 5, 8, 9, 10]), ((122, 2), [0, 2, 4, 10, 11]), ((142, 1), [0, 1, 2, 3, 10])]
noncomputable def E : Env where
 P := Go.Proofs.Tryz.prog
 frz t := [74, 178].contains t
 prim := prim
 keep f := [35, 66, 68].contains f
 raw f := false
 draw f i := (drawTab.find? fun q => q.1.1 == f && q.1.2 == i).map (·.2)
 live f i := ((liveTab.find? fun q => q.1.1 == f && q.1.2 == i).map (·.2)).getD []
theorem E_P : E.P = Go.Proofs.Tryz.prog := rfl
@[simp] theorem raw_E (f : Nat) : E.raw f = false := rfl
@[simp] theorem bytesT_36 : bytesT E.P 36 = some 120 := by kernel_rfl
@[simp] theorem bytesT_38 : bytesT E.P 38 = some 160 := by kernel_rfl
@[simp] theorem fieldT_36_4 : fieldT E.P 36 4 = some 4 := by kernel_rfl
@[simp] theorem fieldT_36_5 : fieldT E.P 36 5 = some 5 := by kernel_rfl
@[simp] theorem fieldT_38_0 : fieldT E.P 38 0 = some 0 := by kernel_rfl
@[simp] theorem fieldT_38_2 : fieldT E.P 38 2 = some 2 := by kernel_rfl
@[simp] theorem kindT_22 : kindT E.P 22 = Kd.slice 38 := by kernel_rfl
@[simp] theorem kindT_3 : kindT E.P 3 = Kd.int IntKind.i64 := by kernel_rfl
@[simp] theorem kindT_34 : kindT E.P 34 = Kd.slice 36 := by kernel_rfl
@[simp] theorem kindT_36 : kindT E.P 36 = Kd.struct := by kernel_rfl
@[simp] theorem kindT_38 : kindT E.P 38 = Kd.struct := by kernel_rfl
@[simp] theorem kindT_9 : kindT E.P 9 = Kd.str := by kernel_rfl
@[simp] theorem kindT_97 : kindT E.P 97 = Kd.int IntKind.u64 := by kernel_rfl
@[simp] theorem shapeT_22 : shapeT E.P 22 = some (1, false) := by kernel_rfl
@[simp] theorem shapeT_34 : shapeT E.P 34 = some (1, false) := by kernel_rfl
@[simp] theorem shapeT_36 : shapeT E.P 36 = some (8, true) := by kernel_rfl
@[simp] theorem shapeT_38 : shapeT E.P 38 = some (11, true) := by kernel_rfl
@[simp] theorem shapeT_9 : shapeT E.P 9 = some (1, false) := by kernel_rfl
@[simp] theorem szT_22 : szT E.P 22 = some 1 := by kernel_rfl
@[simp] theorem szT_34 : szT E.P 34 = some 1 := by kernel_rfl
@[simp] theorem szT_36 : szT E.P 36 = some 8 := by kernel_rfl
@[simp] theorem szT_38 : szT E.P 38 = some 11 := by kernel_rfl
@[simp] theorem und_3 : (E.P.underlying 3).isSome = true := by kernel_rfl
@[simp] theorem und_97 : (E.P.underlying 97).isSome = true := by kernel_rfl
@[simp] theorem zeroT_36 : zeroT E.P 36 = some [A.int IntKind.i64 0, A.str [], A.bool false, A.int IntKind.u64 0, A.nils, A.nils, A.str [], A.str []] := by kernel_rfl
@[simp] theorem zeroT_38 : zeroT E.P 38 = some [A.str [], A.bool false, A.int IntKind.i64 0, A.str [], A.bool false, A.int IntKind.u64 0, A.nils, A.nils, A.str [], A.str [], A.str []] := by kernel_rfl
@[simp] theorem draw_12_6 : E.draw 12 6 = some [] := by kernel_rfl
@[simp] theorem draw_80_1 : E.draw 80 1 = some [(4, 2)] := by kernel_rfl
@[simp] theorem draw_81_4 : E.draw 81 4 = some [] := by kernel_rfl
@[simp] theorem draw_81_6 : E.draw 81 6 = some [] := by kernel_rfl
@[simp] theorem draw_82_5 : E.draw 82 5 = some [] := by kernel_rfl
@[simp] theorem draw_82_11 : E.draw 82 11 = some [] := by kernel_rfl
@[simp] theorem draw_82_17 : E.draw 82 17 = some [] := by kernel_rfl
@[simp] theorem draw_82_23 : E.draw 82 23 = some [] := by kernel_rfl
@[simp] theorem draw_82_35 : E.draw 82 35 = some [] := by kernel_rfl
@[simp] theorem draw_142_3 : E.draw 142 3 = some [] := by kernel_rfl
@[simp] theorem live_12_4 : E.live 12 4 = [0, 2, 3] := by kernel_rfl
@[simp] theorem live_46_3 : E.live 46 3 = [1, 5, 8, 9, 10] := by kernel_rfl
@[simp] theorem live_48_2 : E.live 48 2 = [0, 1, 2, 6, 7, 8] := by kernel_rfl
@[simp] theorem live_48_7 : E.live 48 7 = [0, 1, 2, 6] := by kernel_rfl
@[simp] theorem live_48_9 : E.live 48 9 = [0, 1, 2, 6, 7, 8] := by kernel_rfl
@[simp] theorem live_81_1 : E.live 81 1 = [0, 1, 2, 3, 8] := by kernel_rfl
@[simp] theorem live_81_4 : E.live 81 4 = [0, 1, 2, 3, 8, 9] := by kernel_rfl
@[simp] theorem live_82_3 : E.live 82 3 = [0, 1, 4, 10, 11] := by kernel_rfl
@[simp] theorem live_82_9 : E.live 82 9 = [0, 10, 13] := by kernel_rfl
@[simp] theorem live_82_15 : E.live 82 15 = [0, 2, 4, 14, 15] := by kernel_rfl
@[simp] theorem live_82_21 : E.live 82 21 = [0, 14, 17] := by kernel_rfl
@[simp] theorem live_82_33 : E.live 82 33 = [0, 1, 2, 3, 4, 18, 19, 20, 21, 22] := by kernel_rfl
@[simp] theorem live_121_3 : E.live 121 3 = [1, 5, 8, 9, 10] := by kernel_rfl
@[simp] theorem live_122_2 : E.live 122 2 = [0, 2, 4, 10, 11] := by kernel_rfl
@[simp] theorem live_142_1 : E.live 142 1 = [0, 1, 2, 3, 10] := by kernel_rfl
noncomputable def L_12_4 : Code := ((Go.Proofs.Tryz.f12.body.getD .skip).loopAt 4).getD .skip
noncomputable def L_46_3 : Code := ((Go.Proofs.Tryz.f46.body.getD .skip).loopAt 3).getD .skip
noncomputable def L_48_2 : Code := ((Go.Proofs.Tryz.f48.body.getD .skip).loopAt 2).getD .skip
noncomputable def L_48_7 : Code := ((Go.Proofs.Tryz.f48.body.getD .skip).loopAt 7).getD .skip
noncomputable def L_48_9 : Code := ((Go.Proofs.Tryz.f48.body.getD .skip).loopAt 9).getD .skip
noncomputable def L_81_1 : Code := ((Go.Proofs.Tryz.f81.body.getD .skip).loopAt 1).getD .skip
noncomputable def L_81_4 : Code := ((Go.Proofs.Tryz.f81.body.getD .skip).loopAt 4).getD .skip
noncomputable def L_82_3 : Code := ((Go.Proofs.Tryz.f82.body.getD .skip).loopAt 3).getD .skip
noncomputable def L_82_9 : Code := ((Go.Proofs.Tryz.f82.body.getD .skip).loopAt 9).getD .skip
noncomputable def L_82_15 : Code := ((Go.Proofs.Tryz.f82.body.getD .skip).loopAt 15).getD .skip
noncomputable def L_82_21 : Code := ((Go.Proofs.Tryz.f82.body.getD .skip).loopAt 21).getD .skip
noncomputable def L_82_33 : Code := ((Go.Proofs.Tryz.f82.body.getD .skip).loopAt 33).getD .skip
noncomputable def L_121_3 : Code := ((Go.Proofs.Tryz.f121.body.getD .skip).loopAt 3).getD .skip
noncomputable def L_122_2 : Code := ((Go.Proofs.Tryz.f122.body.getD .skip).loopAt 2).getD .skip
noncomputable def L_142_1 : Code := ((Go.Proofs.Tryz.f142.body.getD .skip).loopAt 1).getD .skip
@[simp] theorem key_12_4 : L_12_4.key = 4 := by kernel_rfl
@[simp] theorem key_46_3 : L_46_3.key = 3 := by kernel_rfl
@[simp] theorem key_48_2 : L_48_2.key = 2 := by kernel_rfl
@[simp] theorem key_48_7 : L_48_7.key = 7 := by kernel_rfl
@[simp] theorem key_48_9 : L_48_9.key = 9 := by kernel_rfl
@[simp] theorem key_81_1 : L_81_1.key = 1 := by kernel_rfl
@[simp] theorem key_81_4 : L_81_4.key = 4 := by kernel_rfl
@[simp] theorem key_82_3 : L_82_3.key = 3 := by kernel_rfl
@[simp] theorem key_82_9 : L_82_9.key = 9 := by kernel_rfl
@[simp] theorem key_82_15 : L_82_15.key = 15 := by kernel_rfl
@[simp] theorem key_82_21 : L_82_21.key = 21 := by kernel_rfl
@[simp] theorem key_82_33 : L_82_33.key = 33 := by kernel_rfl
@[simp] theorem key_121_3 : L_121_3.key = 3 := by kernel_rfl
@[simp] theorem key_122_2 : L_122_2.key = 2 := by kernel_rfl
@[simp] theorem key_142_1 : L_142_1.key = 1 := by kernel_rfl
theorem rd_12_4 {p : Id} {L : List Nat} {c0 c : Nat} {fr : Fr} {h : Heap} : iterW E 12 p L L_12_4 c0 fr c h = (execW E 12 p ((((Go.Proofs.Tryz.f12.body).getD .skip).loopAt 4).getD .skip) fr c h).bind (loopX E 12 p L L_12_4 c0) := iterW_eq2 (by kernel_rfl)
theorem eq_12 {p : Id} {args : List A} {h : Heap} : callW E p 12 args h = (execW E 12 p (((Go.Proofs.Tryz.f12.body).getD .skip).hide [(4, L_12_4)]) (initFr args) 0 h).bind (resX E.P false p Go.Proofs.Tryz.f12.results.toList) := callW_eq Go.Proofs.Tryz.f12 (by kernel_rfl) (by kernel_rfl) (by kernel_rfl) rfl (by kernel_rfl)
theorem eq_23 {p : Id} {args : List A} {h : Heap} : callW E p 23 args h = (execW E 23 p ((Go.Proofs.Tryz.f23.body).getD .skip) (initFr args) 0 h).bind (resX E.P false p Go.Proofs.Tryz.f23.results.toList) := callW_eq Go.Proofs.Tryz.f23 (by kernel_rfl) (by kernel_rfl) (by kernel_rfl) rfl (by kernel_rfl)
theorem eq_24 {p : Id} {args : List A} {h : Heap} : callW E p 24 args h = (execW E 24 p ((Go.Proofs.Tryz.f24.body).getD .skip) (initFr args) 0 h).bind (resX E.P false p Go.Proofs.Tryz.f24.results.toList) := callW_eq Go.Proofs.Tryz.f24 (by kernel_rfl) (by kernel_rfl) (by kernel_rfl) rfl (by kernel_rfl)
theorem eq_25 {p : Id} {args : List A} {h : Heap} : callW E p 25 args h = (execW E 25 p ((Go.Proofs.Tryz.f25.body).getD .skip) (initFr args) 0 h).bind (resX E.P false p Go.Proofs.Tryz.f25.results.toList) := callW_eq Go.Proofs.Tryz.f25 (by kernel_rfl) (by kernel_rfl) (by kernel_rfl) rfl (by kernel_rfl)
theorem rd_46_3 {p : Id} {L : List Nat} {c0 c : Nat} {fr : Fr} {h : Heap} : iterW E 46 p L L_46_3 c0 fr c h = (execW E 46 p ((((Go.Proofs.Tryz.f46.body).getD .skip).loopAt 3).getD .skip) fr c h).bind (loopX E 46 p L L_46_3 c0) := iterW_eq2 (by kernel_rfl)
theorem eq_46 {p : Id} {args : List A} {h : Heap} : callW E p 46 args h = (execW E 46 p (((Go.Proofs.Tryz.f46.body).getD .skip).hide [(3, L_46_3)]) (initFr args) 0 h).bind (resX E.P false p Go.Proofs.Tryz.f46.results.toList) := callW_eq Go.Proofs.Tryz.f46 (by kernel_rfl) (by kernel_rfl) (by kernel_rfl) rfl (by kernel_rfl)
theorem eq_47 {p : Id} {args : List A} {h : Heap} : callW E p 47 args h = (execW E 47 p ((Go.Proofs.Tryz.f47.body).getD .skip) (initFr args) 0 h).bind (resX E.P false p Go.Proofs.Tryz.f47.results.toList) := callW_eq Go.Proofs.Tryz.f47 (by kernel_rfl) (by kernel_rfl) (by kernel_rfl) rfl (by kernel_rfl)
theorem rd_48_2 {p : Id} {L : List Nat} {c0 c : Nat} {fr : Fr} {h : Heap} : iterW E 48 p L L_48_2 c0 fr c h = (execW E 48 p ((((Go.Proofs.Tryz.f48.body).getD .skip).loopAt 2).getD .skip) fr c h).bind (loopX E 48 p L L_48_2 c0) := iterW_eq2 (by kernel_rfl)
theorem rd_48_7 {p : Id} {L : List Nat} {c0 c : Nat} {fr : Fr} {h : Heap} : iterW E 48 p L L_48_7 c0 fr c h = (execW E 48 p (((((Go.Proofs.Tryz.f48.body).getD .skip).loopAt 7).getD .skip).hide [(9, L_48_9)]) fr c h).bind (loopX E 48 p L L_48_7 c0) := iterW_eq2 (by kernel_rfl)
theorem rd_48_9 {p : Id} {L : List Nat} {c0 c : Nat} {fr : Fr} {h : Heap} : iterW E 48 p L L_48_9 c0 fr c h = (execW E 48 p ((((Go.Proofs.Tryz.f48.body).getD .skip).loopAt 9).getD .skip) fr c h).bind (loopX E 48 p L L_48_9 c0) := iterW_eq2 (by kernel_rfl)
theorem eq_48 {p : Id} {args : List A} {h : Heap} : callW E p 48 args h = (execW E 48 p (((Go.Proofs.Tryz.f48.body).getD .skip).hide [(2, L_48_2), (7, L_48_7)]) (initFr args) 0 h).bind (resX E.P false p Go.Proofs.Tryz.f48.results.toList) := callW_eq Go.Proofs.Tryz.f48 (by kernel_rfl) (by kernel_rfl) (by kernel_rfl) rfl (by kernel_rfl)
theorem eq_80 {p : Id} {args : List A} {h : Heap} : callW E p 80 args h = (execW E 80 p ((Go.Proofs.Tryz.f80.body).getD .skip) (initFr args) 0 h).bind (resX E.P false p Go.Proofs.Tryz.f80.results.toList) := callW_eq Go.Proofs.Tryz.f80 (by kernel_rfl) (by kernel_rfl) (by kernel_rfl) rfl (by kernel_rfl)
theorem rd_81_1 {p : Id} {L : List Nat} {c0 c : Nat} {fr : Fr} {h : Heap} : iterW E 81 p L L_81_1 c0 fr c h = (execW E 81 p (((((Go.Proofs.Tryz.f81.body).getD .skip).loopAt 1).getD .skip).hide [(4, L_81_4)]) fr c h).bind (loopX E 81 p L L_81_1 c0) := iterW_eq2 (by kernel_rfl)
theorem rd_81_4 {p : Id} {L : List Nat} {c0 c : Nat} {fr : Fr} {h : Heap} : iterW E 81 p L L_81_4 c0 fr c h = (execW E 81 p ((((Go.Proofs.Tryz.f81.body).getD .skip).loopAt 4).getD .skip) fr c h).bind (loopX E 81 p L L_81_4 c0) := iterW_eq2 (by kernel_rfl)
theorem eq_81 {p : Id} {args : List A} {h : Heap} : callW E p 81 args h = (execW E 81 p (((Go.Proofs.Tryz.f81.body).getD .skip).hide [(1, L_81_1)]) (initFr args) 0 h).bind (resX E.P false p Go.Proofs.Tryz.f81.results.toList) := callW_eq Go.Proofs.Tryz.f81 (by kernel_rfl) (by kernel_rfl) (by kernel_rfl) rfl (by kernel_rfl)
theorem rd_82_3 {p : Id} {L : List Nat} {c0 c : Nat} {fr : Fr} {h : Heap} : iterW E 82 p L L_82_3 c0 fr c h = (execW E 82 p ((((Go.Proofs.Tryz.f82.body).getD .skip).loopAt 3).getD .skip) fr c h).bind (loopX E 82 p L L_82_3 c0) := iterW_eq2 (by kernel_rfl)
theorem rd_82_9 {p : Id} {L : List Nat} {c0 c : Nat} {fr : Fr} {h : Heap} : iterW E 82 p L L_82_9 c0 fr c h = (execW E 82 p ((((Go.Proofs.Tryz.f82.body).getD .skip).loopAt 9).getD .skip) fr c h).bind (loopX E 82 p L L_82_9 c0) := iterW_eq2 (by kernel_rfl)
theorem rd_82_15 {p : Id} {L : List Nat} {c0 c : Nat} {fr : Fr} {h : Heap} : iterW E 82 p L L_82_15 c0 fr c h = (execW E 82 p ((((Go.Proofs.Tryz.f82.body).getD .skip).loopAt 15).getD .skip) fr c h).bind (loopX E 82 p L L_82_15 c0) := iterW_eq2 (by kernel_rfl)
theorem rd_82_21 {p : Id} {L : List Nat} {c0 c : Nat} {fr : Fr} {h : Heap} : iterW E 82 p L L_82_21 c0 fr c h = (execW E 82 p ((((Go.Proofs.Tryz.f82.body).getD .skip).loopAt 21).getD .skip) fr c h).bind (loopX E 82 p L L_82_21 c0) := iterW_eq2 (by kernel_rfl)
theorem rd_82_33 {p : Id} {L : List Nat} {c0 c : Nat} {fr : Fr} {h : Heap} : iterW E 82 p L L_82_33 c0 fr c h = (execW E 82 p ((((Go.Proofs.Tryz.f82.body).getD .skip).loopAt 33).getD .skip) fr c h).bind (loopX E 82 p L L_82_33 c0) := iterW_eq2 (by kernel_rfl)
theorem eq_82 {p : Id} {args : List A} {h : Heap} : callW E p 82 args h = (execW E 82 p (((Go.Proofs.Tryz.f82.body).getD .skip).hide [(3, L_82_3), (9, L_82_9), (15, L_82_15), (21, L_82_21), (33, L_82_33)]) (initFr args) 0 h).bind (resX E.P false p Go.Proofs.Tryz.f82.results.toList) := callW_eq Go.Proofs.Tryz.f82 (by kernel_rfl) (by kernel_rfl) (by kernel_rfl) rfl (by kernel_rfl)
theorem rd_121_3 {p : Id} {L : List Nat} {c0 c : Nat} {fr : Fr} {h : Heap} : iterW E 121 p L L_121_3 c0 fr c h = (execW E 121 p ((((Go.Proofs.Tryz.f121.body).getD .skip).loopAt 3).getD .skip) fr c h).bind (loopX E 121 p L L_121_3 c0) := iterW_eq2 (by kernel_rfl)
theorem eq_121 {p : Id} {args : List A} {h : Heap} : callW E p 121 args h = (execW E 121 p (((Go.Proofs.Tryz.f121.body).getD .skip).hide [(3, L_121_3)]) (initFr args) 0 h).bind (resX E.P false p Go.Proofs.Tryz.f121.results.toList) := callW_eq Go.Proofs.Tryz.f121 (by kernel_rfl) (by kernel_rfl) (by kernel_rfl) rfl (by kernel_rfl)
theorem rd_122_2 {p : Id} {L : List Nat} {c0 c : Nat} {fr : Fr} {h : Heap} : iterW E 122 p L L_122_2 c0 fr c h = (execW E 122 p ((((Go.Proofs.Tryz.f122.body).getD .skip).loopAt 2).getD .skip) fr c h).bind (loopX E 122 p L L_122_2 c0) := iterW_eq2 (by kernel_rfl)
theorem eq_122 {p : Id} {args : List A} {h : Heap} : callW E p 122 args h = (execW E 122 p (((Go.Proofs.Tryz.f122.body).getD .skip).hide [(2, L_122_2)]) (initFr args) 0 h).bind (resX E.P false p Go.Proofs.Tryz.f122.results.toList) := callW_eq Go.Proofs.Tryz.f122 (by kernel_rfl) (by kernel_rfl) (by kernel_rfl) rfl (by kernel_rfl)
theorem rd_142_1 {p : Id} {L : List Nat} {c0 c : Nat} {fr : Fr} {h : Heap} : iterW E 142 p L L_142_1 c0 fr c h = (execW E 142 p ((((Go.Proofs.Tryz.f142.body).getD .skip).loopAt 1).getD .skip) fr c h).bind (loopX E 142 p L L_142_1 c0) := iterW_eq2 (by kernel_rfl)
theorem eq_142 {p : Id} {args : List A} {h : Heap} : callW E p 142 args h = (execW E 142 p (((Go.Proofs.Tryz.f142.body).getD .skip).hide [(1, L_142_1)]) (initFr args) 0 h).bind (resX E.P false p Go.Proofs.Tryz.f142.results.toList) := callW_eq Go.Proofs.Tryz.f142 (by kernel_rfl) (by kernel_rfl) (by kernel_rfl) rfl (by kernel_rfl)
end Go.Ai.T0

namespace Go.Proofs
open Go.Shelf Go.RowKit
def Tryz.lays106_ren : Go.Shelf.Ren := ⟨fun | 106 => 49 | 213 => 83 | 265 => 123 | n => n, fun | 3 => 3 | 9 => 9 | n => n, fun | n => n⟩
theorem Tryz.lays106 : Go.Proofs.Lays.n106 Tryz.prog Tryz.lays106_ren := {
 mixed := by kernel_rfl
 f106 := Tryz.func49.trans (congrArg some (by kernel_rfl))
 f213 := Tryz.func83.trans (congrArg some (by kernel_rfl))
 f265 := Tryz.func123.trans (congrArg some (by kernel_rfl))
 t3 := Tryz.underlying3
 a3 := Tryz.isAgg3
 z3 := Tryz.sizeOf3
 v3 := Tryz.zeroValue3
 t9 := Tryz.underlying9
 a9 := Tryz.isAgg9
 z9 := Tryz.sizeOf9
 v9 := Tryz.zeroValue9 }
theorem Tryz.strings_Compare (a b : ByteArray) (w : World) : Calls Tryz.prog 49 #[.string a, .string b] w fun e w' => e = .returned (.int .i64 (Lib.compareBytes a.data.toList b.data.toList)) ∧ w' = w := Any.strings_Compare Tryz.lays106 a b w
def Tryz.lays41_ren : Go.Shelf.Ren := ⟨fun | 41 => 26 | n => n, fun | 4 => 4 | 22 => 22 | 23 => 38 | n => n, fun | n => n⟩
theorem Tryz.lays41 : Go.Proofs.SlLaysE0.n41 Tryz.prog Tryz.lays41_ren := {
 mixed := by kernel_rfl
 f41 := ⟨ "slices.Clone[[]hygrometer/api.KeyValue,hygrometer/api.KeyValue]", by kernel_rfl, Tryz.func26.trans (congrArg some (by kernel_rfl))⟩
 t4 := Tryz.underlying4
 a4 := Tryz.isAgg4
 z4 := Tryz.sizeOf4
 v4 := Tryz.zeroValue4
 t22 := Tryz.underlying22
 a22 := Tryz.isAgg22
 z22 := Tryz.sizeOf22
 v22 := Tryz.zeroValue22 }
theorem Tryz.slices_Clone (b off n c : Nat) (news : List Value) (w : World) (hl : news.length = n * 11) (hn : n ≤ maxLen) (hbig : n * 160 ≤ 140737488355328) (hc : ∀ j u, news[j]? = some u → w.cell? ⟨b, off + j, none⟩ = some u) (h1 : ∀ u ∈ news, u.oneCell' = true) :
  Calls Tryz.prog 26 #[.slice (some ⟨b, off, none⟩) n c] w fun e w' => ∃ v', e = .returned v' ∧ w'.ownsRow w.heap.size 38 11 v' n news ∧ v' ≠ .slice none 0 0 ∧ Below w.heap.size w w' := by
 obtain ⟨j, hj, hz⟩ : ∃ j, Tryz.prog.info? 38 = some j ∧ (j.zero.map fun z => (z.cells.size, j.size, j.bytes)) = some (11, 11, 160) := Option.bind_eq_some_iff.1 (show ((Tryz.prog.info? 38).bind fun j => j.zero.map fun z => (z.cells.size, j.size, j.bytes)) = some (11, 11, 160) by kernel_rfl)
 obtain ⟨z, hz0, hz⟩ := Option.map_eq_some_iff.1 hz
 simp only [Prod.mk.injEq] at hz
 obtain ⟨e1, e2, e3⟩ := hz
 exact AnyE.slices_Clone Tryz.lays41 j z 11 160 hj hz0 e2 e3 e1 (by omega) Tryz.sizeOf38 b off n c news w hl hn hbig hc h1
end Go.Proofs

namespace Go.Ai.T0
open Go
set_option maxRecDepth 100000
set_option maxHeartbeats 4000000
theorem upd_id {h : Heap} {id : Id} {cs : List A} (hh : h id = some cs) : upd h id cs = h := by
 funext i
 by_cases hi : i = id
 ·subst hi; simp [upd, hh]
 ·simp [upd, hi]
theorem cellsK_split {l : List KV} {i : Nat} {x : KV} (h : l[i]? = some x) : ∃ a b, l = a ++ x :: b ∧ a.length = i := by
 obtain ⟨hi, hx⟩ := List.getElem?_eq_some_iff.1 h
 refine ⟨l.take i, l.drop (i + 1), ?_, by simp; omega⟩
 rw [← hx, ← List.drop_eq_getElem_cons hi, List.take_append_drop]
theorem cellsK_get {l : List KV} {i : Nat} {x : KV} (h : l[i]? = some x) : ((cellsK l).drop (i * 11)).take 11 = encK x := by
 obtain ⟨a, b, rfl, rfl⟩ := cellsK_split h
 have e : cellsK (a ++ x :: b) = cellsK a ++ (encK x ++ cellsK b) := by simp [cellsK]
 rw [e, List.drop_left' (cellsK_len a), List.take_left' (encK_len x)]
theorem cellsK_set {l : List KV} {i : Nat} (h : i < l.length) (y : KV) : (cellsK l).take (i * 11) ++ (encK y ++ (cellsK l).drop (i * 11 + 11)) = cellsK (l.set i y) := by
 obtain ⟨a, b, hl, rfl⟩ := cellsK_split (List.getElem?_eq_getElem h)
 generalize l[a.length] = x at hl
 subst hl
 have e : cellsK (a ++ x :: b) = cellsK a ++ (encK x ++ cellsK b) := by simp [cellsK]
 have e2 : (a ++ x :: b).set a.length y = a ++ y :: b := by simp
 rw [e, e2, List.take_left' (cellsK_len a), ← List.append_assoc (cellsK a) (encK x), List.drop_left' (by rw [List.length_append, cellsK_len, encK_len])]
 simp [cellsK]
def _root_.Go.Ai.KV.key : KV → List UInt8
 | .mk k _ _ _ => k
theorem compareK (x y : KV) (p : Id) (h : Heap) : callW E p 25 [.agg (encK x), .agg (encK y)] h = some (.int .i64 (Lib.compareBytes x.key y.key), dropFrom p 0 h) := by
 have g : ∀ a b q h, callW E q 49 [.str a, .str b] h = some (.int .i64 (Lib.compareBytes a b), h) := fun a b q h => by
  rw [callW_prim (g := stringsCompare) rfl]; rfl
 obtain ⟨k, hs, v, u⟩ := x
 obtain ⟨k', hs', v', u'⟩ := y
 obtain ⟨_, _, _, _, _, _, _, _⟩ := v
 obtain ⟨_, _, _, _, _, _, _, _⟩ := v'
 rw [eq_25]
 simp -implicitDefEqProofs (maxSteps := 1000000) [Go.Proofs.Tryz.f25, Code.hide, Code.key, g, Go.Ai.KV.key]
def swp (l : List KV) (i j : Nat) : List KV := match l[i]?, l[j]? with
 | some x, some y => (l.set i y).set j x
 | _, _ => l
theorem swp_len (l : List KV) (i j : Nat) : (swp l i j).length = l.length := by
 unfold swp; split <;> simp
def swpN (a b : Nat) : Nat → Nat → List KV → List KV
 | 0, _, l => l
 | k + 1, i, l => swpN a b k (i + 1) (swp l (a + i) (b + i))
def srFr (id : Id) (n a b m i : Nat) : Fr := ((((bot.set 10 (.int .i64 i)).set 3 (.int .i64 m)).set 2 (.int .i64 b)).set 1 (.int .i64 a)).set 0 (.mslice id 0 n)
theorem swr_loop {p id : Id} (ap : Apart p id) {n a b m : Nat} (ha : a + m ≤ n) (hb : b + m ≤ n) (hn : n ≤ 1099511627776) : ∀ (k i : Nat) (l : List KV) (c0 c : Nat) (h : Heap), i + k = m → l.length = n → c0 ≤ c → h id = some (cellsK l) →
  iterW E 142 p [0, 1, 2, 3, 10] L_142_1 c0 (srFr id n a b m i) c h = some (.exit 0, srFr id n a b m m, c, upd (dropFrom p c0 h) id (cellsK (swpN a b k i l))) := by
 obtain ⟨f1, f2, f3, f4, f5, f6⟩ := ap.facts
 intro k
 induction k with
 | zero =>
  intro i l c0 c h hi hl hc hh
  obtain rfl : i = m := by omega
  have hlt' : ¬ (i : Int) < i := by omega
  unfold srFr
  rw [rd_142_1]
  generalize hr : execW E 142 p _ _ _ _ = e
  simp -implicitDefEqProofs (maxSteps := 1000000) [Go.Proofs.Tryz.f142, Code.loopAt, Code.key, hlt'] at hr
  subst hr
  rw [swpN, upd_id (h := dropFrom p c0 h) (by rw [f2, hh])]
  simp
 | succ k ih =>
  intro i l c0 c h hi hl hc hh
  have hlt' : (i : Int) < m := by omega
  have hw : IntKind.i64.wrap ((i : Int) + 1) = ((i + 1 : Nat) : Int) := by rw [wrap_i64 (by omega) (by omega)]; rfl
  have hwa : IntKind.i64.wrap ((a : Int) + (i : Int)) = ((a + i : Nat) : Int) := by rw [wrap_i64 (by omega) (by omega)]; omega
  have hwb : IntKind.i64.wrap ((b : Int) + (i : Int)) = ((b + i : Nat) : Int) := by rw [wrap_i64 (by omega) (by omega)]; omega
  obtain ⟨x, hx⟩ : ∃ x, l[a + i]? = some x := ⟨_, List.getElem?_eq_getElem (by omega)⟩
  obtain ⟨y, hy⟩ : ∃ y, l[b + i]? = some y := ⟨_, List.getElem?_eq_getElem (by omega)⟩
  have hcl := cellsK_len l
  have gx := cellsK_get hx
  have gy := cellsK_get hy
  have s1 := cellsK_set (l := l) (i := a + i) (by omega) y
  have s2 := cellsK_set (l := l.set (a + i) y) (i := b + i) (by simp; omega) x
  have hcl2 := cellsK_len (l.set (a + i) y)
  rw [List.length_set] at hcl2
  have la : (a + i) * 11 + 11 ≤ l.length * 11 := by omega
  have lb : (b + i) * 11 + 11 ≤ l.length * 11 := by omega
  have na : a + i < n := by omega
  have nb : b + i < n := by omega
  have na' : ((a + i : Nat) : Int) < n := by omega
  have nb' : ((b + i : Nat) : Int) < n := by omega
  have e := ih (i + 1) (swp l (a + i) (b + i)) c0 c (upd (dropFrom p c0 h) id (cellsK (swp l (a + i) (b + i)))) (by omega) (by rw [swp_len]; exact hl) hc (by simp)
  have hsw : swp l (a + i) (b + i) = (l.set (a + i) y).set (b + i) x := by unfold swp; rw [hx, hy]
  rw [f1, drop_drop_self, upd_upd, hsw] at e
  rw [swpN, hsw]
  unfold srFr at e ⊢
  rw [rd_142_1]
  generalize hr : execW E 142 p _ _ _ _ = ee
  simp -implicitDefEqProofs (maxSteps := 1000000) [-Int.natCast_add, Go.Proofs.Tryz.f142, Code.loopAt, Code.key, hlt', hw, hwa, hwb, hh, hcl, hcl2, gx, gy, la, lb, na, nb, na', nb', s1, s2, f1, f2, f3, f4, f5, f6, sameAt, beqL_refl] at hr
  subst hr
  simp [-Int.natCast_add]
  rw [f1, e]
end Go.Ai.T0

namespace Go.Ai.T0
open Go
set_option maxRecDepth 100000
set_option maxHeartbeats 4000000
theorem swp_two (P Q R : List KV) (x y : KV) : swp (P ++ x :: (Q ++ y :: R)) P.length (P.length + 1 + Q.length) = P ++ y :: (Q ++ x :: R) := by
 have h1 : (P ++ x :: (Q ++ y :: R))[P.length]? = some x := by simp
 have e : P ++ x :: (Q ++ y :: R) = (P ++ x :: Q) ++ y :: R := by simp
 have hl : (P ++ x :: Q).length = P.length + 1 + Q.length := by simp; omega
 have h2 : (P ++ x :: (Q ++ y :: R))[P.length + 1 + Q.length]? = some y := by rw [e, ← hl]; simp
 unfold swp
 rw [h1, h2]
 have e1 : (P ++ x :: (Q ++ y :: R)).set P.length y = (P ++ y :: Q) ++ y :: R := by simp
 have hl2 : (P ++ y :: Q).length = P.length + 1 + Q.length := by simp; omega
 dsimp only
 rw [e1, ← hl2]
 simp
theorem swpN_blocks : ∀ (X Y P M S : List KV) (a b i : Nat), X.length = Y.length → P.length = a + i → P.length + X.length + M.length = b + i →
  swpN a b X.length i (P ++ (X ++ (M ++ (Y ++ S)))) = P ++ (Y ++ (M ++ (X ++ S)))
 | [], [], P, M, S, a, b, i, _, _, _ => by simp [swpN]
 | [], _ :: _, _, _, _, _, _, _, h, _, _ => by cases h
 | _ :: _, [], _, _, _, _, _, _, h, _, _ => by cases h
 | x :: X, y :: Y, P, M, S, a, b, i, h, hp, hm => by
  simp only [List.length_cons] at h hm
  rw [List.length_cons, swpN]
  have e0 : P ++ (x :: X ++ (M ++ (y :: Y ++ S))) = P ++ x :: ((X ++ M) ++ y :: (Y ++ S)) := by simp
  have e1 : b + i = P.length + 1 + (X ++ M).length := by simp; omega
  rw [e0, ← hp, e1, swp_two]
  have ih := swpN_blocks X Y (P ++ [y]) (M ++ [x]) S a b (i + 1) (by omega) (by simp; omega) (by simp; omega)
  have e2 : P ++ y :: ((X ++ M) ++ x :: (Y ++ S)) = (P ++ [y]) ++ (X ++ ((M ++ [x]) ++ (Y ++ S))) := by simp
  rw [e2, ih]
  simp
theorem swr_ok {p id : Id} (ap : Apart p id) {P X M Y S : List KV} {n : Nat} (hxy : X.length = Y.length) (hn : (P ++ (X ++ (M ++ (Y ++ S)))).length = n) (hb : n ≤ 1099511627776) {f : A} {h : Heap} (hh : h id = some (cellsK (P ++ (X ++ (M ++ (Y ++ S)))))) :
  callW E p 142 [.mslice id 0 n, .int .i64 P.length, .int .i64 (P.length + X.length + M.length : Nat), .int .i64 X.length, .fn 25 []] h = some (.tuple [], upd (dropFrom p 0 h) id (cellsK (P ++ (Y ++ (M ++ (X ++ S)))))) := by
 obtain ⟨f1, f2, f3, f4, f5, f6⟩ := ap.facts
 simp only [List.length_append] at hn
 have g := fun h hh => swr_loop ap (n := n) (a := P.length) (b := P.length + X.length + M.length) (m := X.length) (by omega) (by omega) hb X.length 0 (P ++ (X ++ (M ++ (Y ++ S)))) 0 0 h (by omega) (by simp only [List.length_append]; omega) (Nat.le_refl _) hh
 have e := swpN_blocks X Y P M S P.length (P.length + X.length + M.length) 0 hxy (by omega) (by omega)
 simp only [e, srFr, nat0] at g
 rw [eq_142]
 simp -implicitDefEqProofs (maxSteps := 1000000) [-Int.natCast_add, Go.Proofs.Tryz.f142, Code.hide, Code.key, g, hh, f1, f2, f3, f4, f5, f6]
def rtFr (id : Id) (n m i j : Nat) : Fr := ((((bot.set 11 (.int .i64 j)).set 10 (.int .i64 i)).set 4 (.fn 25 [])).set 2 (.int .i64 m)).set 0 (.mslice id 0 n)
theorem rt_loop {p id : Id} (ap : Apart p id) {n m : Nat} (hb : n ≤ 1099511627776) : ∀ (s : Nat) (U V P S : List KV), U.length + V.length ≤ s → U ≠ [] → V ≠ [] → P.length + U.length = m → (P ++ (U ++ (V ++ S))).length = n →
  ∃ (U' V' P' S' : List KV) (K : Nat), U'.length = V'.length ∧ P'.length + U'.length = m ∧ P' ++ (V' ++ (U' ++ S')) = P ++ (V ++ (U ++ S)) ∧ (P' ++ (U' ++ (V' ++ S'))).length = n ∧
   ∀ (c0 c : Nat) (h : Heap), c0 ≤ c → h id = some (cellsK (P ++ (U ++ (V ++ S)))) →
   iterW E 122 p [0, 2, 4, 10, 11] L_122_2 c0 (rtFr id n m U.length V.length) c h = some (.exit 0, rtFr id n m U'.length V'.length, c + K, upd (dropFrom p c0 h) id (cellsK (P' ++ (U' ++ (V' ++ S'))))) := by
 obtain ⟨f1, f2, f3, f4, f5, f6⟩ := ap.facts
 intro s
 induction s with
 | zero =>
  intro U V P S hs hu
  have : U.length ≠ 0 := fun e => hu (List.eq_nil_of_length_eq_zero e)
  omega
 | succ s ih =>
  intro U V P S hs hu hv hm hn
  have hu0 : U.length ≠ 0 := fun e => hu (List.eq_nil_of_length_eq_zero e)
  have hv0 : V.length ≠ 0 := fun e => hv (List.eq_nil_of_length_eq_zero e)
  have hn' := hn
  simp only [List.length_append] at hn'
  by_cases he : U.length = V.length
  ·refine ⟨U, V, P, S, 0, he, hm, rfl, hn, fun c0 c h hc hh => ?_⟩
   have he' : (U.length : Int) = V.length := by omega
   unfold rtFr
   rw [rd_122_2]
   generalize hr : execW E 122 p _ _ _ _ = e
   simp -implicitDefEqProofs (maxSteps := 1000000) [Go.Proofs.Tryz.f122, Code.loopAt, Code.key, he, he'] at hr
   subst hr
   rw [upd_id (h := dropFrom p c0 h) (by rw [f2, hh])]
   simp [he]
  have he' : ¬ (U.length : Int) = V.length := by omega
  have w1 : IntKind.i64.wrap ((m : Int) - (U.length : Int)) = (P.length : Int) := by rw [wrap_i64 (by omega) (by omega)]; omega
  by_cases hgt : V.length < U.length
  ·-- the head of U and V change places
   have hU : U = U.take V.length ++ U.drop V.length := (List.take_append_drop _ _).symm
   have lt : (U.take V.length).length = V.length := by simp; omega
   have ld : (U.drop V.length).length = U.length - V.length := by simp
   generalize U.take V.length = U1 at hU lt
   generalize U.drop V.length = U2 at hU ld
   subst hU
   have hl : (U1 ++ U2).length = U1.length + U2.length := List.length_append
   have hU2 : U2 ≠ [] := by intro e; have := congrArg List.length e; simp only [List.length_nil] at this; omega
   have hU1 : U1 ≠ [] := by intro e; have := congrArg List.length e; simp only [List.length_nil] at this; omega
   obtain ⟨U', V', P', S', K, q1, q2, q3, q4, q5⟩ := ih U2 U1 (P ++ V) S (by omega) hU2 hU1 (by simp; omega) (by simp only [List.length_append]; omega)
   refine ⟨U', V', P', S', 1 + K, q1, q2, by rw [q3]; simp, q4, fun c0 c h hc hh => ?_⟩
   have hgt' : (V.length : Int) < ((U1 ++ U2).length : Int) := by omega
   have w2 : IntKind.i64.wrap (((U1 ++ U2).length : Int) - (V.length : Int)) = (U2.length : Int) := by rw [wrap_i64 (by omega) (by omega)]; omega
   have hh' : h id = some (cellsK (P ++ (U1 ++ (U2 ++ (V ++ S))))) := by rw [hh]; simp
   have g := fun k h hh => swr_ok (ap.sub k) (P := P) (X := U1) (M := U2) (Y := V) (S := S) (n := n) lt (by simp only [List.length_append]; omega) hb (f := .nili) (h := h) hh
   have em : P.length + U1.length + U2.length = m := by omega
   rw [em, lt] at g
   have e := q5 c0 (c + 1) (upd (dropFrom p c0 h) id (cellsK (P ++ (V ++ (U2 ++ (U1 ++ S)))))) (by omega) (by simp)
   rw [f1, drop_drop_self, upd_upd, lt] at e
   unfold rtFr at e ⊢
   rw [rd_122_2]
   generalize hr : execW E 122 p _ _ _ _ = ee
   simp -implicitDefEqProofs (maxSteps := 1000000) [-Int.natCast_add, -List.length_append, Go.Proofs.Tryz.f122, Code.loopAt, Code.key, he', hgt', w1, w2, g, hh', f1, f2, f3, f4, f5, f6] at hr
   subst hr
   simp [-Int.natCast_add, -List.length_append, hc]
   rw [f1, show c + (1 + K) = c + 1 + K by omega]
   simpa [-Int.natCast_add, -List.length_append, hc] using e
  ·-- U and the tail of V change places
   have hlt : U.length < V.length := by omega
   have hV : V = V.take (V.length - U.length) ++ V.drop (V.length - U.length) := (List.take_append_drop _ _).symm
   have lt : (V.take (V.length - U.length)).length = V.length - U.length := by simp
   have ld : (V.drop (V.length - U.length)).length = U.length := by simp; omega
   generalize V.take (V.length - U.length) = V1 at hV lt
   generalize V.drop (V.length - U.length) = V2 at hV ld
   subst hV
   have hl : (V1 ++ V2).length = V1.length + V2.length := List.length_append
   have hV1 : V1 ≠ [] := by intro e; have := congrArg List.length e; simp only [List.length_nil] at this; omega
   have hV2 : V2 ≠ [] := by intro e; have := congrArg List.length e; simp only [List.length_nil] at this; omega
   obtain ⟨U', V', P', S', K, q1, q2, q3, q4, q5⟩ := ih V2 V1 P (U ++ S) (by omega) hV2 hV1 (by omega) (by simp only [List.length_append]; omega)
   refine ⟨U', V', P', S', 1 + K, q1, q2, by rw [q3]; simp, q4, fun c0 c h hc hh => ?_⟩
   have hgt' : ¬ ((V1 ++ V2).length : Int) < (U.length : Int) := by omega
   have w2 : IntKind.i64.wrap (((V1 ++ V2).length : Int) - (U.length : Int)) = (V1.length : Int) := by rw [wrap_i64 (by omega) (by omega)]; omega
   have w3 : IntKind.i64.wrap ((m : Int) + ((V1 ++ V2).length : Int)) = ((m + (V1 ++ V2).length : Nat) : Int) := by rw [wrap_i64 (by omega) (by omega)]; omega
   have w4 : IntKind.i64.wrap (((m + (V1 ++ V2).length : Nat) : Int) - (U.length : Int)) = ((m + V1.length : Nat) : Int) := by rw [wrap_i64 (by omega) (by omega)]; omega
   have hh' : h id = some (cellsK (P ++ (U ++ (V1 ++ (V2 ++ S))))) := by rw [hh]; simp
   have g := fun k h hh => swr_ok (ap.sub k) (P := P) (X := U) (M := V1) (Y := V2) (S := S) (n := n) (by omega) (by simp only [List.length_append]; omega) hb (f := .nili) (h := h) hh
   have em : P.length + U.length + V1.length = m + V1.length := by omega
   rw [em] at g
   have e := q5 c0 (c + 1) (upd (dropFrom p c0 h) id (cellsK (P ++ (V2 ++ (V1 ++ (U ++ S)))))) (by omega) (by simp)
   rw [f1, drop_drop_self, upd_upd, ld] at e
   unfold rtFr at e ⊢
   rw [rd_122_2]
   generalize hr : execW E 122 p _ _ _ _ = ee
   simp -implicitDefEqProofs (maxSteps := 1000000) [-Int.natCast_add, -List.length_append, Go.Proofs.Tryz.f122, Code.loopAt, Code.key, he', hgt', w1, w2, w3, w4, g, hh', f1, f2, f3, f4, f5, f6] at hr
   subst hr
   simp [-Int.natCast_add, -List.length_append, hc]
   rw [f1, show c + (1 + K) = c + 1 + K by omega]
   simpa [-Int.natCast_add, -List.length_append, hc] using e
end Go.Ai.T0

namespace Go.Ai.T0
open Go
set_option maxRecDepth 100000
set_option maxHeartbeats 4000000
theorem rot_ok {p id : Id} (ap : Apart p id) {P U V S : List KV} {n : Nat} (hu : U ≠ []) (hv : V ≠ []) (hn : (P ++ (U ++ (V ++ S))).length = n) (hb : n ≤ 1099511627776) {h : Heap} (hh : h id = some (cellsK (P ++ (U ++ (V ++ S))))) :
  callW E p 122 [.mslice id 0 n, .int .i64 P.length, .int .i64 (P.length + U.length : Nat), .int .i64 (P.length + U.length + V.length : Nat), .fn 25 []] h = some (.tuple [], upd (dropFrom p 0 h) id (cellsK (P ++ (V ++ (U ++ S))))) := by
 obtain ⟨f1, f2, f3, f4, f5, f6⟩ := ap.facts
 have hn' := hn
 simp only [List.length_append] at hn'
 obtain ⟨U', V', P', S', K, q1, q2, q3, q4, q5⟩ := rt_loop ap (m := P.length + U.length) hb (U.length + V.length) U V P S (Nat.le_refl _) hu hv rfl hn
 have hp : P'.length + U'.length = P.length + U.length := q2
 have q4' := q4
 simp only [List.length_append] at q4'
 have w1 : IntKind.i64.wrap (((P.length + U.length : Nat) : Int) - (P.length : Int)) = (U.length : Int) := by rw [wrap_i64 (by omega) (by omega)]; omega
 have w2 : IntKind.i64.wrap (((P.length + U.length + V.length : Nat) : Int) - ((P.length + U.length : Nat) : Int)) = (V.length : Int) := by rw [wrap_i64 (by omega) (by omega)]; omega
 have w3 : IntKind.i64.wrap (((P.length + U.length : Nat) : Int) - (U'.length : Int)) = (P'.length : Int) := by rw [wrap_i64 (by omega) (by omega)]; omega
 have g := fun h hh => q5 0 0 h (Nat.le_refl _) hh
 have g2 := fun k h hh => swr_ok (ap.sub k) (P := P') (X := U') (M := []) (Y := V') (S := S') (n := n) q1 (by simpa using q4) hb (f := .nili) (h := h) hh
 simp only [List.length_nil, Nat.add_zero, List.nil_append, hp] at g2
 rw [q3] at g2
 simp only [rtFr] at g
 rw [eq_122]
 simp -implicitDefEqProofs (maxSteps := 1000000) [-Int.natCast_add, -List.length_append, Go.Proofs.Tryz.f122, Code.hide, Code.key, w1, w2, w3, g, g2, hh, f1, f2, f3, f4, f5, f6]
theorem swp_adj (P R : List KV) (x y : KV) : swp (P ++ x :: y :: R) P.length (P.length + 1) = P ++ y :: x :: R := by
 have := swp_two P [] R x y
 simpa using this
theorem swp_comm (l : List KV) (i j : Nat) (h : i ≠ j) : swp l i j = swp l j i := by
 unfold swp
 cases h1 : l[i]? with
 | none => cases h2 : l[j]? <;> rfl
 | some x =>
  cases h2 : l[j]? with
  | none => rfl
  | some y => dsimp only; rw [List.set_comm _ _ h]
def shFr (id : Id) (n i k : Nat) : Fr := ((bot.set 13 (.int .i64 k)).set 10 (.int .i64 i)).set 0 (.mslice id 0 n)
theorem sh_loop {p id : Id} (ap : Apart p id) {n i : Nat} (hb : n ≤ 1099511627776) {x : KV} {S : List KV} : ∀ (B P : List KV) (c0 c : Nat) (h : Heap), P.length + B.length + 1 = i → (P ++ (x :: B ++ S)).length = n → c0 ≤ c → h id = some (cellsK (P ++ (x :: B ++ S))) →
  iterW E 82 p [0, 10, 13] L_82_9 c0 (shFr id n i P.length) c h = some (.exit 2, shFr id n i (P.length + B.length), c, upd (dropFrom p c0 h) id (cellsK (P ++ (B ++ x :: S)))) := by
 obtain ⟨f1, f2, f3, f4, f5, f6⟩ := ap.facts
 intro B
 induction B with
 | nil =>
  intro P c0 c h hi hl hc hh
  simp only [List.length_nil, Nat.add_zero] at hi
  subst hi
  have w1 : IntKind.i64.wrap (((P.length + 1 : Nat) : Int) - 1) = (P.length : Int) := by simp only [List.length_append, List.length_cons, List.length_nil] at hl; rw [wrap_i64 (by omega) (by omega)]; omega
  have hlt' : ¬ (P.length : Int) < P.length := by omega
  unfold shFr
  rw [rd_82_9]
  generalize hr : execW E 82 p _ _ _ _ = e
  simp -implicitDefEqProofs (maxSteps := 1000000) [-Int.natCast_add, Go.Proofs.Tryz.f82, Code.loopAt, Code.key, w1, hlt'] at hr
  subst hr
  have hh' : h id = some (cellsK (P ++ ([] ++ x :: S))) := by simpa using hh
  rw [upd_id (h := dropFrom p c0 h) (by rw [f2, hh'])]
  simp
 | cons y B ih =>
  intro P c0 c h hi hl hc hh
  have hl' := hl
  simp only [List.length_append, List.length_cons] at hl' hi
  have e := ih (P ++ [y]) c0 c (upd (dropFrom p c0 h) id (cellsK (P ++ [y] ++ (x :: B ++ S)))) (by simp; omega) (by simp; omega) hc (by simp)
  rw [f1, drop_drop_self, upd_upd] at e
  have w1 : IntKind.i64.wrap ((i : Int) - 1) = ((P.length + B.length + 1 : Nat) : Int) := by rw [wrap_i64 (by omega) (by omega)]; omega
  have w2 : IntKind.i64.wrap ((P.length : Int) + 1) = ((P.length + 1 : Nat) : Int) := by rw [wrap_i64 (by omega) (by omega)]; omega
  have hlt' : (P.length : Int) < ((P.length + B.length + 1 : Nat) : Int) := by omega
  have hl0 : P ++ (x :: y :: B ++ S) = P ++ x :: y :: (B ++ S) := by simp
  generalize hlq : P ++ (x :: y :: B ++ S) = l at *
  have hx : l[P.length]? = some x := by rw [hl0]; simp
  have hy : l[P.length + 1]? = some y := by rw [hl0]; simp
  have hcl := cellsK_len l
  have gx := cellsK_get hx
  have gy := cellsK_get hy
  have s1 := cellsK_set (l := l) (i := P.length) (by omega) y
  have s2 := cellsK_set (l := l.set P.length y) (i := P.length + 1) (by simp; omega) x
  rw [← List.append_assoc] at s1 s2
  have hcl2 := cellsK_len (l.set P.length y)
  rw [List.length_set] at hcl2
  have la : P.length * 11 + 11 ≤ l.length * 11 := by omega
  have lb : (P.length + 1) * 11 + 11 ≤ l.length * 11 := by omega
  have na : P.length < n := by omega
  have nb : P.length + 1 < n := by omega
  have na' : (P.length : Int) < n := by omega
  have nb' : ((P.length + 1 : Nat) : Int) < n := by omega
  have hsw : (l.set P.length y).set (P.length + 1) x = P ++ [y] ++ (x :: B ++ S) := by
   have := swp_adj P (B ++ S) x y
   rw [← hl0] at this
   unfold swp at this
   rw [hx, hy] at this
   simpa using this
  rw [hsw] at s2
  have ex : (P ++ [y]).length = P.length + 1 := by simp
  rw [ex, show P.length + 1 + B.length = P.length + (B.length + 1) by omega] at e
  unfold shFr at e ⊢
  rw [rd_82_9]
  generalize hr : execW E 82 p _ _ _ _ = ee
  simp -implicitDefEqProofs (maxSteps := 1000000) [-Int.natCast_add, -List.length_append, -List.cons_append, -List.append_assoc, Go.Proofs.Tryz.f82, Code.loopAt, Code.key, hlt', w1, w2, hh, hcl, hcl2, gx, gy, la, lb, na, nb, na', nb', s1, s2, f1, f2, f3, f4, f5, f6, sameAt, beqL_refl] at hr
  subst hr
  simp [-Int.natCast_add, f1] at e ⊢
  exact e
end Go.Ai.T0

namespace Go.Ai.T0
open Go
set_option maxRecDepth 100000
set_option maxHeartbeats 4000000
theorem snoc_ind {α : Type} {C : List α → Prop} (h0 : C []) (h1 : ∀ l x, C l → C (l ++ [x])) : ∀ l, C l := by
 intro l
 have : ∀ l : List α, C l.reverse := by
  intro l
  induction l with
  | nil => exact h0
  | cons x l ih => rw [List.reverse_cons]; exact h1 _ _ ih
 have h := this l.reverse
 rwa [List.reverse_reverse] at h
def sgFr (id : Id) (n i k : Nat) : Fr := ((bot.set 17 (.int .i64 k)).set 14 (.int .i64 i)).set 0 (.mslice id 0 n)
theorem sg_loop {p id : Id} (ap : Apart p id) {n : Nat} (hb : n ≤ 1099511627776) {y : KV} {P : List KV} : ∀ (A S : List KV) (c0 c : Nat) (h : Heap), (P ++ (A ++ y :: S)).length = n → c0 ≤ c → h id = some (cellsK (P ++ (A ++ y :: S))) →
  iterW E 82 p [0, 14, 17] L_82_21 c0 (sgFr id n P.length (P.length + A.length)) c h = some (.exit 6, sgFr id n P.length P.length, c, upd (dropFrom p c0 h) id (cellsK (P ++ (y :: A ++ S)))) := by
 obtain ⟨f1, f2, f3, f4, f5, f6⟩ := ap.facts
 intro A
 refine snoc_ind (C := fun A => ∀ (S : List KV) (c0 c : Nat) (h : Heap), (P ++ (A ++ y :: S)).length = n → c0 ≤ c → h id = some (cellsK (P ++ (A ++ y :: S))) →
  iterW E 82 p [0, 14, 17] L_82_21 c0 (sgFr id n P.length (P.length + A.length)) c h = some (.exit 6, sgFr id n P.length P.length, c, upd (dropFrom p c0 h) id (cellsK (P ++ (y :: A ++ S))))) ?_ ?_ A
 ·intro S c0 c h hl hc hh
  have hlt' : ¬ (P.length : Int) < P.length := by omega
  simp only [List.length_nil, Nat.add_zero]
  unfold sgFr
  rw [rd_82_21]
  generalize hr : execW E 82 p _ _ _ _ = e
  simp -implicitDefEqProofs (maxSteps := 1000000) [-Int.natCast_add, Go.Proofs.Tryz.f82, Code.loopAt, Code.key, hlt'] at hr
  subst hr
  have hh' : h id = some (cellsK (P ++ (y :: [] ++ S))) := by simpa using hh
  rw [upd_id (h := dropFrom p c0 h) (by rw [f2, hh'])]
  simp
 ·intro A z ih S c0 c h hl hc hh
  have hl' := hl
  simp only [List.length_append, List.length_cons, List.length_nil] at hl'
  have e := ih (z :: S) c0 c (upd (dropFrom p c0 h) id (cellsK (P ++ (A ++ y :: z :: S)))) (by simp; omega) hc (by simp)
  rw [f1, drop_drop_self, upd_upd] at e
  have hA : P.length + (A ++ [z]).length = P.length + A.length + 1 := by simp; omega
  rw [hA]
  have w1 : IntKind.i64.wrap (((P.length + A.length + 1 : Nat) : Int) - 1) = ((P.length + A.length : Nat) : Int) := by rw [wrap_i64 (by omega) (by omega)]; omega
  have hlt' : (P.length : Int) < ((P.length + A.length + 1 : Nat) : Int) := by omega
  have hl0 : P ++ (A ++ [z] ++ y :: S) = (P ++ A) ++ z :: y :: S := by simp
  generalize hlq : P ++ (A ++ [z] ++ y :: S) = l at *
  have hpa : (P ++ A).length = P.length + A.length := by simp
  have hx : l[P.length + A.length]? = some z := by rw [hl0, ← hpa]; simp
  have hy : l[P.length + A.length + 1]? = some y := by
   have e1 : (P ++ A) ++ z :: y :: S = (P ++ A ++ [z]) ++ y :: S := by simp
   have e2 : (P ++ A ++ [z]).length = P.length + A.length + 1 := by simp; omega
   rw [hl0, e1, ← e2]; simp
  have hcl := cellsK_len l
  have gx := cellsK_get hx
  have gy := cellsK_get hy
  have s1 := cellsK_set (l := l) (i := P.length + A.length + 1) (by omega) z
  have s2 := cellsK_set (l := l.set (P.length + A.length + 1) z) (i := P.length + A.length) (by simp; omega) y
  rw [← List.append_assoc] at s1 s2
  have hcl2 := cellsK_len (l.set (P.length + A.length + 1) z)
  rw [List.length_set] at hcl2
  have la : (P.length + A.length) * 11 + 11 ≤ l.length * 11 := by omega
  have lb : (P.length + A.length + 1) * 11 + 11 ≤ l.length * 11 := by omega
  have na : P.length + A.length < n := by omega
  have nb : P.length + A.length + 1 < n := by omega
  have na' : ((P.length + A.length : Nat) : Int) < n := by omega
  have nb' : ((P.length + A.length + 1 : Nat) : Int) < n := by omega
  have hsw : (l.set (P.length + A.length + 1) z).set (P.length + A.length) y = P ++ (A ++ y :: z :: S) := by
   have := swp_adj (P ++ A) S z y
   rw [← hl0, hpa, swp_comm _ _ _ (by omega)] at this
   unfold swp at this
   rw [hx, hy] at this
   simpa using this
  rw [hsw] at s2
  unfold sgFr at e ⊢
  rw [rd_82_21]
  generalize hr : execW E 82 p _ _ _ _ = ee
  simp -implicitDefEqProofs (maxSteps := 1000000) [-Int.natCast_add, -List.length_append, -List.cons_append, -List.append_assoc, Go.Proofs.Tryz.f82, Code.loopAt, Code.key, hlt', w1, hh, hcl, hcl2, gx, gy, la, lb, na, nb, na', nb', s1, s2, f1, f2, f3, f4, f5, f6, sameAt, beqL_refl] at hr
  subst hr
  simp [-Int.natCast_add, f1] at e ⊢
  exact e
theorem flatK' (x : KV) : ∃ cs, encK x = cs ∧ ∃ k hs k0 s0 b0 n0 l0 m0 i0 u0 u, cs = [.str k, .bool hs, .int .i64 k0, .str s0, .bool b0, .int .u64 n0, .slice l0 none, .slice m0 none, .str i0, .str u0, .str u] := by
 obtain ⟨k, hs, v, u⟩ := x
 obtain ⟨k0, s0, b0, n0, l0, m0, i0, u0⟩ := v
 exact ⟨_, rfl, k, hs, k0, s0, b0, n0, l0.map encV, m0.map encK, i0, u0, u, by simp⟩
def leK (x y : KV) : Bool := !decide (Lib.compareBytes y.key x.key < 0)
theorem half (o lo hi : Nat) : (o + lo + (o + hi)) / 2 = o + (lo + hi) / 2 := by omega
def b1Fr (id : Id) (n a i j : Nat) : Fr := ((((bot.set 11 (.int .i64 j)).set 10 (.int .i64 i)).set 4 (.fn 25 [])).set 1 (.int .i64 a)).set 0 (.mslice id 0 n)
theorem b1_loop {p id : Id} (ap : Apart p id) {n a o : Nat} (hb : n ≤ 1099511627776) {l B : List KV} {x : KV} (hn : l.length = n) (hx : l[a]? = some x) (hB : ∀ k, k < B.length → l[o + k]? = B[k]?) (hoB : o + B.length ≤ n) : ∀ (d lo hi : Nat), hi - lo ≤ d → lo ≤ hi → hi ≤ B.length → ∃ K, ∀ (c0 c : Nat) (h : Heap), c0 ≤ c → h id = some (cellsK l) →
  iterW E 82 p [0, 1, 4, 10, 11] L_82_3 c0 (b1Fr id n a (o + lo) (o + hi)) c h = some (.exit 0, b1Fr id n a (o + bisect (fun h => !leAt leK [x] B 0 h) lo hi) (o + bisect (fun h => !leAt leK [x] B 0 h) lo hi), c + K, dropFrom p c0 h) := by
 obtain ⟨f1, f2, f3, f4, f5, f6⟩ := ap.facts
 intro d
 induction d with
 | zero =>
  intro lo hi hd hl hh
  obtain rfl : lo = hi := by omega
  refine ⟨0, fun c0 c h hc hh => ?_⟩
  have hlt' : ¬ ((o + lo : Nat) : Int) < ((o + lo : Nat) : Int) := by omega
  rw [bisect, if_neg (by omega)]
  unfold b1Fr
  rw [rd_82_3]
  generalize hr : execW E 82 p _ _ _ _ = e
  simp -implicitDefEqProofs (maxSteps := 1000000) [-Int.natCast_add, Go.Proofs.Tryz.f82, Code.loopAt, Code.key, hlt'] at hr
  subst hr
  simp
 | succ d ih =>
  intro lo hi hd hl hh
  by_cases hlt : lo < hi
  ·have hm : (lo + hi) / 2 < B.length := by omega
   obtain ⟨y, hy⟩ : ∃ y, B[(lo + hi) / 2]? = some y := ⟨_, List.getElem?_eq_getElem hm⟩
   have hly := hB _ hm
   rw [hy] at hly
   have w1 : IntKind.i64.wrap (((o + lo : Nat) : Int) + ((o + hi : Nat) : Int)) = ((o + lo + (o + hi) : Nat) : Int) := by rw [wrap_i64 (by omega) (by omega)]; omega
   have w2 : IntKind.u64.wrap ((o + lo + (o + hi) : Nat) : Int) = ((o + lo + (o + hi) : Nat) : Int) := wrap_u64 (by omega) (by omega)
   have w3 : ((o + lo + (o + hi) : Nat) : Int).fdiv 2 = ((o + (lo + hi) / 2 : Nat) : Int) := by rw [← half, Int.fdiv_eq_ediv_of_nonneg _ (by omega)]; omega
   have w3' : ((o + lo + (o + hi) : Nat) : Int).fdiv (2 ^ min 1 IntKind.u64.bits) = ((o + (lo + hi) / 2 : Nat) : Int) := w3
   have w4 : IntKind.u64.wrap ((o + (lo + hi) / 2 : Nat) : Int) = ((o + (lo + hi) / 2 : Nat) : Int) := wrap_u64 (by omega) (by omega)
   have w5 : IntKind.i64.wrap ((o + (lo + hi) / 2 : Nat) : Int) = ((o + (lo + hi) / 2 : Nat) : Int) := wrap_i64 (by omega) (by omega)
   have w6 : IntKind.i64.wrap (((o + (lo + hi) / 2 : Nat) : Int) + 1) = ((o + ((lo + hi) / 2 + 1) : Nat) : Int) := by rw [wrap_i64 (by omega) (by omega)]; omega
   have hlt' : ((o + lo : Nat) : Int) < ((o + hi : Nat) : Int) := by omega
   have hcl := cellsK_len l
   have gx := cellsK_get hx
   have gy := cellsK_get hly
   have ha := (List.getElem?_eq_some_iff.1 hx).1
   have la : a * 11 + 11 ≤ l.length * 11 := by omega
   have lb : (o + (lo + hi) / 2) * 11 + 11 ≤ l.length * 11 := by omega
   have na : a < n := by omega
   have nb : o + (lo + hi) / 2 < n := by omega
   have na' : (a : Int) < n := by omega
   have nb' : ((o + (lo + hi) / 2 : Nat) : Int) < n := by omega
   have g := fun q h => compareK y x q h
   have hle : (!leAt leK [x] B 0 ((lo + hi) / 2)) = decide (Lib.compareBytes y.key x.key < 0) := by
    simp only [leAt, List.getElem?_cons_zero, hy, leK, Bool.not_not]
   obtain ⟨cx, hcx, hsx⟩ := flatK' x
   obtain ⟨cy, hcy, hsy⟩ := flatK' y
   rw [hcx] at g gx
   rw [hcy] at g gy
   obtain ⟨_, _, _, _, _, _, _, _, _, _, _, rfl⟩ := hsx
   obtain ⟨_, _, _, _, _, _, _, _, _, _, _, rfl⟩ := hsy
   rw [bisect, if_pos hlt, hle]
   by_cases hcmp : Lib.compareBytes y.key x.key < 0
   ·obtain ⟨K, e⟩ := ih ((lo + hi) / 2 + 1) hi (by omega) (by omega) hh
    refine ⟨1 + K, fun c0 c h hc hh => ?_⟩
    have e := e c0 (c + 1) (dropFrom p c0 h) (by omega) (by rw [f2, hh])
    rw [drop_drop_self] at e
    rw [if_pos (by simpa using hcmp)]
    unfold b1Fr at e ⊢
    rw [rd_82_3]
    generalize hr : execW E 82 p _ _ _ _ = ee
    simp -implicitDefEqProofs (maxSteps := 1000000) [-Int.natCast_add, Go.Proofs.Tryz.f82, Code.loopAt, Code.key, hlt', w1, w2, w3, w3', w4, w5, w6, hh, hcl, gx, gy, la, lb, na, nb, na', nb', g, hcmp, f1, f2, f3, f4, f5, f6, sameAt, beqL_refl] at hr
    subst hr
    rw [show c + (1 + K) = c + 1 + K by omega]
    simpa [-Int.natCast_add, hc] using e
   ·obtain ⟨K, e⟩ := ih lo ((lo + hi) / 2) (by omega) (by omega) (by omega)
    refine ⟨1 + K, fun c0 c h hc hh => ?_⟩
    have e := e c0 (c + 1) (dropFrom p c0 h) (by omega) (by rw [f2, hh])
    rw [drop_drop_self] at e
    rw [if_neg (by simpa using hcmp)]
    unfold b1Fr at e ⊢
    rw [rd_82_3]
    generalize hr : execW E 82 p _ _ _ _ = ee
    simp -implicitDefEqProofs (maxSteps := 1000000) [-Int.natCast_add, Go.Proofs.Tryz.f82, Code.loopAt, Code.key, hlt', w1, w2, w3, w3', w4, w5, w6, hh, hcl, gx, gy, la, lb, na, nb, na', nb', g, hcmp, f1, f2, f3, f4, f5, f6, sameAt, beqL_refl] at hr
    subst hr
    rw [show c + (1 + K) = c + 1 + K by omega]
    simpa [-Int.natCast_add, hc] using e
  ·obtain rfl : lo = hi := by omega
   refine ⟨0, fun c0 c h hc hh => ?_⟩
   have hlt' : ¬ ((o + lo : Nat) : Int) < ((o + lo : Nat) : Int) := by omega
   rw [bisect, if_neg (by omega)]
   unfold b1Fr
   rw [rd_82_3]
   generalize hr : execW E 82 p _ _ _ _ = e
   simp -implicitDefEqProofs (maxSteps := 1000000) [-Int.natCast_add, Go.Proofs.Tryz.f82, Code.loopAt, Code.key, hlt'] at hr
   subst hr
   simp
end Go.Ai.T0

namespace Go.Ai.T0
open Go
set_option maxRecDepth 100000
set_option maxHeartbeats 4000000
def b2Fr (id : Id) (n a i j : Nat) : Fr := ((((bot.set 15 (.int .i64 j)).set 14 (.int .i64 i)).set 4 (.fn 25 [])).set 2 (.int .i64 a)).set 0 (.mslice id 0 n)
theorem b2_loop {p id : Id} (ap : Apart p id) {n a o : Nat} (hb : n ≤ 1099511627776) {l B : List KV} {x : KV} (hn : l.length = n) (hx : l[a]? = some x) (hB : ∀ k, k < B.length → l[o + k]? = B[k]?) (hoB : o + B.length ≤ n) : ∀ (d lo hi : Nat), hi - lo ≤ d → lo ≤ hi → hi ≤ B.length → ∃ K, ∀ (c0 c : Nat) (h : Heap), c0 ≤ c → h id = some (cellsK l) →
  iterW E 82 p [0, 2, 4, 14, 15] L_82_15 c0 (b2Fr id n a (o + lo) (o + hi)) c h = some (.exit 4, b2Fr id n a (o + bisect (fun h => leAt leK B [x] h 0) lo hi) (o + bisect (fun h => leAt leK B [x] h 0) lo hi), c + K, dropFrom p c0 h) := by
 obtain ⟨f1, f2, f3, f4, f5, f6⟩ := ap.facts
 intro d
 induction d with
 | zero =>
  intro lo hi hd hl hh
  obtain rfl : lo = hi := by omega
  refine ⟨0, fun c0 c h hc hh => ?_⟩
  have hlt' : ¬ ((o + lo : Nat) : Int) < ((o + lo : Nat) : Int) := by omega
  rw [bisect, if_neg (by omega)]
  unfold b2Fr
  rw [rd_82_15]
  generalize hr : execW E 82 p _ _ _ _ = e
  simp -implicitDefEqProofs (maxSteps := 1000000) [-Int.natCast_add, Go.Proofs.Tryz.f82, Code.loopAt, Code.key, hlt'] at hr
  subst hr
  simp
 | succ d ih =>
  intro lo hi hd hl hh
  by_cases hlt : lo < hi
  ·have hm : (lo + hi) / 2 < B.length := by omega
   obtain ⟨y, hy⟩ : ∃ y, B[(lo + hi) / 2]? = some y := ⟨_, List.getElem?_eq_getElem hm⟩
   have hly := hB _ hm
   rw [hy] at hly
   have w1 : IntKind.i64.wrap (((o + lo : Nat) : Int) + ((o + hi : Nat) : Int)) = ((o + lo + (o + hi) : Nat) : Int) := by rw [wrap_i64 (by omega) (by omega)]; omega
   have w2 : IntKind.u64.wrap ((o + lo + (o + hi) : Nat) : Int) = ((o + lo + (o + hi) : Nat) : Int) := wrap_u64 (by omega) (by omega)
   have w3 : ((o + lo + (o + hi) : Nat) : Int).fdiv 2 = ((o + (lo + hi) / 2 : Nat) : Int) := by rw [← half, Int.fdiv_eq_ediv_of_nonneg _ (by omega)]; omega
   have w3' : ((o + lo + (o + hi) : Nat) : Int).fdiv (2 ^ min 1 IntKind.u64.bits) = ((o + (lo + hi) / 2 : Nat) : Int) := w3
   have w4 : IntKind.u64.wrap ((o + (lo + hi) / 2 : Nat) : Int) = ((o + (lo + hi) / 2 : Nat) : Int) := wrap_u64 (by omega) (by omega)
   have w5 : IntKind.i64.wrap ((o + (lo + hi) / 2 : Nat) : Int) = ((o + (lo + hi) / 2 : Nat) : Int) := wrap_i64 (by omega) (by omega)
   have w6 : IntKind.i64.wrap (((o + (lo + hi) / 2 : Nat) : Int) + 1) = ((o + ((lo + hi) / 2 + 1) : Nat) : Int) := by rw [wrap_i64 (by omega) (by omega)]; omega
   have hlt' : ((o + lo : Nat) : Int) < ((o + hi : Nat) : Int) := by omega
   have hcl := cellsK_len l
   have gx := cellsK_get hx
   have gy := cellsK_get hly
   have ha := (List.getElem?_eq_some_iff.1 hx).1
   have la : a * 11 + 11 ≤ l.length * 11 := by omega
   have lb : (o + (lo + hi) / 2) * 11 + 11 ≤ l.length * 11 := by omega
   have na : a < n := by omega
   have nb : o + (lo + hi) / 2 < n := by omega
   have na' : (a : Int) < n := by omega
   have nb' : ((o + (lo + hi) / 2 : Nat) : Int) < n := by omega
   have g := fun q h => compareK x y q h
   have hle : leAt leK B [x] ((lo + hi) / 2) 0 = !decide (Lib.compareBytes x.key y.key < 0) := by
    simp only [leAt, List.getElem?_cons_zero, hy, leK]
   obtain ⟨cx, hcx, hsx⟩ := flatK' x
   obtain ⟨cy, hcy, hsy⟩ := flatK' y
   rw [hcx] at g gx
   rw [hcy] at g gy
   obtain ⟨_, _, _, _, _, _, _, _, _, _, _, rfl⟩ := hsx
   obtain ⟨_, _, _, _, _, _, _, _, _, _, _, rfl⟩ := hsy
   rw [bisect, if_pos hlt, hle]
   by_cases hcmp : ¬ Lib.compareBytes x.key y.key < 0
   ·obtain ⟨K, e⟩ := ih ((lo + hi) / 2 + 1) hi (by omega) (by omega) hh
    refine ⟨1 + K, fun c0 c h hc hh => ?_⟩
    have e := e c0 (c + 1) (dropFrom p c0 h) (by omega) (by rw [f2, hh])
    rw [drop_drop_self] at e
    rw [if_pos (by simpa using hcmp)]
    unfold b2Fr at e ⊢
    rw [rd_82_15]
    generalize hr : execW E 82 p _ _ _ _ = ee
    simp -implicitDefEqProofs (maxSteps := 1000000) [-Int.natCast_add, Go.Proofs.Tryz.f82, Code.loopAt, Code.key, hlt', w1, w2, w3, w3', w4, w5, w6, hh, hcl, gx, gy, la, lb, na, nb, na', nb', g, hcmp, f1, f2, f3, f4, f5, f6, sameAt, beqL_refl] at hr
    subst hr
    rw [show c + (1 + K) = c + 1 + K by omega]
    simpa [-Int.natCast_add, hc] using e
   ·obtain ⟨K, e⟩ := ih lo ((lo + hi) / 2) (by omega) (by omega) (by omega)
    refine ⟨1 + K, fun c0 c h hc hh => ?_⟩
    have e := e c0 (c + 1) (dropFrom p c0 h) (by omega) (by rw [f2, hh])
    rw [drop_drop_self] at e
    rw [if_neg (by simpa using hcmp)]
    unfold b2Fr at e ⊢
    rw [rd_82_15]
    generalize hr : execW E 82 p _ _ _ _ = ee
    simp -implicitDefEqProofs (maxSteps := 1000000) [-Int.natCast_add, Go.Proofs.Tryz.f82, Code.loopAt, Code.key, hlt', w1, w2, w3, w3', w4, w5, w6, hh, hcl, gx, gy, la, lb, na, nb, na', nb', g, hcmp, f1, f2, f3, f4, f5, f6, sameAt, beqL_refl] at hr
    subst hr
    rw [show c + (1 + K) = c + 1 + K by omega]
    simpa [-Int.natCast_add, hc] using e
  ·obtain rfl : lo = hi := by omega
   refine ⟨0, fun c0 c h hc hh => ?_⟩
   have hlt' : ¬ ((o + lo : Nat) : Int) < ((o + lo : Nat) : Int) := by omega
   rw [bisect, if_neg (by omega)]
   unfold b2Fr
   rw [rd_82_15]
   generalize hr : execW E 82 p _ _ _ _ = e
   simp -implicitDefEqProofs (maxSteps := 1000000) [-Int.natCast_add, Go.Proofs.Tryz.f82, Code.loopAt, Code.key, hlt'] at hr
   subst hr
   simp
def b3Fr (id : Id) (n o la lb q i j : Nat) : Fr := (((((((((bot.set 22 (.int .i64 (o + o + q + la - 1 : Nat))).set 21 (.int .i64 j)).set 20 (.int .i64 i)).set 19 (.int .i64 (o + o + q + la : Nat))).set 18 (.int .i64 (o + q : Nat))).set 4 (.fn 25 [])).set 3 (.int .i64 (o + la + lb : Nat))).set 2 (.int .i64 (o + la : Nat))).set 1 (.int .i64 o)).set 0 (.mslice id 0 n)
theorem b3_loop {p id : Id} (ap : Apart p id) {n o q : Nat} (hb : n ≤ 1099511627776) {l A B : List KV} (hn : l.length = n) (hA : ∀ k, k < A.length → l[o + k]? = A[k]?) (hB : ∀ k, k < B.length → l[o + A.length + k]? = B[k]?) (hoB : o + A.length + B.length ≤ n) : ∀ (d lo hi : Nat), hi - lo ≤ d → lo ≤ hi → hi ≤ A.length → hi ≤ q → q - lo ≤ B.length → ∃ K, ∀ (c0 c : Nat) (h : Heap), c0 ≤ c → h id = some (cellsK l) →
  iterW E 82 p [0, 1, 2, 3, 4, 18, 19, 20, 21, 22] L_82_33 c0 (b3Fr id n o A.length B.length q (o + lo) (o + hi)) c h = some (.exit 8, b3Fr id n o A.length B.length q (o + bisect (fun c => leAt leK A B c (q - 1 - c)) lo hi) (o + bisect (fun c => leAt leK A B c (q - 1 - c)) lo hi), c + K, dropFrom p c0 h) := by
 obtain ⟨f1, f2, f3, f4, f5, f6⟩ := ap.facts
 intro d
 induction d with
 | zero =>
  intro lo hi hd hl hh hq hqb
  obtain rfl : lo = hi := by omega
  refine ⟨0, fun c0 c h hc hh => ?_⟩
  have hlt' : ¬ ((o + lo : Nat) : Int) < ((o + lo : Nat) : Int) := by omega
  rw [bisect, if_neg (by omega)]
  unfold b3Fr
  rw [rd_82_33]
  generalize hr : execW E 82 p _ _ _ _ = e
  simp -implicitDefEqProofs (maxSteps := 1000000) [-Int.natCast_add, Go.Proofs.Tryz.f82, Code.loopAt, Code.key, hlt'] at hr
  subst hr
  simp
 | succ d ih =>
  intro lo hi hd hl hh hq hqb
  by_cases hlt : lo < hi
  ·have hm : (lo + hi) / 2 < A.length := by omega
   have hm2 : q - 1 - (lo + hi) / 2 < B.length := by omega
   obtain ⟨x, hx'⟩ : ∃ x, A[(lo + hi) / 2]? = some x := ⟨_, List.getElem?_eq_getElem hm⟩
   have hlx := hA _ hm
   rw [hx'] at hlx
   obtain ⟨y, hy⟩ : ∃ y, B[q - 1 - (lo + hi) / 2]? = some y := ⟨_, List.getElem?_eq_getElem hm2⟩
   have hly := hB _ hm2
   rw [hy] at hly
   have w1 : IntKind.i64.wrap (((o + lo : Nat) : Int) + ((o + hi : Nat) : Int)) = ((o + lo + (o + hi) : Nat) : Int) := by rw [wrap_i64 (by omega) (by omega)]; omega
   have w2 : IntKind.u64.wrap ((o + lo + (o + hi) : Nat) : Int) = ((o + lo + (o + hi) : Nat) : Int) := wrap_u64 (by omega) (by omega)
   have w3 : ((o + lo + (o + hi) : Nat) : Int).fdiv 2 = ((o + (lo + hi) / 2 : Nat) : Int) := by rw [← half, Int.fdiv_eq_ediv_of_nonneg _ (by omega)]; omega
   have w3' : ((o + lo + (o + hi) : Nat) : Int).fdiv (2 ^ min 1 IntKind.u64.bits) = ((o + (lo + hi) / 2 : Nat) : Int) := w3
   have w4 : IntKind.u64.wrap ((o + (lo + hi) / 2 : Nat) : Int) = ((o + (lo + hi) / 2 : Nat) : Int) := wrap_u64 (by omega) (by omega)
   have w5 : IntKind.i64.wrap ((o + (lo + hi) / 2 : Nat) : Int) = ((o + (lo + hi) / 2 : Nat) : Int) := wrap_i64 (by omega) (by omega)
   have w6 : IntKind.i64.wrap (((o + (lo + hi) / 2 : Nat) : Int) + 1) = ((o + ((lo + hi) / 2 + 1) : Nat) : Int) := by rw [wrap_i64 (by omega) (by omega)]; omega
   have hlt' : ((o + lo : Nat) : Int) < ((o + hi : Nat) : Int) := by omega
   have hcl := cellsK_len l
   have gx := cellsK_get hlx
   have gy := cellsK_get hly
   have la : (o + (lo + hi) / 2) * 11 + 11 ≤ l.length * 11 := by omega
   have lb : (o + A.length + (q - 1 - (lo + hi) / 2)) * 11 + 11 ≤ l.length * 11 := by omega
   have na : o + (lo + hi) / 2 < n := by omega
   have nb : o + A.length + (q - 1 - (lo + hi) / 2) < n := by omega
   have na' : ((o + (lo + hi) / 2 : Nat) : Int) < n := by omega
   have nb' : ((o + A.length + (q - 1 - (lo + hi) / 2) : Nat) : Int) < n := by omega
   have w7 : IntKind.i64.wrap (((o + o + q + A.length - 1 : Nat) : Int) - ((o + (lo + hi) / 2 : Nat) : Int)) = ((o + A.length + (q - 1 - (lo + hi) / 2) : Nat) : Int) := by rw [wrap_i64 (by omega) (by omega)]; omega
   have g := fun q h => compareK y x q h
   have hle : leAt leK A B ((lo + hi) / 2) (q - 1 - (lo + hi) / 2) = !decide (Lib.compareBytes y.key x.key < 0) := by
    simp only [leAt, hx', hy, leK]
   obtain ⟨cx, hcx, hsx⟩ := flatK' x
   obtain ⟨cy, hcy, hsy⟩ := flatK' y
   rw [hcx] at g gx
   rw [hcy] at g gy
   obtain ⟨_, _, _, _, _, _, _, _, _, _, _, rfl⟩ := hsx
   obtain ⟨_, _, _, _, _, _, _, _, _, _, _, rfl⟩ := hsy
   rw [bisect, if_pos hlt, hle]
   by_cases hcmp : ¬ Lib.compareBytes y.key x.key < 0
   ·obtain ⟨K, e⟩ := ih ((lo + hi) / 2 + 1) hi (by omega) (by omega) hh hq (by omega)
    refine ⟨1 + K, fun c0 c h hc hh => ?_⟩
    have e := e c0 (c + 1) (dropFrom p c0 h) (by omega) (by rw [f2, hh])
    rw [drop_drop_self] at e
    rw [if_pos (by simpa using hcmp)]
    unfold b3Fr at e ⊢
    rw [rd_82_33]
    generalize hr : execW E 82 p _ _ _ _ = ee
    simp -implicitDefEqProofs (maxSteps := 1000000) [-Int.natCast_add, Go.Proofs.Tryz.f82, Code.loopAt, Code.key, hlt', w1, w2, w3, w3', w4, w5, w6, w7, hh, hcl, gx, gy, la, lb, na, nb, na', nb', g, hcmp, f1, f2, f3, f4, f5, f6, sameAt, beqL_refl] at hr
    subst hr
    rw [show c + (1 + K) = c + 1 + K by omega]
    simpa [-Int.natCast_add, hc] using e
   ·obtain ⟨K, e⟩ := ih lo ((lo + hi) / 2) (by omega) (by omega) (by omega) (by omega) hqb
    refine ⟨1 + K, fun c0 c h hc hh => ?_⟩
    have e := e c0 (c + 1) (dropFrom p c0 h) (by omega) (by rw [f2, hh])
    rw [drop_drop_self] at e
    rw [if_neg (by simpa using hcmp)]
    unfold b3Fr at e ⊢
    rw [rd_82_33]
    generalize hr : execW E 82 p _ _ _ _ = ee
    simp -implicitDefEqProofs (maxSteps := 1000000) [-Int.natCast_add, Go.Proofs.Tryz.f82, Code.loopAt, Code.key, hlt', w1, w2, w3, w3', w4, w5, w6, w7, hh, hcl, gx, gy, la, lb, na, nb, na', nb', g, hcmp, f1, f2, f3, f4, f5, f6, sameAt, beqL_refl] at hr
    subst hr
    rw [show c + (1 + K) = c + 1 + K by omega]
    simpa [-Int.natCast_add, hc] using e
  ·obtain rfl : lo = hi := by omega
   refine ⟨0, fun c0 c h hc hh => ?_⟩
   have hlt' : ¬ ((o + lo : Nat) : Int) < ((o + lo : Nat) : Int) := by omega
   rw [bisect, if_neg (by omega)]
   unfold b3Fr
   rw [rd_82_33]
   generalize hr : execW E 82 p _ _ _ _ = e
   simp -implicitDefEqProofs (maxSteps := 1000000) [-Int.natCast_add, Go.Proofs.Tryz.f82, Code.loopAt, Code.key, hlt'] at hr
   subst hr
   simp
end Go.Ai.T0

namespace Go.Ai.T0
open Go
set_option maxRecDepth 100000
set_option maxHeartbeats 4000000
theorem bisect_le (f : Nat → Bool) (lo hi : Nat) (h : lo ≤ hi) : lo ≤ bisect f lo hi ∧ bisect f lo hi ≤ hi := by
 rw [bisect]
 split
 ·split
  ·have := bisect_le f ((lo + hi) / 2 + 1) hi (by omega); omega
  ·have := bisect_le f lo ((lo + hi) / 2) (by omega); omega
 ·omega
termination_by hi - lo
decreasing_by all_goals omega
theorem sym_one {p id : Id} (ap : Apart p id) {n : Nat} (hb : n ≤ 1099511627776) {x : KV} {P B S : List KV} {h : Heap} (hn : (P ++ ([x] ++ (B ++ S))).length = n) (hh : h id = some (cellsK (P ++ ([x] ++ (B ++ S))))) {k : Nat} (hk : bisect (fun h => !leAt leK [x] B 0 h) 0 B.length = k) :
  callW E p 82 [.mslice id 0 n, .int .i64 P.length, .int .i64 (P.length + 1 : Nat), .int .i64 (P.length + 1 + B.length : Nat), .fn 25 []] h = some (.tuple [], upd (dropFrom p 0 h) id (cellsK (P ++ (B.take k ++ x :: (B.drop k ++ S))))) := by
 obtain ⟨f1, f2, f3, f4, f5, f6⟩ := ap.facts
 have hn' := hn
 simp only [List.length_append, List.length_cons, List.length_nil] at hn'
 have hkB : k ≤ B.length := by rw [← hk]; exact (bisect_le _ _ _ (Nat.zero_le _)).2
 obtain ⟨K, g1⟩ := b1_loop ap (n := n) (a := P.length) (o := P.length + 1) hb (l := P ++ ([x] ++ (B ++ S))) (B := B) (x := x) hn (by simp) (fun k hk => by
  have e : P ++ ([x] ++ (B ++ S)) = (P ++ [x]) ++ (B ++ S) := by simp
  have e2 : (P ++ [x]).length = P.length + 1 := by simp
  rw [e, ← e2, List.getElem?_append_right (by omega), Nat.add_sub_cancel_left, List.getElem?_append_left hk]) (by omega) B.length 0 B.length (by omega) (Nat.zero_le _) (Nat.le_refl _)
 rw [hk] at g1
 have e0 : P ++ (x :: B.take k ++ (B.drop k ++ S)) = P ++ ([x] ++ (B ++ S)) := by
  rw [List.cons_append, ← List.append_assoc (B.take k), List.take_append_drop]; rfl
 have g2 := fun c0 c h hc hh => sh_loop ap (n := n) (i := P.length + 1 + k) hb (x := x) (S := B.drop k ++ S) (B.take k) P c0 c h (by rw [List.length_take]; omega) (by rw [e0]; exact hn) hc hh
 rw [e0] at g2
 have w0 : IntKind.i64.wrap (((P.length + 1 : Nat) : Int) - (P.length : Int)) = 1 := by rw [wrap_i64 (by omega) (by omega)]; omega
 generalize P ++ ([x] ++ (B ++ S)) = l0 at *
 generalize P ++ (B.take k ++ x :: (B.drop k ++ S)) = l1 at *
 simp only [b1Fr, Nat.add_zero] at g1
 simp only [shFr] at g2
 generalize P.length + 1 + B.length = b at *
 generalize P.length + 1 + k = i at *
 generalize P.length + (B.take k).length = j at *
 generalize P.length + 1 = m at *
 rw [eq_82]
 simp -implicitDefEqProofs (maxSteps := 1000000) [-Int.natCast_add, -List.length_append, Go.Proofs.Tryz.f82, Code.hide, Code.key, w0, g1, g2, hh, f1, f2, f3, f4, f5, f6]
theorem sym_last {p id : Id} (ap : Apart p id) {n : Nat} (hb : n ≤ 1099511627776) {y : KV} {P A S : List KV} {h : Heap} (hA : A.length ≠ 1) (hn : (P ++ (A ++ ([y] ++ S))).length = n) (hh : h id = some (cellsK (P ++ (A ++ ([y] ++ S))))) {k : Nat} (hk : bisect (fun h => leAt leK A [y] h 0) 0 A.length = k) :
  callW E p 82 [.mslice id 0 n, .int .i64 P.length, .int .i64 (P.length + A.length : Nat), .int .i64 (P.length + A.length + 1 : Nat), .fn 25 []] h = some (.tuple [], upd (dropFrom p 0 h) id (cellsK (P ++ (A.take k ++ y :: (A.drop k ++ S))))) := by
 obtain ⟨f1, f2, f3, f4, f5, f6⟩ := ap.facts
 have hn' := hn
 simp only [List.length_append, List.length_cons, List.length_nil] at hn'
 have hkA : k ≤ A.length := by rw [← hk]; exact (bisect_le _ _ _ (Nat.zero_le _)).2
 obtain ⟨K, g1⟩ := b2_loop ap (n := n) (a := P.length + A.length) (o := P.length) hb (l := P ++ (A ++ ([y] ++ S))) (B := A) (x := y) hn (by
  have e : P ++ (A ++ ([y] ++ S)) = (P ++ A) ++ y :: S := by simp
  have e2 : (P ++ A).length = P.length + A.length := by simp
  rw [e, ← e2]; simp) (fun k hk => by
  rw [List.getElem?_append_right (by omega), Nat.add_sub_cancel_left, List.getElem?_append_left hk]) (by omega) A.length 0 A.length (by omega) (Nat.zero_le _) (Nat.le_refl _)
 rw [hk] at g1
 have e0 : (P ++ A.take k) ++ (A.drop k ++ y :: S) = P ++ (A ++ ([y] ++ S)) := by
  rw [List.append_assoc, ← List.append_assoc (A.take k), List.take_append_drop]; rfl
 have e1 : (P ++ A.take k) ++ (y :: A.drop k ++ S) = P ++ (A.take k ++ y :: (A.drop k ++ S)) := by simp
 have g2 := fun c0 c h hc hh => sg_loop ap (n := n) hb (y := y) (P := P ++ A.take k) (A.drop k) S c0 c h (by rw [e0]; exact hn) hc hh
 have i1 : (P ++ A.take k).length = P.length + k := by rw [List.length_append, List.length_take]; omega
 have i2 : (P ++ A.take k).length + (A.drop k).length = P.length + A.length := by rw [i1, List.length_drop]; omega
 rw [e0, e1, i2, i1] at g2
 have w0 : IntKind.i64.wrap (((P.length + A.length : Nat) : Int) - (P.length : Int)) = (A.length : Int) := by rw [wrap_i64 (by omega) (by omega)]; omega
 have w1 : IntKind.i64.wrap (((P.length + A.length + 1 : Nat) : Int) - ((P.length + A.length : Nat) : Int)) = 1 := by rw [wrap_i64 (by omega) (by omega)]; omega
 have hA' : ¬ (A.length : Int) = 1 := by omega
 generalize P ++ (A ++ ([y] ++ S)) = l0 at *
 generalize P ++ (A.take k ++ y :: (A.drop k ++ S)) = l1 at *
 simp only [b2Fr, Nat.add_zero] at g1
 simp only [sgFr] at g2
 generalize P.length + A.length + 1 = b at *
 generalize P.length + A.length = m at *
 generalize P.length + k = i at *
 rw [eq_82]
 simp -implicitDefEqProofs (maxSteps := 1000000) [-Int.natCast_add, -List.length_append, Go.Proofs.Tryz.f82, Code.hide, Code.key, w0, w1, hA', hA, g1, g2, hh, f1, f2, f3, f4, f5, f6]
end Go.Ai.T0

namespace Go.Ai.T0
open Go
set_option maxRecDepth 100000
set_option maxHeartbeats 4000000
theorem sym_gen {p id : Id} (ap : Apart p id) {n a m b md nn ab r0 st0 st en pp la lb K : Nat} {l0 l1 l2 l3 : List KV} {h : Heap} (hh : h id = some (cellsK l0))
  (w1 : IntKind.i64.wrap ((m : Int) - (a : Int)) = (la : Int)) (h1 : ¬ la = 1) (w2 : IntKind.i64.wrap ((b : Int) - (m : Int)) = (lb : Int)) (h2 : ¬ lb = 1)
  (w3 : IntKind.i64.wrap ((a : Int) + (b : Int)) = (ab : Int)) (w4 : IntKind.u64.wrap (ab : Int) = (ab : Int)) (w5 : (ab : Int).fdiv (2 ^ min 1 IntKind.u64.bits) = (md : Int))
  (w5' : IntKind.u64.wrap (md : Int) = (md : Int)) (w6 : IntKind.i64.wrap (md : Int) = (md : Int)) (w7 : IntKind.i64.wrap ((md : Int) + (m : Int)) = (nn : Int))
  (hs : (md < m ∧ IntKind.i64.wrap ((nn : Int) - (b : Int)) = (st0 : Int) ∧ r0 = md) ∨ (¬ md < m ∧ st0 = a ∧ r0 = m)) (w8 : IntKind.i64.wrap ((nn : Int) - 1) = (pp : Int))
  (g : ∀ (c0 c : Nat) (h : Heap), c0 ≤ c → h id = some (cellsK l0) → iterW E 82 p [0, 1, 2, 3, 4, 18, 19, 20, 21, 22] L_82_33 c0
   ((((((((((bot.set 22 (.int .i64 pp)).set 21 (.int .i64 r0)).set 20 (.int .i64 st0)).set 19 (.int .i64 nn)).set 18 (.int .i64 md)).set 4 (.fn 25 [])).set 3 (.int .i64 b)).set 2 (.int .i64 m)).set 1 (.int .i64 a)).set 0 (.mslice id 0 n)) c h =
   some (.exit 8, ((((((((((bot.set 22 (.int .i64 pp)).set 21 (.int .i64 st)).set 20 (.int .i64 st)).set 19 (.int .i64 nn)).set 18 (.int .i64 md)).set 4 (.fn 25 [])).set 3 (.int .i64 b)).set 2 (.int .i64 m)).set 1 (.int .i64 a)).set 0 (.mslice id 0 n)), c + K, upd (dropFrom p c0 h) id (cellsK l0)))
  (w9 : IntKind.i64.wrap ((nn : Int) - (st : Int)) = (en : Int))
  (e1 : md < en ↔ st < m) (e2 : st < md ↔ m < en)
  (c1 : st < m ∧ m < en → ∀ k h, h id = some (cellsK l0) → callW E (k :: p) 122 [.mslice id 0 n, .int .i64 st, .int .i64 m, .int .i64 en, .fn 25 []] h = some (.tuple [], upd (dropFrom (k :: p) 0 h) id (cellsK l1))) (d1 : ¬ (st < m ∧ m < en) → l1 = l0)
  (c2 : a < st ∧ st < md → ∀ k h, h id = some (cellsK l1) → callW E (k :: p) 82 [.mslice id 0 n, .int .i64 a, .int .i64 st, .int .i64 md, .fn 25 []] h = some (.tuple [], upd (dropFrom (k :: p) 0 h) id (cellsK l2))) (d2 : ¬ (a < st ∧ st < md) → l2 = l1)
  (c3 : md < en ∧ en < b → ∀ k h, h id = some (cellsK l2) → callW E (k :: p) 82 [.mslice id 0 n, .int .i64 md, .int .i64 en, .int .i64 b, .fn 25 []] h = some (.tuple [], upd (dropFrom (k :: p) 0 h) id (cellsK l3))) (d3 : ¬ (md < en ∧ en < b) → l3 = l2) :
  callW E p 82 [.mslice id 0 n, .int .i64 a, .int .i64 m, .int .i64 b, .fn 25 []] h = some (.tuple [], upd (dropFrom p 0 h) id (cellsK l3)) := by
 obtain ⟨f1, f2, f3, f4, f5, f6⟩ := ap.facts
 have h1' : ¬ (la : Int) = 1 := by omega
 have h2' : ¬ (lb : Int) = 1 := by omega
 have run : ∀ x1 x2 x3 x6 : Bool, decide (st < m) = x1 → decide (m < en) = x2 → decide (a < st) = x3 → decide (en < b) = x6 → callW E p 82 [.mslice id 0 n, .int .i64 a, .int .i64 m, .int .i64 b, .fn 25 []] h = some (.tuple [], upd (dropFrom p 0 h) id (cellsK l3)) := by
  intro x1 x2 x3 x6 q1 q2 q3 q6
  have k1 : st < m ↔ x1 = true := by rw [← q1, decide_eq_true_iff]
  have k2 : m < en ↔ x2 = true := by rw [← q2, decide_eq_true_iff]
  have k3 : a < st ↔ x3 = true := by rw [← q3, decide_eq_true_iff]
  have k4 : st < md ↔ x2 = true := by rw [e2, k2]
  have k5 : md < en ↔ x1 = true := by rw [e1, k1]
  have k6 : en < b ↔ x6 = true := by rw [← q6, decide_eq_true_iff]
  have j1 : (st : Int) < m ↔ x1 = true := by rw [← k1]; omega
  have j2 : (m : Int) < en ↔ x2 = true := by rw [← k2]; omega
  have j3 : (a : Int) < st ↔ x3 = true := by rw [← k3]; omega
  have j4 : (st : Int) < md ↔ x2 = true := by rw [← k4]; omega
  have j5 : (md : Int) < en ↔ x1 = true := by rw [← k5]; omega
  have j6 : (en : Int) < b ↔ x6 = true := by rw [← k6]; omega
  rw [k1, k2] at c1 d1
  rw [k3, k4] at c2 d2
  rw [k5, k6] at c3 d3
  clear q1 q2 q3 q6 e1 e2
  rcases hs with ⟨hm, ws, rfl⟩ | ⟨hm, rfl, rfl⟩
  ·have hm' : (r0 : Int) < m := by omega
   rw [eq_82]
   cases x1 <;> cases x2 <;> cases x3 <;> cases x6 <;>
   simp -implicitDefEqProofs (maxSteps := 1000000) [-Int.natCast_add, -List.length_append, Go.Proofs.Tryz.f82, Code.hide, Code.key, w1, w2, w3, w4, w5, w5', w6, w7, w8, w9, h1, h2, h1', h2', hm, hm', ws, k1, k2, k3, k4, k5, k6, j1, j2, j3, j4, j5, j6, g, c1, c2, c3, d1, d2, d3, hh, f1, f2, f3, f4, f5, f6]
  ·have hm' : ¬ (md : Int) < r0 := by omega
   rw [eq_82]
   cases x1 <;> cases x2 <;> cases x3 <;> cases x6 <;>
   simp -implicitDefEqProofs (maxSteps := 1000000) [-Int.natCast_add, -List.length_append, Go.Proofs.Tryz.f82, Code.hide, Code.key, w1, w2, w3, w4, w5, w5', w6, w7, w8, w9, h1, h2, h1', h2', hm, hm', k1, k2, k3, k4, k5, k6, j1, j2, j3, j4, j5, j6, g, c1, c2, c3, d1, d2, d3, hh, f1, f2, f3, f4, f5, f6]
 exact run _ _ _ _ rfl rfl rfl rfl
end Go.Ai.T0

namespace Go.Ai.T0
open Go
set_option maxRecDepth 100000
set_option maxHeartbeats 4000000
theorem symCut_le (A B : List KV) : symCut leK A B ≤ A.length ∧ symCut leK A B ≤ (A.length + B.length) / 2 ∧ (A.length + B.length) / 2 - symCut leK A B ≤ B.length := by
 unfold symCut
 dsimp only
 split
 ·have := bisect_le (fun c => leAt leK A B c ((A.length + B.length) / 2 - 1 - c)) ((A.length + B.length) / 2 + A.length - (A.length + B.length)) ((A.length + B.length) / 2) (by omega)
  omega
 ·have := bisect_le (fun c => leAt leK A B c ((A.length + B.length) / 2 - 1 - c)) 0 A.length (by omega)
  omega
theorem sm_len (A B : List KV) : (sm leK A B).length = A.length + B.length := by
 rw [sm]
 split
 ·simp
 ·split
  ·have := bisect_le (fun h => !leAt leK A B 0 h) 0 B.length (Nat.zero_le _)
   simp only [List.length_append, List.length_take, List.length_drop]; omega
  ·split
   ·have := bisect_le (fun h => leAt leK A B h 0) 0 A.length (Nat.zero_le _)
    simp only [List.length_append, List.length_take, List.length_drop]; omega
   ·have := symCut_le A B
    rw [List.length_append, sm_len, sm_len]
    simp only [List.length_take, List.length_drop]; omega
termination_by A.length + B.length
decreasing_by
 all_goals simp only [List.length_take, List.length_drop]
 ·omega
 ·omega
theorem sm_nil (A B : List KV) (h : A.length = 0 ∨ B.length = 0) : sm leK A B = A ++ B := by rw [sm, if_pos h]
theorem sym_ok : ∀ (d : Nat) (A B P S : List KV) (p id : Id) (n : Nat) (h : Heap), A.length + B.length ≤ d → A.length ≠ 0 → B.length ≠ 0 → Apart p id → n ≤ 1099511627776 → (P ++ (A ++ (B ++ S))).length = n → h id = some (cellsK (P ++ (A ++ (B ++ S)))) →
  callW E p 82 [.mslice id 0 n, .int .i64 P.length, .int .i64 (P.length + A.length : Nat), .int .i64 (P.length + A.length + B.length : Nat), .fn 25 []] h = some (.tuple [], upd (dropFrom p 0 h) id (cellsK (P ++ (sm leK A B ++ S)))) := by
 intro d
 induction d with
 | zero => intro A B P S p id n h hd hA hB; omega
 | succ d ih =>
  intro A B P S p id n h hd hA hB ap hb hn hh
  by_cases hA1 : A.length = 1
  ·obtain ⟨x, rfl⟩ := List.length_eq_one_iff.1 hA1
   have e := sym_one ap hb hn hh (k := bisect (fun h => !leAt leK [x] B 0 h) 0 B.length) rfl
   rw [sm, if_neg (by simp only [List.length_cons, List.length_nil]; omega), if_pos hA1]
   have e1 : [x].length = 1 := rfl
   rw [e1, e]
   simp
  by_cases hB1 : B.length = 1
  ·obtain ⟨y, rfl⟩ := List.length_eq_one_iff.1 hB1
   have e := sym_last ap hb hA1 hn hh (k := bisect (fun h => leAt leK A [y] h 0) 0 A.length) rfl
   rw [sm, if_neg (by simp only [List.length_cons, List.length_nil]; omega), if_neg hA1, if_pos hB1]
   have e1 : [y].length = 1 := rfl
   rw [e1, e]
   simp
  obtain ⟨s1, s2, s3⟩ := symCut_le A B
  have hsm : sm leK A B = sm leK (A.take (symCut leK A B)) (B.take ((A.length + B.length) / 2 - symCut leK A B)) ++ sm leK (A.drop (symCut leK A B)) (B.drop ((A.length + B.length) / 2 - symCut leK A B)) := by
   conv => lhs; rw [sm, if_neg (by omega), if_neg hA1, if_neg hB1]
  rw [hsm]
  have hn' := hn
  simp only [List.length_append] at hn'
  -- the search
  have hq : ∃ q, q = (A.length + B.length) / 2 := ⟨_, rfl⟩
  obtain ⟨q, hq⟩ := hq
  have hlo : ∃ lo hi, lo ≤ hi ∧ symCut leK A B = bisect (fun c => leAt leK A B c (q - 1 - c)) lo hi ∧ hi ≤ A.length ∧ hi ≤ q ∧ q - lo ≤ B.length ∧ ((q < A.length ∧ lo + B.length = q ∧ hi = q) ∨ (¬ q < A.length ∧ lo = 0 ∧ hi = A.length)) := by
   subst hq
   by_cases h : A.length > (A.length + B.length) / 2
   ·exact ⟨(A.length + B.length) / 2 + A.length - (A.length + B.length), (A.length + B.length) / 2, by omega, by simp only [symCut]; rw [if_pos h], by omega, by omega, by omega, by omega⟩
   ·exact ⟨0, A.length, by omega, by simp only [symCut]; rw [if_neg h], by omega, by omega, by omega, by omega⟩
  obtain ⟨lo, hi, l1, l2, l3, l4, l5, l6⟩ := hlo
  rw [← hq] at s2 s3 ⊢
  obtain ⟨K, g⟩ := b3_loop ap (n := n) (o := P.length) (q := q) hb (l := P ++ (A ++ (B ++ S))) (A := A) (B := B) hn
   (fun k hk => by rw [List.getElem?_append_right (by omega), Nat.add_sub_cancel_left, List.getElem?_append_left hk])
   (fun k hk => by rw [List.getElem?_append_right (by omega), Nat.add_assoc, Nat.add_sub_cancel_left, List.getElem?_append_right (by omega), Nat.add_sub_cancel_left, List.getElem?_append_left hk])
   (by omega) (hi - lo) lo hi (Nat.le_refl _) l1 l3 l4 l5
  rw [← l2] at g
  generalize symCut leK A B = s at *
  obtain ⟨t, ht⟩ : ∃ t, t = q - s := ⟨_, rfl⟩
  rw [← ht] at s3 ⊢
  have a1 : (A.take s).length = s := by rw [List.length_take]; omega
  have a2 : (A.drop s).length = A.length - s := List.length_drop
  have b1 : (B.take t).length = t := by rw [List.length_take]; omega
  have b2 : (B.drop t).length = B.length - t := List.length_drop
  have hAA : A.take s ++ A.drop s = A := List.take_append_drop _ _
  have hBB : B.take t ++ B.drop t = B := List.take_append_drop _ _
  generalize hA' : A.take s = A1 at *
  generalize A.drop s = A2 at *
  generalize hB' : B.take t = B1 at *
  generalize B.drop t = B2 at *
  have m1 := sm_len A1 B1
  have m2 := sm_len A2 B2
  have i1 : (P ++ A1).length = P.length + s := by rw [List.length_append, a1]
  have i2 : (P ++ sm leK A1 B1).length = P.length + q := by rw [List.length_append, m1]; omega
  have x0 : P ++ (A ++ (B ++ S)) = (P ++ A1) ++ (A2 ++ (B1 ++ (B2 ++ S))) := by rw [← hAA, ← hBB]; simp
  have x1 : (P ++ A1) ++ (B1 ++ (A2 ++ (B2 ++ S))) = P ++ (A1 ++ (B1 ++ (A2 ++ (B2 ++ S)))) := by simp
  have x2 : P ++ (sm leK A1 B1 ++ (A2 ++ (B2 ++ S))) = (P ++ sm leK A1 B1) ++ (A2 ++ (B2 ++ S)) := by simp
  have x3 : (P ++ sm leK A1 B1) ++ (sm leK A2 B2 ++ S) = P ++ (sm leK A1 B1 ++ sm leK A2 B2 ++ S) := by simp
  -- the calls
  have c1 : A2.length ≠ 0 → B1.length ≠ 0 → ∀ k h, h id = some (cellsK (P ++ (A ++ (B ++ S)))) → callW E (k :: p) 122 [.mslice id 0 n, .int .i64 (P.length + s : Nat), .int .i64 (P.length + A.length : Nat), .int .i64 (P.length + A.length + t : Nat), .fn 25 []] h = some (.tuple [], upd (dropFrom (k :: p) 0 h) id (cellsK (P ++ (A1 ++ (B1 ++ (A2 ++ (B2 ++ S))))))) := by
   intro hu hv k h hh
   rw [x0] at hh
   have e := rot_ok (ap.sub k) (n := n) (P := P ++ A1) (U := A2) (V := B1) (S := B2 ++ S) (fun h => hu (by rw [h]; rfl)) (fun h => hv (by rw [h]; rfl)) (by rw [← x0]; exact hn) hb hh
   rw [i1, a2, show P.length + s + (A.length - s) = P.length + A.length by omega, b1, x1] at e
   exact e
  have c2 : A1.length ≠ 0 → B1.length ≠ 0 → ∀ k h, h id = some (cellsK (P ++ (A1 ++ (B1 ++ (A2 ++ (B2 ++ S)))))) → callW E (k :: p) 82 [.mslice id 0 n, .int .i64 P.length, .int .i64 (P.length + s : Nat), .int .i64 (P.length + q : Nat), .fn 25 []] h = some (.tuple [], upd (dropFrom (k :: p) 0 h) id (cellsK (P ++ (sm leK A1 B1 ++ (A2 ++ (B2 ++ S)))))) := by
   intro hu hv k h hh
   have e := ih A1 B1 P (A2 ++ (B2 ++ S)) (k :: p) id n h (by omega) hu hv (ap.sub k) hb (by simp only [List.length_append]; omega) hh
   rw [a1, b1, show P.length + s + t = P.length + q by omega] at e
   exact e
  have c3 : A2.length ≠ 0 → B2.length ≠ 0 → ∀ k h, h id = some (cellsK (P ++ (sm leK A1 B1 ++ (A2 ++ (B2 ++ S))))) → callW E (k :: p) 82 [.mslice id 0 n, .int .i64 (P.length + q : Nat), .int .i64 (P.length + A.length + t : Nat), .int .i64 (P.length + A.length + B.length : Nat), .fn 25 []] h = some (.tuple [], upd (dropFrom (k :: p) 0 h) id (cellsK (P ++ (sm leK A1 B1 ++ sm leK A2 B2 ++ S)))) := by
   intro hu hv k h hh
   rw [x2] at hh
   have e := ih A2 B2 (P ++ sm leK A1 B1) S (k :: p) id n h (by omega) hu hv (ap.sub k) hb (by simp only [List.length_append]; omega) hh
   rw [i2, a2, b2, show P.length + q + (A.length - s) = P.length + A.length + t by omega, show P.length + A.length + t + (B.length - t) = P.length + A.length + B.length by omega, x3] at e
   exact e
  refine sym_gen ap (md := P.length + q) (nn := P.length + P.length + q + A.length) (ab := P.length + (P.length + A.length + B.length)) (r0 := P.length + hi) (st0 := P.length + lo) (st := P.length + s) (en := P.length + A.length + t) (pp := P.length + P.length + q + A.length - 1) (la := A.length) (lb := B.length) (K := K) hh
   ?_ hA1 ?_ hB1 ?_ ?_ ?_ ?_ ?_ ?_ ?_ ?_ ?_ ?_ (by omega) (by omega) (l1 := P ++ (A1 ++ (B1 ++ (A2 ++ (B2 ++ S))))) (fun h => c1 (by omega) (by omega)) ?_ (l2 := P ++ (sm leK A1 B1 ++ (A2 ++ (B2 ++ S)))) (fun h => c2 (by omega) (by omega)) ?_ (fun h => c3 (by omega) (by omega)) ?_
  ·rw [wrap_i64 (by omega) (by omega)]; omega
  ·rw [wrap_i64 (by omega) (by omega)]; omega
  ·rw [wrap_i64 (by omega) (by omega)]; omega
  ·exact wrap_u64 (by omega) (by omega)
  ·show Int.fdiv _ 2 = _
   rw [Int.fdiv_eq_ediv_of_nonneg _ (by omega)]; omega
  ·exact wrap_u64 (by omega) (by omega)
  ·exact wrap_i64 (by omega) (by omega)
  ·rw [wrap_i64 (by omega) (by omega)]; omega
  ·rcases l6 with ⟨u1, u2, u3⟩ | ⟨u1, u2, u3⟩
   ·exact .inl ⟨by omega, by rw [wrap_i64 (by omega) (by omega)]; omega, by omega⟩
   ·exact .inr ⟨by omega, by omega, by omega⟩
  ·rw [wrap_i64 (by omega) (by omega)]; omega
  ·intro c0 c h hc hh
   have e := g c0 c h hc hh
   obtain ⟨f1, f2, f3, f4, f5, f6⟩ := ap.facts
   rw [upd_id (h := dropFrom p c0 h) (by rw [f2, hh])]
   exact e
  ·rw [wrap_i64 (by omega) (by omega)]; omega
  ·intro hc
   rcases Nat.eq_zero_or_pos A2.length with h0 | h0
   ·rw [List.eq_nil_of_length_eq_zero h0] at x0 ⊢; rw [x0]; simp
   rcases Nat.eq_zero_or_pos B1.length with h0 | h0
   ·rw [List.eq_nil_of_length_eq_zero h0] at x0 ⊢; rw [x0]; simp
   omega
  ·intro hc
   rw [sm_nil A1 B1 (by omega)]; simp
  ·intro hc
   rw [sm_nil A2 B2 (by omega)]; simp
end Go.Ai.T0

namespace Go.Ai.T0
open Go
set_option maxRecDepth 100000
set_option maxHeartbeats 4000000
theorem cmp_lt : ∀ a b : List UInt8, Lib.compareBytes a b < 0 ↔ a < b
 | [], [] => by simp [Lib.compareBytes]
 | [], _ :: _ => by simp [Lib.compareBytes]
 | _ :: _, [] => by simp [Lib.compareBytes]
 | a :: r, b :: s => by
  rw [List.cons_lt_cons_iff, ← cmp_lt r s, Lib.compareBytes]
  by_cases h : a < b
  ·simp [h]
  ·by_cases h2 : b < a
   ·have : a ≠ b := fun e => by subst e; exact UInt8.lt_irrefl _ h2
    simp [h, h2, this]
   ·have : a = b := UInt8.le_antisymm (UInt8.not_lt.1 h2) (UInt8.not_lt.1 h)
    simp [this]
theorem leK_iff (x y : KV) : leK x y = true ↔ x.key ≤ y.key := by
 unfold leK
 rw [Bool.not_eq_true', decide_eq_false_iff_not, cmp_lt]
 exact Iff.rfl
theorem leK_trans (x y z : KV) (h1 : leK x y = true) (h2 : leK y z = true) : leK x z = true := by
 rw [leK_iff] at *
 exact List.le_trans h1 h2
theorem leK_total (x y : KV) : (leK x y || leK y x) = true := by
 rw [Bool.or_eq_true, leK_iff, leK_iff]
 exact List.le_total _ _
theorem leK_refl (x : KV) : leK x x = true := by
 have := leK_total x x
 simpa using this
theorem ins_here {X : List KV} {y : KV} (h : ∀ x ∈ X, leK x y = true) : List.merge X [y] leK = X ++ [y] := by
 have := merge_split leK X [] [] [y] (by simpa using h) (by simp)
 simpa using this
theorem ins_there {X : List KV} {y z : KV} (h : leK z y = false) : List.merge (X ++ [z]) [y] leK = List.merge X [y] leK ++ [z] := by
 have := merge_split leK X [y] [z] [] (by simp) (by simpa using h)
 simpa using this
def isFr (id : Id) (n a b i j : Nat) : Fr := (((((bot.set 9 (.int .i64 j)).set 8 (.int .i64 i)).set 3 (.fn 25 [])).set 2 (.int .i64 b)).set 1 (.int .i64 a)).set 0 (.mslice id 0 n)
theorem is_loop {p id : Id} (ap : Apart p id) {n b i : Nat} (hb : n ≤ 1099511627776) {y : KV} {P : List KV} : ∀ (X S : List KV), Srt leK X → (P ++ (X ++ y :: S)).length = n → ∃ (K j : Nat), ∀ (c0 c : Nat) (h : Heap), c0 ≤ c → h id = some (cellsK (P ++ (X ++ y :: S))) →
  iterW E 81 p [0, 1, 2, 3, 8, 9] L_81_4 c0 (isFr id n P.length b i (P.length + X.length)) c h = some (.exit 2, isFr id n P.length b i j, c + K, upd (dropFrom p c0 h) id (cellsK (P ++ (List.merge X [y] leK ++ S)))) := by
 obtain ⟨f1, f2, f3, f4, f5, f6⟩ := ap.facts
 refine snoc_ind (C := fun X => ∀ (S : List KV), Srt leK X → (P ++ (X ++ y :: S)).length = n → ∃ (K j : Nat), ∀ (c0 c : Nat) (h : Heap), c0 ≤ c → h id = some (cellsK (P ++ (X ++ y :: S))) →
  iterW E 81 p [0, 1, 2, 3, 8, 9] L_81_4 c0 (isFr id n P.length b i (P.length + X.length)) c h = some (.exit 2, isFr id n P.length b i j, c + K, upd (dropFrom p c0 h) id (cellsK (P ++ (List.merge X [y] leK ++ S))))) ?_ ?_
 ·intro S hs hl
  refine ⟨0, P.length, fun c0 c h hc hh => ?_⟩
  have hlt' : ¬ (P.length : Int) < P.length := by omega
  have hh' : h id = some (cellsK (P ++ (List.merge [] [y] leK ++ S))) := by simpa using hh
  rw [upd_id (h := dropFrom p c0 h) (by rw [f2, hh'])]
  simp only [List.length_nil, Nat.add_zero]
  unfold isFr
  rw [rd_81_4]
  generalize hr : execW E 81 p _ _ _ _ = e
  simp -implicitDefEqProofs (maxSteps := 1000000) [-Int.natCast_add, Go.Proofs.Tryz.f81, Code.loopAt, Code.key, hlt'] at hr
  subst hr
  simp
 ·intro X z ih S hs hl
  have hl' := hl
  simp only [List.length_append, List.length_cons, List.length_nil] at hl'
  have hXs : Srt leK X := hs.sublist (List.sublist_append_left _ _)
  have hA : P.length + (X ++ [z]).length = P.length + X.length + 1 := by simp; omega
  rw [hA]
  have w1 : IntKind.i64.wrap (((P.length + X.length + 1 : Nat) : Int) - 1) = ((P.length + X.length : Nat) : Int) := by rw [wrap_i64 (by omega) (by omega)]; omega
  have hlt' : (P.length : Int) < ((P.length + X.length + 1 : Nat) : Int) := by omega
  have hl0 : P ++ (X ++ [z] ++ y :: S) = (P ++ X) ++ z :: y :: S := by simp
  have hx : (P ++ (X ++ [z] ++ y :: S))[P.length + X.length]? = some z := by rw [hl0, ← List.length_append]; simp
  have hy : (P ++ (X ++ [z] ++ y :: S))[P.length + X.length + 1]? = some y := by
   have e1 : (P ++ X) ++ z :: y :: S = (P ++ X ++ [z]) ++ y :: S := by simp
   have e2 : (P ++ X ++ [z]).length = P.length + X.length + 1 := by simp; omega
   rw [hl0, e1, ← e2]; simp
  have hcl := cellsK_len (P ++ (X ++ [z] ++ y :: S))
  have gx := cellsK_get hx
  have gy := cellsK_get hy
  have na : P.length + X.length < n := by omega
  have nb : P.length + X.length + 1 < n := by omega
  have na' : ((P.length + X.length : Nat) : Int) < n := by omega
  have nb' : ((P.length + X.length + 1 : Nat) : Int) < n := by omega
  have la : (P.length + X.length) * 11 + 11 ≤ (P ++ (X ++ [z] ++ y :: S)).length * 11 := by omega
  have lb : (P.length + X.length + 1) * 11 + 11 ≤ (P ++ (X ++ [z] ++ y :: S)).length * 11 := by omega
  have g := fun q h => compareK y z q h
  obtain ⟨cx, hcx, hsx⟩ := flatK' z
  obtain ⟨cy, hcy, hsy⟩ := flatK' y
  by_cases hcmp : Lib.compareBytes y.key z.key < 0
  ·have hzy : leK z y = false := by unfold leK; simpa using hcmp
   obtain ⟨K, j, e⟩ := ih (z :: S) hXs (by simp only [List.length_append, List.length_cons] at hl ⊢; omega)
   refine ⟨1 + K, j, fun c0 c h hc hh => ?_⟩
   rw [ins_there hzy]
   have hm : P ++ (List.merge X [y] leK ++ [z] ++ S) = P ++ (List.merge X [y] leK ++ z :: S) := by simp
   rw [hm]
   have e := e c0 (c + 1) (upd (dropFrom p c0 h) id (cellsK (P ++ (X ++ y :: z :: S)))) (by omega) (by simp)
   rw [f1, drop_drop_self, upd_upd] at e
   generalize hlq : P ++ (X ++ [z] ++ y :: S) = l at *
   have s1 := cellsK_set (l := l) (i := P.length + X.length + 1) (by omega) z
   have s2 := cellsK_set (l := l.set (P.length + X.length + 1) z) (i := P.length + X.length) (by simp; omega) y
   rw [← List.append_assoc] at s1 s2
   have hcl2 := cellsK_len (l.set (P.length + X.length + 1) z)
   rw [List.length_set] at hcl2
   have hsw : (l.set (P.length + X.length + 1) z).set (P.length + X.length) y = P ++ (X ++ y :: z :: S) := by
    have := swp_adj (P ++ X) S z y
    rw [← hl0, List.length_append, swp_comm _ _ _ (by omega)] at this
    unfold swp at this
    rw [hx, hy] at this
    simpa using this
   rw [hsw] at s2
   rw [hcx] at g gx s1 
   rw [hcy] at g gy s2
   obtain ⟨_, _, _, _, _, _, _, _, _, _, _, rfl⟩ := hsx
   obtain ⟨_, _, _, _, _, _, _, _, _, _, _, rfl⟩ := hsy
   unfold isFr at e ⊢
   rw [rd_81_4]
   generalize hr : execW E 81 p _ _ _ _ = ee
   simp -implicitDefEqProofs (maxSteps := 1000000) [-Int.natCast_add, -List.length_append, -List.cons_append, -List.append_assoc, Go.Proofs.Tryz.f81, Code.loopAt, Code.key, hlt', w1, hh, hcl, hcl2, gx, gy, la, lb, na, nb, na', nb', s1, s2, g, hcmp, f1, f2, f3, f4, f5, f6, sameAt, beqL_refl] at hr
   subst hr
   rw [show c + (1 + K) = c + 1 + K by omega]
   simp [-Int.natCast_add, f1, hc] at e ⊢
   exact e
  ·have hzy : leK z y = true := by unfold leK; simpa using hcmp
   refine ⟨1, P.length + X.length + 1, fun c0 c h hc hh => ?_⟩
   have hall : ∀ x ∈ X ++ [z], leK x y = true := by
    intro x hx
    rcases List.mem_append.1 hx with hx | hx
    ·exact leK_trans _ _ _ ((List.pairwise_append.1 hs).2.2 x hx z (by simp)) hzy
    ·rw [List.mem_singleton.1 hx]; exact hzy
   rw [ins_here hall]
   have hm : P ++ (X ++ [z] ++ [y] ++ S) = P ++ (X ++ [z] ++ y :: S) := by simp
   rw [hm]
   generalize P ++ (X ++ [z] ++ y :: S) = l at *
   rw [upd_id (h := dropFrom p c0 h) (by rw [f2, hh])]
   rw [hcx] at g gx
   rw [hcy] at g gy
   obtain ⟨_, _, _, _, _, _, _, _, _, _, _, rfl⟩ := hsx
   obtain ⟨_, _, _, _, _, _, _, _, _, _, _, rfl⟩ := hsy
   unfold isFr
   rw [rd_81_4]
   generalize hr : execW E 81 p _ _ _ _ = ee
   simp -implicitDefEqProofs (maxSteps := 1000000) [-Int.natCast_add, -List.length_append, -List.cons_append, -List.append_assoc, Go.Proofs.Tryz.f81, Code.loopAt, Code.key, hlt', w1, hh, hcl, gx, gy, la, lb, na, nb, na', nb', g, hcmp, f1, f2, f3, f4, f5, f6, sameAt, beqL_refl] at hr
   subst hr
   simp [hc]
end Go.Ai.T0

namespace Go.Ai.T0
open Go
set_option maxRecDepth 100000
set_option maxHeartbeats 4000000
def ioFr (id : Id) (n a b i : Nat) : Fr := ((((bot.set 8 (.int .i64 i)).set 3 (.fn 25 [])).set 2 (.int .i64 b)).set 1 (.int .i64 a)).set 0 (.mslice id 0 n)
theorem merge_srt {X : List KV} {y : KV} (h : Srt leK X) : Srt leK (List.merge X [y] leK) := (insB_all leK leK_trans leK_total [y] X h).1
theorem io_loop {p id : Id} (ap : Apart p id) {n b : Nat} (hb : n ≤ 1099511627776) {P S : List KV} : ∀ (R X : List KV), Srt leK X → (P ++ (X ++ (R ++ S))).length = n → P.length + X.length + R.length = b → ∃ K, ∀ (c0 c : Nat) (h : Heap), c0 ≤ c → h id = some (cellsK (P ++ (X ++ (R ++ S)))) →
  iterW E 81 p [0, 1, 2, 3, 8] L_81_1 c0 (ioFr id n P.length b (P.length + X.length)) c h = some (.exit 0, ioFr id n P.length b b, c + K, upd (dropFrom p c0 h) id (cellsK (P ++ (R.foldl (fun a x => List.merge a [x] leK) X ++ S)))) := by
 obtain ⟨f1, f2, f3, f4, f5, f6⟩ := ap.facts
 intro R
 induction R with
 | nil =>
  intro X hs hl hbb
  simp only [List.length_nil, Nat.add_zero] at hbb
  subst hbb
  refine ⟨0, fun c0 c h hc hh => ?_⟩
  have hlt' : ¬ ((P.length + X.length : Nat) : Int) < ((P.length + X.length : Nat) : Int) := by omega
  have hh' : h id = some (cellsK (P ++ (X ++ S))) := by simpa using hh
  simp only [List.foldl_nil]
  rw [upd_id (h := dropFrom p c0 h) (by rw [f2, hh'])]
  unfold ioFr
  rw [rd_81_1]
  generalize hr : execW E 81 p _ _ _ _ = e
  simp -implicitDefEqProofs (maxSteps := 1000000) [-Int.natCast_add, Go.Proofs.Tryz.f81, Code.loopAt, Code.hide, Code.key, hlt'] at hr
  subst hr
  simp
 | cons y R ih =>
  intro X hs hl hbb
  have hl' := hl
  simp only [List.length_append, List.length_cons] at hl' hbb
  obtain ⟨K1, j, g⟩ := is_loop ap (b := b) (i := P.length + X.length) hb (y := y) (P := P) X (R ++ S) hs hl
  have lm : (List.merge X [y] leK).length = X.length + 1 := by simp [List.length_merge]
  obtain ⟨K2, e⟩ := ih (List.merge X [y] leK) (merge_srt hs) (by simp only [List.length_append, lm]; omega) (by rw [lm]; omega)
  have w1 : IntKind.i64.wrap (((P.length + X.length : Nat) : Int) + 1) = ((P.length + X.length + 1 : Nat) : Int) := by rw [wrap_i64 (by omega) (by omega)]; omega
  rw [lm, ← Nat.add_assoc] at e
  refine ⟨K1 + K2, fun c0 c h hc hh => ?_⟩
  have e := e c0 (c + K1) (upd (dropFrom p c0 h) id (cellsK (P ++ (List.merge X [y] leK ++ (R ++ S))))) (by omega) (by simp)
  rw [f1, drop_drop_self, upd_upd] at e
  have hl0 : P ++ (X ++ (y :: R ++ S)) = P ++ (X ++ y :: (R ++ S)) := by simp
  rw [hl0] at hh
  simp only [List.foldl_cons]
  generalize P ++ (X ++ y :: (R ++ S)) = l0 at *
  generalize P ++ (List.merge X [y] leK ++ (R ++ S)) = l1 at *
  generalize P ++ (List.foldl (fun a x => List.merge a [x] leK) (List.merge X [y] leK) R ++ S) = l2 at *
  have hlt' : ((P.length + X.length : Nat) : Int) < b := by omega
  have hlt : P.length + X.length < b := by omega
  unfold ioFr at e ⊢
  simp only [isFr] at g
  rw [rd_81_1]
  generalize P.length + X.length + 1 = i1 at *
  generalize P.length + X.length = i0 at *
  generalize hr : execW E 81 p _ _ _ _ = ee
  simp -implicitDefEqProofs (maxSteps := 1000000) [-Int.natCast_add, -List.length_append, -List.cons_append, -List.append_assoc, Go.Proofs.Tryz.f81, Code.loopAt, Code.hide, Code.key, hlt', hlt, w1, hh, g, f1, f2, f3, f4, f5, f6] at hr
  subst hr
  rw [show c + (K1 + K2) = c + K1 + K2 by omega]
  have hd : dropFrom p c0 (dropFrom p c h) = dropFrom p c0 h := drop_drop hc
  simp [-Int.natCast_add, f1, hc, hd] at e ⊢
  exact e
theorem ins_ok {p id : Id} (ap : Apart p id) {P X S : List KV} {n : Nat} (hn : (P ++ (X ++ S)).length = n) (hb : n ≤ 1099511627776) {h : Heap} (hh : h id = some (cellsK (P ++ (X ++ S)))) :
  callW E p 81 [.mslice id 0 n, .int .i64 P.length, .int .i64 (P.length + X.length : Nat), .fn 25 []] h = some (.tuple [], upd (dropFrom p 0 h) id (cellsK (P ++ (insB leK X ++ S)))) := by
 obtain ⟨f1, f2, f3, f4, f5, f6⟩ := ap.facts
 have hn' := hn
 simp only [List.length_append] at hn'
 have w1 : IntKind.i64.wrap ((P.length : Int) + 1) = ((P.length + 1 : Nat) : Int) := by rw [wrap_i64 (by omega) (by omega)]; omega
 cases X with
 | nil =>
  have hlt' : ¬ ((P.length + 1 : Nat) : Int) < P.length := by omega
  have hlt : ¬ P.length + 1 < P.length := by omega
  have hh' : h id = some (cellsK (P ++ (insB leK [] ++ S))) := by simpa [insB] using hh
  rw [upd_id (h := dropFrom p 0 h) (by rw [f2, hh'])]
  have g : ∀ h, iterW E 81 p [0, 1, 2, 3, 8] L_81_1 0 (ioFr id n P.length P.length (P.length + 1)) 0 h = some (.exit 0, ioFr id n P.length P.length (P.length + 1), 0, dropFrom p 0 h) := by
   intro h
   unfold ioFr
   rw [rd_81_1]
   generalize hr : execW E 81 p _ _ _ _ = e
   simp -implicitDefEqProofs (maxSteps := 1000000) [-Int.natCast_add, Go.Proofs.Tryz.f81, Code.loopAt, Code.hide, Code.key, hlt', hlt] at hr
   subst hr
   simp
  simp only [ioFr] at g
  generalize P.length + 1 = i at *
  rw [eq_81]
  simp -implicitDefEqProofs (maxSteps := 1000000) [-Int.natCast_add, -List.length_append, Go.Proofs.Tryz.f81, Code.hide, Code.key, w1, g, f1, f2, f3, f4, f5, f6]
 | cons x R =>
  have hi : insB leK (x :: R) = R.foldl (fun a x => List.merge a [x] leK) [x] := by simp only [insB, List.foldl_cons, List.nil_merge]
  obtain ⟨K, g⟩ := io_loop ap (n := n) (b := P.length + (x :: R).length) hb (P := P) (S := S) R [x] (by simp) (by simpa using hn) (by simp; omega)
  have g := fun h hh => g 0 0 h (Nat.le_refl _) hh
  simp only [ioFr] at g
  have hl : P ++ ([x] ++ (R ++ S)) = P ++ (x :: R ++ S) := by simp
  have hl1 : [x].length = 1 := rfl
  rw [hl, hl1] at g
  rw [hi]
  generalize P ++ (x :: R ++ S) = l0 at *
  generalize P ++ (List.foldl (fun a x => List.merge a [x] leK) [x] R ++ S) = l1 at *
  generalize P.length + (x :: R).length = b at *
  generalize P.length + 1 = i at *
  rw [eq_81]
  simp -implicitDefEqProofs (maxSteps := 1000000) [-Int.natCast_add, -List.length_append, Go.Proofs.Tryz.f81, Code.hide, Code.key, w1, g, hh, f1, f2, f3, f4, f5, f6]
end Go.Ai.T0

namespace Go.Ai.T0
open Go
set_option maxRecDepth 100000
set_option maxHeartbeats 4000000
def blFr (id : Id) (n k a b : Nat) : Fr := (((((bot.set 8 (.int .i64 b)).set 7 (.int .i64 a)).set 6 (.int .i64 k)).set 2 (.fn 25 [])).set 1 (.int .i64 n)).set 0 (.mslice id 0 n)
theorem insB_len (l : List KV) : (insB leK l).length = l.length := (insB_spec leK leK_trans leK_total l).2.1.length_eq
theorem bl_loop {p id : Id} (ap : Apart p id) {n : Nat} (hb : n ≤ 1099511627776) : ∀ (s : Nat) (R P : List KV), R.length ≤ s → (P ++ R).length = n → ∃ (K : Nat) (P' R' : List KV), (P' ++ R').length = n ∧ P' ++ insB leK R' = P ++ blocks leK 20 R ∧ ∀ (c0 c : Nat) (h : Heap), c0 ≤ c → h id = some (cellsK (P ++ R)) →
  iterW E 48 p [0, 1, 2, 6, 7, 8] L_48_2 c0 (blFr id n 20 P.length (P.length + 20)) c h = some (.exit 0, blFr id n 20 P'.length (P'.length + 20), c + K, upd (dropFrom p c0 h) id (cellsK (P' ++ R'))) := by
 obtain ⟨f1, f2, f3, f4, f5, f6⟩ := ap.facts
 intro s
 induction s with
 | zero =>
  intro R P hs hn
  obtain rfl := List.eq_nil_of_length_eq_zero (Nat.le_zero.1 hs)
  refine ⟨0, P, [], hn, by rw [blocks, if_pos (by simp)], fun c0 c h hc hh => ?_⟩
  rw [upd_id (h := dropFrom p c0 h) (by rw [f2, hh])]
  simp only [List.append_nil] at hn
  have hlt' : ¬ ((P.length + 20 : Nat) : Int) ≤ n := by omega
  have hlt : ¬ P.length + 20 ≤ n := by omega
  unfold blFr
  rw [rd_48_2]
  generalize P.length + 20 = b at *
  generalize hr : execW E 48 p _ _ _ _ = e
  simp -implicitDefEqProofs (maxSteps := 1000000) [-Int.natCast_add, Go.Proofs.Tryz.f48, Code.loopAt, Code.hide, Code.key, hlt', hlt] at hr
  subst hr
  simp
 | succ s ih =>
  intro R P hs hn
  have hn' := hn
  rw [List.length_append] at hn'
  by_cases hR : R.length < 20
  ·refine ⟨0, P, R, hn, by rw [blocks, if_pos (.inr hR)], fun c0 c h hc hh => ?_⟩
   rw [upd_id (h := dropFrom p c0 h) (by rw [f2, hh])]
   have hlt' : ¬ ((P.length + 20 : Nat) : Int) ≤ n := by omega
   have hlt : ¬ P.length + 20 ≤ n := by omega
   unfold blFr
   rw [rd_48_2]
   generalize P.length + 20 = b at *
   generalize hr : execW E 48 p _ _ _ _ = e
   simp -implicitDefEqProofs (maxSteps := 1000000) [-Int.natCast_add, Go.Proofs.Tryz.f48, Code.loopAt, Code.hide, Code.key, hlt', hlt] at hr
   subst hr
   simp
  ·have hb1 : blocks leK 20 R = insB leK (R.take 20) ++ blocks leK 20 (R.drop 20) := by
    conv => lhs; rw [blocks, if_neg (by omega)]
   have lt : (R.take 20).length = 20 := by rw [List.length_take]; omega
   have ld : (R.drop 20).length = R.length - 20 := List.length_drop
   have hRR : R.take 20 ++ R.drop 20 = R := List.take_append_drop _ _
   rw [hb1]
   generalize R.take 20 = R1 at *
   generalize R.drop 20 = R2 at *
   subst hRR
   have li : (P ++ insB leK R1).length = P.length + 20 := by rw [List.length_append, insB_len, lt]
   obtain ⟨K, P', R', q1, q2, q3⟩ := ih R2 (P ++ insB leK R1) (by omega) (by rw [List.length_append, li]; omega)
   have g := fun k h hh => ins_ok (ap.sub k) (P := P) (X := R1) (S := R2) hn hb (h := h) hh
   rw [lt] at g
   rw [li] at q3
   refine ⟨1 + K, P', R', q1, by rw [q2]; simp, fun c0 c h hc hh => ?_⟩
   have e := q3 c0 (c + 1) (upd (dropFrom p c0 h) id (cellsK (P ++ insB leK R1 ++ R2))) (by omega) (by simp)
   rw [f1, drop_drop_self, upd_upd] at e
   have hl : P ++ insB leK R1 ++ R2 = P ++ (insB leK R1 ++ R2) := List.append_assoc _ _ _
   rw [hl] at e
   have hlt' : ((P.length + 20 : Nat) : Int) ≤ n := by omega
   have hlt : P.length + 20 ≤ n := by omega
   have w1 : IntKind.i64.wrap (((P.length + 20 : Nat) : Int) + 20) = ((P.length + 20 + 20 : Nat) : Int) := by rw [wrap_i64 (by omega) (by omega)]; omega
   generalize P ++ (R1 ++ R2) = l0 at *
   generalize P ++ (insB leK R1 ++ R2) = l1 at *
   generalize P.length + 20 + 20 = b2 at *
   generalize P.length + 20 = b at *
   unfold blFr at e ⊢
   rw [rd_48_2]
   generalize hr : execW E 48 p _ _ _ _ = ee
   simp -implicitDefEqProofs (maxSteps := 1000000) [-Int.natCast_add, -List.length_append, -List.cons_append, -List.append_assoc, Go.Proofs.Tryz.f48, Code.loopAt, Code.hide, Code.key, hlt', hlt, w1, hh, g, f1, f2, f3, f4, f5, f6] at hr
   subst hr
   rw [show c + (1 + K) = c + 1 + K by omega]
   simp [-Int.natCast_add, f1, hc] at e ⊢
   exact e
theorem pass_len (k : Nat) (l : List KV) : (pass leK k l).length = l.length := by
 rw [pass]
 split
 ·split
  ·rfl
  ·rw [sm_len, List.length_take, List.length_drop]; omega
 ·rw [List.length_append, sm_len, pass_len]
  simp only [List.length_take, List.length_drop]; omega
termination_by l.length
decreasing_by simp only [List.length_drop]; omega
theorem ps_loop {p id : Id} (ap : Apart p id) {n k : Nat} (hk : 0 < k) (hkn : k < n) (hb : n ≤ 1099511627776) : ∀ (s : Nat) (R P : List KV), R.length ≤ s → (P ++ R).length = n → ∃ (K : Nat) (P' R' : List KV), R'.length < 2 * k ∧ (P' ++ R').length = n ∧ P' ++ (if R'.length ≤ k then R' else sm leK (R'.take k) (R'.drop k)) = P ++ pass leK k R ∧ ∀ (c0 c : Nat) (h : Heap), c0 ≤ c → h id = some (cellsK (P ++ R)) →
  iterW E 48 p [0, 1, 2, 6, 7, 8] L_48_9 c0 (blFr id n k P.length (P.length + 2 * k)) c h = some (.exit 4, blFr id n k P'.length (P'.length + 2 * k), c + K, upd (dropFrom p c0 h) id (cellsK (P' ++ R'))) := by
 obtain ⟨f1, f2, f3, f4, f5, f6⟩ := ap.facts
 intro s
 induction s with
 | zero =>
  intro R P hs hn
  obtain rfl := List.eq_nil_of_length_eq_zero (Nat.le_zero.1 hs)
  have hl0 : ([] : List KV).length = 0 := rfl
  refine ⟨0, P, [], by omega, hn, by conv => rhs; rw [pass, if_pos (by right; omega)], fun c0 c h hc hh => ?_⟩
  rw [upd_id (h := dropFrom p c0 h) (by rw [f2, hh])]
  simp only [List.append_nil] at hn
  have hlt' : ¬ ((P.length + 2 * k : Nat) : Int) ≤ n := by omega
  have hlt : ¬ P.length + 2 * k ≤ n := by omega
  unfold blFr
  rw [rd_48_9]
  generalize P.length + 2 * k = b at *
  generalize hr : execW E 48 p _ _ _ _ = e
  simp -implicitDefEqProofs (maxSteps := 1000000) [-Int.natCast_add, Go.Proofs.Tryz.f48, Code.loopAt, Code.hide, Code.key, hlt', hlt] at hr
  subst hr
  simp
 | succ s ih =>
  intro R P hs hn
  have hn' := hn
  rw [List.length_append] at hn'
  by_cases hR : R.length < 2 * k
  ·refine ⟨0, P, R, hR, hn, by conv => rhs; rw [pass, if_pos (.inr hR)], fun c0 c h hc hh => ?_⟩
   rw [upd_id (h := dropFrom p c0 h) (by rw [f2, hh])]
   have hlt' : ¬ ((P.length + 2 * k : Nat) : Int) ≤ n := by omega
   have hlt : ¬ P.length + 2 * k ≤ n := by omega
   unfold blFr
   rw [rd_48_9]
   generalize P.length + 2 * k = b at *
   generalize hr : execW E 48 p _ _ _ _ = e
   simp -implicitDefEqProofs (maxSteps := 1000000) [-Int.natCast_add, Go.Proofs.Tryz.f48, Code.loopAt, Code.hide, Code.key, hlt', hlt] at hr
   subst hr
   simp
  ·have hb1 : pass leK k R = sm leK (R.take k) ((R.drop k).take k) ++ pass leK k ((R.drop k).drop k) := by
    conv => lhs; rw [pass, if_neg (by omega)]
    rw [List.drop_drop, show k + k = 2 * k by omega]
   have lt : (R.take k).length = k := by rw [List.length_take]; omega
   have lt2 : ((R.drop k).take k).length = k := by rw [List.length_take, List.length_drop]; omega
   have ld : ((R.drop k).drop k).length = R.length - 2 * k := by rw [List.length_drop, List.length_drop]; omega
   have hRR : R.take k ++ ((R.drop k).take k ++ (R.drop k).drop k) = R := by rw [List.take_append_drop, List.take_append_drop]
   rw [hb1]
   generalize (R.drop k).drop k = R3 at *
   generalize (R.drop k).take k = R2 at *
   generalize R.take k = R1 at *
   subst hRR
   have li : (P ++ sm leK R1 R2).length = P.length + 2 * k := by rw [List.length_append, sm_len, lt, lt2]; omega
   obtain ⟨K, P', R', q0, q1, q2, q3⟩ := ih R3 (P ++ sm leK R1 R2) (by omega) (by rw [List.length_append, li]; omega)
   have g := fun kk h hh => sym_ok (R1.length + R2.length) R1 R2 P R3 (kk :: p) id n h (Nat.le_refl _) (by omega) (by omega) (ap.sub kk) hb hn hh
   rw [lt, lt2, show P.length + k + k = P.length + 2 * k by omega] at g
   rw [li] at q3
   refine ⟨1 + K, P', R', q0, q1, by rw [q2]; simp, fun c0 c h hc hh => ?_⟩
   have e := q3 c0 (c + 1) (upd (dropFrom p c0 h) id (cellsK (P ++ sm leK R1 R2 ++ R3))) (by omega) (by simp)
   rw [f1, drop_drop_self, upd_upd] at e
   have hl : P ++ sm leK R1 R2 ++ R3 = P ++ (sm leK R1 R2 ++ R3) := List.append_assoc _ _ _
   rw [hl] at e
   have hlt' : ((P.length + 2 * k : Nat) : Int) ≤ n := by omega
   have hlt : P.length + 2 * k ≤ n := by omega
   have w1 : IntKind.i64.wrap ((P.length : Int) + (k : Int)) = ((P.length + k : Nat) : Int) := by rw [wrap_i64 (by omega) (by omega)]; omega
   have w2 : IntKind.i64.wrap (2 * (k : Int)) = ((2 * k : Nat) : Int) := by rw [wrap_i64 (by omega) (by omega)]; omega
   have w3 : IntKind.i64.wrap (((P.length + 2 * k : Nat) : Int) + ((2 * k : Nat) : Int)) = ((P.length + 2 * k + 2 * k : Nat) : Int) := by rw [wrap_i64 (by omega) (by omega)]; omega
   generalize P ++ (R1 ++ (R2 ++ R3)) = l0 at *
   generalize P ++ (sm leK R1 R2 ++ R3) = l1 at *
   generalize P.length + 2 * k + 2 * k = b2 at *
   generalize P.length + 2 * k = b at *
   generalize P.length + k = m at *
   unfold blFr at e ⊢
   generalize 2 * k = kk at *
   rw [rd_48_9]
   generalize hr : execW E 48 p _ _ _ _ = ee
   simp -implicitDefEqProofs (maxSteps := 1000000) [-Int.natCast_add, -List.length_append, -List.cons_append, -List.append_assoc, Go.Proofs.Tryz.f48, Code.loopAt, Code.hide, Code.key, hlt', hlt, w1, w2, w3, hh, g, f1, f2, f3, f4, f5, f6] at hr
   subst hr
   rw [show c + (1 + K) = c + 1 + K by omega]
   simp [-Int.natCast_add, f1, hc] at e ⊢
   exact e
end Go.Ai.T0

namespace Go.Ai.T0
open Go
set_option maxRecDepth 100000
set_option maxHeartbeats 4000000
def ppFr (id : Id) (n k : Nat) : Fr := (((bot.set 6 (.int .i64 k)).set 2 (.fn 25 [])).set 1 (.int .i64 n)).set 0 (.mslice id 0 n)
theorem nl20 : ((20 : Nat) : Int) = 20 := rfl
theorem pp_loop {p id : Id} (ap : Apart p id) {n : Nat} (hb : n ≤ 1099511627776) : ∀ (f k : Nat) (l : List KV), 0 < k → l.length = n → n ≤ f + k → ∃ K k', ∀ (c0 c : Nat) (h : Heap), c0 ≤ c → h id = some (cellsK l) →
  iterW E 48 p [0, 1, 2, 6] L_48_7 c0 (ppFr id n k) c h = some (.exit 2, ppFr id n k', c + K, upd (dropFrom p c0 h) id (cellsK (passes leK f k l))) := by
 obtain ⟨f1, f2, f3, f4, f5, f6⟩ := ap.facts
 have hend : ∀ (k : Nat) (l : List KV), n ≤ k → ∀ (c0 c : Nat) (h : Heap), c0 ≤ c → h id = some (cellsK l) →
   iterW E 48 p [0, 1, 2, 6] L_48_7 c0 (ppFr id n k) c h = some (.exit 2, ppFr id n k, c + 0, upd (dropFrom p c0 h) id (cellsK l)) := by
  intro k l hk c0 c h hc hh
  rw [upd_id (h := dropFrom p c0 h) (by rw [f2, hh])]
  have hlt' : ¬ (k : Int) < n := by omega
  have hlt : ¬ k < n := by omega
  unfold ppFr
  rw [rd_48_7]
  generalize hr : execW E 48 p _ _ _ _ = e
  simp -implicitDefEqProofs (maxSteps := 1000000) [-Int.natCast_add, Go.Proofs.Tryz.f48, Code.loopAt, Code.hide, Code.key, hlt', hlt] at hr
  subst hr
  simp
 intro f
 induction f with
 | zero => intro k l hk hl hn; exact ⟨0, k, hend k l (by omega)⟩
 | succ f ih =>
  intro k l hk hl hn
  by_cases hkn : k < n
  ·have hp : passes leK (f + 1) k l = passes leK f (2 * k) (pass leK k l) := by rw [passes, if_neg (by omega)]
   rw [hp]
   obtain ⟨K1, P', R', q0, q1, q2, q3⟩ := ps_loop ap hk hkn hb l.length l [] (Nat.le_refl _) hl
   obtain ⟨K2, k', e⟩ := ih (2 * k) (pass leK k l) (by omega) (by rw [pass_len]; exact hl) (by omega)
   have q1' := q1
   rw [List.length_append] at q1'
   simp only [List.length_nil, List.nil_append, Nat.zero_add] at q2 q3
   have hlt' : (k : Int) < n := by omega
   have w1 : IntKind.i64.wrap (2 * (k : Int)) = ((2 * k : Nat) : Int) := by rw [wrap_i64 (by omega) (by omega)]; omega
   have w2 : IntKind.i64.wrap ((k : Int) * 2) = ((2 * k : Nat) : Int) := by rw [wrap_i64 (by omega) (by omega)]; omega
   have w3 : IntKind.i64.wrap ((P'.length : Int) + (k : Int)) = ((P'.length + k : Nat) : Int) := by rw [wrap_i64 (by omega) (by omega)]; omega
   have hpl := pass_len k l
   by_cases hR : R'.length ≤ k
   ·rw [if_pos hR] at q2
    refine ⟨K1 + K2, k', fun c0 c h hc hh => ?_⟩
    have e := e c0 (c + K1) (upd (dropFrom p c0 h) id (cellsK (pass leK k l))) (by omega) (by simp)
    rw [f1, drop_drop_self, upd_upd] at e
    rw [q2] at q3
    have hm' : ¬ ((P'.length + k : Nat) : Int) < n := by omega
    have hm : ¬ P'.length + k < n := by omega
    generalize pass leK k l = l1 at *
    generalize passes leK f (2 * k) l1 = l2 at *
    simp only [blFr, nat0] at q3
    unfold ppFr at e ⊢
    generalize 2 * k = kk at *
    generalize P'.length + kk = bb at *
    generalize P'.length + k = mm at *
    rw [rd_48_7]
    generalize hr : execW E 48 p _ _ _ _ = ee
    simp -implicitDefEqProofs (maxSteps := 1000000) [-Int.natCast_add, -List.length_append, -List.cons_append, -List.append_assoc, Go.Proofs.Tryz.f48, Code.loopAt, Code.hide, Code.key, hlt', hkn, hm, hm', w1, w2, w3, hh, q3, f1, f2, f3, f4, f5, f6] at hr
    subst hr
    rw [show c + (K1 + K2) = c + K1 + K2 by omega]
    have hd : dropFrom p c0 (dropFrom p c h) = dropFrom p c0 h := drop_drop hc
    simp [-Int.natCast_add, f1, hc, hd] at e ⊢
    exact e
   ·rw [if_neg hR] at q2
    have lt : (R'.take k).length = k := by rw [List.length_take]; omega
    have ld : (R'.drop k).length = R'.length - k := List.length_drop
    have hRR : R'.take k ++ R'.drop k = R' := List.take_append_drop _ _
    generalize R'.take k = R1 at *
    generalize R'.drop k = R2 at *
    subst hRR
    have g := fun kk h hh => sym_ok (R1.length + R2.length) R1 R2 P' [] (kk :: p) id n h (Nat.le_refl _) (by omega) (by omega) (ap.sub kk) hb (by rw [List.append_nil]; exact q1) hh
    rw [List.append_nil, List.append_nil, q2, show P'.length + R1.length + R2.length = n by omega, lt] at g
    refine ⟨K1 + 1 + K2, k', fun c0 c h hc hh => ?_⟩
    have e := e c0 (c + K1 + 1) (upd (dropFrom p c0 h) id (cellsK (pass leK k l))) (by omega) (by simp)
    rw [f1, drop_drop_self, upd_upd] at e
    have hm' : ((P'.length + k : Nat) : Int) < n := by omega
    have hm : P'.length + k < n := by omega
    generalize P' ++ (R1 ++ R2) = l0 at *
    generalize pass leK k l = l1 at *
    generalize passes leK f (2 * k) l1 = l2 at *
    simp only [blFr, nat0] at q3
    unfold ppFr at e ⊢
    generalize 2 * k = kk at *
    generalize P'.length + kk = bb at *
    generalize P'.length + k = mm at *
    rw [rd_48_7]
    generalize hr : execW E 48 p _ _ _ _ = ee
    simp -implicitDefEqProofs (maxSteps := 1000000) [-Int.natCast_add, -List.length_append, -List.cons_append, -List.append_assoc, Go.Proofs.Tryz.f48, Code.loopAt, Code.hide, Code.key, hlt', hkn, hm, hm', w1, w2, w3, hh, q3, g, f1, f2, f3, f4, f5, f6] at hr
    subst hr
    rw [show c + (K1 + 1 + K2) = c + K1 + 1 + K2 by omega]
    have hd : dropFrom p c0 (dropFrom p c h) = dropFrom p c0 h := drop_drop hc
    have hd2 : dropFrom p c0 (dropFrom ((c + K1) :: p) 0 (dropFrom p c h)) = dropFrom p c0 h := by rw [drop_drop_cons (by omega), hd]
    simp [-Int.natCast_add, f1, hc, hd, hd2] at e ⊢
    exact e
  ·have hp : passes leK (f + 1) k l = l := by rw [passes, if_pos (by omega)]
   rw [hp]
   exact ⟨0, k, hend k l (by omega)⟩
theorem st_ok {p id : Id} (ap : Apart p id) {n : Nat} (hb : n ≤ 1099511627776) {l : List KV} (hl : l.length = n) {h : Heap} (hh : h id = some (cellsK l)) :
  callW E p 48 [.mslice id 0 n, .int .i64 n, .fn 25 []] h = some (.tuple [], upd (dropFrom p 0 h) id (cellsK (ssort leK l))) := by
 obtain ⟨f1, f2, f3, f4, f5, f6⟩ := ap.facts
 obtain ⟨K1, P', R', q1, q2, q3⟩ := bl_loop ap hb l.length l [] (Nat.le_refl _) hl
 have q1' := q1
 rw [List.length_append] at q1'
 have g := fun k h hh => ins_ok (ap.sub k) (P := P') (X := R') (S := []) (n := n) (by rw [List.append_nil]; exact q1) hb (h := h) hh
 rw [List.append_nil, List.append_nil, q2, q1'] at g
 simp only [List.length_nil, List.nil_append, Nat.zero_add] at g q2 q3
 have hbl : (blocks leK 20 l).length = n := by rw [← q2, List.length_append, insB_len]; exact q1'
 obtain ⟨K2, k', e⟩ := pp_loop ap hb l.length 20 (blocks leK 20 l) (by omega) hbl (by omega)
 have hs : passes leK l.length 20 (blocks leK 20 l) = ssort leK l := rfl
 rw [hs] at e
 have q3 := fun h hh => q3 0 0 h (Nat.le_refl _) hh
 generalize P' ++ R' = l0 at *
 generalize blocks leK 20 l = l1 at *
 generalize ssort leK l = l2 at *
 simp only [blFr, nat0, nl20] at q3
 simp only [ppFr, nl20] at e
 generalize P'.length + 20 = bb at *
 rw [eq_48]
 simp -implicitDefEqProofs (maxSteps := 1000000) [-Int.natCast_add, -List.length_append, Go.Proofs.Tryz.f48, Code.hide, Code.key, q3, g, e, hh, f1, f2, f3, f4, f5, f6]
theorem sortSt_ok {p id : Id} (ap : Apart p id) {n : Nat} (hb : n ≤ 1099511627776) {l : List KV} (hl : l.length = n) {h : Heap} (hh : h id = some (cellsK l)) :
  callW E p 24 [.mslice id 0 n, .fn 25 []] h = some (.tuple [], upd (dropFrom p 0 h) id (cellsK (ssort leK l))) := by
 obtain ⟨f1, f2, f3, f4, f5, f6⟩ := ap.facts
 have g := fun k h hh => st_ok (ap.sub k) hb hl (h := h) hh
 rw [eq_24]
 simp -implicitDefEqProofs (maxSteps := 1000000) [-Int.natCast_add, -List.length_append, Go.Proofs.Tryz.f24, Code.hide, Code.key, g, hh, f1, f2, f3, f4, f5, f6]
end Go.Ai.T0

namespace Go.Ai.T0
open Go
set_option maxRecDepth 100000
set_option maxHeartbeats 4000000
theorem flatV' (x : Val) : ∃ cs, encV x = cs ∧ ∃ k0 s0 b0 n0 l0 m0 i0 u0, cs = [.int .i64 k0, .str s0, .bool b0, .int .u64 n0, .slice l0 none, .slice m0 none, .str i0, .str u0] := by
 obtain ⟨k0, s0, b0, n0, l0, m0, i0, u0⟩ := x
 exact ⟨_, rfl, k0, s0, b0, n0, l0.map encV, m0.map encK, i0, u0, by simp⟩
theorem drop_next {α : Type} {l : List α} {i : Nat} {x : α} {rest : List α} (h : l.drop i = x :: rest) : i < l.length ∧ l[i]? = some x ∧ l.drop (i + 1) = rest ∧ l.take (i + 1) = l.take i ++ [x] := by
 have hi : i < l.length := by
  rcases Nat.lt_or_ge i l.length with h1 | h1
  ·exact h1
  ·rw [List.drop_eq_nil_of_le h1] at h; cases h
 have h2 := List.drop_eq_getElem_cons hi
 rw [h] at h2
 simp only [List.cons.injEq] at h2
 refine ⟨hi, by rw [List.getElem?_eq_getElem hi, h2.1], h2.2.symm, ?_⟩
 rw [h2.1, List.take_append_getElem hi]
def twVFr (f : Nat) (l : List Val) (i : Nat) : Fr := ((((bot.set 10 (.int .i64 i)).set 9 (.int .i64 l.length)).set 8 (.slice (l.map encV) none)).set 5 (growing (36, 8) ((l.take i).map encV))).set 1 (.fn f [])
theorem twV_loop {f : Nat} {l : List Val} (hn : l.length ≤ 549755813888)
  (hf : ∀ x ∈ l, ∀ (q : Id) (h : Heap), callW E q f [.agg (encV x)] h = some (.agg (encV x), dropFrom q 0 h)) :
  ∀ (rest : List Val) (i : Nat), l.drop i = rest → i ≤ l.length → ∃ k, ∀ (p : Id) (c0 c : Nat) (h : Heap), c0 ≤ c →
  iterW E 121 p [1, 5, 8, 9, 10] L_121_3 c0 (twVFr f l i) c h = some (.exit 0, twVFr f l l.length, c + k, dropFrom p c0 h) := by
 intro rest
 induction rest with
 | nil =>
  intro i hj hi
  refine ⟨0, fun p c0 c h hc => ?_⟩
  have hge := List.drop_eq_nil_iff.1 hj
  have hlen : i = l.length := by omega
  subst hlen
  have hlt' : ¬ ((l.length : Nat) : Int) < l.length := by omega
  unfold twVFr
  rw [rd_121_3]
  generalize hr : execW E 121 p _ _ _ _ = e
  simp -implicitDefEqProofs (maxSteps := 1000000) [Go.Proofs.Tryz.f121, Code.loopAt, Code.key, hlt'] at hr
  subst hr
  simp
 | cons x rest ih =>
  intro i hj hi
  obtain ⟨hlt, hbb, hbs, htk⟩ := drop_next hj
  obtain ⟨k, gl⟩ := ih (i + 1) hbs (by omega)
  refine ⟨2 + k, fun p c0 c h hc => ?_⟩
  have e := gl p c0 (c + 2) (dropFrom p c0 h) (by omega)
  rw [drop_drop_self] at e
  have hlt' : (i : Int) < l.length := by omega
  have hw : IntKind.i64.wrap ((i : Int) + 1) = ((i + 1 : Nat) : Int) := by rw [wrap_i64 (by omega) (by omega)]; rfl
  have hget? : (l.map encV)[i]? = some (encV x) := by simp [hbb]
  have hget : ∀ hl, (l.map encV)[i]'hl = encV x := fun hl => by rw [List.getElem?_eq_getElem hl] at hget?; exact Option.some.inj hget?
  have hrl : (l.map encV).length = l.length := by simp
  have htl : (l.take i).length = i := by rw [List.length_take]; omega
  have hl1 : ((l.take i).map encV).length = i := by simp; omega
  have hmax : i + 1 ≤ maxStr := by unfold maxStr; omega
  have hmax2 : (i + 1) * 120 ≤ 140737488355328 := by omega
  have g := fun q h => hf x (List.mem_of_getElem? hbb) q h
  unfold twVFr at e ⊢
  rw [htk] at e
  rw [rd_121_3]
  have e6 : A.slice ((l.take i).map encV ++ [encV x]) (some (36, 8)) = growing (36, 8) ((l.take i ++ [x]).map encV) := by
   rw [slice_growing]; simp
  have hsz := encV_len x
  generalize l.map encV = L at *
  generalize (l.take i ++ [x]).map encV = L2 at *
  generalize (l.take i).map encV = L1 at *
  generalize hr : execW E 121 p _ _ _ _ = ee
  simp -implicitDefEqProofs (maxSteps := 1000000) [-Int.natCast_add, Go.Proofs.Tryz.f121, Code.loopAt, Code.key, g, eq_true hlt, eq_true hlt', hrl, hget?, hget, hw, hl1, hmax, hmax2, hsz] at hr
  subst hr
  have hc1 : c0 ≤ c + 1 := by omega
  simp [-Int.natCast_add, -List.map_append, -List.map_take]
  rw [e6, drop_drop_cons hc1, drop_upd hc]
  rw [show c + (2 + k) = c + 2 + k by omega]
  simp only [List.take_length] at e
  exact e
theorem twV_ok {f : Nat} {l : List Val} (hn : l.length ≤ 549755813888) (hf : ∀ x ∈ l, ∀ (q : Id) (h : Heap), callW E q f [.agg (encV x)] h = some (.agg (encV x), dropFrom q 0 h)) (p : Id) (h : Heap) :
  callW E p 121 [.slice (l.map encV) none, .fn f []] h = some (.slice (l.map encV) none, dropFrom p 0 h) := by
 obtain ⟨k, gl⟩ := twV_loop hn hf l 0 rfl (Nat.zero_le _)
 have g := fun h => gl p 0 0 h (Nat.le_refl _)
 have hrl : (l.map encV).length = l.length := by simp
 simp only [twVFr, nat0, List.take_zero, List.map_nil, growing_nil, List.take_length] at g
 generalize l.map encV = L at *
 rw [eq_121]
 simp -implicitDefEqProofs (maxSteps := 1000000) [Go.Proofs.Tryz.f121, Code.hide, Code.key, hrl, g]
def twKFr (f : Nat) (l : List KV) (i : Nat) : Fr := ((((bot.set 10 (.int .i64 i)).set 9 (.int .i64 l.length)).set 8 (.slice (l.map encK) none)).set 5 (growing (38, 11) ((l.take i).map encK))).set 1 (.fn f [])
theorem twK_loop {f : Nat} {l : List KV} (hn : l.length ≤ 549755813888)
  (hf : ∀ x ∈ l, ∀ (q : Id) (h : Heap), callW E q f [.agg (encK x)] h = some (.agg (encK x), dropFrom q 0 h)) :
  ∀ (rest : List KV) (i : Nat), l.drop i = rest → i ≤ l.length → ∃ k, ∀ (p : Id) (c0 c : Nat) (h : Heap), c0 ≤ c →
  iterW E 46 p [1, 5, 8, 9, 10] L_46_3 c0 (twKFr f l i) c h = some (.exit 0, twKFr f l l.length, c + k, dropFrom p c0 h) := by
 intro rest
 induction rest with
 | nil =>
  intro i hj hi
  refine ⟨0, fun p c0 c h hc => ?_⟩
  have hge := List.drop_eq_nil_iff.1 hj
  have hlen : i = l.length := by omega
  subst hlen
  have hlt' : ¬ ((l.length : Nat) : Int) < l.length := by omega
  unfold twKFr
  rw [rd_46_3]
  generalize hr : execW E 46 p _ _ _ _ = e
  simp -implicitDefEqProofs (maxSteps := 1000000) [Go.Proofs.Tryz.f46, Code.loopAt, Code.key, hlt'] at hr
  subst hr
  simp
 | cons x rest ih =>
  intro i hj hi
  obtain ⟨hlt, hbb, hbs, htk⟩ := drop_next hj
  obtain ⟨k, gl⟩ := ih (i + 1) hbs (by omega)
  refine ⟨2 + k, fun p c0 c h hc => ?_⟩
  have e := gl p c0 (c + 2) (dropFrom p c0 h) (by omega)
  rw [drop_drop_self] at e
  have hlt' : (i : Int) < l.length := by omega
  have hw : IntKind.i64.wrap ((i : Int) + 1) = ((i + 1 : Nat) : Int) := by rw [wrap_i64 (by omega) (by omega)]; rfl
  have hget? : (l.map encK)[i]? = some (encK x) := by simp [hbb]
  have hget : ∀ hl, (l.map encK)[i]'hl = encK x := fun hl => by rw [List.getElem?_eq_getElem hl] at hget?; exact Option.some.inj hget?
  have hrl : (l.map encK).length = l.length := by simp
  have htl : (l.take i).length = i := by rw [List.length_take]; omega
  have hl1 : ((l.take i).map encK).length = i := by simp; omega
  have hmax : i + 1 ≤ maxStr := by unfold maxStr; omega
  have hmax2 : (i + 1) * 160 ≤ 140737488355328 := by omega
  have g := fun q h => hf x (List.mem_of_getElem? hbb) q h
  unfold twKFr at e ⊢
  rw [htk] at e
  rw [rd_46_3]
  have e6 : A.slice ((l.take i).map encK ++ [encK x]) (some (38, 11)) = growing (38, 11) ((l.take i ++ [x]).map encK) := by
   rw [slice_growing]; simp
  have hsz := encK_len x
  generalize l.map encK = L at *
  generalize (l.take i ++ [x]).map encK = L2 at *
  generalize (l.take i).map encK = L1 at *
  generalize hr : execW E 46 p _ _ _ _ = ee
  simp -implicitDefEqProofs (maxSteps := 1000000) [-Int.natCast_add, Go.Proofs.Tryz.f46, Code.loopAt, Code.key, g, eq_true hlt, eq_true hlt', hrl, hget?, hget, hw, hl1, hmax, hmax2, hsz] at hr
  subst hr
  have hc1 : c0 ≤ c + 1 := by omega
  simp [-Int.natCast_add, -List.map_append, -List.map_take]
  rw [e6, drop_drop_cons hc1, drop_upd hc]
  rw [show c + (2 + k) = c + 2 + k by omega]
  simp only [List.take_length] at e
  exact e
theorem twK_ok {f : Nat} {l : List KV} (hn : l.length ≤ 549755813888) (hf : ∀ x ∈ l, ∀ (q : Id) (h : Heap), callW E q f [.agg (encK x)] h = some (.agg (encK x), dropFrom q 0 h)) (p : Id) (h : Heap) :
  callW E p 46 [.slice (l.map encK) none, .fn f []] h = some (.slice (l.map encK) none, dropFrom p 0 h) := by
 obtain ⟨k, gl⟩ := twK_loop hn hf l 0 rfl (Nat.zero_le _)
 have g := fun h => gl p 0 0 h (Nat.le_refl _)
 have hrl : (l.map encK).length = l.length := by simp
 simp only [twKFr, nat0, List.take_zero, List.map_nil, growing_nil, List.take_length] at g
 generalize l.map encK = L at *
 rw [eq_46]
 simp -implicitDefEqProofs (maxSteps := 1000000) [Go.Proofs.Tryz.f46, Code.hide, Code.key, hrl, g]
theorem szs_len : ∀ l : List Val, l.length ≤ Val.szs l
 | [] => by simp
 | x :: l => by
  have := szs_len l
  have h1 : 1 ≤ x.sz := by cases x; rw [Val.sz_mk]; omega
  rw [Val.szs, List.length_cons]; omega
theorem szsK_len : ∀ l : List KV, l.length ≤ KV.szs l
 | [] => by simp
 | x :: l => by
  have := szsK_len l
  have h1 : 1 ≤ x.sz := by cases x; rw [KV.sz_mk]; omega
  rw [KV.szs, List.length_cons]; omega
theorem tw_ok : (∀ x : Val, x.sz ≤ 549755813888 → ∀ (p : Id) (h : Heap), callW E p 80 [.agg (encV x)] h = some (.agg (encV x), dropFrom p 0 h)) ∧ ∀ x : KV, x.sz ≤ 549755813888 → ∀ (p : Id) (h : Heap), callW E p 47 [.agg (encK x)] h = some (.agg (encK x), dropFrom p 0 h) := by
 refine Val.ind2 ?_ ?_
 ·intro k s b n l m i u ihl ihm hsz p h
  rw [Val.sz_mk] at hsz
  have hl1 := szs_len l
  have hm1 := szsK_len m
  have gl := fun q h => twV_ok (by omega) (fun x hx q h => ihl x hx (by have := Val.szs_mem hx; omega) q h) q h
  have gm := fun q h => twK_ok (by omega) (fun x hx q h => ihm x hx (by have := KV.szs_mem hx; omega) q h) q h
  have gk : ∀ q h, callW E q 23 [.slice (m.map encK) none] h = some (.slice (m.map encK) none, dropFrom q 0 h) := by
   intro q h
   generalize m.map encK = L at *
   rw [eq_23]
   simp -implicitDefEqProofs (maxSteps := 1000000) [Go.Proofs.Tryz.f23, Code.hide, Code.key, gm]
  rw [encV_mk]
  generalize m.map encK = M at *
  generalize l.map encV = L at *
  rw [eq_80]
  simp -implicitDefEqProofs (maxSteps := 1000000) [Go.Proofs.Tryz.f80, Code.hide, Code.key, gl, gk, sameAt, beqL_refl]
 ·intro key has v u ihv hsz p h
  rw [KV.sz_mk] at hsz
  have g := fun q h => ihv (by omega) q h
  rw [encK_mk]
  obtain ⟨cs, hcs, hsh⟩ := flatV' v
  rw [hcs] at g ⊢
  obtain ⟨_, _, _, _, _, _, _, _, rfl⟩ := hsh
  rw [eq_47]
  simp -implicitDefEqProofs (maxSteps := 1000000) [Go.Proofs.Tryz.f47, Code.hide, Code.key, g]
end Go.Ai.T0

namespace Go.Ai.T0
open Go Go.RowKit
set_option maxRecDepth 100000
set_option maxHeartbeats 4000000
theorem env0_ok : envB E = true := by kernel_rfl
theorem en {f : Nat} {fn : Func} {code : Code} (hf : Go.Proofs.Tryz.prog.funcs[f]? = some fn) (hb : fn.body = some code) (hn : (fn.name == "runtime.NumGoroutine") = false) : Enters E.P f := enters_of hf hb hn
theorem env0 {B : Nat} {w0 : World} : EnvOK E B w0 := by
 refine env_ok env0_ok ?_ ?_
 ·intro f g hfg
  simp only [E, prim] at hfg
  split at hfg
  ·cases hfg; exact stringsCompare_dom
  ·cases hfg
 ·intro f g hfg
  simp only [E, prim] at hfg
  split at hfg
  ·cases hfg
   exact stringsCompare_ok (en Go.Proofs.Tryz.func49 rfl (by kernel_rfl)) Go.Proofs.Tryz.strings_Compare
  ·cases hfg
theorem pl_enc : (∀ x : Val, ∀ c ∈ encV x, Pl c) ∧ ∀ x : KV, ∀ c ∈ encK x, Pl c := by
 refine Val.ind2 ?_ ?_
 ·intro k s b n l m i u hl hm c hc
  simp only [encV_mk, List.mem_cons, List.not_mem_nil, or_false] at hc
  rcases hc with rfl | rfl | rfl | rfl | rfl | rfl | rfl | rfl
  ·exact .int
  ·exact .str
  ·exact .bool
  ·exact .int
  ·exact .slice (by intro x hx c hc; obtain ⟨y, hy, rfl⟩ := List.mem_map.1 hx; exact hl y hy c hc)
  ·exact .slice (by intro x hx c hc; obtain ⟨y, hy, rfl⟩ := List.mem_map.1 hx; exact hm y hy c hc)
  ·exact .str
  ·exact .str
 ·intro k h v u hv c hc
  simp only [encK_mk, List.mem_cons, List.mem_append, List.not_mem_nil, or_false] at hc
  rcases hc with rfl | rfl | hc | rfl
  ·exact .str
  ·exact .bool
  ·exact hv c hc
  ·exact .str
theorem pl_cells {l : List KV} : ∀ c ∈ cellsK l, Pl c := by
 intro c hc
 simp only [cellsK, List.mem_flatten, List.mem_map] at hc
 obtain ⟨x, ⟨y, _, rfl⟩, hc⟩ := hc
 exact pl_enc.2 y c hc
theorem region_pre {B : Nat} {w0 : World} {p : Id} {nt : Nat} {G : Ghost} {O : Own} {fr : Fr} {c : Nat} {h : Heap} {a : Act} {w : World} {id : Nat} {ops : List Oper} {Q : Exit → Act → World → Prop} (hd : ∀ o ∈ ops, ∀ x, o.dst = some x → x < nt) (hs : SR X0 B w0 p nt G O fr c h a w) {r : Option (Fr × Nat × Heap)} (hr : runB E (callW E) p (appT ops) (dsts ops) ops fr c h = r)
  (hQ : ∃ fr' c' h', r = some (fr', c', h') ∧ ∀ a' w', Later X0 B w0 p nt c G O w fr' c' h' a' w' → (∀ t, (∀ o ∈ ops, o.dst ≠ some t) → a'.tmps.getD t undef = a.tmps.getD t undef) → Q .normal a' w') : (Code.region id ⟨ops⟩ false).wp E.P Q a w := by
 obtain ⟨fr', c', h', rfl, hQ⟩ := hQ
 refine wp_region ?_
 have := runOps_pre (ops := ⟨ops⟩) (Q := Q) (callW_ok (env0 (B := B) (w0 := w0))) hd ops 0 [] [] fr c h G O a w fr' c' h' (by simp) hs (by rw [runOps_eq]; exact hr) (fun a' w' hl ht => hQ a' w' hl ht)
 rw [List.append_nil] at this
 rwa [show List.range (⟨ops⟩ : Array Oper).size = List.range' 0 ops.length by rw [List.range_eq_range']; simp]
theorem dst_lt {n : Nat} {ops : List Oper} (h : (ops.all fun o => match o.dst with | some x => decide (x < n) | none => true) = true) : ∀ o ∈ ops, ∀ x, o.dst = some x → x < n := by
 intro o ho x hx
 have := List.all_eq_true.1 h o ho
 rw [hx] at this
 simpa using this
theorem dst_ne {s : Nat} {ops : List Oper} (h : (ops.all fun o => match o.dst with | some x => !(x == s) | none => true) = true) : ∀ o ∈ ops, o.dst ≠ some s := by
 intro o ho hx
 have := List.all_eq_true.1 h o ho
 rw [hx] at this
 simp at this
def elFr (l : List KV) (i : Nat) : Fr := (((bot.set 10 (.int .i64 i)).set 9 (.int .i64 l.length)).set 8 (.slice (l.map encK) none)).set 1 (.fn 47 [])
def EInv (B : Nat) (w0 : World) (p : Id) (G0 : Ghost) (O0 : Own) (l : List KV) (n : Nat) (a : Act) (w : World) : Prop :=
 ∃ i G O c h, i + n = l.length ∧ SR X0 B w0 p 22 G O (elFr l i) c h a w ∧ Out 38 B G O w (l.take i) (a.tmps.getD 5 undef) ∧ G0.le G ∧ ∀ b o, O0 b o = some .rest → O b o = some .rest
theorem ops_pre {B : Nat} {w0 : World} {p : Id} {nt : Nat} {G : Ghost} {O : Own} {fr : Fr} {c : Nat} {h : Heap} {a : Act} {w : World} {ops : List Oper} {Q : Exit → Act → World → Prop} (hd : ∀ o ∈ ops, ∀ x, o.dst = some x → x < nt) {os tail : List Oper} {rest : List Nat} {i : Nat} (hdr : ops.drop i = os ++ tail) (hs : SR X0 B w0 p nt G O fr c h a w) {r : Option (Fr × Nat × Heap)} (hr : runB E (callW E) p (appT ops) (dsts ops) os fr c h = r)
  (hQ : ∃ fr' c' h', r = some (fr', c', h') ∧ ∀ a' w', Later X0 B w0 p nt c G O w fr' c' h' a' w' → (∀ t, (∀ o ∈ os, o.dst ≠ some t) → a'.tmps.getD t undef = a.tmps.getD t undef) → wpOps E.P ⟨ops⟩ Q rest a' w') : wpOps E.P ⟨ops⟩ Q (List.range' i os.length ++ rest) a w := by
 obtain ⟨fr', c', h', rfl, hQ⟩ := hQ
 exact runOps_pre (ops := ⟨ops⟩) (Q := Q) (callW_ok (env0 (B := B) (w0 := w0))) hd os i tail rest fr c h G O a w fr' c' h' hdr hs (by rw [runOps_eq]; exact hr) hQ
theorem op_hand {P : Program} {ops : List Oper} {Q : Exit → Act → World → Prop} {i : Nat} {rest : List Nat} {a : Act} {w w' : World} (o : Oper) {z : Value} (ho : ops[i]? = some o) (hg : o.guard = none) (h : (execOp a.eval o).run P w = .ok (.value z) w') (hk : wpOps P ⟨ops⟩ Q rest (a.put o.dst z) w') : wpOps P ⟨ops⟩ Q (i :: rest) a w := by
 rw [wpOps_cons' (o := o) (by simpa using ho)]
 unfold wpOne
 have : Region.wanted o (yielded ⟨ops⟩ a.tmps) = true := by unfold Region.wanted; rw [hg]
 rw [if_pos this]
 exact .inl (wp_value h hk)
theorem elFr_of {l : List KV} {i : Nat} {fr : Fr} (e1 : fr 1 = .fn 47 []) (e8 : fr 8 = .slice (l.map encK) none) (e9 : fr 9 = .int .i64 l.length) (e10 : fr 10 = .int .i64 i) : ∀ t, elFr l i t = fr t ∨ elFr l i t = .top := by
 intro t
 unfold elFr
 by_cases h1 : t = 1
 ·subst h1; left; simp [e1]
 by_cases h8 : t = 8
 ·subst h8; left; simp [e8]
 by_cases h9 : t = 9
 ·subst h9; left; simp [e9]
 by_cases h10 : t = 10
 ·subst h10; left; simp [e10]
 right
 simp [Fr.set, h1, h8, h9, h10, bot]
theorem _root_.Go.Ai.SR.sub' {X : Nat → Prop} {B : Nat} {w0 : World} {p : Id} {nt : Nat} {G : Ghost} {O : Own} {fr fr' : Fr} {c : Nat} {h : Heap} {a : Act} {w : World} (hs : SR X B w0 p nt G O fr c h a w) (hf : ∀ t, fr' t = fr t ∨ fr' t = .top) : SR X B w0 p nt G O fr' c h a w :=
 ⟨⟨hs.fr.size, fun t => by
  rcases hf t with e | e
  ·rw [e]; exact hs.fr.val t
  ·rw [e]; exact ⟨.top, by intro xs s b o n cap e1; cases e1⟩⟩, hs.r, hs.fresh, hs.defers⟩
theorem gtr {A B C : Ghost} (h : A.le B) (k : B.le C) : A.le C := ⟨fun b o v x => k.1 b o v (h.1 b o v x), fun i x y => k.2 i x (h.2 i x y)⟩
theorem inBlock_then {id : Nat} {K : Act → World → Prop} {Q : Exit → Act → World → Prop} {a : Act} {w : World} (h : K a w) : Exit.inBlock id (Exit.then K Q) (.exit id) a w := by
 show (if id = id then _ else _)
 rw [if_pos rfl]; exact h
theorem each_w {B : Nat} {w0 w : World} {G : Ghost} {O : Own} {h : Heap} {v : Value} {l : List KV} (hl : l.length ≤ 549755813888) (hsz : ∀ x ∈ l, x.sz ≤ 549755813888) (hr : R B w0 G O h w) (hv : V G (.slice (l.map encK) none) v) {q : Id} (hfresh : Fresh G q 0) :
  Calls Go.Proofs.Tryz.prog 46 ⟨[v, .func (.func 47) #[] ⟨[]⟩]⟩ w fun e w1 => ∃ z G1 O1 h1, e = .returned z ∧ R B w0 G1 O1 h1 w1 ∧ G.le G1 ∧ (∀ b o, O b o = some .rest → O1 b o = some .rest) ∧ Out 38 B G1 O1 w1 l z := by
 refine calls_of_wp Go.Proofs.Tryz.func46 (c := (Go.Proofs.Tryz.f46.body).getD .skip) (by kernel_rfl) ?_
 have hs : SR X0 B w0 q 22 G O (initFr [.slice (l.map encK) none, .fn 47 []]) 0 h { tmps := (⟨[v, .func (.func 47) #[] ⟨[]⟩]⟩ : Array Value) ++ Array.replicate (Go.Proofs.Tryz.f46.ntmps - (⟨[v, .func (.func 47) #[] ⟨[]⟩]⟩ : Array Value).size) undef, defers := [] } w := by
  refine ⟨initFr_ok (nt := Go.Proofs.Tryz.f46.ntmps) ?_ (.cons hv (.cons (.fn .nil) .nil)), hr, fun i hi _ => hfresh i hi, rfl⟩
  intro x hx
  simp only [List.mem_cons, List.not_mem_nil, or_false] at hx
  rcases hx with rfl | rfl <;> (intro xs s e; cases e)
 have hrl : (l.map encK).length = l.length := by simp
 generalize ({ tmps := (⟨[v, .func (.func 47) #[] ⟨[]⟩]⟩ : Array Value) ++ Array.replicate (Go.Proofs.Tryz.f46.ntmps - (⟨[v, .func (.func 47) #[] ⟨[]⟩]⟩ : Array Value).size) undef, defers := [] } : Act) = a at hs ⊢
 generalize hP : bodyPost Go.Proofs.Tryz.prog Go.Proofs.Tryz.f46 _ = Q
 dsimp only [Go.Proofs.Tryz.f46, Option.getD_some]
 -- ahead of the loop
 refine wp_seq (region_pre (dst_lt rfl) hs rfl ?_)
 generalize hx : runB E _ _ _ _ _ _ _ _ = e
 simp -implicitDefEqProofs (maxSteps := 1000000) [] at hx
 subst hx
 refine ⟨_, _, _, rfl, fun a1 w1 ⟨G1, O1, hs1, hm1⟩ _ => ?_⟩
 refine wp_seq (region_pre (dst_lt rfl) hs1 rfl ?_)
 generalize hx : runB E _ _ _ _ _ _ _ _ = e
 simp -implicitDefEqProofs (maxSteps := 1000000) [] at hx
 subst hx
 refine ⟨_, _, _, rfl, fun a2 w2 ⟨G2, O2, hs2, hm2⟩ _ => ?_⟩
 refine wp_seq (wp_seq (region_pre (dst_lt rfl) hs2 rfl ?_))
 generalize hx : runB E _ _ _ _ _ _ _ _ = e
 simp -implicitDefEqProofs (maxSteps := 1000000) [hrl] at hx
 subst hx
 refine ⟨_, _, _, rfl, fun a3 w3 ⟨G3, O3, hs3, hm3⟩ _ => ?_⟩
 have hm : Mv q 0 G O w _ G3 O3 w3 := (hm1.trans hm2).trans hm3
 have h5 : a3.tmps.getD 5 undef = .slice none 0 0 := by
  have hV := hs3.fr.V 5
  generalize a3.tmps.getD 5 undef = z at hV ⊢
  simp -implicitDefEqProofs (maxSteps := 1000000) [] at hV
  cases hV
  rfl
 refine wp_block (wp_loop_ghost (EInv B w0 q G O l) l.length ⟨0, G3, O3, _, _, by simp, hs3.sub' ?_, .inl ⟨by simp, h5⟩, hm.le, fun b o hb => (hm.keeps.lab b o _ hb trivial).1⟩ ?_)
 ·exact elFr_of (by simp [initFr]) (by simp) (by simp) (by simp)
 clear hs hs1 hs2 hs3 hm1 hm2 hm3 hm h5 hr hv
 intro n a w ⟨i, G1, O1, c1, h1, hin, hs1, ho1, hg1, hr1⟩
 by_cases hlt : i < l.length
 ·have hlt' : (i : Int) < l.length := by omega
  obtain ⟨x, hxi⟩ : ∃ x, l[i]? = some x := ⟨_, List.getElem?_eq_getElem hlt⟩
  have htk : l.take (i + 1) = l.take i ++ [x] := by
   rw [← List.take_append_getElem hlt]
   rw [List.getElem?_eq_getElem hlt] at hxi
   rw [Option.some.inj hxi]
  have hget? : (l.map encK)[i]? = some (encK x) := by simp [hxi]
  have hget : ∀ hl, (l.map encK)[i]'hl = encK x := fun hl => by rw [List.getElem?_eq_getElem hl] at hget?; exact Option.some.inj hget?
  have hlen := encK_len x
  have hw : IntKind.i64.wrap ((i : Int) + 1) = ((i + 1 : Nat) : Int) := by rw [wrap_i64 (by omega) (by omega)]; rfl
  have gk := fun q h => tw_ok.2 x (hsz x (List.mem_of_getElem? hxi)) q h
  have htl : (l.take i).length = i := by rw [List.length_take]; omega
  refine wp_seq (region_pre (dst_lt rfl) hs1 rfl ?_)
  generalize hx : runB E _ _ _ _ _ _ _ _ = e
  simp -implicitDefEqProofs (maxSteps := 1000000) [elFr, hlt, hlt'] at hx
  subst hx
  refine ⟨_, _, _, rfl, fun a2 w2 ⟨G2, O2, hs2, hm2⟩ ht2 => ?_⟩
  have ho2 := ho1.keeps hm2.le hm2.keeps
  rw [← ht2 5 (dst_ne rfl)] at ho2
  refine wp_seq (wp_cond_true (V.bool_inv (V.ev hs2.fr.V (by simp [ev]))) (wp_skip ?_))
  refine wp_seq (wp_block (wp_seq (region_pre (dst_lt rfl) hs2 rfl ?_)))
  generalize hx : runB E _ _ _ _ _ _ _ _ = e
  simp -implicitDefEqProofs (maxSteps := 1000000) [elFr, hlt, hlt', hrl, hget?, hget, hlen] at hx
  subst hx
  refine ⟨_, _, _, rfl, fun a3 w3 ⟨G3, O3, hs3, hm3⟩ ht3 => ?_⟩
  have ho3 := ho2.keeps hm3.le hm3.keeps
  rw [← ht3 5 (dst_ne rfl)] at ho3
  refine wp_region ?_
  show wpOps _ _ _ [0, 1, 2, 3, 4, 5, 6] _ _
  refine op_hand _ (z := a3.eval (.tmp 5)) (w' := w3) rfl rfl (by simp [execOp]) ?_
  obtain ⟨G4, O4, hs4, hm4⟩ := hs3.value (d := some 14) (v := .top) (z := a3.eval (.tmp 5)) (by intro x hx; cases hx; decide) .top (by intro xs s e; cases e)
  have ho4 := ho3.keeps hm4.le hm4.keeps
  have h14 : (a3.put (some 14) (a3.eval (.tmp 5))).tmps.getD 14 undef = a3.tmps.getD 5 undef := by
   have hsz := hs3.fr.size
   rw [Act.put_getD _ _ _ _ (by intro x hx; cases hx; omega), if_pos rfl]; rfl
  rw [← h14] at ho4
  show wpOps _ _ _ (List.range' 1 4 ++ [5, 6]) _ _
  refine ops_pre (os := [_, _, _, _]) (tail := [_, _]) (dst_lt rfl) rfl hs4 rfl ?_
  generalize hx : runB E _ _ _ _ _ _ _ _ = e
  simp -implicitDefEqProofs (maxSteps := 1000000) [elFr, hlt, hlt', hrl, hget?, hget, hlen, gk] at hx
  subst hx
  refine ⟨_, _, _, rfl, fun a5 w5 ⟨G5, O5, hs5, hm5⟩ ht5 => ?_⟩
  have ho5 := ho4.keeps hm5.le hm5.keeps
  rw [← ht5 14 (dst_ne rfl)] at ho5
  obtain ⟨ti, zv, t1, t2, t3, t4, t5⟩ : ∃ ti zv, E.P.info? 38 = some ti ∧ ti.zero = some zv ∧ zv.cells.size = 11 ∧ ti.size = 11 ∧ ti.bytes = 160 := ⟨_, _, rfl, rfl, rfl, rfl, rfl⟩
  have hV18 := hs5.fr.V 18
  have e18 : ∀ z, V G5 (A.slice [encK x] (some (38, 11))) z → ∃ news, Src E.P G5 w5 11 [encK x] z news := fun z hz => src_ok hs5.r hz (by simp [addedA, headLen])
  obtain ⟨news, src⟩ := e18 (a5.eval (.tmp 18)) (show V G5 _ (a5.tmps.getD 18 undef) from by have e := hV18; generalize a5.tmps.getD 18 undef = zz at e ⊢; simpa using e)
  obtain ⟨q1, w6, O6, hrun, hs6, ho6, hro6⟩ := Out.append hs5 (t := 22) (t2 := 22) (ty := 22) (e := 38) rfl rfl t1 t2 t3 t4 ho5 src (by rw [htl, t5]; omega) (by rw [htl]; unfold maxStr; omega)
  have hrun' : (Builtin.append_ #[22, 22] 22 #[a5.eval (.tmp 14), a5.eval (.tmp 18)]).run E.P w5 = .ok q1 w6 := hrun
  refine op_hand _ (z := q1) (w' := w6) rfl rfl (by simp [execOp, resolve, invoke, builtin, hrun']) ?_
  obtain ⟨G7, O7, hs7, hm7⟩ := hs6.value (d := some 19) (v := .top) (z := q1) (by intro x hx; cases hx; decide) .top (by intro xs s e; cases e)
  have ho7 := ho6.keeps hm7.le hm7.keeps
  have h19 : (a5.put (some 19) q1).tmps.getD 19 undef = q1 := by
   have hsz := hs5.fr.size
   rw [Act.put_getD _ _ _ _ (by intro x hx; cases hx; omega), if_pos rfl]
  refine op_hand _ (z := q1) (w' := w6) rfl rfl (by show (execOp (a5.put (some 19) q1).eval _).run _ _ = _; have e : (a5.put (some 19) q1).eval (.tmp 19) = q1 := h19; simp [execOp, e]) ?_
  obtain ⟨G8, O8, hs8, hm8⟩ := hs7.value (d := some 5) (v := .top) (z := q1) (by intro x hx; cases hx; decide) .top (by intro xs s e; cases e)
  have ho8 := ho7.keeps hm8.le hm8.keeps
  have h5' : ((a5.put (some 19) q1).put (some 5) q1).tmps.getD 5 undef = q1 := by
   have hsz := hs7.fr.size
   rw [Act.put_getD _ _ _ _ (by intro x hx; cases hx; omega), if_pos rfl]
  rw [← h5'] at ho8
  show (Code.region _ ⟨_⟩ false).wp E.P _ _ _
  refine region_pre (dst_lt rfl) hs8 rfl ?_
  generalize hx : runB E _ _ _ _ _ _ _ _ = e
  simp -implicitDefEqProofs (maxSteps := 1000000) [elFr, hw, Fr.put] at hx
  subst hx
  refine ⟨_, _, _, rfl, fun a9 w9 ⟨G9, O9, hs9, hm9⟩ ht9 => ?_⟩
  have ho9 := ho8.keeps hm9.le hm9.keeps
  have e9 := ht9 5 (dst_ne rfl)
  rw [← e9, ← htk] at ho9
  refine ⟨l.length - (i + 1), by omega, i + 1, G9, O9, _, _, by omega, hs9.sub' ?_, ho9, gtr (gtr (gtr (gtr (gtr (gtr (gtr hg1 hm2.le) hm3.le) hm4.le) hm5.le) hm7.le) hm8.le) hm9.le, ?_⟩
  ·exact elFr_of (by simp) (by simp) (by simp) (by simp)
  ·intro b o hb
   have k (O : Own) (w : World) (O' : Own) (w' : World) (hk : Keeps q O w O' w') (hb : O b o = some .rest) : O' b o = some .rest := (hk.lab b o _ hb trivial).1
   exact k _ _ _ _ hm9.keeps (k _ _ _ _ hm8.keeps (k _ _ _ _ hm7.keeps (hro6 _ _ (k _ _ _ _ hm5.keeps (k _ _ _ _ hm4.keeps (k _ _ _ _ hm3.keeps (k _ _ _ _ hm2.keeps (hr1 _ _ hb))))))))
 ·have hlt' : ¬ (i : Int) < l.length := by omega
  obtain rfl : i = l.length := by omega
  refine wp_seq (region_pre (dst_lt rfl) hs1 rfl ?_)
  generalize hx : runB E _ _ _ _ _ _ _ _ = e
  simp -implicitDefEqProofs (maxSteps := 1000000) [elFr, hlt, hlt'] at hx
  subst hx
  refine ⟨_, _, _, rfl, fun a2 w2 ⟨G2, O2, hs2, hm2⟩ ht2 => ?_⟩
  have ho2 := ho1.keeps hm2.le hm2.keeps
  rw [← ht2 5 (dst_ne rfl), List.take_length] at ho2
  refine wp_seq (wp_cond_false (V.bool_inv (V.ev hs2.fr.V (by simp [ev]))) ?_)
  refine wp_exit ?_
  show (Code.seq _ _).wp _ _ _ _
  refine wp_seq (wp_region ?_)
  show wpOps _ _ _ [0, 1] _ _
  refine op_hand _ (z := a2.tmps.getD 5 undef) (w' := w2) rfl rfl (by simp [execOp, Act.eval]) ?_
  obtain ⟨G4, O4, hs4, hm4⟩ := hs2.value (d := some 21) (v := .top) (z := a2.tmps.getD 5 undef) (by intro x hx; cases hx; decide) .top (by intro xs s e; cases e)
  have ho4 := ho2.keeps hm4.le hm4.keeps
  have h21 : (a2.put (some 21) (a2.tmps.getD 5 undef)).tmps.getD 21 undef = a2.tmps.getD 5 undef := by
   have hsz := hs2.fr.size
   rw [Act.put_getD _ _ _ _ (by intro x hx; cases hx; omega), if_pos rfl]
  generalize a2.tmps.getD 5 undef = z at *
  refine op_hand _ (z := z) (w' := w2) rfl rfl (by simp only [execOp, Act.eval]; exact (by simpa using h21)) ?_
  obtain ⟨G5, O5, hs5, hm5⟩ := hs4.value (d := some 4) (v := .top) (z := z) (by intro x hx; cases hx; decide) .top (by intro xs s e; cases e)
  have ho5 := ho4.keeps hm5.le hm5.keeps
  have h4 : ((a2.put (some 21) z).put (some 4) z).tmps.getD 4 undef = z := by
   have hsz := hs4.fr.size
   rw [Act.put_getD _ _ _ _ (by intro x hx; cases hx; omega), if_pos rfl]
  refine wp_ret ?_
  subst hP
  have hres' : (results Go.Proofs.Tryz.f46 ((a2.put (some 21) z).put (some 4) z).tmps).run Go.Proofs.Tryz.prog w2 = .ok (((a2.put (some 21) z).put (some 4) z).tmps.getD 4 undef) w2 := by
   rw [results_eq]
   simp [resSem, Go.Proofs.Tryz.f46]
  refine ⟨hs5.defers, _, hres', ((a2.put (some 21) z).put (some 4) z).tmps.getD 4 undef, G5, O5, _, rfl, hs5.r, gtr (gtr (gtr hg1 hm2.le) hm4.le) hm5.le, ?_, ?_⟩
  ·intro b o hb
   have k (O : Own) (w : World) (O' : Own) (w' : World) (hk : Keeps q O w O' w') (hb : O b o = some .rest) : O' b o = some .rest := (hk.lab b o _ hb trivial).1
   exact k _ _ _ _ hm5.keeps (k _ _ _ _ hm4.keeps (k _ _ _ _ hm2.keeps (hr1 _ _ hb)))
  ·rw [h4]; exact ho5
end Go.Ai.T0

