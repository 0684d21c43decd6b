/- Part KS of the proof that a law of this program answers yes at every input: no conditions beyond the given statement. -/
import Derived.KernelRfl
import Derived.Test.YtfajnnnldhfhiaaGreatDoorProg
import Derived.Shelf.Small.Strs
import Derived.Shelf.SlicesE.Clone
import Derived.Below
import Derived.WalkKit
import Derived.Test.YtfajnnnldhfhiaaGreatDoorKD
import Derived.Test.YtfajnnnldhfhiaaGreatDoorKC
import Derived.Test.YtfajnnnldhfhiaaGreatDoorKM
set_option linter.unusedSimpArgs false
set_option linter.unusedVariables false
set_option linter.all false
namespace Go.Ai.T0
open Go
noncomputable def prim : Nat → Option (Id → List A → Heap → Option (A × Heap))
 | 43 => some stringsCompare
 | _ => none
def drawTab : List ((Nat × Nat) × List (Nat × Nat)) := [((69, 1), [(4, 2)]), ((70, 4), []), ((70, 6), [])]
def liveTab : List ((Nat × Nat) × List Nat) := [((40, 3), [1, 5, 8, 9, 10]), ((42, 2), [0, 1, 2, 6, 7, 8]), ((42, 7), [0, 1, 2, 6]), ((42, 9), [0, 1, 2, 6, 7, 8]), ((70, 1), [0, 1, 2, 3, 8]), ((70, 4), [0, 1, 2, 3, 8, 9]), ((111, 3), [1, 5, 8, 9, 10])]
noncomputable def E : Env where
 P := Go.Proofs.Tryz.prog
 frz t := [76, 185].contains t
 prim := prim
 keep f := [29, 60, 62].contains f
 raw f := f == 68
 draw f i := (drawTab.find? fun q => q.1.1 == f && q.1.2 == i).map (·.2)
 live f i := ((liveTab.find? fun q => q.1.1 == f && q.1.2 == i).map (·.2)).getD []
theorem E_P : E.P = Go.Proofs.Tryz.prog := rfl
@[simp] theorem raw_E (f : Nat) : E.raw f = (f == 68) := rfl
@[simp] theorem bytesT_36 : bytesT E.P 36 = some 120 := by kernel_rfl
@[simp] theorem bytesT_38 : bytesT E.P 38 = some 160 := by kernel_rfl
@[simp] theorem fieldT_36_4 : fieldT E.P 36 4 = some 4 := by kernel_rfl
@[simp] theorem fieldT_36_5 : fieldT E.P 36 5 = some 5 := by kernel_rfl
@[simp] theorem fieldT_38_0 : fieldT E.P 38 0 = some 0 := by kernel_rfl
@[simp] theorem fieldT_38_2 : fieldT E.P 38 2 = some 2 := by kernel_rfl
@[simp] theorem kindT_23 : kindT E.P 23 = Kd.slice 38 := by kernel_rfl
@[simp] theorem kindT_3 : kindT E.P 3 = Kd.int IntKind.i64 := by kernel_rfl
@[simp] theorem kindT_34 : kindT E.P 34 = Kd.slice 36 := by kernel_rfl
@[simp] theorem kindT_36 : kindT E.P 36 = Kd.struct := by kernel_rfl
@[simp] theorem kindT_38 : kindT E.P 38 = Kd.struct := by kernel_rfl
@[simp] theorem shapeT_23 : shapeT E.P 23 = some (1, false) := by kernel_rfl
@[simp] theorem shapeT_34 : shapeT E.P 34 = some (1, false) := by kernel_rfl
@[simp] theorem shapeT_36 : shapeT E.P 36 = some (8, true) := by kernel_rfl
@[simp] theorem shapeT_38 : shapeT E.P 38 = some (11, true) := by kernel_rfl
@[simp] theorem shapeT_9 : shapeT E.P 9 = some (1, false) := by kernel_rfl
@[simp] theorem szT_23 : szT E.P 23 = some 1 := by kernel_rfl
@[simp] theorem szT_34 : szT E.P 34 = some 1 := by kernel_rfl
@[simp] theorem szT_36 : szT E.P 36 = some 8 := by kernel_rfl
@[simp] theorem szT_38 : szT E.P 38 = some 11 := by kernel_rfl
@[simp] theorem zeroT_36 : zeroT E.P 36 = some [A.int IntKind.i64 0, A.str [], A.bool false, A.int IntKind.u64 0, A.nils, A.nils, A.str [], A.str []] := by kernel_rfl
@[simp] theorem zeroT_38 : zeroT E.P 38 = some [A.str [], A.bool false, A.int IntKind.i64 0, A.str [], A.bool false, A.int IntKind.u64 0, A.nils, A.nils, A.str [], A.str [], A.str []] := by kernel_rfl
@[simp] theorem draw_69_1 : E.draw 69 1 = some [(4, 2)] := by kernel_rfl
@[simp] theorem draw_70_4 : E.draw 70 4 = some [] := by kernel_rfl
@[simp] theorem draw_70_6 : E.draw 70 6 = some [] := by kernel_rfl
@[simp] theorem live_40_3 : E.live 40 3 = [1, 5, 8, 9, 10] := by kernel_rfl
@[simp] theorem live_42_2 : E.live 42 2 = [0, 1, 2, 6, 7, 8] := by kernel_rfl
@[simp] theorem live_42_7 : E.live 42 7 = [0, 1, 2, 6] := by kernel_rfl
@[simp] theorem live_42_9 : E.live 42 9 = [0, 1, 2, 6, 7, 8] := by kernel_rfl
@[simp] theorem live_70_1 : E.live 70 1 = [0, 1, 2, 3, 8] := by kernel_rfl
@[simp] theorem live_70_4 : E.live 70 4 = [0, 1, 2, 3, 8, 9] := by kernel_rfl
@[simp] theorem live_111_3 : E.live 111 3 = [1, 5, 8, 9, 10] := by kernel_rfl
noncomputable def L_40_3 : Code := ((Go.Proofs.Tryz.f40.body.getD .skip).loopAt 3).getD .skip
noncomputable def L_42_2 : Code := ((Go.Proofs.Tryz.f42.body.getD .skip).loopAt 2).getD .skip
noncomputable def L_42_7 : Code := ((Go.Proofs.Tryz.f42.body.getD .skip).loopAt 7).getD .skip
noncomputable def L_42_9 : Code := ((Go.Proofs.Tryz.f42.body.getD .skip).loopAt 9).getD .skip
noncomputable def L_70_1 : Code := ((Go.Proofs.Tryz.f70.body.getD .skip).loopAt 1).getD .skip
noncomputable def L_70_4 : Code := ((Go.Proofs.Tryz.f70.body.getD .skip).loopAt 4).getD .skip
noncomputable def L_111_3 : Code := ((Go.Proofs.Tryz.f111.body.getD .skip).loopAt 3).getD .skip
@[simp] theorem key_40_3 : L_40_3.key = 3 := by kernel_rfl
@[simp] theorem key_42_2 : L_42_2.key = 2 := by kernel_rfl
@[simp] theorem key_42_7 : L_42_7.key = 7 := by kernel_rfl
@[simp] theorem key_42_9 : L_42_9.key = 9 := by kernel_rfl
@[simp] theorem key_70_1 : L_70_1.key = 1 := by kernel_rfl
@[simp] theorem key_70_4 : L_70_4.key = 4 := by kernel_rfl
@[simp] theorem key_111_3 : L_111_3.key = 3 := by kernel_rfl
theorem eq_19 {p : Id} {args : List A} {h : Heap} : callW E p 19 args h = (execW E 19 p ((Go.Proofs.Tryz.f19.body).getD .skip) (initFr args) 0 h).bind (resX E.P false p Go.Proofs.Tryz.f19.results.toList) := callW_eq Go.Proofs.Tryz.f19 (by kernel_rfl) (by kernel_rfl) (by kernel_rfl) rfl (by kernel_rfl)
theorem eq_20 {p : Id} {args : List A} {h : Heap} : callW E p 20 args h = (execW E 20 p ((Go.Proofs.Tryz.f20.body).getD .skip) (initFr args) 0 h).bind (resX E.P false p Go.Proofs.Tryz.f20.results.toList) := callW_eq Go.Proofs.Tryz.f20 (by kernel_rfl) (by kernel_rfl) (by kernel_rfl) rfl (by kernel_rfl)
theorem eq_21 {p : Id} {args : List A} {h : Heap} : callW E p 21 args h = (execW E 21 p ((Go.Proofs.Tryz.f21.body).getD .skip) (initFr args) 0 h).bind (resX E.P false p Go.Proofs.Tryz.f21.results.toList) := callW_eq Go.Proofs.Tryz.f21 (by kernel_rfl) (by kernel_rfl) (by kernel_rfl) rfl (by kernel_rfl)
theorem rd_40_3 {p : Id} {L : List Nat} {c0 c : Nat} {fr : Fr} {h : Heap} : iterW E 40 p L L_40_3 c0 fr c h = (execW E 40 p ((((Go.Proofs.Tryz.f40.body).getD .skip).loopAt 3).getD .skip) fr c h).bind (loopX E 40 p L L_40_3 c0) := iterW_eq2 (by kernel_rfl)
theorem eq_40 {p : Id} {args : List A} {h : Heap} : callW E p 40 args h = (execW E 40 p (((Go.Proofs.Tryz.f40.body).getD .skip).hide [(3, L_40_3)]) (initFr args) 0 h).bind (resX E.P false p Go.Proofs.Tryz.f40.results.toList) := callW_eq Go.Proofs.Tryz.f40 (by kernel_rfl) (by kernel_rfl) (by kernel_rfl) rfl (by kernel_rfl)
theorem eq_41 {p : Id} {args : List A} {h : Heap} : callW E p 41 args h = (execW E 41 p ((Go.Proofs.Tryz.f41.body).getD .skip) (initFr args) 0 h).bind (resX E.P false p Go.Proofs.Tryz.f41.results.toList) := callW_eq Go.Proofs.Tryz.f41 (by kernel_rfl) (by kernel_rfl) (by kernel_rfl) rfl (by kernel_rfl)
theorem rd_42_2 {p : Id} {L : List Nat} {c0 c : Nat} {fr : Fr} {h : Heap} : iterW E 42 p L L_42_2 c0 fr c h = (execW E 42 p ((((Go.Proofs.Tryz.f42.body).getD .skip).loopAt 2).getD .skip) fr c h).bind (loopX E 42 p L L_42_2 c0) := iterW_eq2 (by kernel_rfl)
theorem rd_42_7 {p : Id} {L : List Nat} {c0 c : Nat} {fr : Fr} {h : Heap} : iterW E 42 p L L_42_7 c0 fr c h = (execW E 42 p (((((Go.Proofs.Tryz.f42.body).getD .skip).loopAt 7).getD .skip).hide [(9, L_42_9)]) fr c h).bind (loopX E 42 p L L_42_7 c0) := iterW_eq2 (by kernel_rfl)
theorem rd_42_9 {p : Id} {L : List Nat} {c0 c : Nat} {fr : Fr} {h : Heap} : iterW E 42 p L L_42_9 c0 fr c h = (execW E 42 p ((((Go.Proofs.Tryz.f42.body).getD .skip).loopAt 9).getD .skip) fr c h).bind (loopX E 42 p L L_42_9 c0) := iterW_eq2 (by kernel_rfl)
theorem eq_42 {p : Id} {args : List A} {h : Heap} : callW E p 42 args h = (execW E 42 p (((Go.Proofs.Tryz.f42.body).getD .skip).hide [(2, L_42_2), (7, L_42_7)]) (initFr args) 0 h).bind (resX E.P false p Go.Proofs.Tryz.f42.results.toList) := callW_eq Go.Proofs.Tryz.f42 (by kernel_rfl) (by kernel_rfl) (by kernel_rfl) rfl (by kernel_rfl)
theorem eq_69 {p : Id} {args : List A} {h : Heap} : callW E p 69 args h = (execW E 69 p ((Go.Proofs.Tryz.f69.body).getD .skip) (initFr args) 0 h).bind (resX E.P false p Go.Proofs.Tryz.f69.results.toList) := callW_eq Go.Proofs.Tryz.f69 (by kernel_rfl) (by kernel_rfl) (by kernel_rfl) rfl (by kernel_rfl)
theorem rd_70_1 {p : Id} {L : List Nat} {c0 c : Nat} {fr : Fr} {h : Heap} : iterW E 70 p L L_70_1 c0 fr c h = (execW E 70 p (((((Go.Proofs.Tryz.f70.body).getD .skip).loopAt 1).getD .skip).hide [(4, L_70_4)]) fr c h).bind (loopX E 70 p L L_70_1 c0) := iterW_eq2 (by kernel_rfl)
theorem rd_70_4 {p : Id} {L : List Nat} {c0 c : Nat} {fr : Fr} {h : Heap} : iterW E 70 p L L_70_4 c0 fr c h = (execW E 70 p ((((Go.Proofs.Tryz.f70.body).getD .skip).loopAt 4).getD .skip) fr c h).bind (loopX E 70 p L L_70_4 c0) := iterW_eq2 (by kernel_rfl)
theorem eq_70 {p : Id} {args : List A} {h : Heap} : callW E p 70 args h = (execW E 70 p (((Go.Proofs.Tryz.f70.body).getD .skip).hide [(1, L_70_1)]) (initFr args) 0 h).bind (resX E.P false p Go.Proofs.Tryz.f70.results.toList) := callW_eq Go.Proofs.Tryz.f70 (by kernel_rfl) (by kernel_rfl) (by kernel_rfl) rfl (by kernel_rfl)
theorem rd_111_3 {p : Id} {L : List Nat} {c0 c : Nat} {fr : Fr} {h : Heap} : iterW E 111 p L L_111_3 c0 fr c h = (execW E 111 p ((((Go.Proofs.Tryz.f111.body).getD .skip).loopAt 3).getD .skip) fr c h).bind (loopX E 111 p L L_111_3 c0) := iterW_eq2 (by kernel_rfl)
theorem eq_111 {p : Id} {args : List A} {h : Heap} : callW E p 111 args h = (execW E 111 p (((Go.Proofs.Tryz.f111.body).getD .skip).hide [(3, L_111_3)]) (initFr args) 0 h).bind (resX E.P false p Go.Proofs.Tryz.f111.results.toList) := callW_eq Go.Proofs.Tryz.f111 (by kernel_rfl) (by kernel_rfl) (by kernel_rfl) rfl (by kernel_rfl)
end Go.Ai.T0

namespace Go.Ai.T0
open Go
set_option maxRecDepth 100000
set_option maxHeartbeats 4000000
theorem nat0 : ((0 : Nat) : Int) = 0 := rfl
theorem nat1 : ((1 : Nat) : Int) = 1 := rfl
theorem nat2 : ((2 : Nat) : Int) = 2 := rfl
theorem eachV_nil (f : Nat) (p : Id) (h : Heap) : callW E p 111 [.slice [] none, .fn f []] h = some (.slice [] none, dropFrom p 0 h) := by
 rw [eq_111]
 simp -implicitDefEqProofs (maxSteps := 1000000) [Go.Proofs.Tryz.f111, Code.hide, Code.key, rd_111_3, Code.loopAt]
theorem eachK_nil (f : Nat) (p : Id) (h : Heap) : callW E p 40 [.slice [] none, .fn f []] h = some (.slice [] none, dropFrom p 0 h) := by
 rw [eq_40]
 simp -implicitDefEqProofs (maxSteps := 1000000) [Go.Proofs.Tryz.f40, Code.hide, Code.key, rd_40_3, Code.loopAt]
theorem keys_nil (p : Id) (h : Heap) : callW E p 19 [.slice [] none] h = some (.slice [] none, dropFrom p 0 h) := by
 rw [eq_19]
 simp -implicitDefEqProofs (maxSteps := 1000000) [Go.Proofs.Tryz.f19, Code.hide, Code.key, eachK_nil]
theorem value_flat (p : Id) (h : Heap) : callW E p 69 [.agg [.int .i64 0, .str [], .bool false, .int .u64 0, .slice [] none, .slice [] none, .str [], .str []]] h = some (.agg [.int .i64 0, .str [], .bool false, .int .u64 0, .slice [] none, .slice [] none, .str [], .str []], dropFrom p 0 h) := by
 rw [eq_69]
 simp -implicitDefEqProofs (maxSteps := 1000000) [Go.Proofs.Tryz.f69, Code.hide, Code.key, eachV_nil, keys_nil, sameAt, beqL_refl]
theorem key_flat (k : List UInt8) (p : Id) (h : Heap) : callW E p 41 [.agg (kvF k)] h = some (.agg (kvF k), dropFrom p 0 h) := by
 unfold kvF
 rw [eq_41]
 simp -implicitDefEqProofs (maxSteps := 1000000) [Go.Proofs.Tryz.f41, Code.hide, Code.key, value_flat]
theorem w0 : IntKind.i64.wrap 0 = 0 := by decide
theorem w1 : IntKind.i64.wrap 1 = 1 := by decide
theorem w2 : IntKind.i64.wrap 2 = 2 := by decide
theorem w3 : IntKind.i64.wrap 3 = 3 := by decide
theorem each_run (q : Id) (h : Heap) : ∃ fr c' h1, execW E 40 q ((Go.Proofs.Tryz.f40.body).getD .skip) (initFr [.slice [kvF [98], kvF [97]] none, .fn 41 []]) 0 h = some (.ret, fr, c', h1) ∧ fr 4 = .slice [kvF [98], kvF [97]] (some (38, 11)) := by
 have hb : (Go.Proofs.Tryz.f40.body).getD .skip = ((Go.Proofs.Tryz.f40.body).getD .skip).hide [(3, L_40_3)] := by kernel_rfl
 have g := fun k q h => key_flat k q h
 simp only [kvF] at g
 rw [hb]
 obtain ⟨e, he⟩ : ∃ e, execW E 40 q (((Go.Proofs.Tryz.f40.body).getD .skip).hide [(3, L_40_3)]) (initFr [.slice [kvF [98], kvF [97]] none, .fn 41 []]) 0 h = e := ⟨_, rfl⟩
 rw [he]
 simp only [kvF] at he ⊢
 simp -implicitDefEqProofs (maxSteps := 1000000) [Go.Proofs.Tryz.f40, Code.hide, Code.key, rd_40_3, Code.loopAt, g, w1, w2, w3] at he
 subst he
 exact ⟨_, _, _, rfl, by simp⟩
end Go.Ai.T0

namespace Go.Proofs
open Go.Shelf Go.RowKit
def Tryz.lays106_ren : Go.Shelf.Ren := ⟨fun | 106 => 43 | 213 => 72 | 265 => 113 | n => n, fun | 3 => 3 | 9 => 9 | n => n, fun | n => n⟩
theorem Tryz.lays106 : Go.Proofs.Lays.n106 Tryz.prog Tryz.lays106_ren := {
 mixed := by kernel_rfl
 f106 := Tryz.func43.trans (congrArg some (by kernel_rfl))
 f213 := Tryz.func72.trans (congrArg some (by kernel_rfl))
 f265 := Tryz.func113.trans (congrArg some (by kernel_rfl))
 t3 := Tryz.underlying3
 a3 := Tryz.isAgg3
 z3 := Tryz.sizeOf3
 v3 := Tryz.zeroValue3
 t9 := Tryz.underlying9
 a9 := Tryz.isAgg9
 z9 := Tryz.sizeOf9
 v9 := Tryz.zeroValue9 }
theorem Tryz.strings_Compare (a b : ByteArray) (w : World) : Calls Tryz.prog 43 #[.string a, .string b] w fun e w' => e = .returned (.int .i64 (Lib.compareBytes a.data.toList b.data.toList)) ∧ w' = w := Any.strings_Compare Tryz.lays106 a b w
def Tryz.lays41_ren : Go.Shelf.Ren := ⟨fun | 41 => 26 | n => n, fun | 4 => 4 | 22 => 23 | 23 => 38 | n => n, fun | n => n⟩
theorem Tryz.lays41 : Go.Proofs.SlLaysE0.n41 Tryz.prog Tryz.lays41_ren := {
 mixed := by kernel_rfl
 f41 := ⟨ "slices.Clone[[]hygrometer/api.KeyValue,hygrometer/api.KeyValue]", by kernel_rfl, Tryz.func26.trans (congrArg some (by kernel_rfl))⟩
 t4 := Tryz.underlying4
 a4 := Tryz.isAgg4
 z4 := Tryz.sizeOf4
 v4 := Tryz.zeroValue4
 t22 := Tryz.underlying23
 a22 := Tryz.isAgg23
 z22 := Tryz.sizeOf23
 v22 := Tryz.zeroValue23 }
theorem Tryz.slices_Clone (b off n c : Nat) (news : List Value) (w : World) (hl : news.length = n * 11) (hn : n ≤ maxLen) (hbig : n * 160 ≤ 140737488355328) (hc : ∀ j u, news[j]? = some u → w.cell? ⟨b, off + j, none⟩ = some u) (h1 : ∀ u ∈ news, u.oneCell' = true) :
  Calls Tryz.prog 26 #[.slice (some ⟨b, off, none⟩) n c] w fun e w' => ∃ v', e = .returned v' ∧ w'.ownsRow w.heap.size 38 11 v' n news ∧ v' ≠ .slice none 0 0 ∧ Below w.heap.size w w' := by
 obtain ⟨j, hj, hz⟩ : ∃ j, Tryz.prog.info? 38 = some j ∧ (j.zero.map fun z => (z.cells.size, j.size, j.bytes)) = some (11, 11, 160) := Option.bind_eq_some_iff.1 (show ((Tryz.prog.info? 38).bind fun j => j.zero.map fun z => (z.cells.size, j.size, j.bytes)) = some (11, 11, 160) by kernel_rfl)
 obtain ⟨z, hz0, hz⟩ := Option.map_eq_some_iff.1 hz
 simp only [Prod.mk.injEq] at hz
 obtain ⟨e1, e2, e3⟩ := hz
 exact AnyE.slices_Clone Tryz.lays41 j z 11 160 hj hz0 e2 e3 e1 (by omega) Tryz.sizeOf38 b off n c news w hl hn hbig hc h1
end Go.Proofs

namespace Go.Ai.T0
open Go
set_option maxRecDepth 100000
set_option maxHeartbeats 4000000
theorem compare_ok (a b : List UInt8) (p : Id) (h : Heap) : callW E p 21 [.agg (kvF a), .agg (kvF b)] h = some (.int .i64 (Lib.compareBytes a b), dropFrom p 0 h) := by
 have g : ∀ q h, callW E q 43 [.str a, .str b] h = some (.int .i64 (Lib.compareBytes a b), h) := fun q h => by
  rw [callW_prim (g := stringsCompare) rfl]; rfl
 unfold kvF
 rw [eq_21]
 simp -implicitDefEqProofs (maxSteps := 1000000) [Go.Proofs.Tryz.f21, Code.hide, Code.key, g]
theorem ins_ok {p id : Id} (a : Apart p id) (h : Heap) (hh : h id = some (kvF [98] ++ kvF [97])) : callW E p 70 [.mslice id 0 2, .int .i64 0, .int .i64 2, .fn 21 []] h = some (.tuple [], upd (dropFrom p 0 h) id (kvF [97] ++ kvF [98])) := by
 obtain ⟨f1, f2, f3, f4, f5, f6⟩ := a.facts
 have g := fun a b q h => compare_ok a b q h
 have c1 : Lib.compareBytes [97] [98] = -1 := by decide
 simp only [kvF, List.cons_append, List.nil_append] at g hh ⊢
 rw [eq_70]
 simp -implicitDefEqProofs (maxSteps := 1000000) [Go.Proofs.Tryz.f70, Code.hide, Code.key, rd_70_1, rd_70_4, Code.loopAt, g, c1, w0, w1, w2, w3, hh, f1, f2, f3, f4, f5, f6, sameAt, beqL_refl]
theorem stable_ok {p id : Id} (a : Apart p id) (h : Heap) (hh : h id = some (kvF [98] ++ kvF [97])) : callW E p 42 [.mslice id 0 2, .int .i64 2, .fn 21 []] h = some (.tuple [], upd (dropFrom p 0 h) id (kvF [97] ++ kvF [98])) := by
 obtain ⟨f1, f2, f3, f4, f5, f6⟩ := a.facts
 have g := fun k h hh => ins_ok (a.sub k) h hh
 have w20 : IntKind.i64.wrap 20 = 20 := by decide
 rw [eq_42]
 simp -implicitDefEqProofs (maxSteps := 1000000) [Go.Proofs.Tryz.f42, Code.hide, Code.key, rd_42_2, rd_42_7, Code.loopAt, g, w20, hh, f1, f2, f3, f4, f5, f6]
theorem sortS_ok {p id : Id} (a : Apart p id) (h : Heap) (hh : h id = some (kvF [98] ++ kvF [97])) : callW E p 20 [.mslice id 0 2, .fn 21 []] h = some (.tuple [], upd (dropFrom p 0 h) id (kvF [97] ++ kvF [98])) := by
 obtain ⟨f1, f2, f3, f4, f5, f6⟩ := a.facts
 have g := fun k h hh => stable_ok (a.sub k) h hh
 rw [eq_20]
 simp -implicitDefEqProofs (maxSteps := 1000000) [Go.Proofs.Tryz.f20, Code.hide, Code.key, nat2, g, hh, f1, f2, f3, f4, f5, f6]
theorem env0_ok : envB E = true := by kernel_rfl
theorem en {f : Nat} {fn : Func} {code : Code} (hf : Go.Proofs.Tryz.prog.funcs[f]? = some fn) (hb : fn.body = some code) (hn : (fn.name == "runtime.NumGoroutine") = false) : Enters E.P f := enters_of hf hb hn
theorem env0 {B : Nat} {w0 : World} : EnvOK E B w0 := by
 refine env_ok env0_ok ?_ ?_
 ·intro f g hfg
  simp only [E, prim] at hfg
  split at hfg
  ·cases hfg; exact stringsCompare_dom
  ·cases hfg
 ·intro f g hfg
  simp only [E, prim] at hfg
  split at hfg
  ·cases hfg
   exact stringsCompare_ok (en Go.Proofs.Tryz.func43 rfl (by kernel_rfl)) Go.Proofs.Tryz.strings_Compare
  ·cases hfg
end Go.Ai.T0

namespace Go.Ai.T0
open Go Go.RowKit
set_option maxRecDepth 100000
set_option maxHeartbeats 4000000
def flatA : A → Bool
 | .int .. => true
 | .bool _ => true
 | .str _ => true
 | .slice [] none => true
 | _ => false
theorem V_flat {G G' : Ghost} {a : A} {v : Value} (hf : flatA a = true) (h : V G a v) : V G' a v := by
 cases h with
 | int => exact .int
 | bool => exact .bool
 | str => exact .str
 | sliceNil => rename_i own; cases own with
  | none => exact .sliceNil
  | some _ => cases hf
 | sliceE => exact .sliceE
 | @slice xs own b o cap sz hv hc ho =>
  cases xs with
  | nil => cases own with
   | none => exact .slice (sz := sz) .nil hc (fun _ h => by cases h)
   | some _ => cases hf
  | cons _ _ => cases own <;> cases hf
 | _ => cases hf
theorem VF_flat {G G' : Ghost} : ∀ {xs : List A} {vs : List Value}, xs.all flatA = true → VF G xs vs → VF G' xs vs
 | [], _, _, .nil => .nil
 | a :: xs, _, hf, .cons h hs => by
  simp only [List.all_cons, Bool.and_eq_true] at hf
  exact .cons (V_flat hf.1 h) (VF_flat hf.2 hs)
theorem flat_free {a : A} (h : flatA a = true) : a.free := by
 rintro xs s rfl
 cases xs <;> cases h
theorem kvF_flat (k : List UInt8) : (kvF k).all flatA = true := rfl
theorem kvF2_flat (k l : List UInt8) : (kvF k ++ kvF l).all flatA = true := rfl
theorem cells_of {G : Ghost} {w : World} {b : Nat} : ∀ {cs : List A} {o : Nat}, (∀ j a, cs[j]? = some a → ∃ v, w.cell? ⟨b, o + j, none⟩ = some v ∧ v.oneCell' = true ∧ V G a v) →
  ∃ us, VF G cs us ∧ (∀ u ∈ us, u.oneCell' = true) ∧ ∀ j u, us[j]? = some u → w.cell? ⟨b, o + j, none⟩ = some u
 | [], o, _ => ⟨[], .nil, by simp, by simp⟩
 | a :: cs, o, h => by
  obtain ⟨v, h1, h2, h3⟩ := h 0 a rfl
  obtain ⟨us, g1, g2, g3⟩ := cells_of (cs := cs) (o := o + 1) fun j a hj => by
   have := h (j + 1) a (by simpa using hj)
   rwa [show o + 1 + j = o + (j + 1) by omega]
  refine ⟨v :: us, .cons h3 g1, List.forall_mem_cons.2 ⟨h2, g2⟩, fun j u hj => ?_⟩
  cases j with
  | zero => simp only [List.getElem?_cons_zero, Option.some.injEq] at hj; subst hj; exact h1
  | succ j =>
   have := g3 j u (by simpa using hj)
   rwa [show o + (j + 1) = o + 1 + j by omega]
def Two (w : World) (a b : List UInt8) (blk cap : Nat) (w1 : World) : Prop :=
 2 ≤ cap ∧ w.heap.size ≤ blk ∧ Below w.heap.size w w1 ∧ shp w1 blk = some (38, cap * 11) ∧ (∀ x, w1.frozen? ⟨blk, x, none⟩ = false) ∧
  ∃ us, (∀ G, VF G (kvF a ++ kvF b) us) ∧ (∀ u ∈ us, u.oneCell' = true) ∧ ∀ j u, us[j]? = some u → w1.cell? ⟨blk, j, none⟩ = some u
theorem each_w {B : Nat} {w0 w : World} {G : Ghost} {O : Own} {h : Heap} {v : Value} (hr : R B w0 G O h w) (hv : V G (.slice [kvF [98], kvF [97]] none) v) :
  Calls Go.Proofs.Tryz.prog 40 #[v, .func (.func 41) #[] #[]] w fun e w1 => ∃ b cap, e = .returned (.slice (some ⟨b, 0, none⟩) 2 cap) ∧ Two w [98] [97] b cap w1 := by
 let G0 : Ghost := ⟨G.K, fun i => if i = [] then some (w.heap.size, 0) else none⟩
 let O0 : Own := fun b o => if (G.K b o).isSome then some .imm else none
 have hv0 : V G0 (.slice [kvF [98], kvF [97]] none) v := by
  cases hv with
  | @slice _ _ b o cap sz hvs hcap _ =>
   obtain ⟨f1, f2, f3⟩ := hvs.flat
   obtain ⟨us, g1, g2, g3⟩ := f1.vals
   have g1' : VF G0 [kvF [98], kvF [97]].flatten us := VF_flat rfl g1
   exact .slice (sz := sz) (VS.of_flat sz (VK.of_vals g1' g2 g3) f3) hcap (fun _ h => by cases h)
 have hr0 : R w.heap.size w G0 O0 (fun _ => none) w := by
  refine ⟨Below.refl _ _, Nat.le_refl _, fun b o u hk => ⟨?_, (hr.imm b o u hk).2⟩, fun _ _ h => (by cases h), fun b o l hl => ?_, fun b o l hl h1 _ => ?_, rfl, fun _ _ _ _ h => by cases h⟩
  ·have : (G.K b o).isSome = true := by have : G.K b o = some u := hk; rw [this]; rfl
   simp only [O0, if_pos this]
  ·simp only [O0] at hl
   split at hl
   ·rename_i hs
    obtain ⟨u, hu⟩ := Option.isSome_iff_exists.1 hs
    exact hr.lt _ _ _ (hr.imm b o u hu).1
   ·cases hl
  ·simp only [O0] at hl
   split at hl
   ·simp only [Option.some.injEq] at hl; exact absurd hl.symm h1
   ·cases hl
 obtain ⟨fr, c', h1, hx, hfr⟩ := each_run [] (fun _ => none)
 have hfresh : Fresh G0 [] 0 := by
  intro i hi
  cases i with
  | nil => cases hi
  | cons k i => rfl
 refine (call_own (E := E) env0 (f := 40) Go.Proofs.Tryz.func40 rfl (t := 4) rfl hx (G := G0) (O := O0) (w := w) (vs := [v, .func (.func 41) #[] ⟨[]⟩]) ?_ (.cons hv0 (.cons (.fn .nil) .nil)) hr0 hfresh).mono ?_
 ·intro x hx
  simp only [List.mem_cons, List.not_mem_nil, or_false] at hx
  rcases hx with rfl | rfl <;> (intro xs s e; cases e)
 rintro e w1 ⟨z, G1, O1, rfl, hz, hroom, hr1, hm⟩
 rw [hfr] at hz hroom
 cases hz with
 | @slice _ _ b o cap sz hvs hcap hown =>
  obtain ⟨e1, Bq, hb1, hb2⟩ := hown _ rfl
  rw [hr1.bot] at hb1
  obtain rfl : w.heap.size = Bq := by injection hb1 with hb1; injection hb1
  obtain ⟨⟨rfl, hshp, hnf⟩, _⟩ := hroom _ _ _ _ _ _ rfl rfl
  obtain ⟨f1, f2, f3⟩ := hvs.flat
  obtain ⟨us, g1, g2, g3⟩ := f1.vals
  refine ⟨b, cap, rfl, hcap, hb2, hr1.below, hshp, hnf (by decide), us, fun G' => VF_flat rfl (by simpa using g1), g2, fun j u hj => ?_⟩
  have := (hr1.imm _ _ _ (g3 j u hj)).2
  rwa [Nat.zero_add] at this
theorem keys_w {B : Nat} {w0 w : World} {G : Ghost} {O : Own} {h : Heap} {v : Value} (hr : R B w0 G O h w) (hv : V G (.slice [kvF [98], kvF [97]] none) v) :
  Calls Go.Proofs.Tryz.prog 19 #[v] w fun e w1 => ∃ b cap, e = .returned (.slice (some ⟨b, 0, none⟩) 2 cap) ∧ Two w [98] [97] b cap w1 := by
 have hcon := each_w hr hv
 generalize hQ : (fun (e : Ending) (w1 : World) => ∃ b cap, e = .returned (.slice (some ⟨b, 0, none⟩) 2 cap) ∧ Two w [98] [97] b cap w1) = Q at hcon
 clear hr hv
 subst hQ
 go_enter Go.Proofs.Tryz.func19, Go.Proofs.Tryz.ntmps19
 go_wp2_with (go_at_call 40; refine hcon.mono ?_; rintro e w1 ⟨b, cap, rfl, hT⟩)
 go_ret
 exact ⟨b, cap, rfl, hT⟩
theorem sort_w {w w1 : World} {b cap : Nat} (hT : Two w [98] [97] b cap w1) :
  Calls Go.Proofs.Tryz.prog 20 #[.slice (some ⟨b, 0, none⟩) 2 cap, .func (.func 21) #[] #[]] w1 fun e w2 => e = .returned (.tuple #[]) ∧ Below w.heap.size w w2 ∧ b < w2.heap.size ∧
   ∃ us, (∀ G, VF G (kvF [97] ++ kvF [98]) us) ∧ (∀ u ∈ us, u.oneCell' = true) ∧ ∀ j u, us[j]? = some u → w2.cell? ⟨b, j, none⟩ = some u := by
 obtain ⟨hcap, hb, hbel, hshp, hnf, us, hV, h1, hc⟩ := hT
 let id : Id := [38, 0]
 let G2 : Ghost := ⟨fun _ _ => none, fun i => if i = [] then some (w.heap.size, 0) else if i = id then some (b, 0) else none⟩
 let O2 : Own := fun b' x => if b' = b ∧ x < 22 then some (.obj id) else none
 let h2 : Heap := fun i => if i = id then some (kvF [98] ++ kvF [97]) else none
 have ha : Apart [1] id := rfl
 have hid : G2.m id = some (b, 0) := rfl
 have hr : R w.heap.size w G2 O2 h2 w1 := by
  refine ⟨hbel, hbel.size, fun _ _ _ h => (by cases h), fun i cs hi => ?_, fun b' o l hl => ?_, fun b' o l hl _ _ => ?_, rfl, fun i cs b' o hi hm => ?_⟩
  ·simp only [h2] at hi
   split at hi
   ·rename_i e; subst e
    simp only [Option.some.injEq] at hi; subst hi
    refine ⟨b, 0, hid, fun j a hj => ?_⟩
    obtain ⟨u, hu, hVu⟩ := (hV G2).get j a hj
    have hj22 : j < 22 := (List.getElem?_eq_some_iff.1 hj).1
    have hfl : flatA a = true := List.all_eq_true.1 (kvF2_flat [98] [97]) a (List.mem_of_getElem? hj)
    refine ⟨by simp [O2, hj22], hnf _, u, by rw [Nat.zero_add]; exact hc j u hu, h1 u (List.mem_of_getElem? hu), hVu, Room.free (flat_free hfl)⟩
   ·cases hi
  ·simp only [O2] at hl
   split at hl
   ·rename_i e; rw [e.1]; exact shp_lt hshp
   ·cases hl
  ·simp only [O2] at hl
   split at hl
   ·rename_i e; rw [e.1]; exact hb
   ·cases hl
  ·simp only [h2] at hi
   split at hi
   ·rename_i e; subst e
    simp only [Option.some.injEq] at hi; subst hi
    rw [hid] at hm
    simp only [Option.some.injEq, Prod.mk.injEq] at hm
    obtain ⟨rfl, rfl⟩ := hm
    exact ⟨rfl, _, rfl, _, hshp, fun h => by cases h⟩
   ·cases hi
 have hfresh : Fresh G2 [1] 0 := by
  intro i hi
  show (if i = [] then _ else if i = id then _ else none) = none
  rw [if_neg (by rintro rfl; cases hi), if_neg (by rintro rfl; exact absurd hi (by decide))]
 have hcall := sortS_ok (p := [1]) (id := id) ha h2 (by simp only [h2, if_true])
 obtain ⟨_, _, hok⟩ := callW_ok (E := E) (B := w.heap.size) (w0 := w) env0 _ _ _ _ _ _ hcall
 have hvm : V G2 (.mslice id 0 2) (.slice (some ⟨b, 0, none⟩) 2 cap) := .mslice (o := 0) hid hcap
 refine (hok G2 O2 w1 [.slice (some ⟨b, 0, none⟩) 2 cap, .func (.func 21) #[] ⟨[]⟩] ?_ (.cons hvm (.cons (.fn .nil) .nil)) hr hfresh).mono ?_
 ·intro x hx
  simp only [List.mem_cons, List.not_mem_nil, or_false] at hx
  rcases hx with rfl | rfl <;> (intro xs s e; cases e)
 rintro e w2 ⟨z, G3, O3, rfl, hz, hr3, hm⟩
 obtain ⟨b', o', hm', ho⟩ := hr3.obj id (kvF [97] ++ kvF [98]) (by simp [upd])
 have hm2 := hm.le.2 _ _ hid
 rw [hm2] at hm'
 simp only [Option.some.injEq, Prod.mk.injEq] at hm'
 obtain ⟨rfl, rfl⟩ := hm'
 obtain ⟨us', k1, k2, k3⟩ := cells_of (G := G3) (w := w2) (b := b) (o := 0) fun j a hj => by
  obtain ⟨_, _, v, q1, q2, q3, _⟩ := ho j a hj
  exact ⟨v, q1, q2, q3⟩
 refine ⟨?_, hr3.below, ?_, us', fun G' => VF_flat rfl k1, k2, fun j u hj => by have := k3 j u hj; rwa [Nat.zero_add] at this⟩
 ·cases hz with
  | tuple h => cases h; rfl
 ·obtain ⟨_, t, _, n, q, _⟩ := hr3.typ id (kvF [97] ++ kvF [98]) b 0 (by simp [upd]) hm2
  exact shp_lt q
theorem sort_all {B : Nat} {w0 w : World} {G : Ghost} {O : Own} {h : Heap} {v : Value} (hr : R B w0 G O h w) (hv : V G (.slice [kvF [98], kvF [97]] none) v) :
  Calls Go.Proofs.Tryz.prog 8 #[v] w fun e w2 => ∃ b cap, e = .returned (.slice (some ⟨b, 0, none⟩) 2 cap) ∧ 2 ≤ cap ∧ w.heap.size ≤ b ∧ Below w.heap.size w w2 ∧ b < w2.heap.size ∧
   ∃ us, (∀ G, VF G (kvF [97] ++ kvF [98]) us) ∧ (∀ u ∈ us, u.oneCell' = true) ∧ ∀ j u, us[j]? = some u → w2.cell? ⟨b, j, none⟩ = some u := by
 have hcon := keys_w hr hv
 have hcs := fun b cap (w1 : World) (hT : Two w [98] [97] b cap w1) => sort_w hT
 clear hr hv
 go_enter Go.Proofs.Tryz.func8, Go.Proofs.Tryz.ntmps8
 go_wp2_with (first | (go_at_call 19; refine hcon.mono ?_; rintro e w1 ⟨b, cap, rfl, hT⟩) | (go_at_call 20; refine (hcs b cap _ hT).mono ?_; rintro e w2 ⟨rfl, k1, k2, k3⟩))
 go_ret
 exact ⟨b, cap, rfl, hT.1, hT.2.1, k1, k2, k3⟩
theorem attrSort_ok {B : Nat} {w0 : World} : PrimOK Go.Proofs.Tryz.prog B w0 8 attrSort := by
 intro q args h v h' hx
 unfold attrSort at hx
 split at hx
 ·rename_i hargs
  subst hargs
  simp only [Option.some.injEq, Prod.mk.injEq] at hx
  obtain ⟨rfl, rfl⟩ := hx
  refine ⟨en Go.Proofs.Tryz.func8 rfl (by kernel_rfl), (by intro xs s e; cases e), fun G O w vs _ hvs hr hfresh => ?_⟩
  cases hvs with
  | cons hv hrest =>
   cases hrest
   refine (sort_all hr hv).mono ?_
   rintro e w2 ⟨b, cap, rfl, hcap, hb, hbel, hb2, us, k1, k2, k3⟩
   refine prim_block (xs := [kvF [97], kvF [98]]) (sz := 11) hr (Ext.of_below hbel) hb hb2 (us := us) (by simpa using k1 G) k2 ?_ k3 hcap rfl
   intro x hx
   simp only [List.mem_cons, List.not_mem_nil, or_false] at hx
   rcases hx with rfl | rfl <;> rfl
 ·cases hx
end Go.Ai.T0

