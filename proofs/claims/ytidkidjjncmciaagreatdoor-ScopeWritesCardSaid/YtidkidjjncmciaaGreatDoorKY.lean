/- Part KY of the proof that a law of this program answers yes at every input: no conditions beyond the given statement. -/
import Derived.Test.YtidkidjjncmciaaGreatDoorKE
import Derived.Test.YtidkidjjncmciaaGreatDoorKQ
import Derived.Test.YtidkidjjncmciaaGreatDoorKL
import Derived.Test.YtidkidjjncmciaaGreatDoorKT
set_option linter.unusedSimpArgs false
set_option linter.unusedVariables false
set_option linter.all false
/- ScopeWrites, ResourceWrites answer yes, in the evaluator. -/
namespace Go.Ai.T
open Go
set_option maxRecDepth 100000
set_option maxHeartbeats 4000000
open Classical in
theorem lawScopeWrites {x : ScopeM} (hx : x.wf) {d : Int} (hd1 : -9223372036854775808 ≤ d) (hd : d ≤ 9223372036854775807) :
    ∃ h', callW E [] 10 [.agg (encScope x), .int .i64 d] (fun _ => none) = some (.bool true, h') := by
  have f := fun q h => first10_ok q h
  have rx := fun q h => croomS_ok hx (r := 12000) (by omega) (by omega) q h
  rw [eq_10]
  by_cases cx : roomS x 12000 < 0
  · simp only [encScope] at rx ⊢
    simp -implicitDefEqProofs (maxSteps := 1000000) [Go.Proofs.Tryz.f10, Code.key, f, rx, cx]
  have sz := roomS_sz (x := x) (by omega)
  have hle := writeS_le hx (by omega)
  have m1 := fun q h => crmayS_ok hx (by omega) hd1 hd q h
  have m2 := fun q h => cmarS_ok hx (by omega) hd1 hd q h
  have m3 := fun q h => cmayS_ok hx (by omega) hd1 hd q h
  have m4 := fun q h => csizeS_ok hx (by omega) q h
  cases hm : mayS x d with
  | false =>
    have g4 := fun q h => code_ok (.code 8) q h
    rw [hm] at m1 m2 m3
    simp only [marE, Bool.false_eq_true, if_false, encO_some, encE_code, Err.codeOf, encScope] at rx m1 m2 m3 g4 ⊢
    simp -implicitDefEqProofs (maxSteps := 1000000) [Go.Proofs.Tryz.f10, Code.key, f, rx, cx, m1, m2, m3, g4]
  | true =>
    have en := mayS_enough hm (d' := 1073741824) (by omega)
    have m5 := fun q h => crwriteS_ok hx (by omega) hm q h
    rw [hm] at m1 m2 m3
    rw [en] at m4
    generalize writeS x = w at *
    simp only [marE, if_true, encO_none, encScope] at rx m1 m2 m3 m4 m5 ⊢
    simp -implicitDefEqProofs (maxSteps := 1000000) [Go.Proofs.Tryz.f10, Code.key, f, rx, cx, m1, m2, m3, m4, m5]
end Go.Ai.T

/- ScopeWrites: the card, out of the law in the evaluator. -/
namespace Go.Proofs.YtidkidjjncmciaaGreatDoor
open Go.ChangeShapes Go.WideShapes Go.RowKit
set_option maxRecDepth 100000
theorem law10 (xs : List Go.Ai.A) (h : Go.Ai.ArgsT Go.Ai.T.E.P Tryz.f10.params.toList xs) : ∃ h', Go.Ai.callW Go.Ai.T.E [] 10 xs (fun _ => none) = some (.bool true, h') := by
  have hp : Tryz.f10.params.toList = [26, 3] := by kernel_rfl
  rw [hp] at h
  cases h with
  | cons h0 h =>
    cases h with
    | cons h1 h =>
      cases h
      obtain ⟨x0, rfl, hx0⟩ := argScope h0
      obtain ⟨x1, rfl, hx1, hy1⟩ := argI h1
      exact Go.Ai.T.lawScopeWrites hx0 hx1 hy1
theorem lifted10 (os : Os) (started : os.Started) (H : Type) (enc : TypeId × Value → H) :
    ReturnsInHanded {} Tryz.checked os 10 .any (fun w args => (Rows.scopeWritesSpec.pre enc Tryz.prog Tryz.f10 [] false w args ∧ laidMetH Tryz.prog laidList w) ∧ sizedMet enc Tryz.prog Tryz.f10 (OpenSpec.ofChange Rows.scopeWritesSpec) false w args)
      (Rows.scopeWritesSpec.post enc Tryz.prog Tryz.f10 false true false false) := by
  refine returnsInHanded_of_change_and (C := Tryz.checked) (X := fun w _ => laidMetH Tryz.prog laidList w) (fun _ _ _ hh h => h.of_heap hh) Tryz.own started (by kernel_rfl) Tryz.func10
    (ChangeSpec.witness_at (enc := enc) (C := Tryz.checked) (os := os) (X := fun w _ => laidMetH Tryz.prog laidList w) false (laidWorld os)
      #[.agg #[.string ⟨#[]⟩, .string ⟨#[]⟩, .slice none 0 0, .int .u32 0, .string ⟨#[]⟩], .int .i64 0] 8 rfl (by kernel_rfl) (by kernel_rfl) (by kernel_rfl) (by kernel_rfl) (by kernel_rfl) (laidWorld_met os _)) ?_
  intro W base args ds gs before hval hW _ _ hL _
  exact Go.Ai.law_contract (E := Go.Ai.T.E) (ts := [3, 4, 9, 23, 24, 26, 39, 52, 58, 60, 62]) (tb := 4) (fn := Tryz.f10) plain_ok laidOut (by kernel_rfl) (by kernel_rfl) Tryz.underlying4 rfl
    (by
      intro ds hds
      have hp : Tryz.f10.params.size = 2 := by kernel_rfl
      rw [hp] at hds
      match ds, hds with
      | [d0, d1], _ => rfl) law10 (Go.Ai.T.envS_ok (handle_of_laid hL)) hval hW
theorem holds10 : Rows.ScopeWritesSaid :=
  OpenClaim.holds_of_wide 10 Tryz.f10 rfl rfl rfl rfl rfl rfl rfl ⟨rfl, rfl, rfl, rfl, rfl⟩ rfl rfl rfl rfl rfl (by kernel_rfl) Tryz.func10 (by kernel_rfl)
    (of_decide_eq_true (by kernel_rfl)) (by unfold Func.isWrapper; rw [if_neg (of_decide_eq_false (by kernel_rfl))]; exact ⟨rfl, rfl⟩)
    (fun os started H enc _ => lifted10 os started H enc)
theorem scopeWrites_holds : Rows.ScopeWritesCardSaid :=
  Claim7.holds_tied_plain_at .later [] [.handle] true (true, "d2c203ffe7d1187833f6243fc866a8ee0eac79b591bb97d237391147a90cc075") true
    holds10 (fun _ h => by cases h) (by kernel_rfl) (fun _ h => by cases h) scopeWrites_row_tie rfl ⟨rfl, rfl⟩ (by kernel_rfl) rfl
    (fun f fn hf hfn => by
      obtain rfl : f = 10 := Option.some.inj ((show Tryz.prog.funcNamed "hygrometer/hyglaw10.ScopeWrites" = some 10 by kernel_rfl).symm.trans hf) |>.symm
      obtain rfl : fn = Tryz.f10 := (Option.some.inj (Tryz.func10.symm.trans hfn)).symm
      have hall : (Tryz.f10.params.toList.all fun t => !(Tryz.prog.wantsStandIn t)) = true := by kernel_rfl
      exact ⟨by kernel_rfl, fun j t ht => by
        have hm : t ∈ Tryz.f10.params.toList := by
          rw [← Array.getElem?_toList] at ht
          exact List.mem_of_getElem? ht
        have := List.all_eq_true.1 hall t hm
        simp only [Bool.not_eq_true'] at this
        exact this⟩)
    (by kernel_rfl)
end Go.Proofs.YtidkidjjncmciaaGreatDoor

