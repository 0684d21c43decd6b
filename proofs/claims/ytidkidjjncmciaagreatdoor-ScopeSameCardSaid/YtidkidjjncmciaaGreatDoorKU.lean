/- Part KU of the proof that a law of this program answers yes at every input: no conditions beyond the given statement. -/
import Derived.Test.YtidkidjjncmciaaGreatDoorKE
import Derived.Test.YtidkidjjncmciaaGreatDoorKQ
import Derived.Test.YtidkidjjncmciaaGreatDoorKT
set_option linter.unusedSimpArgs false
set_option linter.unusedVariables false
set_option linter.all false
/- ScopeSame, ResourceSame answer yes, in the evaluator. -/
namespace Go.Ai.T
open Go
set_option maxRecDepth 100000
set_option maxHeartbeats 4000000
open Classical in
theorem lawScopeSame {a b : ScopeM} (ha : a.wf) (hb : b.wf) :
    ∃ h', callW E [] 4 [.agg (encScope a), .agg (encScope b)] (fun _ => none) = some (.bool true, h') := by
  have f := fun q h => first10_ok q h
  have ra := fun q h => croomS_ok ha (r := 12000) (by omega) (by omega) q h
  have rb := fun q h => croomS_ok hb (r := 12000) (by omega) (by omega) q h
  have s1 := fun q h => csameS_ok (a := a) (b := b) ha q h
  have s2 := fun q h => crsameS_ok (a := a) (b := b) ha q h
  have s3 := fun q h => csameS_ok (a := a) (b := a) ha q h
  simp only [decide_true] at s3
  rw [eq_4]
  simp only [encScope] at ra rb s1 s2 s3 ⊢
  generalize decide (a = b) = e at *
  by_cases ca : roomS a 12000 < 0
  · simp -implicitDefEqProofs (maxSteps := 1000000) [Go.Proofs.Tryz.f4, Code.key, f, ra, ca]
  by_cases cb : roomS b 12000 < 0
  · simp -implicitDefEqProofs (maxSteps := 1000000) [Go.Proofs.Tryz.f4, Code.key, f, ra, rb, ca, cb]
  cases e <;> simp -implicitDefEqProofs (maxSteps := 1000000) [Go.Proofs.Tryz.f4, Code.key, f, ra, rb, ca, cb, s1, s2, s3]
end Go.Ai.T

/- ScopeSame: the card, out of the law in the evaluator. -/
namespace Go.Proofs.YtidkidjjncmciaaGreatDoor
open Go.ChangeShapes Go.WideShapes Go.RowKit
set_option maxRecDepth 100000
theorem law4 (xs : List Go.Ai.A) (h : Go.Ai.ArgsT Go.Ai.T.E.P Tryz.f4.params.toList xs) : ∃ h', Go.Ai.callW Go.Ai.T.E [] 4 xs (fun _ => none) = some (.bool true, h') := by
  have hp : Tryz.f4.params.toList = [26, 26] := by kernel_rfl
  rw [hp] at h
  cases h with
  | cons h0 h =>
    cases h with
    | cons h1 h =>
      cases h
      obtain ⟨x0, rfl, hx0⟩ := argScope h0
      obtain ⟨x1, rfl, hx1⟩ := argScope h1
      exact Go.Ai.T.lawScopeSame hx0 hx1
theorem lifted4 (os : Os) (started : os.Started) (H : Type) (enc : TypeId × Value → H) :
    ReturnsInHanded {} Tryz.checked os 4 .any (fun w args => (Rows.scopeSameSpec.pre enc Tryz.prog Tryz.f4 [] false w args ∧ laidMetH Tryz.prog laidList w) ∧ sizedMet enc Tryz.prog Tryz.f4 (OpenSpec.ofChange Rows.scopeSameSpec) false w args)
      (Rows.scopeSameSpec.post enc Tryz.prog Tryz.f4 false true false false) := by
  refine returnsInHanded_of_change_and (C := Tryz.checked) (X := fun w _ => laidMetH Tryz.prog laidList w) (fun _ _ _ hh h => h.of_heap hh) Tryz.own started (by kernel_rfl) Tryz.func4
    (ChangeSpec.witness_at (enc := enc) (C := Tryz.checked) (os := os) (X := fun w _ => laidMetH Tryz.prog laidList w) false (laidWorld os)
      #[.agg #[.string ⟨#[]⟩, .string ⟨#[]⟩, .slice none 0 0, .int .u32 0, .string ⟨#[]⟩], .agg #[.string ⟨#[]⟩, .string ⟨#[]⟩, .slice none 0 0, .int .u32 0, .string ⟨#[]⟩]] 8 rfl (by kernel_rfl) (by kernel_rfl) (by kernel_rfl) (by kernel_rfl) (by kernel_rfl) (laidWorld_met os _)) ?_
  intro W base args ds gs before hval hW _ _ hL _
  exact Go.Ai.law_contract (E := Go.Ai.T.E) (ts := [3, 4, 9, 23, 24, 26, 39, 52, 58, 60, 62]) (tb := 4) (fn := Tryz.f4) plain_ok laidOut (by kernel_rfl) (by kernel_rfl) Tryz.underlying4 rfl
    (by
      intro ds hds
      have hp : Tryz.f4.params.size = 2 := by kernel_rfl
      rw [hp] at hds
      match ds, hds with
      | [d0, d1], _ => rfl) law4 (Go.Ai.T.envS_ok (handle_of_laid hL)) hval hW
theorem holds4 : Rows.ScopeSameSaid :=
  OpenClaim.holds_of_wide 4 Tryz.f4 rfl rfl rfl rfl rfl rfl rfl ⟨rfl, rfl, rfl, rfl, rfl⟩ rfl rfl rfl rfl rfl (by kernel_rfl) Tryz.func4 (by kernel_rfl)
    (of_decide_eq_true (by kernel_rfl)) (by unfold Func.isWrapper; rw [if_neg (of_decide_eq_false (by kernel_rfl))]; exact ⟨rfl, rfl⟩)
    (fun os started H enc _ => lifted4 os started H enc)
theorem scopeSame_holds : Rows.ScopeSameCardSaid :=
  Claim7.holds_tied_plain_at .later [] [.handle] true (true, "d2c203ffe7d1187833f6243fc866a8ee0eac79b591bb97d237391147a90cc075") true
    holds4 (fun _ h => by cases h) (by kernel_rfl) (fun _ h => by cases h) scopeSame_row_tie rfl ⟨rfl, rfl⟩ (by kernel_rfl) rfl
    (fun f fn hf hfn => by
      obtain rfl : f = 4 := Option.some.inj ((show Tryz.prog.funcNamed "hygrometer/hyglaw10.ScopeSame" = some 4 by kernel_rfl).symm.trans hf) |>.symm
      obtain rfl : fn = Tryz.f4 := (Option.some.inj (Tryz.func4.symm.trans hfn)).symm
      have hall : (Tryz.f4.params.toList.all fun t => !(Tryz.prog.wantsStandIn t)) = true := by kernel_rfl
      exact ⟨by kernel_rfl, fun j t ht => by
        have hm : t ∈ Tryz.f4.params.toList := by
          rw [← Array.getElem?_toList] at ht
          exact List.mem_of_getElem? ht
        have := List.all_eq_true.1 hall t hm
        simp only [Bool.not_eq_true'] at this
        exact this⟩)
    (by kernel_rfl)
end Go.Proofs.YtidkidjjncmciaaGreatDoor

