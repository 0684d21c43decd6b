/- Part KV of the proof that a law of this program answers yes at every input: no conditions beyond the given statement. -/
import Derived.Test.YtnaifpmeejbanaaGreatDoorKT
import Derived.Test.YtnaifpmeejbanaaGreatDoorKO
set_option linter.unusedSimpArgs false
set_option linter.unusedVariables false
set_option linter.all false
/- ValueBack: the card, out of the law in the evaluator. -/
namespace Go.Proofs.YtnaifpmeejbanaaGreatDoor
open Go.ChangeShapes Go.WideShapes Go.RowKit
set_option maxRecDepth 100000
theorem law8 (xs : List Go.Ai.A) (h : Go.Ai.ArgsT Go.Ai.T.E.P Tryz.f8.params.toList xs) : ∃ h', Go.Ai.callW Go.Ai.T.E [] 8 xs (fun _ => none) = some (.bool true, h') := by
  have hp : Tryz.f8.params.toList = [27, 35, 3, 3] := by kernel_rfl
  rw [hp] at h
  cases h with
  | cons h0 h =>
    cases h with
    | cons h1 h =>
      cases h with
      | cons h2 h =>
        cases h with
        | cons h3 h =>
          cases h
          obtain ⟨x0, rfl, hx0⟩ := argV h0
          obtain ⟨x1, rfl, hx1⟩ := argK h1
          obtain ⟨x2, rfl, hx2, hy2⟩ := argI h2
          obtain ⟨x3, rfl, hx3, hy3⟩ := argI h3
          exact Go.Ai.T.law_back hx0 hx1 hx2 hy2 hx3 hy3
theorem lifted8 (os : Os) (started : os.Started) (H : Type) (enc : TypeId × Value → H) :
    ReturnsInHanded {} Tryz.checked os 8 .any (fun w args => (Rows.valueBackSpec.pre enc Tryz.prog Tryz.f8 [] false w args ∧ laidMetH Tryz.prog laidList w) ∧ sizedMet enc Tryz.prog Tryz.f8 (OpenSpec.ofChange Rows.valueBackSpec) false w args)
      (Rows.valueBackSpec.post enc Tryz.prog Tryz.f8 false true false false) := by
  refine returnsInHanded_of_change_and (C := Tryz.checked) (X := fun w _ => laidMetH Tryz.prog laidList w) (fun _ _ _ hh h => h.of_heap hh) Tryz.own started (by kernel_rfl) Tryz.func8
    (ChangeSpec.witness_at (enc := enc) (C := Tryz.checked) (os := os) (X := fun w _ => laidMetH Tryz.prog laidList w) false (laidWorld os)
      #[.agg #[.int .i64 0, .string ⟨#[]⟩, .bool false, .int .u64 0, .slice none 0 0, .slice none 0 0, .string ⟨#[]⟩, .string ⟨#[]⟩], .agg #[.string ⟨#[]⟩, .bool false, .int .i64 0, .string ⟨#[]⟩, .bool false, .int .u64 0, .slice none 0 0, .slice none 0 0, .string ⟨#[]⟩, .string ⟨#[]⟩, .string ⟨#[]⟩], .int .i64 0, .int .i64 0] 8 rfl (by kernel_rfl) (by kernel_rfl) (by kernel_rfl) (by kernel_rfl) (by kernel_rfl) (laidWorld_met os _)) ?_
  intro W base args ds gs before hval hW _ _ hL _
  exact Go.Ai.law_contract (E := Go.Ai.T.E) (ts := [3, 4, 9, 23, 24, 25, 27, 35]) (tb := 4) (fn := Tryz.f8) plain_ok laidOut (by kernel_rfl) (by kernel_rfl) Tryz.underlying4 rfl
    (by
      intro ds hds
      have hp : Tryz.f8.params.size = 4 := by kernel_rfl
      rw [hp] at hds
      match ds, hds with
      | [d0, d1, d2, d3], _ => rfl) law8 (Go.Ai.T.env8_ok (handle_of_laid hL)) hval hW
theorem holds8 : Rows.ValueBackSaid :=
  OpenClaim.holds_of_wide 8 Tryz.f8 rfl rfl rfl rfl rfl rfl rfl ⟨rfl, rfl, rfl, rfl, rfl⟩ rfl rfl rfl rfl rfl (by kernel_rfl) Tryz.func8 (by kernel_rfl)
    (of_decide_eq_true (by kernel_rfl)) (by unfold Func.isWrapper; rw [if_neg (of_decide_eq_false (by kernel_rfl))]; exact ⟨rfl, rfl⟩)
    (fun os started H enc _ => lifted8 os started H enc)
theorem valueBack_holds : Rows.ValueBackCardSaid :=
  Claim7.holds_tied_plain_at .later [] [.handle] true (true, "76462da7ac58ffca1d1881d528bbb0475677a9f9d215d116014ac1f5ba280cdc") true
    holds8 (fun _ h => by cases h) (by kernel_rfl) (fun _ h => by cases h) valueBack_row_tie rfl ⟨rfl, rfl⟩ (by kernel_rfl) rfl
    (fun f fn hf hfn => by
      obtain rfl : f = 8 := Option.some.inj ((show Tryz.prog.funcNamed "hygrometer/hyglaw8.ValueBack" = some 8 by kernel_rfl).symm.trans hf) |>.symm
      obtain rfl : fn = Tryz.f8 := (Option.some.inj (Tryz.func8.symm.trans hfn)).symm
      have hall : (Tryz.f8.params.toList.all fun t => !(Tryz.prog.wantsStandIn t)) = true := by kernel_rfl
      exact ⟨by kernel_rfl, fun j t ht => by
        have hm : t ∈ Tryz.f8.params.toList := by
          rw [← Array.getElem?_toList] at ht
          exact List.mem_of_getElem? ht
        have := List.all_eq_true.1 hall t hm
        simp only [Bool.not_eq_true'] at this
        exact this⟩)
    (by kernel_rfl)
end Go.Proofs.YtnaifpmeejbanaaGreatDoor

