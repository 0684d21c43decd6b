/- Part KH of the proof that a law of this program answers yes at every input: no conditions beyond the given statement. -/
import Derived.Test.YtnaifpmeejbanaaGreatDoorRows
import Derived.Test.YtnaifpmeejbanaaGreatDoorCards
import Derived.Test.YtnaifpmeejbanaaGreatDoorTie
import Derived.ChangeVars
import Derived.JoinedOf
import Derived.RowKitTokens
import Derived.LaidLaws
import Derived.LaidHandle
import Derived.Stop.Joined
import Derived.SevenTiedAt
import Derived.Test.YtnaifpmeejbanaaGreatDoorKF
import Derived.Test.YtnaifpmeejbanaaGreatDoorKD
import Derived.Test.YtnaifpmeejbanaaGreatDoorKG
set_option linter.unusedSimpArgs false
set_option linter.unusedVariables false
set_option linter.all false
/- ValueSame: the card, out of the law in the evaluator. -/
namespace Go.Proofs.YtnaifpmeejbanaaGreatDoor
open Go.ChangeShapes Go.WideShapes Go.RowKit
set_option maxRecDepth 100000
theorem Tryz.own : ownKnob Tryz.prog.godebug = none := by kernel_rfl
theorem Tryz.et : Tryz.prog.globalNamed "errors.errorType" = some 0 := by kernel_rfl
theorem Tryz.rt : (Tryz.prog.cutTypes.find? (·.1 == "internal/reflectlite.rtype")).map (·.2) = some 175 := by kernel_rfl
theorem Tryz.oneRow : ((List.range 237).filter fun t => Tryz.prog.rowNamed t [101, 114, 114, 111, 114]) = [29] := by kernel_rfl
theorem Tryz.size : Tryz.prog.types.size = 237 := by kernel_rfl
abbrev laidList : List (String × DataW Unit) := [("errors.errorType", Rows.laid_errors_errorType)]
theorem handle_of_laid {W : World} (h : laidMetH Tryz.prog laidList W) : W.cell? ⟨0, 0, none⟩ = some (.iface 175 (.agg #[.pointer (some ⟨2, 29, none⟩)])) := by
  have h' : laidMet Tryz.prog [] W ∧ handlesMet Tryz.prog laidList W := h
  obtain ⟨name, u, ty, e1, e2, e3, e4, e5⟩ := h'.2 _ (List.mem_singleton.2 rfl)
  have en : name = [101, 114, 114, 111, 114] := (Option.some.inj e1).symm
  subst en
  obtain rfl := Option.some.inj (Tryz.rt.symm.trans e2)
  have hm : ty ∈ (List.range 237).filter fun t => Tryz.prog.rowNamed t [101, 114, 114, 111, 114] := List.mem_filter.2 ⟨List.mem_range.2 (by rw [← Tryz.size]; exact e3), e4⟩
  rw [Tryz.oneRow] at hm
  obtain rfl := List.mem_singleton.1 hm
  have hh : typeHandle Tryz.prog 29 = .pointer (some ⟨2, 29, none⟩) := by kernel_rfl
  rw [hh] at e5
  simpa using World.var?_cell Tryz.et e5 0
/-- A world that meets the condition: the settled one, the variable's cell laid. -/
noncomputable def laidWorld (os : Os) : World :=
  let w0 := World.holding Tryz.prog os ⟨#[], #[], []⟩
  { w0 with heap := w0.heap.modify 0 fun
      | .cells _ t frozen => .cells #[.iface 175 (.agg #[.pointer (some ⟨2, 29, none⟩)])] t frozen
      | o => o }
theorem laidWorld_met (os : Os) (args : Array Value) : laidMetH Tryz.prog laidList ((laidWorld os).forCall (fun _ _ => 0) ⟨#[], args, []⟩).memory :=
  laidMetH_of_parts (laidMet_nil _ _) (by kernel_rfl)
theorem plain_ok : Go.Ai.plainB Go.Ai.T.E.P [3, 4, 9, 23, 24, 25, 27, 35] = true := by kernel_rfl
theorem laidOut : laidOutB Go.Ai.T.E.P = true := by kernel_rfl
theorem valTypes : Go.Ai.ValTypes Go.Ai.T.E.P 27 35 3 9 4 23 24 25 where
  hv := by kernel_rfl
  hk := by kernel_rfl
  hi := Tryz.underlying3
  hs := Tryz.underlying9
  hb := Tryz.underlying4
  hu := Tryz.underlying23
  hvs := Tryz.underlying24
  hks := Tryz.underlying25
theorem arg27 {a : Go.Ai.A} (h : Go.Ai.ArgT Go.Ai.T.E.P 27 a) : ∃ x : Go.Ai.Val, a = .agg (Go.Ai.encV x) ∧ x.wf := by
  simp only [Go.Ai.ArgT] at h
  have hu : Go.Ai.T.E.P.underlying 27 = Go.Ai.T.E.P.underlying 27 := rfl
  rw [show Go.Ai.T.E.P.underlying 27 = Tryz.prog.underlying 27 from rfl, Tryz.underlying27] at h
  obtain ⟨as', rfl, hw⟩ := h
  obtain ⟨x, rfl, hx⟩ := (hw.values valTypes).1 rfl
  exact ⟨x, rfl, hx⟩
theorem arg35 {a : Go.Ai.A} (h : Go.Ai.ArgT Go.Ai.T.E.P 35 a) : ∃ x : Go.Ai.KV, a = .agg (Go.Ai.encK x) ∧ x.wf := by
  simp only [Go.Ai.ArgT] at h
  rw [show Go.Ai.T.E.P.underlying 35 = Tryz.prog.underlying 35 from rfl, Tryz.underlying35] at h
  obtain ⟨as', rfl, hw⟩ := h
  obtain ⟨x, rfl, hx⟩ := (hw.values valTypes).2.1 rfl
  exact ⟨x, rfl, hx⟩
theorem arg25 {a : Go.Ai.A} (h : Go.Ai.ArgT Go.Ai.T.E.P 25 a) : ∃ l : List Go.Ai.KV, a = .slice (l.map Go.Ai.encK) none ∧ l.length ≤ Go.Ai.maxStr ∧ ∀ x ∈ l, x.wf := by
  simp only [Go.Ai.ArgT] at h
  rw [show Go.Ai.T.E.P.underlying 25 = Tryz.prog.underlying 25 from rfl, Tryz.underlying25] at h
  obtain ⟨l, hl, h1, h2⟩ := (h.values valTypes).2.2.2 rfl
  simp only [List.cons.injEq, and_true] at hl
  exact ⟨l, hl, h1, h2⟩
theorem law4 (xs : List Go.Ai.A) (h : Go.Ai.ArgsT Go.Ai.T.E.P Tryz.f4.params.toList xs) : ∃ h', Go.Ai.callW Go.Ai.T.E [] 4 xs (fun _ => none) = some (.bool true, h') := by
  have hp : Tryz.f4.params.toList = [27, 27, 25, 25] := by kernel_rfl
  rw [hp] at h
  cases h with
  | cons h1 h => cases h with
    | cons h2 h => cases h with
      | cons h3 h => cases h with
        | cons h4 h =>
          cases h
          obtain ⟨a, rfl, ha⟩ := arg27 h1
          obtain ⟨b, rfl, hb⟩ := arg27 h2
          obtain ⟨l, rfl, hl, hwl⟩ := arg25 h3
          obtain ⟨m, rfl, hm, hwm⟩ := arg25 h4
          exact Go.Ai.T.law_same ha hb hl hm hwl hwm
set_option maxRecDepth 100000 in
theorem lifted4 (os : Os) (started : os.Started) (H : Type) (enc : TypeId × Value → H) :
    ReturnsInHanded {} Tryz.checked os 4 .any (fun w args => (Rows.valueSameSpec.pre enc Tryz.prog Tryz.f4 [] false w args ∧ laidMetH Tryz.prog laidList w) ∧ sizedMet enc Tryz.prog Tryz.f4 (OpenSpec.ofChange Rows.valueSameSpec) false w args)
      (Rows.valueSameSpec.post enc Tryz.prog Tryz.f4 false true false false) := by
  refine returnsInHanded_of_change_and (C := Tryz.checked) (X := fun w _ => laidMetH Tryz.prog laidList w) (fun _ _ _ hh h => h.of_heap hh) Tryz.own started (by kernel_rfl) Tryz.func4
    (ChangeSpec.witness_at (enc := enc) (C := Tryz.checked) (os := os) (X := fun w _ => laidMetH Tryz.prog laidList w) false (laidWorld os)
      #[.agg #[.int .i64 0, .string ⟨#[]⟩, .bool false, .int .u64 0, .slice none 0 0, .slice none 0 0, .string ⟨#[]⟩, .string ⟨#[]⟩], .agg #[.int .i64 0, .string ⟨#[]⟩, .bool false, .int .u64 0, .slice none 0 0, .slice none 0 0, .string ⟨#[]⟩, .string ⟨#[]⟩], .slice none 0 0, .slice none 0 0] 8 rfl (by kernel_rfl) (by kernel_rfl) (by kernel_rfl) (by kernel_rfl) (by kernel_rfl) (laidWorld_met os _)) ?_
  intro W base args ds gs before hval hW _ _ hL _
  exact Go.Ai.law_contract (E := Go.Ai.T.E) (ts := [3, 4, 9, 23, 24, 25, 27, 35]) (tb := 4) (fn := Tryz.f4) plain_ok laidOut (by kernel_rfl) (by kernel_rfl) Tryz.underlying4 rfl
    (by
      intro ds hds
      have hp : Tryz.f4.params.size = 4 := by kernel_rfl
      rw [hp] at hds
      match ds, hds with
      | [d1, d2, d3, d4], _ => rfl) law4 (Go.Ai.T.env8_ok (handle_of_laid hL)) hval hW
theorem holds4 : Rows.ValueSameSaid :=
  OpenClaim.holds_of_wide 4 Tryz.f4 rfl rfl rfl rfl rfl rfl rfl ⟨rfl, rfl, rfl, rfl, rfl⟩ rfl rfl rfl rfl rfl (by kernel_rfl) Tryz.func4 (by kernel_rfl)
    (of_decide_eq_true (by kernel_rfl)) (by unfold Func.isWrapper; rw [if_neg (of_decide_eq_false (by kernel_rfl))]; exact ⟨rfl, rfl⟩)
    (fun os started H enc _ => lifted4 os started H enc)
theorem valueSame_holds : Rows.ValueSameCardSaid :=
  Claim7.holds_tied_plain_at .later [] [.handle] true (true, "76462da7ac58ffca1d1881d528bbb0475677a9f9d215d116014ac1f5ba280cdc") true
    holds4 (fun _ h => by cases h) (by kernel_rfl) (fun _ h => by cases h) valueSame_row_tie rfl ⟨rfl, rfl⟩ (by kernel_rfl) rfl
    (fun f fn hf hfn => by
      obtain rfl : f = 4 := Option.some.inj ((show Tryz.prog.funcNamed "hygrometer/hyglaw8.ValueSame" = some 4 by kernel_rfl).symm.trans hf) |>.symm
      obtain rfl : fn = Tryz.f4 := (Option.some.inj (Tryz.func4.symm.trans hfn)).symm
      have hall : (Tryz.f4.params.toList.all fun t => !(Tryz.prog.wantsStandIn t)) = true := by kernel_rfl
      exact ⟨by kernel_rfl, fun j t ht => by
        have hm : t ∈ Tryz.f4.params.toList := by
          rw [← Array.getElem?_toList] at ht
          exact List.mem_of_getElem? ht
        have := List.all_eq_true.1 hall t hm
        simp only [Bool.not_eq_true'] at this
        exact this⟩)
    (by kernel_rfl)
end Go.Proofs.YtnaifpmeejbanaaGreatDoor

