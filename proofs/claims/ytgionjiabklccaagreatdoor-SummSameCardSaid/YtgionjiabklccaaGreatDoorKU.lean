/- Part KU of the proof that a law of this program answers yes at every input: no conditions beyond the given statement. -/
import Derived.Test.YtgionjiabklccaaGreatDoorKE
import Derived.Test.YtgionjiabklccaaGreatDoorKQ
import Derived.Test.YtgionjiabklccaaGreatDoorKT
set_option linter.unusedSimpArgs false
set_option linter.unusedVariables false
set_option linter.all false
namespace Go.Ai.T
open Go Go.Proofs
set_option maxRecDepth 100000
set_option maxHeartbeats 4000000
open Classical in
theorem lawSummSame {a b : SummM} (ha : a.wf) (hb : b.wf) :
  ∃ h', callW E [] 7 [.agg (encSumm a), .agg (encSumm b)] (fun _ => none) = some (.bool true, h') := by
 have f := fun q h => first15_ok q h
 have ra := fun q h => croomSm_ok ha (r := 12000) (by omega) (by omega) q h
 have rb := fun q h => croomSm_ok hb (r := 12000) (by omega) (by omega) q h
 have s1 := fun q h => csameSm_ok (a := a) (b := b) ha q h
 have s2 := fun q h => crsameSm_ok (a := a) (b := b) ha q h
 have s3 := fun q h => csameSm_ok (a := a) (b := a) ha q h
 simp only [decide_true] at s3
 rw [eq_7]
 simp only [encSumm] at ra rb s1 s2 s3 ⊢
 generalize decide (a = b) = e at *
 by_cases ca : roomSm a 12000 < 0
 ·simp -implicitDefEqProofs (maxSteps := 1000000) [Tryz.f7, Code.key, f, ra, ca]
 by_cases cb : roomSm b 12000 < 0
 ·simp -implicitDefEqProofs (maxSteps := 1000000) [Tryz.f7, Code.key, f, ra, rb, ca, cb]
 cases e <;> simp -implicitDefEqProofs (maxSteps := 1000000) [Tryz.f7, Code.key, f, ra, rb, ca, cb, s1, s2, s3]
end Go.Ai.T

namespace Go.Proofs.YtgionjiabklccaaGreatDoor
open Go.ChangeShapes Go.WideShapes Go.RowKit
set_option maxRecDepth 100000
theorem law7 (xs : List Go.Ai.A) (h : Go.Ai.ArgsT Go.Ai.T.E.P Tryz.f7.params.toList xs) : ∃ h', Go.Ai.callW Go.Ai.T.E [] 7 xs (fun _ => none) = some (.bool true, h') := by
 have hp : Tryz.f7.params.toList = [28, 28] := by kernel_rfl
 rw [hp] at h
 cases h with
 | cons h0 h =>
  cases h with
  | cons h1 h =>
   cases h
   obtain ⟨x0, rfl, hx0⟩ := argSumm h0
   obtain ⟨x1, rfl, hx1⟩ := argSumm h1
   exact Go.Ai.T.lawSummSame hx0 hx1
theorem lifted7 (os : Os) (started : os.Started) (H : Type) (enc : TypeId × Value → H) :
  ReturnsInHanded {} Tryz.checked os 7 .any (fun w args => (Rows.summSameSpec.pre enc Tryz.prog Tryz.f7 [] false w args ∧ laidMetH Tryz.prog laidList w) ∧ sizedMet enc Tryz.prog Tryz.f7 (OpenSpec.ofChange Rows.summSameSpec) false w args)
   (Rows.summSameSpec.post enc Tryz.prog Tryz.f7 false true false false) := by
 refine returnsInHanded_of_change_and (C := Tryz.checked) (X := fun w _ => laidMetH Tryz.prog laidList w) (fun _ _ _ hh h => h.of_heap hh) Tryz.own started (by kernel_rfl) Tryz.func7
  (ChangeSpec.witness_at (enc := enc) (C := Tryz.checked) (os := os) (X := fun w _ => laidMetH Tryz.prog laidList w) false (laidWorld os)
   #[.agg #[.slice none 0 0, .int .u64 0, .int .u64 0, .int .u64 0, .int .u64 0, .slice none 0 0, .int .u32 0, .string ⟨#[]⟩], .agg #[.slice none 0 0, .int .u64 0, .int .u64 0, .int .u64 0, .int .u64 0, .slice none 0 0, .int .u32 0, .string ⟨#[]⟩]] 8 rfl (by kernel_rfl) (by kernel_rfl) (by kernel_rfl) (by kernel_rfl) (by kernel_rfl) (laidWorld_met os _)) ?_
 intro W base args ds gs before hval hW _ _ hL _
 exact Go.Ai.law_contract (E := Go.Ai.T.E) (ts := [3, 4, 9, 23, 24, 25, 26, 28, 52, 57, 59, 61]) (tb := 4) (fn := Tryz.f7) plain_ok laidOut (by kernel_rfl) (by kernel_rfl) Tryz.underlying4 rfl
  (by
   intro ds hds
   have hp : Tryz.f7.params.size = 2 := by kernel_rfl
   rw [hp] at hds
   match ds, hds with
   | [d0, d1], _ => rfl) law7 (Go.Ai.T.envS_ok (handle_of_laid hL)) hval hW
theorem holds7 : Rows.SummSameSaid :=
 OpenClaim.holds_of_wide 7 Tryz.f7 rfl rfl rfl rfl rfl rfl rfl ⟨rfl, rfl, rfl, rfl, rfl⟩ rfl rfl rfl rfl rfl (by kernel_rfl) Tryz.func7 (by kernel_rfl)
  (of_decide_eq_true (by kernel_rfl)) (by unfold Func.isWrapper; rw [if_neg (of_decide_eq_false (by kernel_rfl))]; exact ⟨rfl, rfl⟩)
  (fun os started H enc _ => lifted7 os started H enc)
theorem summSame_holds : Rows.SummSameCardSaid :=
 Claim7.holds_tied_plain_at .later [] [.handle] true (true, "d249bb353b0ad4876e1e511082de94de7d0f42723eb5e98361d7bcae220c76ed") true
  holds7 (fun _ h => by cases h) (by kernel_rfl) (fun _ h => by cases h) summSame_row_tie rfl ⟨rfl, rfl⟩ (by kernel_rfl) rfl
  (fun f fn hf hfn => by
   obtain rfl : f = 7 := Option.some.inj ((show Tryz.prog.funcNamed "hygrometer/hyglaw15.SummSame" = some 7 by kernel_rfl).symm.trans hf) |>.symm
   obtain rfl : fn = Tryz.f7 := (Option.some.inj (Tryz.func7.symm.trans hfn)).symm
   have hall : (Tryz.f7.params.toList.all fun t => !(Tryz.prog.wantsStandIn t)) = true := by kernel_rfl
   exact ⟨by kernel_rfl, fun j t ht => by
    have hm : t ∈ Tryz.f7.params.toList := by
     rw [← Array.getElem?_toList] at ht
     exact List.mem_of_getElem? ht
    have := List.all_eq_true.1 hall t hm
    simp only [Bool.not_eq_true'] at this
    exact this⟩)
  (by kernel_rfl)
end Go.Proofs.YtgionjiabklccaaGreatDoor

