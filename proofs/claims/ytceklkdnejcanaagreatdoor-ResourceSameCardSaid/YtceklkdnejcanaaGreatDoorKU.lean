/- Part KU of the proof that a law of this program answers yes at every input: no conditions beyond the given statement. -/
import Derived.Test.YtceklkdnejcanaaGreatDoorKE
import Derived.Test.YtceklkdnejcanaaGreatDoorKQ
import Derived.Test.YtceklkdnejcanaaGreatDoorKT
set_option linter.unusedSimpArgs false
set_option linter.unusedVariables false
set_option linter.all false
namespace Go.Ai.T
open Go Go.Proofs
set_option maxRecDepth 100000
set_option maxHeartbeats 4000000
open Classical in
theorem lawResourceSame {a b : ResM} (ha : a.wf) (hb : b.wf) :
  ∃ h', callW E [] 3 [.agg (encRes a), .agg (encRes b)] (fun _ => none) = some (.bool true, h') := by
 have f := fun q h => first10_ok q h
 have ra := fun q h => croomRs_ok ha (r := 12000) (by omega) (by omega) q h
 have rb := fun q h => croomRs_ok hb (r := 12000) (by omega) (by omega) q h
 have s1 := fun q h => csameRs_ok (a := a) (b := b) ha q h
 have s2 := fun q h => crsameRs_ok (a := a) (b := b) ha q h
 have s3 := fun q h => csameRs_ok (a := a) (b := a) ha q h
 simp only [decide_true] at s3
 rw [eq_3]
 simp only [encRes] at ra rb s1 s2 s3 ⊢
 generalize decide (a = b) = e at *
 by_cases ca : roomRs a 12000 < 0
 ·simp -implicitDefEqProofs (maxSteps := 1000000) [Tryz.f3, Code.key, f, ra, ca]
 by_cases cb : roomRs b 12000 < 0
 ·simp -implicitDefEqProofs (maxSteps := 1000000) [Tryz.f3, Code.key, f, ra, rb, ca, cb]
 cases e <;> simp -implicitDefEqProofs (maxSteps := 1000000) [Tryz.f3, Code.key, f, ra, rb, ca, cb, s1, s2, s3]
end Go.Ai.T

namespace Go.Proofs.YtceklkdnejcanaaGreatDoor
open Go.ChangeShapes Go.WideShapes Go.RowKit
set_option maxRecDepth 100000
theorem law3 (xs : List Go.Ai.A) (h : Go.Ai.ArgsT Go.Ai.T.E.P Tryz.f3.params.toList xs) : ∃ h', Go.Ai.callW Go.Ai.T.E [] 3 xs (fun _ => none) = some (.bool true, h') := by
 have hp : Tryz.f3.params.toList = [25, 25] := by kernel_rfl
 rw [hp] at h
 cases h with
 | cons h0 h =>
  cases h with
  | cons h1 h =>
   cases h
   obtain ⟨x0, rfl, hx0⟩ := argRes h0
   obtain ⟨x1, rfl, hx1⟩ := argRes h1
   exact Go.Ai.T.lawResourceSame hx0 hx1
theorem lifted3 (os : Os) (started : os.Started) (H : Type) (enc : TypeId × Value → H) :
  ReturnsInHanded {} Tryz.checked os 3 .any (fun w args => (Rows.resourceSameSpec.pre enc Tryz.prog Tryz.f3 [] false w args ∧ laidMetH Tryz.prog laidList w) ∧ sizedMet enc Tryz.prog Tryz.f3 (OpenSpec.ofChange Rows.resourceSameSpec) false w args)
   (Rows.resourceSameSpec.post enc Tryz.prog Tryz.f3 false true false false) := by
 refine returnsInHanded_of_change_and (C := Tryz.checked) (X := fun w _ => laidMetH Tryz.prog laidList w) (fun _ _ _ hh h => h.of_heap hh) Tryz.own started (by kernel_rfl) Tryz.func3
  (ChangeSpec.witness_at (enc := enc) (C := Tryz.checked) (os := os) (X := fun w _ => laidMetH Tryz.prog laidList w) false (laidWorld os)
   #[.agg #[.slice none 0 0, .int .u32 0, .string ⟨#[]⟩], .agg #[.slice none 0 0, .int .u32 0, .string ⟨#[]⟩]] 8 rfl (by kernel_rfl) (by kernel_rfl) (by kernel_rfl) (by kernel_rfl) (by kernel_rfl) (laidWorld_met os _)) ?_
 intro W base args ds gs before hval hW _ _ hL _
 exact Go.Ai.law_contract (E := Go.Ai.T.E) (ts := [3, 4, 9, 22, 23, 25, 39, 52, 62, 64, 66]) (tb := 4) (fn := Tryz.f3) plain_ok laidOut (by kernel_rfl) (by kernel_rfl) Tryz.underlying4 rfl
  (by
   intro ds hds
   have hp : Tryz.f3.params.size = 2 := by kernel_rfl
   rw [hp] at hds
   match ds, hds with
   | [d0, d1], _ => rfl) law3 (Go.Ai.T.envS_ok (handle_of_laid hL)) hval hW
theorem holds3 : Rows.ResourceSameSaid :=
 OpenClaim.holds_of_wide 3 Tryz.f3 rfl rfl rfl rfl rfl rfl rfl ⟨rfl, rfl, rfl, rfl, rfl⟩ rfl rfl rfl rfl rfl (by kernel_rfl) Tryz.func3 (by kernel_rfl)
  (of_decide_eq_true (by kernel_rfl)) (by unfold Func.isWrapper; rw [if_neg (of_decide_eq_false (by kernel_rfl))]; exact ⟨rfl, rfl⟩)
  (fun os started H enc _ => lifted3 os started H enc)
theorem resourceSame_holds : Rows.ResourceSameCardSaid :=
 Claim7.holds_tied_plain_at .later [] [.handle] true (true, "8675cd15e58885dd82e0d1c8ab52706ce57f806b47bf0ae5218e72f943d68231") true
  holds3 (fun _ h => by cases h) (by kernel_rfl) (fun _ h => by cases h) resourceSame_row_tie rfl ⟨rfl, rfl⟩ (by kernel_rfl) rfl
  (fun f fn hf hfn => by
   obtain rfl : f = 3 := Option.some.inj ((show Tryz.prog.funcNamed "hygrometer/hyglaw10.ResourceSame" = some 3 by kernel_rfl).symm.trans hf) |>.symm
   obtain rfl : fn = Tryz.f3 := (Option.some.inj (Tryz.func3.symm.trans hfn)).symm
   have hall : (Tryz.f3.params.toList.all fun t => !(Tryz.prog.wantsStandIn t)) = true := by kernel_rfl
   exact ⟨by kernel_rfl, fun j t ht => by
    have hm : t ∈ Tryz.f3.params.toList := by
     rw [← Array.getElem?_toList] at ht
     exact List.mem_of_getElem? ht
    have := List.all_eq_true.1 hall t hm
    simp only [Bool.not_eq_true'] at this
    exact this⟩)
  (by kernel_rfl)
end Go.Proofs.YtceklkdnejcanaaGreatDoor

