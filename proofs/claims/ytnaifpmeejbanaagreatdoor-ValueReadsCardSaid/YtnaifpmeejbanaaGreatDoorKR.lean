/- Part KR of the proof that a law of this program answers yes at every input: no conditions beyond the given statement. -/
import Derived.Test.YtnaifpmeejbanaaGreatDoorKE
import Derived.Test.YtnaifpmeejbanaaGreatDoorKI
import Derived.Test.YtnaifpmeejbanaaGreatDoorKJ
import Derived.Test.YtnaifpmeejbanaaGreatDoorKH
import Derived.Test.YtnaifpmeejbanaaGreatDoorKT
set_option linter.unusedSimpArgs false
set_option linter.unusedVariables false
set_option linter.all false
/- ValueReads answers yes, in the evaluator. -/
namespace Go.Ai.T
open Go
set_option maxRecDepth 100000
set_option maxHeartbeats 4000000
open Classical in
theorem law_reads {s : List UInt8} (hs : s.length ≤ maxStr) {d : Int} (hd1 : -9223372036854775808 ≤ d) (hd : d ≤ 9223372036854775807) :
    ∃ h', callW E [] 3 [.str s, .int .i64 d] (fun _ => none) = some (.bool true, h') := by
  have f := fun q h => first_ok q h
  rw [eq_3]
  by_cases hl : (4000 : Int) < s.length
  · have hl' : 4000 < s.length := by omega
    simp -implicitDefEqProofs (maxSteps := 1000000) [Go.Proofs.Tryz.f3, Code.key, f, hl, hl']
  have hl' : ¬ 4000 < s.length := by omega
  have u1 := fun q h => (unm_all _ d (Nat.le_refl _) hd s (by omega)).1 q h
  have u2 := fun q h => (unm_all _ d (Nat.le_refl _) hd s (by omega)).2 q h
  have r1 := fun q h => readVR_ok (s := s) (by omega) hd q h
  have r2 := fun q h => readKR_ok (s := s) (by omega) hd q h
  have w1 := readV_wf (s := s) (by omega) d
  have w2 := readK_wf (s := s) (by omega) d
  have x1 := refV_eq s d
  have x2 := refK_eq s d
  have a1 : (refV s d).getD val0 = (readV s d).1 := by
    rw [x1]; unfold okO
    cases he : (readV s d).2 with
    | none => rfl
    | some e => exact (readV_bad he).symm
  have a2 : (refK s d).getD kv0 = (readK s d).1 := by
    rw [x2]; unfold okO
    cases he : (readK s d).2 with
    | none => rfl
    | some e => exact (readK_bad he).symm
  have i1 : (refV s d).isSome = (readV s d).2.isNone := by rw [x1]; unfold okO; cases (readV s d).2 <;> rfl
  have i2 : (refK s d).isSome = (readK s d).2.isNone := by rw [x2]; unfold okO; cases (readK s d).2 <;> rfl
  rw [a1, i1] at r1
  rw [a2, i2] at r2
  have sv := fun q h => rsame_ok.1 (readV s d).1 w1 (readV s d).1 q h
  have sk := fun q h => rsame_ok.2 (readK s d).1 w2 (readK s d).1 q h
  simp only [decide_true] at sv sk
  have fv := readV_fine s d
  have fk := readK_fine s d
  obtain ⟨cs, hcs, hsh⟩ := flatV (readV s d).1
  obtain ⟨ck, hck, hsk⟩ := flatK (readK s d).1
  rw [hcs] at u1 r1 sv
  rw [hck] at u2 r2 sk
  obtain ⟨k0, s0, b0, n0, l0, m0, i0, u0, rfl⟩ := hsh
  obtain ⟨ky, hs', k0', s0', b0', n0', l0', m0', i0', u0', uu, rfl⟩ := hsk
  generalize (readV s d).2 = e1 at *
  generalize (readK s d).2 = e2 at *
  cases e1 with
  | none =>
    cases e2 with
    | none =>
      simp only [encO_none, Option.isNone_none] at u1 u2 r1 r2
      simp -implicitDefEqProofs (maxSteps := 1000000) [Go.Proofs.Tryz.f3, Code.key, f, hl, hl', u1, u2, r1, r2, sv, sk]
    | some y =>
      have wk := fun q h => wrong_ok (fk y rfl) q h
      obtain ⟨t, a, hy⟩ := encE_iface y
      simp only [encO_none, encO_some, Option.isNone_none, Option.isNone_some, hy] at u1 u2 r1 r2 wk
      simp -implicitDefEqProofs (maxSteps := 1000000) [Go.Proofs.Tryz.f3, Code.key, f, hl, hl', u1, u2, r1, r2, sv, sk, wk]
  | some x =>
    have wv := fun q h => wrong_ok (fv x rfl) q h
    obtain ⟨t, a, hx⟩ := encE_iface x
    cases e2 with
    | none =>
      simp only [encO_none, encO_some, Option.isNone_none, Option.isNone_some, hx] at u1 u2 r1 r2 wv
      simp -implicitDefEqProofs (maxSteps := 1000000) [Go.Proofs.Tryz.f3, Code.key, f, hl, hl', u1, u2, r1, r2, sv, sk, wv]
    | some y =>
      have wk := fun q h => wrong_ok (fk y rfl) q h
      obtain ⟨t', a', hy⟩ := encE_iface y
      simp only [encO_none, encO_some, Option.isNone_none, Option.isNone_some, hx, hy] at u1 u2 r1 r2 wk wv
      simp -implicitDefEqProofs (maxSteps := 1000000) [Go.Proofs.Tryz.f3, Code.key, f, hl, hl', u1, u2, r1, r2, sv, sk, wv, wk]
end Go.Ai.T

/- ValueReads: the card, out of the law in the evaluator. -/
namespace Go.Proofs.YtnaifpmeejbanaaGreatDoor
open Go.ChangeShapes Go.WideShapes Go.RowKit
set_option maxRecDepth 100000
theorem law3 (xs : List Go.Ai.A) (h : Go.Ai.ArgsT Go.Ai.T.E.P Tryz.f3.params.toList xs) : ∃ h', Go.Ai.callW Go.Ai.T.E [] 3 xs (fun _ => none) = some (.bool true, h') := by
  have hp : Tryz.f3.params.toList = [9, 3] := by kernel_rfl
  rw [hp] at h
  cases h with
  | cons h0 h =>
    cases h with
    | cons h1 h =>
      cases h
      obtain ⟨x0, rfl, hx0⟩ := argS h0
      obtain ⟨x1, rfl, hx1, hy1⟩ := argI h1
      exact Go.Ai.T.law_reads hx0 hx1 hy1
theorem lifted3 (os : Os) (started : os.Started) (H : Type) (enc : TypeId × Value → H) :
    ReturnsInHanded {} Tryz.checked os 3 .any (fun w args => (Rows.valueReadsSpec.pre enc Tryz.prog Tryz.f3 [] false w args ∧ laidMetH Tryz.prog laidList w) ∧ sizedMet enc Tryz.prog Tryz.f3 (OpenSpec.ofChange Rows.valueReadsSpec) false w args)
      (Rows.valueReadsSpec.post enc Tryz.prog Tryz.f3 false true false false) := by
  refine returnsInHanded_of_change_and (C := Tryz.checked) (X := fun w _ => laidMetH Tryz.prog laidList w) (fun _ _ _ hh h => h.of_heap hh) Tryz.own started (by kernel_rfl) Tryz.func3
    (ChangeSpec.witness_at (enc := enc) (C := Tryz.checked) (os := os) (X := fun w _ => laidMetH Tryz.prog laidList w) false (laidWorld os)
      #[.string ⟨#[]⟩, .int .i64 0] 8 rfl (by kernel_rfl) (by kernel_rfl) (by kernel_rfl) (by kernel_rfl) (by kernel_rfl) (laidWorld_met os _)) ?_
  intro W base args ds gs before hval hW _ _ hL _
  exact Go.Ai.law_contract (E := Go.Ai.T.E) (ts := [3, 4, 9, 23, 24, 25, 27, 35]) (tb := 4) (fn := Tryz.f3) plain_ok laidOut (by kernel_rfl) (by kernel_rfl) Tryz.underlying4 rfl
    (by
      intro ds hds
      have hp : Tryz.f3.params.size = 2 := by kernel_rfl
      rw [hp] at hds
      match ds, hds with
      | [d0, d1], _ => rfl) law3 (Go.Ai.T.env8_ok (handle_of_laid hL)) hval hW
theorem holds3 : Rows.ValueReadsSaid :=
  OpenClaim.holds_of_wide 3 Tryz.f3 rfl rfl rfl rfl rfl rfl rfl ⟨rfl, rfl, rfl, rfl, rfl⟩ rfl rfl rfl rfl rfl (by kernel_rfl) Tryz.func3 (by kernel_rfl)
    (of_decide_eq_true (by kernel_rfl)) (by unfold Func.isWrapper; rw [if_neg (of_decide_eq_false (by kernel_rfl))]; exact ⟨rfl, rfl⟩)
    (fun os started H enc _ => lifted3 os started H enc)
theorem valueReads_holds : Rows.ValueReadsCardSaid :=
  Claim7.holds_tied_plain_at .later [] [.handle] true (true, "76462da7ac58ffca1d1881d528bbb0475677a9f9d215d116014ac1f5ba280cdc") true
    holds3 (fun _ h => by cases h) (by kernel_rfl) (fun _ h => by cases h) valueReads_row_tie rfl ⟨rfl, rfl⟩ (by kernel_rfl) rfl
    (fun f fn hf hfn => by
      obtain rfl : f = 3 := Option.some.inj ((show Tryz.prog.funcNamed "hygrometer/hyglaw8.ValueReads" = some 3 by kernel_rfl).symm.trans hf) |>.symm
      obtain rfl : fn = Tryz.f3 := (Option.some.inj (Tryz.func3.symm.trans hfn)).symm
      have hall : (Tryz.f3.params.toList.all fun t => !(Tryz.prog.wantsStandIn t)) = true := by kernel_rfl
      exact ⟨by kernel_rfl, fun j t ht => by
        have hm : t ∈ Tryz.f3.params.toList := by
          rw [← Array.getElem?_toList] at ht
          exact List.mem_of_getElem? ht
        have := List.all_eq_true.1 hall t hm
        simp only [Bool.not_eq_true'] at this
        exact this⟩)
    (by kernel_rfl)
end Go.Proofs.YtnaifpmeejbanaaGreatDoor

