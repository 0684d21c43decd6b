/- Part KU of the proof that a law of this program answers yes at every input: no conditions beyond the given statement. -/
import Derived.Test.YtnaifpmeejbanaaGreatDoorKE
import Derived.Test.YtnaifpmeejbanaaGreatDoorKI
import Derived.Test.YtnaifpmeejbanaaGreatDoorKT
set_option linter.unusedSimpArgs false
set_option linter.unusedVariables false
set_option linter.all false
/- ValueTwice answers yes, in the evaluator. -/
namespace Go.Ai.T
open Go
set_option maxRecDepth 100000
set_option maxHeartbeats 4000000
open Classical in
theorem law_twice {s : List UInt8} (hs : s.length ≤ maxStr) {d : Int} (hd1 : -9223372036854775808 ≤ d) (hd : d ≤ 9223372036854775807) :
    ∃ h', callW E [] 5 [.str s, .int .i64 d] (fun _ => none) = some (.bool true, h') := by
  have f := fun q h => first_ok q h
  rw [eq_5]
  by_cases hl : (4000 : Int) < s.length
  · have hl' : 4000 < s.length := by omega
    simp -implicitDefEqProofs (maxSteps := 1000000) [Go.Proofs.Tryz.f5, Code.key, f, hl, hl']
  have hl' : ¬ 4000 < s.length := by omega
  have u1 := fun q h => (unm_all _ d (Nat.le_refl _) hd s (by omega)).1 q h
  have w1 := readV_wf (s := s) (by omega) d
  cases he : (readV s d).2 with
  | some e =>
    have hb := readV_bad he
    have sv := fun q h => same_ok.1 val0 val0_wf val0 q h
    simp only [decide_true] at sv
    rw [he, hb] at u1
    obtain ⟨t, a, hx⟩ := encE_iface e
    simp only [encO_some, hx, val0, encV_mk, List.map_nil, nat0] at u1 sv
    simp -implicitDefEqProofs (maxSteps := 1000000) [Go.Proofs.Tryz.f5, Code.key, f, hl, hl', u1, sv]
  | none =>
    obtain ⟨hm, hlen⟩ := readV_may he
    have hsz := may_sz.1 _ d hm
    rw [he] at u1
    generalize (readV s d).1 = x at *
    have hsz2 : x.sz ≤ 549755813888 := by omega
    have m1 := fun q h => marV_ok w1 hsz2 hd q h
    have ma := fun q h => mayV_ok w1 hsz2 hd q h
    have u2 := fun q h => (unm_all _ d (Nat.le_refl _) hd (writeV x) (by omega)).1 q h
    rw [readV_writeV hm (by omega) w1] at u2
    have sv := fun q h => same_ok.1 x w1 x q h
    simp only [decide_true] at sv
    rw [hm] at m1 ma
    simp only [marE, if_true, encO_none] at m1 u1 u2
    have wr : IntKind.i64.wrap ((s.length : Int) + 1) = (s.length : Int) + 1 := wrap_i64 (by omega) (by omega)
    have hle : ((writeV x).length : Int) ≤ (s.length : Int) + 1 := by omega
    have hle' : (writeV x).length ≤ s.length + 1 := by omega
    obtain ⟨cs, hcs, hsh⟩ := flatV x
    rw [hcs] at u1 u2 m1 ma sv
    obtain ⟨k0, s0, b0, n0, l0, m0, i0, u0, rfl⟩ := hsh
    simp -implicitDefEqProofs (maxSteps := 1000000) [Go.Proofs.Tryz.f5, Code.key, f, hl, hl', u1, u2, m1, ma, sv, wr, hle, hle']
end Go.Ai.T

/- ValueTwice: the card, out of the law in the evaluator. -/
namespace Go.Proofs.YtnaifpmeejbanaaGreatDoor
open Go.ChangeShapes Go.WideShapes Go.RowKit
set_option maxRecDepth 100000
theorem law5 (xs : List Go.Ai.A) (h : Go.Ai.ArgsT Go.Ai.T.E.P Tryz.f5.params.toList xs) : ∃ h', Go.Ai.callW Go.Ai.T.E [] 5 xs (fun _ => none) = some (.bool true, h') := by
  have hp : Tryz.f5.params.toList = [9, 3] := by kernel_rfl
  rw [hp] at h
  cases h with
  | cons h0 h =>
    cases h with
    | cons h1 h =>
      cases h
      obtain ⟨x0, rfl, hx0⟩ := argS h0
      obtain ⟨x1, rfl, hx1, hy1⟩ := argI h1
      exact Go.Ai.T.law_twice hx0 hx1 hy1
theorem lifted5 (os : Os) (started : os.Started) (H : Type) (enc : TypeId × Value → H) :
    ReturnsInHanded {} Tryz.checked os 5 .any (fun w args => (Rows.valueTwiceSpec.pre enc Tryz.prog Tryz.f5 [] false w args ∧ laidMetH Tryz.prog laidList w) ∧ sizedMet enc Tryz.prog Tryz.f5 (OpenSpec.ofChange Rows.valueTwiceSpec) false w args)
      (Rows.valueTwiceSpec.post enc Tryz.prog Tryz.f5 false true false false) := by
  refine returnsInHanded_of_change_and (C := Tryz.checked) (X := fun w _ => laidMetH Tryz.prog laidList w) (fun _ _ _ hh h => h.of_heap hh) Tryz.own started (by kernel_rfl) Tryz.func5
    (ChangeSpec.witness_at (enc := enc) (C := Tryz.checked) (os := os) (X := fun w _ => laidMetH Tryz.prog laidList w) false (laidWorld os)
      #[.string ⟨#[]⟩, .int .i64 0] 8 rfl (by kernel_rfl) (by kernel_rfl) (by kernel_rfl) (by kernel_rfl) (by kernel_rfl) (laidWorld_met os _)) ?_
  intro W base args ds gs before hval hW _ _ hL _
  exact Go.Ai.law_contract (E := Go.Ai.T.E) (ts := [3, 4, 9, 23, 24, 25, 27, 35]) (tb := 4) (fn := Tryz.f5) plain_ok laidOut (by kernel_rfl) (by kernel_rfl) Tryz.underlying4 rfl
    (by
      intro ds hds
      have hp : Tryz.f5.params.size = 2 := by kernel_rfl
      rw [hp] at hds
      match ds, hds with
      | [d0, d1], _ => rfl) law5 (Go.Ai.T.env8_ok (handle_of_laid hL)) hval hW
theorem holds5 : Rows.ValueTwiceSaid :=
  OpenClaim.holds_of_wide 5 Tryz.f5 rfl rfl rfl rfl rfl rfl rfl ⟨rfl, rfl, rfl, rfl, rfl⟩ rfl rfl rfl rfl rfl (by kernel_rfl) Tryz.func5 (by kernel_rfl)
    (of_decide_eq_true (by kernel_rfl)) (by unfold Func.isWrapper; rw [if_neg (of_decide_eq_false (by kernel_rfl))]; exact ⟨rfl, rfl⟩)
    (fun os started H enc _ => lifted5 os started H enc)
theorem valueTwice_holds : Rows.ValueTwiceCardSaid :=
  Claim7.holds_tied_plain_at .later [] [.handle] true (true, "76462da7ac58ffca1d1881d528bbb0475677a9f9d215d116014ac1f5ba280cdc") true
    holds5 (fun _ h => by cases h) (by kernel_rfl) (fun _ h => by cases h) valueTwice_row_tie rfl ⟨rfl, rfl⟩ (by kernel_rfl) rfl
    (fun f fn hf hfn => by
      obtain rfl : f = 5 := Option.some.inj ((show Tryz.prog.funcNamed "hygrometer/hyglaw8.ValueTwice" = some 5 by kernel_rfl).symm.trans hf) |>.symm
      obtain rfl : fn = Tryz.f5 := (Option.some.inj (Tryz.func5.symm.trans hfn)).symm
      have hall : (Tryz.f5.params.toList.all fun t => !(Tryz.prog.wantsStandIn t)) = true := by kernel_rfl
      exact ⟨by kernel_rfl, fun j t ht => by
        have hm : t ∈ Tryz.f5.params.toList := by
          rw [← Array.getElem?_toList] at ht
          exact List.mem_of_getElem? ht
        have := List.all_eq_true.1 hall t hm
        simp only [Bool.not_eq_true'] at this
        exact this⟩)
    (by kernel_rfl)
end Go.Proofs.YtnaifpmeejbanaaGreatDoor

