/- Part KW of the proof that a law of this program answers yes at every input: no conditions beyond the given statement. -/
import Derived.Test.YtnaifpmeejbanaaGreatDoorKE
import Derived.Test.YtnaifpmeejbanaaGreatDoorKN
import Derived.Test.YtnaifpmeejbanaaGreatDoorKI
import Derived.Test.YtnaifpmeejbanaaGreatDoorKG
import Derived.Test.YtnaifpmeejbanaaGreatDoorKT
set_option linter.unusedSimpArgs false
set_option linter.unusedVariables false
set_option linter.all false
/- ValueLast answers yes, in the evaluator. -/
namespace Go.Ai.T
open Go
set_option maxRecDepth 100000
set_option maxHeartbeats 4000000
theorem law_last {s t : List UInt8} {n : Nat} (_ : s.length ≤ maxStr) (_ : t.length ≤ maxStr) (hn : n < 18446744073709551616) :
    ∃ h', callW E [] 6 [.str s, .str t, .int .u64 n] (fun _ => none) = some (.bool true, h') := by
  have f := fun q h => first_ok q h
  rw [eq_6]
  by_cases hl : (1000 : Int) < s.length
  · have hl' : 1000 < s.length := by omega
    simp -implicitDefEqProofs (maxSteps := 1000000) [Go.Proofs.Tryz.f6, Code.key, f, hl, hl']
  have hl' : ¬ 1000 < s.length := by omega
  by_cases ht : (1000 : Int) < t.length
  · have ht' : 1000 < t.length := by omega
    simp -implicitDefEqProofs (maxSteps := 1000000) [Go.Proofs.Tryz.f6, Code.key, f, hl, hl', ht, ht']
  have ht' : ¬ 1000 < t.length := by omega
  obtain ⟨x1, x2⟩ := last_x (s := s) (t := t) (by omega) (by omega) hn
  obtain ⟨y1, y2⟩ := last_y (s := s) (t := t) (by omega) (by omega)
  have b1 := bytesB_le (num := 1) (by omega) (s := s) (by omega)
  have b7 := bytesB_le (num := 7) (by omega) (s := t) (by omega)
  have b3 := numB_le (num := 3) (by omega) hn
  have b11 := bytesB_le (num := 1) (by omega) (s := numB 3 n) (by omega)
  have b5 := bytesB_le (num := 5) (by omega) (s := bytesB 1 (numB 3 n)) (by omega)
  have b55 := bytesB_le (num := 5) (by omega) (s := bytesB 1 (numB 3 n) ++ bytesB 1 (numB 3 n)) (by rw [List.length_append]; omega)
  rw [List.length_append] at b55
  have b2 := numB_le (num := 2) (by omega) (n := 1) (by omega)
  have g1 := fun q h => wbytes_ok (num := 1) (by omega) (by omega) (s := s) (by omega) q h
  have g7 := fun q h => wbytes_ok (num := 7) (by omega) (by omega) (s := t) (by omega) q h
  have g3 := fun q h => wvarint_ok (num := 3) (by omega) (by omega) hn q h
  have g11 := fun q h => wbytes_ok (num := 1) (by omega) (by omega) (s := numB 3 n) (by omega) q h
  have g5 := fun q h => wbytes_ok (num := 5) (by omega) (by omega) (s := bytesB 1 (numB 3 n)) (by omega) q h
  have g55 := fun q h => wbytes_ok (num := 5) (by omega) (by omega) (s := bytesB 1 (numB 3 n) ++ bytesB 1 (numB 3 n)) (by rw [List.length_append]; omega) q h
  have g2 := fun q h => wvarint_ok (num := 2) (by omega) (by omega) (n := 1) (by omega) q h
  have gt := fun q h => rtext_ok (s := s) (by omega) q h
  change ∀ q h, callW E q 28 [.str s] h = some (.bool (textOk s), dropFrom q 0 h) at gt
  have u1 := fun q h => (unm_all _ 0 (Nat.le_refl _) (by omega) (bytesB 1 s ++ (numB 3 n ++ bytesB 7 t)) (by rw [List.length_append, List.length_append]; omega)).1 q h
  have u2 := fun q h => (unm_all _ 0 (Nat.le_refl _) (by omega) (bytesB 7 t ++ bytesB 1 s) (by rw [List.length_append]; omega)).1 q h
  have u3 := fun q h => (unm_all _ 2 (Nat.le_refl _) (by omega) (bytesB 5 (bytesB 1 (numB 3 n)) ++ bytesB 5 (bytesB 1 (numB 3 n) ++ bytesB 1 (numB 3 n))) (by rw [List.length_append]; omega)).1 q h
  have u4 := fun q h => (unm_all _ 2 (Nat.le_refl _) (by omega) (bytesB 5 (bytesB 1 (numB 3 n)) ++ (numB 2 1 ++ bytesB 5 (bytesB 1 (numB 3 n)))) (by rw [List.length_append, List.length_append]; omega)).1 q h
  rw [last_z hn] at u3
  rw [last_w hn] at u4
  have nl7 : ((7 : Nat) : Int) = 7 := rfl
  have m1 : (bytesB 1 s).length + (numB 3 n).length ≤ maxStr := by unfold maxStr; omega
  have m2 : (bytesB 1 s).length + (numB 3 n).length + (bytesB 7 t).length ≤ maxStr := by unfold maxStr; omega
  have m3 : (bytesB 7 t).length + (bytesB 1 s).length ≤ maxStr := by unfold maxStr; omega
  have m4 : (bytesB 1 (numB 3 n)).length + (bytesB 1 (numB 3 n)).length ≤ maxStr := by unfold maxStr; omega
  have m5 : (bytesB 5 (bytesB 1 (numB 3 n))).length + (bytesB 5 (bytesB 1 (numB 3 n) ++ bytesB 1 (numB 3 n))).length ≤ maxStr := by unfold maxStr; omega
  have m6 : (bytesB 5 (bytesB 1 (numB 3 n))).length + (numB 2 1).length ≤ maxStr := by unfold maxStr; omega
  have m7 : (bytesB 5 (bytesB 1 (numB 3 n))).length + (numB 2 1).length + (bytesB 5 (bytesB 1 (numB 3 n))).length ≤ maxStr := by unfold maxStr; omega
  have m8 : (bytesB 1 s).length + ((numB 3 n).length + (bytesB 7 t).length) ≤ maxStr := by unfold maxStr; omega
  have m9 : (bytesB 5 (bytesB 1 (numB 3 n))).length + ((numB 2 1).length + (bytesB 5 (bytesB 1 (numB 3 n))).length) ≤ maxStr := by unfold maxStr; omega
  simp only [nl1, nl2, nl3, nl5, nl7] at g1 g2 g3 g5 g55 g7 g11
  simp only [encV_mk, num3, List.map_cons, List.map_nil, encO_none] at u3 u4
  clear b1 b7 b3 b11 b5 b55 b2
  generalize bytesB 5 (bytesB 1 (numB 3 n) ++ bytesB 1 (numB 3 n)) = w55 at *
  generalize bytesB 5 (bytesB 1 (numB 3 n)) = w5 at *
  generalize bytesB 1 (numB 3 n) = w11 at *
  generalize numB 3 n = w3 at *
  generalize numB 2 1 = w2 at *
  generalize bytesB 7 t = w7 at *
  generalize bytesB 1 s = w1 at *
  cases hok : textOk s with
  | true =>
    rw [x1 hok] at u1
    rw [y1 hok] at u2
    rw [hok] at gt
    simp only [encV_mk, List.map_nil, encO_none, nat0] at u1 u2
    simp -implicitDefEqProofs (maxSteps := 1000000) [Go.Proofs.Tryz.f6, Code.key, f, hl, hl', ht, ht', g1, g2, g3, g5, g55, g7, g11, gt, u1, u2, u3, u4, m1, m2, m3, m4, m5, m6, m7, m8, m9]
  | false =>
    obtain ⟨e1, x2⟩ := x2 hok
    obtain ⟨e2, y2⟩ := y2 hok
    rw [hok] at gt
    rw [x2, readV_bad x2] at u1
    rw [y2, readV_bad y2] at u2
    obtain ⟨t1, a1, hx1⟩ := encE_iface e1
    obtain ⟨t2, a2, hx2⟩ := encE_iface e2
    simp only [encV_mk, List.map_nil, encO_some, hx1, hx2, nat0, val0] at u1 u2
    simp -implicitDefEqProofs (maxSteps := 1000000) [Go.Proofs.Tryz.f6, Code.key, f, hl, hl', ht, ht', g1, g2, g3, g5, g55, g7, g11, gt, u1, u2, u3, u4, m1, m2, m3, m4, m5, m6, m7, m8, m9]
end Go.Ai.T

/- ValueLast: the card, out of the law in the evaluator. -/
namespace Go.Proofs.YtnaifpmeejbanaaGreatDoor
open Go.ChangeShapes Go.WideShapes Go.RowKit
set_option maxRecDepth 100000
theorem law6 (xs : List Go.Ai.A) (h : Go.Ai.ArgsT Go.Ai.T.E.P Tryz.f6.params.toList xs) : ∃ h', Go.Ai.callW Go.Ai.T.E [] 6 xs (fun _ => none) = some (.bool true, h') := by
  have hp : Tryz.f6.params.toList = [9, 9, 23] := by kernel_rfl
  rw [hp] at h
  cases h with
  | cons h0 h =>
    cases h with
    | cons h1 h =>
      cases h with
      | cons h2 h =>
        cases h
        obtain ⟨x0, rfl, hx0⟩ := argS h0
        obtain ⟨x1, rfl, hx1⟩ := argS h1
        obtain ⟨x2, rfl, hx2⟩ := argU h2
        exact Go.Ai.T.law_last hx0 hx1 hx2
theorem lifted6 (os : Os) (started : os.Started) (H : Type) (enc : TypeId × Value → H) :
    ReturnsInHanded {} Tryz.checked os 6 .any (fun w args => (Rows.valueLastSpec.pre enc Tryz.prog Tryz.f6 [] false w args ∧ laidMetH Tryz.prog laidList w) ∧ sizedMet enc Tryz.prog Tryz.f6 (OpenSpec.ofChange Rows.valueLastSpec) false w args)
      (Rows.valueLastSpec.post enc Tryz.prog Tryz.f6 false true false false) := by
  refine returnsInHanded_of_change_and (C := Tryz.checked) (X := fun w _ => laidMetH Tryz.prog laidList w) (fun _ _ _ hh h => h.of_heap hh) Tryz.own started (by kernel_rfl) Tryz.func6
    (ChangeSpec.witness_at (enc := enc) (C := Tryz.checked) (os := os) (X := fun w _ => laidMetH Tryz.prog laidList w) false (laidWorld os)
      #[.string ⟨#[]⟩, .string ⟨#[]⟩, .int .u64 0] 8 rfl (by kernel_rfl) (by kernel_rfl) (by kernel_rfl) (by kernel_rfl) (by kernel_rfl) (laidWorld_met os _)) ?_
  intro W base args ds gs before hval hW _ _ hL _
  exact Go.Ai.law_contract (E := Go.Ai.T.E) (ts := [3, 4, 9, 23, 24, 25, 27, 35]) (tb := 4) (fn := Tryz.f6) plain_ok laidOut (by kernel_rfl) (by kernel_rfl) Tryz.underlying4 rfl
    (by
      intro ds hds
      have hp : Tryz.f6.params.size = 3 := by kernel_rfl
      rw [hp] at hds
      match ds, hds with
      | [d0, d1, d2], _ => rfl) law6 (Go.Ai.T.env8_ok (handle_of_laid hL)) hval hW
theorem holds6 : Rows.ValueLastSaid :=
  OpenClaim.holds_of_wide 6 Tryz.f6 rfl rfl rfl rfl rfl rfl rfl ⟨rfl, rfl, rfl, rfl, rfl⟩ rfl rfl rfl rfl rfl (by kernel_rfl) Tryz.func6 (by kernel_rfl)
    (of_decide_eq_true (by kernel_rfl)) (by unfold Func.isWrapper; rw [if_neg (of_decide_eq_false (by kernel_rfl))]; exact ⟨rfl, rfl⟩)
    (fun os started H enc _ => lifted6 os started H enc)
theorem valueLast_holds : Rows.ValueLastCardSaid :=
  Claim7.holds_tied_plain_at .later [] [.handle] true (true, "76462da7ac58ffca1d1881d528bbb0475677a9f9d215d116014ac1f5ba280cdc") true
    holds6 (fun _ h => by cases h) (by kernel_rfl) (fun _ h => by cases h) valueLast_row_tie rfl ⟨rfl, rfl⟩ (by kernel_rfl) rfl
    (fun f fn hf hfn => by
      obtain rfl : f = 6 := Option.some.inj ((show Tryz.prog.funcNamed "hygrometer/hyglaw8.ValueLast" = some 6 by kernel_rfl).symm.trans hf) |>.symm
      obtain rfl : fn = Tryz.f6 := (Option.some.inj (Tryz.func6.symm.trans hfn)).symm
      have hall : (Tryz.f6.params.toList.all fun t => !(Tryz.prog.wantsStandIn t)) = true := by kernel_rfl
      exact ⟨by kernel_rfl, fun j t ht => by
        have hm : t ∈ Tryz.f6.params.toList := by
          rw [← Array.getElem?_toList] at ht
          exact List.mem_of_getElem? ht
        have := List.all_eq_true.1 hall t hm
        simp only [Bool.not_eq_true'] at this
        exact this⟩)
    (by kernel_rfl)
end Go.Proofs.YtnaifpmeejbanaaGreatDoor

