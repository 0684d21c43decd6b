/- Part KN of the proof that a law of this program answers yes at every input: no conditions beyond the given statement. -/
import Derived.Test.YtceklkdnejcanaaGreatDoorKE
import Derived.Test.YtceklkdnejcanaaGreatDoorKQ
import Derived.Test.YtceklkdnejcanaaGreatDoorKT
set_option linter.unusedSimpArgs false
set_option linter.unusedVariables false
set_option linter.all false
namespace Go.Ai.T
open Go Go.Proofs
set_option maxRecDepth 100000
set_option maxHeartbeats 4000000
def dpRsFr (p : Id) (s : List UInt8) (d : Int) (kx : Nat) (u : List UInt8) (i : Nat) : Fr := (((((bot.set 8 (.int .i64 i)).set 7 (.str u)).set 5 (.ptr (25 :: kx :: p) 0)).set 1 (.int .i64 d)).set 0 (.str s))
theorem dpRs_loop {s : List UInt8} {n : Nat} (hn : n ≤ 100) : ∀ (m i : Nat), i + m = n → ∃ K, ∀ (p : Id) (kx c0 c : Nat) (h : Heap), kx < c0 → c0 ≤ c →
  iterW E 10 p [0, 1, 5, 7, 8] L_10_10 c0 (dpRsFr p s n kx (nest i) i) c h = some (.exit 0, dpRsFr p s n kx (nest n) n, c + K, dropFrom p c0 h) := by
 intro m
 induction m with
 | zero =>
  intro i hi
  have : i = n := by omega
  subst this
  refine ⟨0, fun p kx c0 c h h1 h2 => ?_⟩
  have hlt' : ¬ ((i : Nat) : Int) < i := by omega
  unfold dpRsFr
  rw [rd_10_10]
  generalize hr : execW E 10 p _ _ _ _ = e
  simp -implicitDefEqProofs (maxSteps := 1000000) [Tryz.f10, Code.loopAt, Code.key] at hr
  subst hr
  simp
 | succ m ih =>
  intro i hi
  obtain ⟨K, gl⟩ := ih (i + 1) (by omega)
  refine ⟨2 + K, fun p kx c0 c h h1 h2 => ?_⟩
  have hlt : i < n := by omega
  have hlt' : (i : Int) < n := by omega
  have hw : IntKind.i64.wrap ((i : Int) + 1) = ((i + 1 : Nat) : Int) := by rw [wrap_i64 (by omega) (by omega)]; rfl
  have g3 := fun q h => wtag_ok (num := 90) (kind := 3) (by omega) (by omega) (by omega) q h
  have g4 := fun q h => wtag_ok (num := 90) (kind := 4) (by omega) (by omega) (by omega) q h
  have n90 : ((90 : Nat) : Int) = 90 := rfl
  simp only [n90, nl3, nl4] at g3 g4
  have l3 : (tagB 90 3).length = 2 := by decide +kernel
  have l4 : (tagB 90 4).length = 2 := by decide +kernel
  have nl := nest_len i
  have hne : nest (i + 1) = tagB 90 3 ++ (nest i ++ tagB 90 4) := rfl
  have e := gl p kx c0 (c + 2) (dropFrom p c0 h) h1 (by omega)
  rw [hne] at e
  generalize nest i = u at *
  have mA : (tagB 90 3).length + u.length ≤ maxStr := by unfold maxStr; omega
  have mB : (tagB 90 3).length + u.length + (tagB 90 4).length ≤ maxStr := by unfold maxStr; omega
  have mB' : (tagB 90 3).length + (u.length + (tagB 90 4).length) ≤ maxStr := by unfold maxStr; omega
  clear l3 l4
  generalize tagB 90 3 = T3 at *
  generalize tagB 90 4 = T4 at *
  unfold dpRsFr at e ⊢
  rw [rd_10_10]
  generalize hr : execW E 10 p _ _ _ _ = ee
  simp -implicitDefEqProofs (maxSteps := 1000000) [-Int.natCast_add, Tryz.f10, Code.loopAt, Code.key, hlt, hlt', hw, g3, g4, mA, mB, mB'] at hr
  subst hr
  simp [-Int.natCast_add]
  exact (iterW_congr rfl rfl (by omega) (by simp -implicitDefEqProofs (disch := omega) only [own_du, drop_drop_cons, drop_upd, drop_drop, drop_drop_self, upd_upd])).trans (e.trans (some5 rfl (by omega) (by simp -implicitDefEqProofs (disch := omega) only [own_du, drop_drop_cons, drop_upd, drop_drop, drop_drop_self, upd_upd])))
theorem lawResourceDeep {s : List UInt8} (hs : s.length ≤ maxStr) {d : Int} (hd1 : -9223372036854775808 ≤ d) (hd : d ≤ 9223372036854775807) :
  ∃ h', callW E [] 10 [.str s, .int .i64 d] (fun _ => none) = some (.bool true, h') := by
 have f := fun q h => first10_ok q h
 rw [eq_10]
 by_cases hl : (6000 : Int) < s.length
 ·have hl' : 6000 < s.length := by omega
  simp -implicitDefEqProofs (maxSteps := 1000000) [Tryz.f10, Code.hide, Code.key, f, hl, hl']
 have hl' : ¬ 6000 < s.length := by omega
 by_cases m1 : d < 0
 ·simp -implicitDefEqProofs (maxSteps := 1000000) [Tryz.f10, Code.hide, Code.key, f, hl, hl', m1]
 by_cases m2 : 100 < d
 ·simp -implicitDefEqProofs (maxSteps := 1000000) [Tryz.f10, Code.hide, Code.key, f, hl, hl', m1, m2]
 obtain ⟨n, rfl⟩ := Int.eq_ofNat_of_zero_le (show 0 ≤ d by omega)
 have m2' : ¬ 100 < n := by omega
 have u1 := fun q h => cunmRs_ok (s := s) (by omega) hd q h
 cases he : (readRs s n).2 with
 | some y =>
  obtain ⟨t1, a1, hy1⟩ := encE_iface y
  rw [he] at u1
  simp only [encO_some, hy1, encRes] at u1
  simp -implicitDefEqProofs (maxSteps := 1000000) [Tryz.f10, Code.hide, Code.key, f, hl, hl', m1, m2, m2', u1]
 | none =>
  obtain ⟨q1, ⟨e1, q2, q2c⟩, ⟨e2, q3⟩, ⟨e3, q4⟩⟩ := kitRs_ok.deep (s := s) (d := n) he
  have q1' : readRs (s ++ nest n) n = (kitRs.withUnk (readRs s n).1 ((readRs s n).1.unk ++ nest n), none) := q1
  have q2' : (readRs (s ++ (tagB 91 3 ++ (nest n ++ tagB 91 4))) n).2 = some e1 := q2
  have q3' : (readRs (s ++ tagB 90 3) n).2 = some e2 := q3
  have q4' : (readRs (s ++ (tagB 90 3 ++ tagB 92 4)) n).2 = some e3 := q4
  have l1 : (tagB 90 3).length = 2 := by decide +kernel
  have l2 : (tagB 91 3).length = 2 := by decide +kernel
  have l3 : (tagB 91 4).length = 2 := by decide +kernel
  have l4 : (tagB 92 4).length = 2 := by decide +kernel
  have ln := nest_len n
  have u2 := fun q h => cunmRs_ok (s := s ++ nest n) (by rw [List.length_append]; omega) hd q h
  have u3 := fun q h => cunmRs_ok (s := s ++ (tagB 91 3 ++ (nest n ++ tagB 91 4))) (by simp only [List.length_append]; omega) hd q h
  have u4 := fun q h => cunmRs_ok (s := s ++ tagB 90 3) (by simp only [List.length_append]; omega) hd q h
  have u5 := fun q h => cunmRs_ok (s := s ++ (tagB 90 3 ++ tagB 92 4)) (by simp only [List.length_append]; omega) hd q h
  have w2 := (readRs_wf (s := s ++ nest n) (by rw [List.length_append]; omega) n).ulen
  obtain ⟨K, gl⟩ := dpRs_loop (s := s) (n := n) (by omega) n 0 (by omega)
  have g := fun h => gl [] 2 3 3 h (by omega) (Nat.le_refl _)
  have k0 : ¬ 2 = 3 + K := by omega
  have k1 : ¬ 2 = 3 + K + 1 := by omega
  have k2 : ¬ 2 = 3 + K + 1 + 1 := by omega
  have k3 : ¬ 2 = 3 + K + 1 + 1 + 1 := by omega
  have k4 : ¬ 2 = 3 + K + 1 + 1 + 1 + 1 := by omega
  have k5 : ¬ 2 = 3 + K + 1 + 1 + 1 + 1 + 1 := by omega
  have k6 : ¬ 2 = 3 + K + 1 + 1 + 1 + 1 + 1 + 1 := by omega
  have k7 : ¬ 2 = 3 + K + 1 + 1 + 1 + 1 + 1 + 1 + 1 := by omega
  have k8 : ¬ 2 = 3 + K + 1 + 1 + 1 + 1 + 1 + 1 + 1 + 1 := by omega
  have k9 : ¬ 2 = 3 + K + 1 + 1 + 1 + 1 + 1 + 1 + 1 + 1 + 1 := by omega
  have k10 : ¬ 2 = 3 + K + 1 + 1 + 1 + 1 + 1 + 1 + 1 + 1 + 1 + 1 := by omega
  have k11 : ¬ 2 = 3 + K + 1 + 1 + 1 + 1 + 1 + 1 + 1 + 1 + 1 + 1 + 1 := by omega
  have k12 : ¬ 2 = 3 + K + 1 + 1 + 1 + 1 + 1 + 1 + 1 + 1 + 1 + 1 + 1 + 1 := by omega
  have k13 : ¬ 2 = 3 + K + 1 + 1 + 1 + 1 + 1 + 1 + 1 + 1 + 1 + 1 + 1 + 1 + 1 := by omega
  have k14 : ¬ 2 = 3 + K + 1 + 1 + 1 + 1 + 1 + 1 + 1 + 1 + 1 + 1 + 1 + 1 + 1 + 1 := by omega
  have k15 : ¬ 2 = 3 + K + 1 + 1 + 1 + 1 + 1 + 1 + 1 + 1 + 1 + 1 + 1 + 1 + 1 + 1 + 1 := by omega
  have g1 := fun q h => wtag_ok (num := 91) (kind := 3) (by omega) (by omega) (by omega) q h
  have g2 := fun q h => wtag_ok (num := 91) (kind := 4) (by omega) (by omega) (by omega) q h
  have g3 := fun q h => wtag_ok (num := 90) (kind := 3) (by omega) (by omega) (by omega) q h
  have g4 := fun q h => wtag_ok (num := 92) (kind := 4) (by omega) (by omega) (by omega) q h
  have g5 := fun q h => code_ok e1 q h
  rw [q2c] at g5
  have n90 : ((90 : Nat) : Int) = 90 := rfl
  have n91 : ((91 : Nat) : Int) = 91 := rfl
  have n92 : ((92 : Nat) : Int) = 92 := rfl
  have n6 : ((6 : Nat) : Int) = 6 := rfl
  have hz : nest 0 = [] := rfl
  simp only [n90, n91, n92, nl3, nl4] at g1 g2 g3 g4
  obtain ⟨t1, a1, hy1⟩ := encE_iface e1
  obtain ⟨t2, a2, hy2⟩ := encE_iface e2
  obtain ⟨t3, a3, hy3⟩ := encE_iface e3
  rw [q1'] at u2 w2
  rw [q2'] at u3
  rw [q3'] at u4
  rw [q4'] at u5
  rw [he] at u1
  clear q1 q2 q3 q4 q1' q2' q3' q4' he
  generalize (readRs s n).1 = a at *
  generalize (readRs (s ++ (tagB 91 3 ++ (nest n ++ tagB 91 4))) n).1 = z1 at *
  generalize (readRs (s ++ tagB 90 3) n).1 = z2 at *
  generalize (readRs (s ++ (tagB 90 3 ++ tagB 92 4)) n).1 = z3 at *
  simp only [kitRs, List.length_append] at w2
  simp only [encO_none, encO_some, hy1, hy2, hy3, encRes, kitRs] at u1 u2 u3 u4 u5 g5
  simp only [dpRsFr, nat0, hz] at g
  generalize nest n = U at *
  have mA : s.length + U.length ≤ maxStr := by unfold maxStr; omega
  have mB : s.length + (tagB 91 3).length ≤ maxStr := by unfold maxStr; omega
  have mC : s.length + (tagB 91 3).length + U.length ≤ maxStr := by unfold maxStr; omega
  have mC' : s.length + ((tagB 91 3).length + U.length) ≤ maxStr := by unfold maxStr; omega
  have mD : s.length + (tagB 91 3).length + U.length + (tagB 91 4).length ≤ maxStr := by unfold maxStr; omega
  have mD' : s.length + ((tagB 91 3).length + U.length) + (tagB 91 4).length ≤ maxStr := by unfold maxStr; omega
  have mD'' : s.length + ((tagB 91 3).length + (U.length + (tagB 91 4).length)) ≤ maxStr := by unfold maxStr; omega
  have mE : s.length + (tagB 90 3).length ≤ maxStr := by unfold maxStr; omega
  have mF : s.length + (tagB 90 3).length + (tagB 92 4).length ≤ maxStr := by unfold maxStr; omega
  have mF' : s.length + ((tagB 90 3).length + (tagB 92 4).length) ≤ maxStr := by unfold maxStr; omega
  clear l1 l2 l3 l4
  generalize tagB 90 3 = T1 at *
  generalize tagB 91 3 = T2 at *
  generalize tagB 91 4 = T3 at *
  generalize tagB 92 4 = T4 at *
  simp -implicitDefEqProofs (maxSteps := 1000000) [Tryz.f10, Code.hide, Code.key, f, hl, hl', m1, m2, m2', u1, u2, u3, u4, u5, g, g1, g2, g3, g4, g5, n6, w2, k0, k1, k2, k3, k4, k5, k6, k7, k8, k9, k10, k11, k12, k13, k14, k15, mA, mB, mC, mC', mD, mD', mD'', mE, mF, mF', sameAt, beqL_refl]
end Go.Ai.T

namespace Go.Proofs.YtceklkdnejcanaaGreatDoor
open Go.ChangeShapes Go.WideShapes Go.RowKit
set_option maxRecDepth 100000
theorem law10 (xs : List Go.Ai.A) (h : Go.Ai.ArgsT Go.Ai.T.E.P Tryz.f10.params.toList xs) : ∃ h', Go.Ai.callW Go.Ai.T.E [] 10 xs (fun _ => none) = some (.bool true, h') := by
 have hp : Tryz.f10.params.toList = [9, 3] := by kernel_rfl
 rw [hp] at h
 cases h with
 | cons h0 h =>
  cases h with
  | cons h1 h =>
   cases h
   obtain ⟨x0, rfl, hx0⟩ := argS h0
   obtain ⟨x1, rfl, hx1, hy1⟩ := argI h1
   exact Go.Ai.T.lawResourceDeep hx0 hx1 hy1
theorem lifted10 (os : Os) (started : os.Started) (H : Type) (enc : TypeId × Value → H) :
  ReturnsInHanded {} Tryz.checked os 10 .any (fun w args => (Rows.resourceDeepSpec.pre enc Tryz.prog Tryz.f10 [] false w args ∧ laidMetH Tryz.prog laidList w) ∧ sizedMet enc Tryz.prog Tryz.f10 (OpenSpec.ofChange Rows.resourceDeepSpec) false w args)
   (Rows.resourceDeepSpec.post enc Tryz.prog Tryz.f10 false true false false) := by
 refine returnsInHanded_of_change_and (C := Tryz.checked) (X := fun w _ => laidMetH Tryz.prog laidList w) (fun _ _ _ hh h => h.of_heap hh) Tryz.own started (by kernel_rfl) Tryz.func10
  (ChangeSpec.witness_at (enc := enc) (C := Tryz.checked) (os := os) (X := fun w _ => laidMetH Tryz.prog laidList w) false (laidWorld os)
   #[.string ⟨#[]⟩, .int .i64 0] 8 rfl (by kernel_rfl) (by kernel_rfl) (by kernel_rfl) (by kernel_rfl) (by kernel_rfl) (laidWorld_met os _)) ?_
 intro W base args ds gs before hval hW _ _ hL _
 exact Go.Ai.law_contract (E := Go.Ai.T.E) (ts := [3, 4, 9, 22, 23, 25, 39, 52, 62, 64, 66]) (tb := 4) (fn := Tryz.f10) plain_ok laidOut (by kernel_rfl) (by kernel_rfl) Tryz.underlying4 rfl
  (by
   intro ds hds
   have hp : Tryz.f10.params.size = 2 := by kernel_rfl
   rw [hp] at hds
   match ds, hds with
   | [d0, d1], _ => rfl) law10 (Go.Ai.T.envS_ok (handle_of_laid hL)) hval hW
theorem holds10 : Rows.ResourceDeepSaid :=
 OpenClaim.holds_of_wide 10 Tryz.f10 rfl rfl rfl rfl rfl rfl rfl ⟨rfl, rfl, rfl, rfl, rfl⟩ rfl rfl rfl rfl rfl (by kernel_rfl) Tryz.func10 (by kernel_rfl)
  (of_decide_eq_true (by kernel_rfl)) (by unfold Func.isWrapper; rw [if_neg (of_decide_eq_false (by kernel_rfl))]; exact ⟨rfl, rfl⟩)
  (fun os started H enc _ => lifted10 os started H enc)
theorem resourceDeep_holds : Rows.ResourceDeepCardSaid :=
 Claim7.holds_tied_plain_at .later [] [.handle] true (true, "8675cd15e58885dd82e0d1c8ab52706ce57f806b47bf0ae5218e72f943d68231") true
  holds10 (fun _ h => by cases h) (by kernel_rfl) (fun _ h => by cases h) resourceDeep_row_tie rfl ⟨rfl, rfl⟩ (by kernel_rfl) rfl
  (fun f fn hf hfn => by
   obtain rfl : f = 10 := Option.some.inj ((show Tryz.prog.funcNamed "hygrometer/hyglaw10.ResourceDeep" = some 10 by kernel_rfl).symm.trans hf) |>.symm
   obtain rfl : fn = Tryz.f10 := (Option.some.inj (Tryz.func10.symm.trans hfn)).symm
   have hall : (Tryz.f10.params.toList.all fun t => !(Tryz.prog.wantsStandIn t)) = true := by kernel_rfl
   exact ⟨by kernel_rfl, fun j t ht => by
    have hm : t ∈ Tryz.f10.params.toList := by
     rw [← Array.getElem?_toList] at ht
     exact List.mem_of_getElem? ht
    have := List.all_eq_true.1 hall t hm
    simp only [Bool.not_eq_true'] at this
    exact this⟩)
  (by kernel_rfl)
end Go.Proofs.YtceklkdnejcanaaGreatDoor

