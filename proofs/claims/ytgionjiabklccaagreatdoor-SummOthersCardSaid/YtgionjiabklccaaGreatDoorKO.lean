/- Part KO of the proof that a law of this program answers yes at every input: no conditions beyond the given statement. -/
import Derived.Test.YtgionjiabklccaaGreatDoorKE
import Derived.Test.YtgionjiabklccaaGreatDoorKQ
import Derived.Test.YtgionjiabklccaaGreatDoorKT
set_option linter.unusedSimpArgs false
set_option linter.unusedVariables false
set_option linter.all false
namespace Go.Ai.T
open Go Go.Proofs
set_option maxRecDepth 100000
set_option maxHeartbeats 4000000
theorem tagB_le {num kind : Nat} (h : num ≤ 536870911) (hk : kind < 8) : (tagB num kind).length ≤ 5 := by
 unfold tagB
 exact putV_le (by omega) (Nat.lt_of_lt_of_le (show num * 8 + kind < 4294967296 by omega) (by decide))
open Classical in
theorem lawSummOthers {s : List UInt8} (hs : s.length ≤ maxStr) {d : Int} (hd1 : -9223372036854775808 ≤ d) (hd : d ≤ 9223372036854775807) {m : Int} (hm1 : -9223372036854775808 ≤ m) (hm : m ≤ 9223372036854775807) {x : Nat} (hx : x < 18446744073709551616) :
  ∃ h', callW E [] 10 [.str s, .int .i64 d, .int .i64 m, .int .u64 x] (fun _ => none) = some (.bool true, h') := by
 have f := fun q h => first15_ok q h
 rw [eq_10]
 by_cases hl : (6000 : Int) < s.length
 ·have hl' : 6000 < s.length := by omega
  simp -implicitDefEqProofs (maxSteps := 1000000) [Tryz.f10, Code.key, f, hl, hl']
 have hl' : ¬ 6000 < s.length := by omega
 by_cases m1 : m < 1
 ·simp -implicitDefEqProofs (maxSteps := 1000000) [Tryz.f10, Code.key, f, hl, hl', m1]
 by_cases m2 : 536870912 ≤ m
 ·simp -implicitDefEqProofs (maxSteps := 1000000) [Tryz.f10, Code.key, f, hl, hl', m1, m2]
 obtain ⟨num, rfl⟩ := Int.eq_ofNat_of_zero_le (show 0 ≤ m by omega)
 have n1 : 1 ≤ num := by omega
 have n2 : num ≤ 536870911 := by omega
 have tl := tagB_le (num := num) (kind := 5) n2 (by omega)
 have fl : (fixB 536870911 x).length ≤ 13 := by
  have := tagB_le (num := 536870911) (kind := 1) (by omega) (by omega)
  have h8 : (leB 8 x).length = 8 := by rw [leB8]; rfl
  unfold fixB; rw [List.length_append, h8]; omega
 have tg := fun q h => wtag_ok (num := num) (kind := 5) n1 n2 (by omega) q h
 have gv := fun q h => wfixed_ok (num := 536870911) (n := x) (by omega) (by omega) q h
 have nf : ((536870911 : Nat) : Int) = 536870911 := rfl
 simp only [nl5, nf] at tg gv
 have mA : (tagB num 5).length + 4 ≤ maxStr := by unfold maxStr; omega
 have ul : (tagB num 5 ++ [97, 98, 99, 100]).length ≤ 9 := by simp; omega
 obtain ⟨U, hU⟩ : ∃ U, tagB num 5 ++ [97, 98, 99, 100] = U := ⟨_, rfl⟩
 obtain ⟨V, hV⟩ : ∃ V, fixB 536870911 x = V := ⟨_, rfl⟩
 rw [hU] at ul
 rw [hV] at fl gv
 have u1 := fun q h => cunmSm_ok (s := s) (by omega) hd q h
 have u2 := fun q h => cunmSm_ok (s := s ++ U) (by rw [List.length_append]; omega) hd q h
 have u3 := fun q h => cunmSm_ok (s := U ++ s) (by rw [List.length_append]; omega) hd q h
 have u4 := fun q h => cunmSm_ok (s := V ++ s ++ V) (by simp only [List.length_append]; omega) hd q h
 have mB : s.length + U.length ≤ maxStr := by unfold maxStr; omega
 have mC : U.length + s.length ≤ maxStr := by unfold maxStr; omega
 have mD : V.length + s.length ≤ maxStr := by unfold maxStr; omega
 have mE : V.length + s.length + V.length ≤ maxStr := by unfold maxStr; omega
 have mE' : V.length + (s.length + V.length) ≤ maxStr := by unfold maxStr; omega
 cases he : (readSm s d).2 with
 | some y =>
  obtain ⟨e', hb⟩ := kitSm_ok.others_bad (s := s) (d := d) he n1 n2 (b := [97, 98, 99, 100]) rfl
  rw [hU] at hb
  have hb' : (readSm (U ++ s) d).2 = some e' := hb
  obtain ⟨t1, a1, hy1⟩ := encE_iface y
  obtain ⟨t3, a3, hy3⟩ := encE_iface e'
  rw [he] at u1
  rw [hb'] at u3
  clear u4 gv hb hb' he
  generalize (readSm s d).1 = a at *
  generalize (readSm (U ++ s) d).1 = c at *
  generalize (readSm (s ++ U) d) = z at *
  obtain ⟨z, ze⟩ := z
  simp only [encO_some, hy1, hy3, encSumm] at u1 u2 u3
  cases ze with
  | none =>
   simp only [encO_none] at u2
   simp -implicitDefEqProofs (maxSteps := 1000000) [Tryz.f10, Code.key, f, hl, hl', m1, m2, tg, hU, u1, u2, u3, mA, mB, mC]
  | some z' =>
   obtain ⟨t2, a2, hy2⟩ := encE_iface z'
   simp only [encO_some, hy2] at u2
   simp -implicitDefEqProofs (maxSteps := 1000000) [Tryz.f10, Code.key, f, hl, hl', m1, m2, tg, hU, u1, u2, u3, mA, mB, mC]
 | none =>
  obtain ⟨o1, o2, o3, o4⟩ := kitSm_ok.others (s := s) (d := d) he n1 n2 (b := [97, 98, 99, 100]) rfl hx
  simp only [hU] at o1 o2
  simp only [hV] at o3 o4
  have w := readSm_wf (s := s) (by omega) d
  have w2 := (readSm_wf (s := s ++ U) (by rw [List.length_append]; omega) d).ulen
  have w4 := (readSm_wf (s := V ++ s ++ V) (by simp only [List.length_append]; omega) d).ulen
  have o1' : readSm (s ++ U) d = (kitSm.withUnk (readSm s d).1 ((readSm s d).1.unk ++ U), none) := o1
  have o2' : readSm (U ++ s) d = (kitSm.withUnk (readSm s d).1 (U ++ (readSm s d).1.unk), none) := o2
  have o3' : (readSm (V ++ s ++ V) d).2 = none := o3
  have o4' : (readSm (V ++ s ++ V) d).1.unk = V ++ (readSm s d).1.unk ++ V := o4
  rw [o1'] at u2 w2
  rw [o2'] at u3
  rw [o3'] at u4
  rw [o4'] at w4
  rw [he] at u1
  clear o1 o2 o3 o4 o1' o2' o3' he
  generalize (readSm s d).1 = a at *
  generalize (readSm (V ++ s ++ V) d).1 = z at *
  have ss := fun q h => csameSm_ok (a := a) (b := a) w q h
  simp only [decide_true] at ss
  simp only [kitSm, List.length_append] at w2 w4
  simp only [encO_none, encSumm, kitSm, o4', List.append_assoc] at u1 u2 u3 u4 ss
  have mF : a.unk.length + U.length ≤ maxStr := w2
  have mG : U.length + a.unk.length ≤ maxStr := by omega
  have mH : V.length + a.unk.length ≤ maxStr := by omega
  have mI : V.length + (a.unk.length + V.length) ≤ maxStr := by omega
  have mI' : V.length + a.unk.length + V.length ≤ maxStr := by omega
  simp -implicitDefEqProofs (maxSteps := 1000000) [Tryz.f10, Code.key, f, hl, hl', m1, m2, tg, gv, hU, u1, u2, u3, u4, ss, mA, mB, mC, mD, mE, mE', mF, mG, mH, mI, mI', sameAt, beqL_refl]
end Go.Ai.T

namespace Go.Proofs.YtgionjiabklccaaGreatDoor
open Go.ChangeShapes Go.WideShapes Go.RowKit
set_option maxRecDepth 100000
theorem law10 (xs : List Go.Ai.A) (h : Go.Ai.ArgsT Go.Ai.T.E.P Tryz.f10.params.toList xs) : ∃ h', Go.Ai.callW Go.Ai.T.E [] 10 xs (fun _ => none) = some (.bool true, h') := by
 have hp : Tryz.f10.params.toList = [9, 3, 3, 24] := by kernel_rfl
 rw [hp] at h
 cases h with
 | cons h0 h =>
  cases h with
  | cons h1 h =>
   cases h with
   | cons h2 h =>
    cases h with
    | cons h3 h =>
     cases h
     obtain ⟨x0, rfl, hx0⟩ := argS h0
     obtain ⟨x1, rfl, hx1, hy1⟩ := argI h1
     obtain ⟨x2, rfl, hx2, hy2⟩ := argI h2
     obtain ⟨x3, rfl, hx3⟩ := argU h3
     exact Go.Ai.T.lawSummOthers hx0 hx1 hy1 hx2 hy2 hx3
theorem lifted10 (os : Os) (started : os.Started) (H : Type) (enc : TypeId × Value → H) :
  ReturnsInHanded {} Tryz.checked os 10 .any (fun w args => (Rows.summOthersSpec.pre enc Tryz.prog Tryz.f10 [] false w args ∧ laidMetH Tryz.prog laidList w) ∧ sizedMet enc Tryz.prog Tryz.f10 (OpenSpec.ofChange Rows.summOthersSpec) false w args)
   (Rows.summOthersSpec.post enc Tryz.prog Tryz.f10 false true false false) := by
 refine returnsInHanded_of_change_and (C := Tryz.checked) (X := fun w _ => laidMetH Tryz.prog laidList w) (fun _ _ _ hh h => h.of_heap hh) Tryz.own started (by kernel_rfl) Tryz.func10
  (ChangeSpec.witness_at (enc := enc) (C := Tryz.checked) (os := os) (X := fun w _ => laidMetH Tryz.prog laidList w) false (laidWorld os)
   #[.string ⟨#[]⟩, .int .i64 0, .int .i64 0, .int .u64 0] 8 rfl (by kernel_rfl) (by kernel_rfl) (by kernel_rfl) (by kernel_rfl) (by kernel_rfl) (laidWorld_met os _)) ?_
 intro W base args ds gs before hval hW _ _ hL _
 exact Go.Ai.law_contract (E := Go.Ai.T.E) (ts := [3, 4, 9, 23, 24, 25, 26, 28, 52, 57, 59, 61]) (tb := 4) (fn := Tryz.f10) plain_ok laidOut (by kernel_rfl) (by kernel_rfl) Tryz.underlying4 rfl
  (by
   intro ds hds
   have hp : Tryz.f10.params.size = 4 := by kernel_rfl
   rw [hp] at hds
   match ds, hds with
   | [d0, d1, d2, d3], _ => rfl) law10 (Go.Ai.T.envS_ok (handle_of_laid hL)) hval hW
theorem holds10 : Rows.SummOthersSaid :=
 OpenClaim.holds_of_wide 10 Tryz.f10 rfl rfl rfl rfl rfl rfl rfl ⟨rfl, rfl, rfl, rfl, rfl⟩ rfl rfl rfl rfl rfl (by kernel_rfl) Tryz.func10 (by kernel_rfl)
  (of_decide_eq_true (by kernel_rfl)) (by unfold Func.isWrapper; rw [if_neg (of_decide_eq_false (by kernel_rfl))]; exact ⟨rfl, rfl⟩)
  (fun os started H enc _ => lifted10 os started H enc)
theorem summOthers_holds : Rows.SummOthersCardSaid :=
 Claim7.holds_tied_plain_at .later [] [.handle] true (true, "d249bb353b0ad4876e1e511082de94de7d0f42723eb5e98361d7bcae220c76ed") true
  holds10 (fun _ h => by cases h) (by kernel_rfl) (fun _ h => by cases h) summOthers_row_tie rfl ⟨rfl, rfl⟩ (by kernel_rfl) rfl
  (fun f fn hf hfn => by
   obtain rfl : f = 10 := Option.some.inj ((show Tryz.prog.funcNamed "hygrometer/hyglaw15.SummOthers" = some 10 by kernel_rfl).symm.trans hf) |>.symm
   obtain rfl : fn = Tryz.f10 := (Option.some.inj (Tryz.func10.symm.trans hfn)).symm
   have hall : (Tryz.f10.params.toList.all fun t => !(Tryz.prog.wantsStandIn t)) = true := by kernel_rfl
   exact ⟨by kernel_rfl, fun j t ht => by
    have hm : t ∈ Tryz.f10.params.toList := by
     rw [← Array.getElem?_toList] at ht
     exact List.mem_of_getElem? ht
    have := List.all_eq_true.1 hall t hm
    simp only [Bool.not_eq_true'] at this
    exact this⟩)
  (by kernel_rfl)
end Go.Proofs.YtgionjiabklccaaGreatDoor

