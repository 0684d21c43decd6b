/- Part KX of the proof that a law of this program answers yes at every input: no conditions beyond the given statement. -/
import Derived.Test.YtnaifpmeejbanaaGreatDoorKE
import Derived.Test.YtnaifpmeejbanaaGreatDoorKN
import Derived.Test.YtnaifpmeejbanaaGreatDoorKI
import Derived.Test.YtnaifpmeejbanaaGreatDoorKO
import Derived.Test.YtnaifpmeejbanaaGreatDoorKL
import Derived.Test.YtnaifpmeejbanaaGreatDoorKT
set_option linter.unusedSimpArgs false
set_option linter.unusedVariables false
set_option linter.all false
/- ValueHalves answers yes, in the evaluator. -/
namespace Go.Ai.T
open Go
set_option maxRecDepth 100000
set_option maxHeartbeats 4000000
open Classical in
theorem law_halves {x : KV} (hx : x.wf) {cut : Int} (_ : -9223372036854775808 ≤ cut) (hc2 : cut ≤ 9223372036854775807) :
    ∃ h', callW E [] 7 [.agg (encK x), .int .i64 cut] (fun _ => none) = some (.bool true, h') := by
  have f := fun q h => first_ok q h
  have fx := fun q h => fewK_ok (l := [x]) (by simp [maxStr]) (by simpa using hx) q h
  rw [eq_7]
  simp only [List.map_cons, List.map_nil] at fx
  by_cases cx : 0 ≤ roomK [x] 60 8000
  · have szx := fewK_sz cx
    obtain ⟨key, has, v, u⟩ := x
    obtain ⟨hkl, hul, hwv⟩ := KV.wf_mk.1 hx
    have mk := fun q h => rmayK_ok hx (by omega) (d := 10) (by omega) q h
    have sk := fun q h => same_ok.2 (.mk key has v u) hx (.mk key has v u) q h
    simp only [decide_true] at sk
    rw [KV.sz_mk] at szx
    have wv := write_sz.1 v hwv (by omega)
    obtain ⟨cs, hcs, hsh⟩ := flatV v
    cases has with
    | false =>
      simp only [encK_mk] at fx ⊢
      rw [hcs] at fx ⊢
      obtain ⟨k0, s0, b0, n0, l0, m0, i0, u0, rfl⟩ := hsh
      simp only [List.cons_append, List.nil_append] at fx ⊢
      simp -implicitDefEqProofs (maxSteps := 1000000) [Go.Proofs.Tryz.f7, Code.key, f, fx, cx]
    | true =>
      by_cases hc : cut < 0
      · simp only [encK_mk] at fx ⊢
        rw [hcs] at fx ⊢
        obtain ⟨k0, s0, b0, n0, l0, m0, i0, u0, rfl⟩ := hsh
        simp only [List.cons_append, List.nil_append] at fx ⊢
        simp -implicitDefEqProofs (maxSteps := 1000000) [Go.Proofs.Tryz.f7, Code.key, f, fx, cx, hc]
      cases hm : mayK (.mk key true v u) 10 with
      | false =>
        rw [hm] at mk
        simp only [encK_mk] at fx mk ⊢
        rw [hcs] at fx mk ⊢
        obtain ⟨k0, s0, b0, n0, l0, m0, i0, u0, rfl⟩ := hsh
        simp only [List.cons_append, List.nil_append] at fx mk ⊢
        simp -implicitDefEqProofs (maxSteps := 1000000) [Go.Proofs.Tryz.f7, Code.key, f, fx, cx, hc, mk]
      | true =>
        have hm' := hm
        rw [mayK] at hm'
        simp only [Bool.and_eq_true, decide_eq_true_eq, if_true] at hm'
        obtain ⟨⟨⟨_, hk⟩, hu⟩, hv⟩ := hm'
        have hv9 : mayV v (10 - 1) = true := hv
        have gw := fun q h => rwriteV_ok hwv (by omega) hv q h
        rw [hm] at mk
        generalize hwb : writeV v = w at *
        obtain ⟨n, rfl⟩ := Int.eq_ofNat_of_zero_le (show 0 ≤ cut by omega)
        have hkn : n % (w.length + 1) ≤ w.length := by have := Nat.mod_lt n (show 0 < w.length + 1 by omega); omega
        have hmod : Int.tmod (n : Int) ((w.length : Int) + 1) = ((n % (w.length + 1) : Nat) : Int) := rfl
        have hwr : IntKind.i64.wrap ((w.length : Int) + 1) = (w.length : Int) + 1 := wrap_i64 (by omega) (by omega)
        generalize hkk : n % (w.length + 1) = k at *
        have hk0 : (0 : Int) ≤ (k : Int) ∧ (k : Int) ≤ (w.length : Int) := ⟨by omega, by omega⟩
        have hne : ¬ (w.length : Int) + 1 = 0 := by omega
        have hne' : ¬ w.length + 1 = 0 := by omega
        have hla : (w.take k).length ≤ 8000 := by simp; omega
        have hlb : (w.drop k).length ≤ 8000 := by simp; omega
        have ba := bytesB_le (num := 2) (by omega) (s := w.take k) (by omega)
        have bb := bytesB_le (num := 2) (by omega) (s := w.drop k) (by omega)
        have bk := bytesB_le (num := 1) (by omega) (s := key) (by omega)
        have ga := fun q h => wbytes_ok (num := 2) (by omega) (by omega) (s := w.take k) (by omega) q h
        have gb := fun q h => wbytes_ok (num := 2) (by omega) (by omega) (s := w.drop k) (by omega) q h
        have gk := fun q h => wbytes_ok (num := 1) (by omega) (by omega) (s := key) (by omega) q h
        have hrd := halves (key := key) (u := u) (a := w.take k) (b := w.drop k) (v := v) (d := 10) (by omega) hk (by omega) hu hv9 hwv (by rw [List.take_append_drop, hwb]) (by rw [hwb]; omega)
        have ur := fun q h => (unm_all _ 10 (Nat.le_refl _) (by omega) (bytesB 2 (w.take k) ++ (bytesB 1 key ++ (bytesB 2 (w.drop k) ++ u))) (by rw [List.length_append, List.length_append, List.length_append]; omega)).2 q h
        rw [hrd] at ur
        have m1 : (bytesB 2 (w.take k)).length + (bytesB 1 key).length ≤ maxStr := by unfold maxStr; omega
        have m2 : (bytesB 2 (w.take k)).length + ((bytesB 1 key).length + (bytesB 2 (w.drop k)).length) ≤ maxStr := by unfold maxStr; omega
        have m3 : (bytesB 2 (w.take k)).length + ((bytesB 1 key).length + ((bytesB 2 (w.drop k)).length + u.length)) ≤ maxStr := by unfold maxStr; omega
        have m4 : (bytesB 2 (w.take k)).length + (bytesB 1 key).length + (bytesB 2 (w.drop k)).length ≤ maxStr := by unfold maxStr; omega
        have m5 : (bytesB 2 (w.take k)).length + (bytesB 1 key).length + (bytesB 2 (w.drop k)).length + u.length ≤ maxStr := by unfold maxStr; omega
        have m6 : (bytesB 2 (w.take k)).length + ((bytesB 1 key).length + (bytesB 2 (w.drop k)).length) + u.length ≤ maxStr := by unfold maxStr; omega
        simp only [nl1, nl2] at ga gb gk
        simp only [encK_mk, encO_none] at fx mk sk ur ⊢
        rw [hcs] at fx mk sk ur gw ⊢
        obtain ⟨k0, s0, b0, n0, l0, m0, i0, u0, rfl⟩ := hsh
        simp only [List.cons_append, List.nil_append] at fx mk sk ur ⊢
        clear hla hlb ba bb bk
        generalize bytesB 2 (w.take k) = wa at *
        generalize bytesB 2 (w.drop k) = wb at *
        generalize bytesB 1 key = wk at *
        simp -implicitDefEqProofs (maxSteps := 1000000) [-Int.natCast_emod, -Int.natCast_add, Go.Proofs.Tryz.f7, Code.key, f, fx, cx, hc, mk, sk, gw, hmod, hwr, hk0, hkn, hne, hne', ga, gb, gk, ur, m1, m2, m3, m4, m5, m6]
  · obtain ⟨key, has, v, u⟩ := x
    obtain ⟨cs, hcs, hsh⟩ := flatV v
    simp only [encK_mk] at fx ⊢
    rw [hcs] at fx ⊢
    obtain ⟨k0, s0, b0, n0, l0, m0, i0, u0, rfl⟩ := hsh
    simp only [List.cons_append, List.nil_append] at fx ⊢
    simp -implicitDefEqProofs (maxSteps := 1000000) [Go.Proofs.Tryz.f7, Code.key, f, fx, cx]
end Go.Ai.T

/- ValueHalves: the card, out of the law in the evaluator. -/
namespace Go.Proofs.YtnaifpmeejbanaaGreatDoor
open Go.ChangeShapes Go.WideShapes Go.RowKit
set_option maxRecDepth 100000
theorem law7 (xs : List Go.Ai.A) (h : Go.Ai.ArgsT Go.Ai.T.E.P Tryz.f7.params.toList xs) : ∃ h', Go.Ai.callW Go.Ai.T.E [] 7 xs (fun _ => none) = some (.bool true, h') := by
  have hp : Tryz.f7.params.toList = [35, 3] := by kernel_rfl
  rw [hp] at h
  cases h with
  | cons h0 h =>
    cases h with
    | cons h1 h =>
      cases h
      obtain ⟨x0, rfl, hx0⟩ := argK h0
      obtain ⟨x1, rfl, hx1, hy1⟩ := argI h1
      exact Go.Ai.T.law_halves hx0 hx1 hy1
theorem lifted7 (os : Os) (started : os.Started) (H : Type) (enc : TypeId × Value → H) :
    ReturnsInHanded {} Tryz.checked os 7 .any (fun w args => (Rows.valueHalvesSpec.pre enc Tryz.prog Tryz.f7 [] false w args ∧ laidMetH Tryz.prog laidList w) ∧ sizedMet enc Tryz.prog Tryz.f7 (OpenSpec.ofChange Rows.valueHalvesSpec) false w args)
      (Rows.valueHalvesSpec.post enc Tryz.prog Tryz.f7 false true false false) := by
  refine returnsInHanded_of_change_and (C := Tryz.checked) (X := fun w _ => laidMetH Tryz.prog laidList w) (fun _ _ _ hh h => h.of_heap hh) Tryz.own started (by kernel_rfl) Tryz.func7
    (ChangeSpec.witness_at (enc := enc) (C := Tryz.checked) (os := os) (X := fun w _ => laidMetH Tryz.prog laidList w) false (laidWorld os)
      #[.agg #[.string ⟨#[]⟩, .bool false, .int .i64 0, .string ⟨#[]⟩, .bool false, .int .u64 0, .slice none 0 0, .slice none 0 0, .string ⟨#[]⟩, .string ⟨#[]⟩, .string ⟨#[]⟩], .int .i64 0] 8 rfl (by kernel_rfl) (by kernel_rfl) (by kernel_rfl) (by kernel_rfl) (by kernel_rfl) (laidWorld_met os _)) ?_
  intro W base args ds gs before hval hW _ _ hL _
  exact Go.Ai.law_contract (E := Go.Ai.T.E) (ts := [3, 4, 9, 23, 24, 25, 27, 35]) (tb := 4) (fn := Tryz.f7) plain_ok laidOut (by kernel_rfl) (by kernel_rfl) Tryz.underlying4 rfl
    (by
      intro ds hds
      have hp : Tryz.f7.params.size = 2 := by kernel_rfl
      rw [hp] at hds
      match ds, hds with
      | [d0, d1], _ => rfl) law7 (Go.Ai.T.env8_ok (handle_of_laid hL)) hval hW
theorem holds7 : Rows.ValueHalvesSaid :=
  OpenClaim.holds_of_wide 7 Tryz.f7 rfl rfl rfl rfl rfl rfl rfl ⟨rfl, rfl, rfl, rfl, rfl⟩ rfl rfl rfl rfl rfl (by kernel_rfl) Tryz.func7 (by kernel_rfl)
    (of_decide_eq_true (by kernel_rfl)) (by unfold Func.isWrapper; rw [if_neg (of_decide_eq_false (by kernel_rfl))]; exact ⟨rfl, rfl⟩)
    (fun os started H enc _ => lifted7 os started H enc)
theorem valueHalves_holds : Rows.ValueHalvesCardSaid :=
  Claim7.holds_tied_plain_at .later [] [.handle] true (true, "76462da7ac58ffca1d1881d528bbb0475677a9f9d215d116014ac1f5ba280cdc") true
    holds7 (fun _ h => by cases h) (by kernel_rfl) (fun _ h => by cases h) valueHalves_row_tie rfl ⟨rfl, rfl⟩ (by kernel_rfl) rfl
    (fun f fn hf hfn => by
      obtain rfl : f = 7 := Option.some.inj ((show Tryz.prog.funcNamed "hygrometer/hyglaw8.ValueHalves" = some 7 by kernel_rfl).symm.trans hf) |>.symm
      obtain rfl : fn = Tryz.f7 := (Option.some.inj (Tryz.func7.symm.trans hfn)).symm
      have hall : (Tryz.f7.params.toList.all fun t => !(Tryz.prog.wantsStandIn t)) = true := by kernel_rfl
      exact ⟨by kernel_rfl, fun j t ht => by
        have hm : t ∈ Tryz.f7.params.toList := by
          rw [← Array.getElem?_toList] at ht
          exact List.mem_of_getElem? ht
        have := List.all_eq_true.1 hall t hm
        simp only [Bool.not_eq_true'] at this
        exact this⟩)
    (by kernel_rfl)
end Go.Proofs.YtnaifpmeejbanaaGreatDoor

