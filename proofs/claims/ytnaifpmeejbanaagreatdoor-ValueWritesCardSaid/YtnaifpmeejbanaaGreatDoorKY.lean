/- Part KY of the proof that a law of this program answers yes at every input: no conditions beyond the given statement. -/
import Derived.Test.YtnaifpmeejbanaaGreatDoorKE
import Derived.Test.YtnaifpmeejbanaaGreatDoorKI
import Derived.Test.YtnaifpmeejbanaaGreatDoorKO
import Derived.Test.YtnaifpmeejbanaaGreatDoorKL
import Derived.Test.YtnaifpmeejbanaaGreatDoorKT
set_option linter.unusedSimpArgs false
set_option linter.unusedVariables false
set_option linter.all false
/- ValueWrites answers yes, in the evaluator. -/
namespace Go.Ai.T
open Go
set_option maxRecDepth 100000
set_option maxHeartbeats 4000000
theorem law_writes {x : Val} {k : KV} (hx : x.wf) (hk : k.wf) {d : Int} (hd1 : -9223372036854775808 ≤ d) (hd : d ≤ 9223372036854775807) :
    ∃ h', callW E [] 9 [.agg (encV x), .agg (encK k), .int .i64 d] (fun _ => none) = some (.bool true, h') := by
  have f := fun q h => first_ok q h
  have fx := fun q h => fewV_ok hx q h
  have fk := fun q h => fewK_ok (l := [k]) (by simp [maxStr]) (by simpa using hk) q h
  have c8 := fun q h => code_ok (.code 8) q h
  simp only [encE_code, Err.codeOf] at c8
  rw [eq_9]
  simp only [List.map_cons, List.map_nil] at fk
  obtain ⟨cs, hcs, hsh⟩ := flatV x
  obtain ⟨cq, hcq, hsk⟩ := flatK k
  by_cases cx : 0 ≤ roomV x 60 8000
  · by_cases ck : 0 ≤ roomK [k] 60 8000
    · have szx := few_sz cx
      have szk := fewK_sz ck
      have hxl := write_sz.1 x hx (by omega)
      have hkl := write_sz.2 k hk (by omega)
      have rm := fun q h => rmayV_ok hx (by omega) hd q h
      have rk := fun q h => rmayK_ok hk (by omega) hd q h
      have pm := fun q h => mayV_ok hx (by omega) hd q h
      have pk := fun q h => mayK_ok hk (by omega) hd q h
      have pks := fun q h => mayKs_ok (l := [k, k]) (by simp [maxStr]) (by simp [hk]) (by simp; omega) hd1 hd q h
      have m1 := fun q h => marV_ok hx (by omega) hd q h
      have m2 := fun q h => marK_ok hk (by omega) hd q h
      have s1 := fun q h => sizeV_ok hx (by omega) q h
      have s2 := fun q h => sizeK_ok hk (by omega) q h
      have w1 := fun hm : mayV x d = true => fun q h => rwriteV_ok hx (by omega) hm q h
      have w2 := fun hm : mayK k d = true => fun q h => rwriteK_ok hk (by omega) hm q h
      have eks : mayKs [k, k] d = mayK k d := by rw [mayKs_all]; simp
      rw [eks] at pks
      simp only [List.map_cons, List.map_nil] at pks
      clear hxl hkl
      generalize writeV x = wx at *
      generalize writeK k = wk at *
      generalize mayV x d = mx at *
      generalize mayK k d = mk at *
      rw [hcs] at fx rm pm m1 s1 w1 ⊢
      rw [hcq] at fk rk pk pks m2 s2 w2 ⊢
      obtain ⟨k0, s0, b0, n0, l0, m0, i0, u0, rfl⟩ := hsh
      obtain ⟨ky, hs', k0', s0', b0', n0', l0', m0', i0', u0', uu, rfl⟩ := hsk
      cases mx with
      | true =>
        have w1 := w1 rfl
        cases mk with
        | true =>
          have w2 := w2 rfl
          simp only [marE, if_true, encO_none] at m1 m2
          simp -implicitDefEqProofs (maxSteps := 1000000) [Go.Proofs.Tryz.f9, Code.key, f, fx, fk, cx, ck, rm, rk, pm, pk, pks, m1, m2, s1, s2, w1, w2, c8]
        | false =>
          simp only [marE, if_true, Bool.false_eq_true, if_false, encO_none, encO_some, encE_code] at m1 m2
          simp -implicitDefEqProofs (maxSteps := 1000000) [Go.Proofs.Tryz.f9, Code.key, f, fx, fk, cx, ck, rm, rk, pm, pk, pks, m1, m2, s1, s2, w1, c8]
      | false =>
        cases mk with
        | true =>
          have w2 := w2 rfl
          simp only [marE, if_true, Bool.false_eq_true, if_false, encO_none, encO_some, encE_code] at m1 m2
          simp -implicitDefEqProofs (maxSteps := 1000000) [Go.Proofs.Tryz.f9, Code.key, f, fx, fk, cx, ck, rm, rk, pm, pk, pks, m1, m2, s1, s2, w2, c8]
        | false =>
          simp only [marE, Bool.false_eq_true, if_false, encO_some, encE_code] at m1 m2
          simp -implicitDefEqProofs (maxSteps := 1000000) [Go.Proofs.Tryz.f9, Code.key, f, fx, fk, cx, ck, rm, rk, pm, pk, pks, m1, m2, s1, s2, c8]
    · rw [hcs] at fx ⊢
      rw [hcq] at fk ⊢
      obtain ⟨k0, s0, b0, n0, l0, m0, i0, u0, rfl⟩ := hsh
      obtain ⟨ky, hs', k0', s0', b0', n0', l0', m0', i0', u0', uu, rfl⟩ := hsk
      simp -implicitDefEqProofs (maxSteps := 1000000) [Go.Proofs.Tryz.f9, Code.key, f, fx, fk, cx, ck]
  · rw [hcs] at fx ⊢
    rw [hcq]
    obtain ⟨k0, s0, b0, n0, l0, m0, i0, u0, rfl⟩ := hsh
    obtain ⟨ky, hs', k0', s0', b0', n0', l0', m0', i0', u0', uu, rfl⟩ := hsk
    simp -implicitDefEqProofs (maxSteps := 1000000) [Go.Proofs.Tryz.f9, Code.key, f, fx, cx]
end Go.Ai.T

/- ValueWrites: the card, out of the law in the evaluator. -/
namespace Go.Proofs.YtnaifpmeejbanaaGreatDoor
open Go.ChangeShapes Go.WideShapes Go.RowKit
set_option maxRecDepth 100000
theorem law9 (xs : List Go.Ai.A) (h : Go.Ai.ArgsT Go.Ai.T.E.P Tryz.f9.params.toList xs) : ∃ h', Go.Ai.callW Go.Ai.T.E [] 9 xs (fun _ => none) = some (.bool true, h') := by
  have hp : Tryz.f9.params.toList = [27, 35, 3] := by kernel_rfl
  rw [hp] at h
  cases h with
  | cons h0 h =>
    cases h with
    | cons h1 h =>
      cases h with
      | cons h2 h =>
        cases h
        obtain ⟨x0, rfl, hx0⟩ := argV h0
        obtain ⟨x1, rfl, hx1⟩ := argK h1
        obtain ⟨x2, rfl, hx2, hy2⟩ := argI h2
        exact Go.Ai.T.law_writes hx0 hx1 hx2 hy2
theorem lifted9 (os : Os) (started : os.Started) (H : Type) (enc : TypeId × Value → H) :
    ReturnsInHanded {} Tryz.checked os 9 .any (fun w args => (Rows.valueWritesSpec.pre enc Tryz.prog Tryz.f9 [] false w args ∧ laidMetH Tryz.prog laidList w) ∧ sizedMet enc Tryz.prog Tryz.f9 (OpenSpec.ofChange Rows.valueWritesSpec) false w args)
      (Rows.valueWritesSpec.post enc Tryz.prog Tryz.f9 false true false false) := by
  refine returnsInHanded_of_change_and (C := Tryz.checked) (X := fun w _ => laidMetH Tryz.prog laidList w) (fun _ _ _ hh h => h.of_heap hh) Tryz.own started (by kernel_rfl) Tryz.func9
    (ChangeSpec.witness_at (enc := enc) (C := Tryz.checked) (os := os) (X := fun w _ => laidMetH Tryz.prog laidList w) false (laidWorld os)
      #[.agg #[.int .i64 0, .string ⟨#[]⟩, .bool false, .int .u64 0, .slice none 0 0, .slice none 0 0, .string ⟨#[]⟩, .string ⟨#[]⟩], .agg #[.string ⟨#[]⟩, .bool false, .int .i64 0, .string ⟨#[]⟩, .bool false, .int .u64 0, .slice none 0 0, .slice none 0 0, .string ⟨#[]⟩, .string ⟨#[]⟩, .string ⟨#[]⟩], .int .i64 0] 8 rfl (by kernel_rfl) (by kernel_rfl) (by kernel_rfl) (by kernel_rfl) (by kernel_rfl) (laidWorld_met os _)) ?_
  intro W base args ds gs before hval hW _ _ hL _
  exact Go.Ai.law_contract (E := Go.Ai.T.E) (ts := [3, 4, 9, 23, 24, 25, 27, 35]) (tb := 4) (fn := Tryz.f9) plain_ok laidOut (by kernel_rfl) (by kernel_rfl) Tryz.underlying4 rfl
    (by
      intro ds hds
      have hp : Tryz.f9.params.size = 3 := by kernel_rfl
      rw [hp] at hds
      match ds, hds with
      | [d0, d1, d2], _ => rfl) law9 (Go.Ai.T.env8_ok (handle_of_laid hL)) hval hW
theorem holds9 : Rows.ValueWritesSaid :=
  OpenClaim.holds_of_wide 9 Tryz.f9 rfl rfl rfl rfl rfl rfl rfl ⟨rfl, rfl, rfl, rfl, rfl⟩ rfl rfl rfl rfl rfl (by kernel_rfl) Tryz.func9 (by kernel_rfl)
    (of_decide_eq_true (by kernel_rfl)) (by unfold Func.isWrapper; rw [if_neg (of_decide_eq_false (by kernel_rfl))]; exact ⟨rfl, rfl⟩)
    (fun os started H enc _ => lifted9 os started H enc)
theorem valueWrites_holds : Rows.ValueWritesCardSaid :=
  Claim7.holds_tied_plain_at .later [] [.handle] true (true, "76462da7ac58ffca1d1881d528bbb0475677a9f9d215d116014ac1f5ba280cdc") true
    holds9 (fun _ h => by cases h) (by kernel_rfl) (fun _ h => by cases h) valueWrites_row_tie rfl ⟨rfl, rfl⟩ (by kernel_rfl) rfl
    (fun f fn hf hfn => by
      obtain rfl : f = 9 := Option.some.inj ((show Tryz.prog.funcNamed "hygrometer/hyglaw8.ValueWrites" = some 9 by kernel_rfl).symm.trans hf) |>.symm
      obtain rfl : fn = Tryz.f9 := (Option.some.inj (Tryz.func9.symm.trans hfn)).symm
      have hall : (Tryz.f9.params.toList.all fun t => !(Tryz.prog.wantsStandIn t)) = true := by kernel_rfl
      exact ⟨by kernel_rfl, fun j t ht => by
        have hm : t ∈ Tryz.f9.params.toList := by
          rw [← Array.getElem?_toList] at ht
          exact List.mem_of_getElem? ht
        have := List.all_eq_true.1 hall t hm
        simp only [Bool.not_eq_true'] at this
        exact this⟩)
    (by kernel_rfl)
end Go.Proofs.YtnaifpmeejbanaaGreatDoor

