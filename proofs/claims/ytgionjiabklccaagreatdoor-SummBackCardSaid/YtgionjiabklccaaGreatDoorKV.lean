/- Part KV of the proof that a law of this program answers yes at every input: no conditions beyond the given statement. -/
import Derived.Test.YtgionjiabklccaaGreatDoorKE
import Derived.Test.YtgionjiabklccaaGreatDoorKQ
import Derived.Test.YtgionjiabklccaaGreatDoorKT
set_option linter.unusedSimpArgs false
set_option linter.unusedVariables false
set_option linter.all false
namespace Go.Ai.T
open Go Go.Proofs
set_option maxRecDepth 100000
set_option maxHeartbeats 4000000
open Classical in
theorem lawSummBack {x : SummM} (hx : x.wf) {d e : Int} (hd1 : -9223372036854775808 ≤ d) (hd : d ≤ 9223372036854775807) (_ : -9223372036854775808 ≤ e) (_ : e ≤ 9223372036854775807) :
  ∃ h', callW E [] 8 [.agg (encSumm x), .int .i64 d, .int .i64 e] (fun _ => none) = some (.bool true, h') := by
 have f := fun q h => first15_ok q h
 have rx := fun q h => croomSm_ok hx (r := 12000) (by omega) (by omega) q h
 rw [eq_8]
 by_cases cx : roomSm x 12000 < 0
 ·simp only [encSumm] at rx ⊢
  simp -implicitDefEqProofs (maxSteps := 1000000) [Tryz.f8, Code.key, f, rx, cx]
 by_cases e0 : e < 0
 ·simp only [encSumm] at rx ⊢
  simp -implicitDefEqProofs (maxSteps := 1000000) [Tryz.f8, Code.key, f, rx, cx, e0]
 by_cases e1 : d < e
 ·simp only [encSumm] at rx ⊢
  simp -implicitDefEqProofs (maxSteps := 1000000) [Tryz.f8, Code.key, f, rx, cx, e0, e1]
 have sz := roomSm_sz (x := x) (by omega)
 have hle := writeSm_le hx (by omega)
 have wde : IntKind.i64.wrap (d - e) = d - e := wrap_i64 (by omega) (by omega)
 have m1 := fun q h => cmarSm_ok hx (by omega) hd1 hd q h
 have ma := fun q h => cmaySm_ok hx (by omega) (d := d - e) (by omega) (by omega) q h
 have ss := fun q h => csameSm_ok (a := x) (b := x) hx q h
 have u1 := fun q h => cunmSm_ok (s := writeSm x) (by omega) hd q h
 have u2 := fun q h => cunmSm_ok (s := writeSm x) (d := d - e) (by omega) (by omega) q h
 simp only [decide_true] at ss
 cases hm : maySm x d with
 | false =>
  rw [hm] at m1
  simp only [marE, Bool.false_eq_true, if_false, encO_some, encE_code, encSumm] at rx m1 ⊢
  simp -implicitDefEqProofs (maxSteps := 1000000) [Tryz.f8, Code.key, f, rx, cx, e0, e1, m1]
 | true =>
  have bk : readSm (writeSm x) d = (x, none) := kitSm_wr.read kitSm_ok hm hx (by omega)
  have bl : (readSm (writeSm x) (d - e)).2.isNone = maySm x (d - e) ∧ ((readSm (writeSm x) (d - e)).2 = none → (readSm (writeSm x) (d - e)).1 = x) := kitSm_wr.less kitSm_ok hm hx (by omega) (by omega)
  rw [hm] at m1
  rw [bk] at u1
  rw [← bl.1] at ma
  clear hle
  generalize writeSm x = w at *
  cases hr : (readSm w (d - e)).2 with
  | none =>
   rw [hr, bl.2 hr] at u2
   rw [hr] at ma
   simp only [marE, if_true, encO_none, Option.isNone_none, encSumm] at rx m1 ma ss u1 u2 ⊢
   simp -implicitDefEqProofs (maxSteps := 1000000) [Tryz.f8, Code.key, f, rx, cx, e0, e1, m1, ma, ss, u1, u2, wde]
  | some y =>
   obtain ⟨t, a, hy⟩ := encE_iface y
   rw [hr] at u2 ma
   generalize (readSm w (d - e)).1 = z at *
   simp only [marE, if_true, encO_none, encO_some, Option.isNone_some, hy, encSumm] at rx m1 ma ss u1 u2 ⊢
   simp -implicitDefEqProofs (maxSteps := 1000000) [Tryz.f8, Code.key, f, rx, cx, e0, e1, m1, ma, ss, u1, u2, wde]
end Go.Ai.T

namespace Go.Proofs.YtgionjiabklccaaGreatDoor
open Go.ChangeShapes Go.WideShapes Go.RowKit
set_option maxRecDepth 100000
theorem law8 (xs : List Go.Ai.A) (h : Go.Ai.ArgsT Go.Ai.T.E.P Tryz.f8.params.toList xs) : ∃ h', Go.Ai.callW Go.Ai.T.E [] 8 xs (fun _ => none) = some (.bool true, h') := by
 have hp : Tryz.f8.params.toList = [28, 3, 3] := by kernel_rfl
 rw [hp] at h
 cases h with
 | cons h0 h =>
  cases h with
  | cons h1 h =>
   cases h with
   | cons h2 h =>
    cases h
    obtain ⟨x0, rfl, hx0⟩ := argSumm h0
    obtain ⟨x1, rfl, hx1, hy1⟩ := argI h1
    obtain ⟨x2, rfl, hx2, hy2⟩ := argI h2
    exact Go.Ai.T.lawSummBack hx0 hx1 hy1 hx2 hy2
theorem lifted8 (os : Os) (started : os.Started) (H : Type) (enc : TypeId × Value → H) :
  ReturnsInHanded {} Tryz.checked os 8 .any (fun w args => (Rows.summBackSpec.pre enc Tryz.prog Tryz.f8 [] false w args ∧ laidMetH Tryz.prog laidList w) ∧ sizedMet enc Tryz.prog Tryz.f8 (OpenSpec.ofChange Rows.summBackSpec) false w args)
   (Rows.summBackSpec.post enc Tryz.prog Tryz.f8 false true false false) := by
 refine returnsInHanded_of_change_and (C := Tryz.checked) (X := fun w _ => laidMetH Tryz.prog laidList w) (fun _ _ _ hh h => h.of_heap hh) Tryz.own started (by kernel_rfl) Tryz.func8
  (ChangeSpec.witness_at (enc := enc) (C := Tryz.checked) (os := os) (X := fun w _ => laidMetH Tryz.prog laidList w) false (laidWorld os)
   #[.agg #[.slice none 0 0, .int .u64 0, .int .u64 0, .int .u64 0, .int .u64 0, .slice none 0 0, .int .u32 0, .string ⟨#[]⟩], .int .i64 0, .int .i64 0] 8 rfl (by kernel_rfl) (by kernel_rfl) (by kernel_rfl) (by kernel_rfl) (by kernel_rfl) (laidWorld_met os _)) ?_
 intro W base args ds gs before hval hW _ _ hL _
 exact Go.Ai.law_contract (E := Go.Ai.T.E) (ts := [3, 4, 9, 23, 24, 25, 26, 28, 52, 57, 59, 61]) (tb := 4) (fn := Tryz.f8) plain_ok laidOut (by kernel_rfl) (by kernel_rfl) Tryz.underlying4 rfl
  (by
   intro ds hds
   have hp : Tryz.f8.params.size = 3 := by kernel_rfl
   rw [hp] at hds
   match ds, hds with
   | [d0, d1, d2], _ => rfl) law8 (Go.Ai.T.envS_ok (handle_of_laid hL)) hval hW
theorem holds8 : Rows.SummBackSaid :=
 OpenClaim.holds_of_wide 8 Tryz.f8 rfl rfl rfl rfl rfl rfl rfl ⟨rfl, rfl, rfl, rfl, rfl⟩ rfl rfl rfl rfl rfl (by kernel_rfl) Tryz.func8 (by kernel_rfl)
  (of_decide_eq_true (by kernel_rfl)) (by unfold Func.isWrapper; rw [if_neg (of_decide_eq_false (by kernel_rfl))]; exact ⟨rfl, rfl⟩)
  (fun os started H enc _ => lifted8 os started H enc)
theorem summBack_holds : Rows.SummBackCardSaid :=
 Claim7.holds_tied_plain_at .later [] [.handle] true (true, "d249bb353b0ad4876e1e511082de94de7d0f42723eb5e98361d7bcae220c76ed") true
  holds8 (fun _ h => by cases h) (by kernel_rfl) (fun _ h => by cases h) summBack_row_tie rfl ⟨rfl, rfl⟩ (by kernel_rfl) rfl
  (fun f fn hf hfn => by
   obtain rfl : f = 8 := Option.some.inj ((show Tryz.prog.funcNamed "hygrometer/hyglaw15.SummBack" = some 8 by kernel_rfl).symm.trans hf) |>.symm
   obtain rfl : fn = Tryz.f8 := (Option.some.inj (Tryz.func8.symm.trans hfn)).symm
   have hall : (Tryz.f8.params.toList.all fun t => !(Tryz.prog.wantsStandIn t)) = true := by kernel_rfl
   exact ⟨by kernel_rfl, fun j t ht => by
    have hm : t ∈ Tryz.f8.params.toList := by
     rw [← Array.getElem?_toList] at ht
     exact List.mem_of_getElem? ht
    have := List.all_eq_true.1 hall t hm
    simp only [Bool.not_eq_true'] at this
    exact this⟩)
  (by kernel_rfl)
end Go.Proofs.YtgionjiabklccaaGreatDoor

