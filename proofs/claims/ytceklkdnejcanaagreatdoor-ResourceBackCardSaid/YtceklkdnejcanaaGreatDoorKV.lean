/- Part KV of the proof that a law of this program answers yes at every input: no conditions beyond the given statement. -/
import Derived.Test.YtceklkdnejcanaaGreatDoorKE
import Derived.Test.YtceklkdnejcanaaGreatDoorKQ
import Derived.Test.YtceklkdnejcanaaGreatDoorKT
set_option linter.unusedSimpArgs false
set_option linter.unusedVariables false
set_option linter.all false
namespace Go.Ai.T
open Go Go.Proofs
set_option maxRecDepth 100000
set_option maxHeartbeats 4000000
open Classical in
theorem lawResourceBack {x : ResM} (hx : x.wf) {d e : Int} (hd1 : -9223372036854775808 ≤ d) (hd : d ≤ 9223372036854775807) (_ : -9223372036854775808 ≤ e) (_ : e ≤ 9223372036854775807) :
  ∃ h', callW E [] 5 [.agg (encRes x), .int .i64 d, .int .i64 e] (fun _ => none) = some (.bool true, h') := by
 have f := fun q h => first10_ok q h
 have rx := fun q h => croomRs_ok hx (r := 12000) (by omega) (by omega) q h
 rw [eq_5]
 by_cases cx : roomRs x 12000 < 0
 ·simp only [encRes] at rx ⊢
  simp -implicitDefEqProofs (maxSteps := 1000000) [Tryz.f5, Code.key, f, rx, cx]
 by_cases e0 : e < 0
 ·simp only [encRes] at rx ⊢
  simp -implicitDefEqProofs (maxSteps := 1000000) [Tryz.f5, Code.key, f, rx, cx, e0]
 by_cases e1 : d < e
 ·simp only [encRes] at rx ⊢
  simp -implicitDefEqProofs (maxSteps := 1000000) [Tryz.f5, Code.key, f, rx, cx, e0, e1]
 have sz := roomRs_sz (x := x) (by omega)
 have hle := writeRs_le hx (by omega)
 have wde : IntKind.i64.wrap (d - e) = d - e := wrap_i64 (by omega) (by omega)
 have m1 := fun q h => cmarRs_ok hx (by omega) hd1 hd q h
 have ma := fun q h => cmayRs_ok hx (by omega) (d := d - e) (by omega) (by omega) q h
 have ss := fun q h => csameRs_ok (a := x) (b := x) hx q h
 have u1 := fun q h => cunmRs_ok (s := writeRs x) (by omega) hd q h
 have u2 := fun q h => cunmRs_ok (s := writeRs x) (d := d - e) (by omega) (by omega) q h
 simp only [decide_true] at ss
 cases hm : mayRs x d with
 | false =>
  rw [hm] at m1
  simp only [marE, Bool.false_eq_true, if_false, encO_some, encE_code, encRes] at rx m1 ⊢
  simp -implicitDefEqProofs (maxSteps := 1000000) [Tryz.f5, Code.key, f, rx, cx, e0, e1, m1]
 | true =>
  have bk : readRs (writeRs x) d = (x, none) := kitRs_wr.read kitRs_ok hm hx (by omega)
  have bl : (readRs (writeRs x) (d - e)).2.isNone = mayRs x (d - e) ∧ ((readRs (writeRs x) (d - e)).2 = none → (readRs (writeRs x) (d - e)).1 = x) := kitRs_wr.less kitRs_ok hm hx (by omega) (by omega)
  rw [hm] at m1
  rw [bk] at u1
  rw [← bl.1] at ma
  clear hle
  generalize writeRs x = w at *
  cases hr : (readRs w (d - e)).2 with
  | none =>
   rw [hr, bl.2 hr] at u2
   rw [hr] at ma
   simp only [marE, if_true, encO_none, Option.isNone_none, encRes] at rx m1 ma ss u1 u2 ⊢
   simp -implicitDefEqProofs (maxSteps := 1000000) [Tryz.f5, Code.key, f, rx, cx, e0, e1, m1, ma, ss, u1, u2, wde]
  | some y =>
   obtain ⟨t, a, hy⟩ := encE_iface y
   rw [hr] at u2 ma
   generalize (readRs w (d - e)).1 = z at *
   simp only [marE, if_true, encO_none, encO_some, Option.isNone_some, hy, encRes] at rx m1 ma ss u1 u2 ⊢
   simp -implicitDefEqProofs (maxSteps := 1000000) [Tryz.f5, Code.key, f, rx, cx, e0, e1, m1, ma, ss, u1, u2, wde]
end Go.Ai.T

namespace Go.Proofs.YtceklkdnejcanaaGreatDoor
open Go.ChangeShapes Go.WideShapes Go.RowKit
set_option maxRecDepth 100000
theorem law5 (xs : List Go.Ai.A) (h : Go.Ai.ArgsT Go.Ai.T.E.P Tryz.f5.params.toList xs) : ∃ h', Go.Ai.callW Go.Ai.T.E [] 5 xs (fun _ => none) = some (.bool true, h') := by
 have hp : Tryz.f5.params.toList = [25, 3, 3] := by kernel_rfl
 rw [hp] at h
 cases h with
 | cons h0 h =>
  cases h with
  | cons h1 h =>
   cases h with
   | cons h2 h =>
    cases h
    obtain ⟨x0, rfl, hx0⟩ := argRes h0
    obtain ⟨x1, rfl, hx1, hy1⟩ := argI h1
    obtain ⟨x2, rfl, hx2, hy2⟩ := argI h2
    exact Go.Ai.T.lawResourceBack hx0 hx1 hy1 hx2 hy2
theorem lifted5 (os : Os) (started : os.Started) (H : Type) (enc : TypeId × Value → H) :
  ReturnsInHanded {} Tryz.checked os 5 .any (fun w args => (Rows.resourceBackSpec.pre enc Tryz.prog Tryz.f5 [] false w args ∧ laidMetH Tryz.prog laidList w) ∧ sizedMet enc Tryz.prog Tryz.f5 (OpenSpec.ofChange Rows.resourceBackSpec) false w args)
   (Rows.resourceBackSpec.post enc Tryz.prog Tryz.f5 false true false false) := by
 refine returnsInHanded_of_change_and (C := Tryz.checked) (X := fun w _ => laidMetH Tryz.prog laidList w) (fun _ _ _ hh h => h.of_heap hh) Tryz.own started (by kernel_rfl) Tryz.func5
  (ChangeSpec.witness_at (enc := enc) (C := Tryz.checked) (os := os) (X := fun w _ => laidMetH Tryz.prog laidList w) false (laidWorld os)
   #[.agg #[.slice none 0 0, .int .u32 0, .string ⟨#[]⟩], .int .i64 0, .int .i64 0] 8 rfl (by kernel_rfl) (by kernel_rfl) (by kernel_rfl) (by kernel_rfl) (by kernel_rfl) (laidWorld_met os _)) ?_
 intro W base args ds gs before hval hW _ _ hL _
 exact Go.Ai.law_contract (E := Go.Ai.T.E) (ts := [3, 4, 9, 22, 23, 25, 39, 52, 62, 64, 66]) (tb := 4) (fn := Tryz.f5) plain_ok laidOut (by kernel_rfl) (by kernel_rfl) Tryz.underlying4 rfl
  (by
   intro ds hds
   have hp : Tryz.f5.params.size = 3 := by kernel_rfl
   rw [hp] at hds
   match ds, hds with
   | [d0, d1, d2], _ => rfl) law5 (Go.Ai.T.envS_ok (handle_of_laid hL)) hval hW
theorem holds5 : Rows.ResourceBackSaid :=
 OpenClaim.holds_of_wide 5 Tryz.f5 rfl rfl rfl rfl rfl rfl rfl ⟨rfl, rfl, rfl, rfl, rfl⟩ rfl rfl rfl rfl rfl (by kernel_rfl) Tryz.func5 (by kernel_rfl)
  (of_decide_eq_true (by kernel_rfl)) (by unfold Func.isWrapper; rw [if_neg (of_decide_eq_false (by kernel_rfl))]; exact ⟨rfl, rfl⟩)
  (fun os started H enc _ => lifted5 os started H enc)
theorem resourceBack_holds : Rows.ResourceBackCardSaid :=
 Claim7.holds_tied_plain_at .later [] [.handle] true (true, "8675cd15e58885dd82e0d1c8ab52706ce57f806b47bf0ae5218e72f943d68231") true
  holds5 (fun _ h => by cases h) (by kernel_rfl) (fun _ h => by cases h) resourceBack_row_tie rfl ⟨rfl, rfl⟩ (by kernel_rfl) rfl
  (fun f fn hf hfn => by
   obtain rfl : f = 5 := Option.some.inj ((show Tryz.prog.funcNamed "hygrometer/hyglaw10.ResourceBack" = some 5 by kernel_rfl).symm.trans hf) |>.symm
   obtain rfl : fn = Tryz.f5 := (Option.some.inj (Tryz.func5.symm.trans hfn)).symm
   have hall : (Tryz.f5.params.toList.all fun t => !(Tryz.prog.wantsStandIn t)) = true := by kernel_rfl
   exact ⟨by kernel_rfl, fun j t ht => by
    have hm : t ∈ Tryz.f5.params.toList := by
     rw [← Array.getElem?_toList] at ht
     exact List.mem_of_getElem? ht
    have := List.all_eq_true.1 hall t hm
    simp only [Bool.not_eq_true'] at this
    exact this⟩)
  (by kernel_rfl)
end Go.Proofs.YtceklkdnejcanaaGreatDoor

