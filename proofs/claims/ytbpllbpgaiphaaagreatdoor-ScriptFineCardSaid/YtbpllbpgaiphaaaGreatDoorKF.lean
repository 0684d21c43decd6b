/- Part KF of the proof that a law of this program answers yes at every input: no conditions beyond the given statement. -/
import Derived.Test.YtbpllbpgaiphaaaGreatDoorKE
import Derived.Test.YtbpllbpgaiphaaaGreatDoorKM
set_option linter.unusedSimpArgs false
set_option linter.unusedVariables false
set_option linter.all false
/- Doubles of whole numbers; numbers as text: what is needed of them. -/
namespace Go.Ai.T
open Go
set_option maxRecDepth 100000
set_option maxHeartbeats 4000000

@[simp] theorem noOwn_tuple {l : List A} : (A.tuple l).noOwn = .tuple l := rfl
theorem wrap_u64 {x : Int} (h0 : 0 ≤ x) (h1 : x < 18446744073709551616) : IntKind.u64.wrap x = x := by
  simp [IntKind.wrap, IntKind.bits, IntKind.signed]; omega
def nrFr (x e : Int) : Fr := (bot.set 3 (.int .u64 e)).set 0 (.int .u64 x)
theorem near_loop : ∀ (f : Nat) (x e : Int), 0 < x → x < 18446744073709551616 → 9223372036854775808 ≤ x * 2 ^ f → ∃ x' e' : Int, ∀ (p : Id) (c0 c : Nat) (h : Heap), c0 ≤ c →
    iterW E 28 p [0, 3] L_28_2 c0 (nrFr x e) c h = some (.exit 0, nrFr x' e', c, dropFrom p c0 h) := by
  intro f
  induction f with
  | zero =>
    intro x e h0 h1 h2
    refine ⟨x, e, fun p c0 c h hc => ?_⟩
    have hlt : ¬ x < 9223372036854775808 := by omega
    unfold nrFr
    rw [rd_28_2]
    generalize hr : execW E 28 p _ _ _ _ = e
    simp -implicitDefEqProofs (maxSteps := 1000000) [Go.Proofs.Tryz.f28, Code.loopAt, Code.key, hlt] at hr
    subst hr
    simp
  | succ f ih =>
    intro x e h0 h1 h2
    by_cases hlt : x < 9223372036854775808
    · have hw : IntKind.u64.wrap (x * 2) = x * 2 := wrap_u64 (by omega) (by omega)
      obtain ⟨x', e', g⟩ := ih (x * 2) (IntKind.u64.wrap (e - 1)) (by omega) (by omega) (by rw [Int.mul_assoc, ← Int.pow_succ']; exact h2)
      refine ⟨x', e', fun p c0 c h hc => ?_⟩
      have g := g p c0 c (dropFrom p c0 h) hc
      unfold nrFr at g ⊢
      rw [rd_28_2]
      generalize hr : execW E 28 p _ _ _ _ = e
      simp -implicitDefEqProofs (maxSteps := 1000000) [Go.Proofs.Tryz.f28, Code.loopAt, Code.key, hlt, hw, IntKind.bits] at hr
      subst hr
      simp at g ⊢
      exact g
    · refine ⟨x, e, fun p c0 c h hc => ?_⟩
      unfold nrFr
      rw [rd_28_2]
      generalize hr : execW E 28 p _ _ _ _ = e
      simp -implicitDefEqProofs (maxSteps := 1000000) [Go.Proofs.Tryz.f28, Code.loopAt, Code.key, hlt] at hr
      subst hr
      simp
theorem near_ok {x : Int} (h0 : 0 < x) (h1 : x < 9223372036854775808) : ∃ m : Int, ∀ (p : Id) (h : Heap), callW E p 28 [.int .u64 x] h = some (.int .u64 m, dropFrom p 0 h) := by
  obtain ⟨x', e', g⟩ := near_loop 63 x 1086 h0 (by omega) (by omega)
  have g := fun p h => g p 0 0 h (Nat.le_refl _)
  simp only [nrFr] at g
  generalize hv : IntKind.u64.wrap (IntKind.u64.wrap (e' * 4503599627370496) + IntKind.u64.wrap (x'.fdiv 2048 - 4503599627370496)) = v
  generalize hR : bitsA .and .u64 x' 2047 = R
  generalize hB : bitsA .and .u64 v 1 = b
  by_cases h2 : 1024 < R
  · refine ⟨IntKind.u64.wrap (v + 1), fun p h => ?_⟩
    rw [eq_28]
    generalize hr : execW E 28 p _ _ _ _ = e
    simp -implicitDefEqProofs (maxSteps := 1000000) [Go.Proofs.Tryz.f28, Code.hide, Code.key, g, IntKind.bits, hv, hR, hB, h2] at hr
    subst hr
    simp [Go.Proofs.Tryz.f28]
  · by_cases h3 : R = 1024
    · by_cases h4 : b = 1
      · refine ⟨IntKind.u64.wrap (v + 1), fun p h => ?_⟩
        rw [eq_28]
        generalize hr : execW E 28 p _ _ _ _ = e
        simp -implicitDefEqProofs (maxSteps := 1000000) [Go.Proofs.Tryz.f28, Code.hide, Code.key, g, IntKind.bits, hv, hR, hB, h2, h3, h4] at hr
        subst hr
        simp [Go.Proofs.Tryz.f28]
      · refine ⟨v, fun p h => ?_⟩
        rw [eq_28]
        generalize hr : execW E 28 p _ _ _ _ = e
        simp -implicitDefEqProofs (maxSteps := 1000000) [Go.Proofs.Tryz.f28, Code.hide, Code.key, g, IntKind.bits, hv, hR, hB, h2, h3, h4] at hr
        subst hr
        simp [Go.Proofs.Tryz.f28]
    · refine ⟨v, fun p h => ?_⟩
      rw [eq_28]
      generalize hr : execW E 28 p _ _ _ _ = e
      simp -implicitDefEqProofs (maxSteps := 1000000) [Go.Proofs.Tryz.f28, Code.hide, Code.key, g, IntKind.bits, hv, hR, hB, h2, h3] at hr
      subst hr
      simp [Go.Proofs.Tryz.f28]
/-- flt.FromInt -/
theorem fromInt_ok {n : Int} (h0 : 0 ≤ n) (h1 : n < 9223372036854775808) : ∃ m : Int, ∀ (p : Id) (h : Heap), callW E p 9 [.int .i64 n] h = some (.int .u64 m, dropFrom p 0 h) := by
  have hn : ¬ n < 0 := by omega
  by_cases hp : 0 < n
  · obtain ⟨m, g⟩ := near_ok hp h1
    refine ⟨m, fun p h => ?_⟩
    have hw : IntKind.u64.wrap n = n := wrap_u64 h0 (by omega)
    rw [eq_9]
    simp -implicitDefEqProofs (maxSteps := 1000000) [Go.Proofs.Tryz.f9, Code.hide, Code.key, hn, hp, hw, g]
  · refine ⟨0, fun p h => ?_⟩
    rw [eq_9]
    simp -implicitDefEqProofs (maxSteps := 1000000) [Go.Proofs.Tryz.f9, Code.hide, Code.key, hn, hp]
open Classical in
/-- a number's double, as bits -/
noncomputable def dbl (n : Int) : Int := if h : 0 ≤ n ∧ n < 9223372036854775808 then Classical.choose (fromInt_ok h.1 h.2) else 0
theorem from_ok {n : Int} (h0 : 0 ≤ n) (h1 : n < 9223372036854775808) (p : Id) (h : Heap) : callW E p 9 [.int .i64 n] h = some (.int .u64 (dbl n), dropFrom p 0 h) := by
  unfold dbl
  rw [dif_pos ⟨h0, h1⟩]
  exact Classical.choose_spec (fromInt_ok h0 h1) p h
theorem double_ok {n : Int} (h0 : 0 ≤ n) (h1 : n < 9223372036854775808) (p : Id) (h : Heap) : callW E p 26 [.int .i64 n] h = some (.int .u64 (dbl n), dropFrom p 0 h) := by
  have g := fun q h => from_ok h0 h1 q h
  rw [eq_26]
  simp -implicitDefEqProofs (maxSteps := 1000000) [Go.Proofs.Tryz.f26, Code.hide, Code.key, g]
theorem itoa_0 (p : Id) (h : Heap) : callW E p 27 [.int .i64 0] h = some (.str [48], dropFrom p 0 h) := by
  have hw : IntKind.i64.wrap 1 = 1 := by decide
  have g1 : ∀ p h, callW E p 101 [.int .i64 0] h = some (.str [48], dropFrom p 0 h) := fun p h => by
    rw [eq_101]
    simp -implicitDefEqProofs (maxSteps := 1000000) [Go.Proofs.Tryz.f101, Code.hide, Code.key, hw]
  have g2 : ∀ p h, callW E p 82 [.int .i64 0, .int .i64 10] h = some (.str [48], dropFrom p 0 h) := fun p h => by
    rw [eq_82]
    simp -implicitDefEqProofs (maxSteps := 1000000) [Go.Proofs.Tryz.f82, Code.hide, Code.key, g1]
  have g3 : ∀ p h, callW E p 57 [.int .i64 0] h = some (.str [48], dropFrom p 0 h) := fun p h => by
    rw [eq_57]
    simp -implicitDefEqProofs (maxSteps := 1000000) [Go.Proofs.Tryz.f57, Code.hide, Code.key, g2]
  rw [eq_27]
  simp -implicitDefEqProofs (maxSteps := 1000000) [Go.Proofs.Tryz.f27, Code.hide, Code.key, g3]
theorem itoa_1 (p : Id) (h : Heap) : callW E p 27 [.int .i64 1] h = some (.str [49], dropFrom p 0 h) := by
  have hw : IntKind.i64.wrap 2 = 2 := by decide
  have g1 : ∀ p h, callW E p 101 [.int .i64 1] h = some (.str [49], dropFrom p 0 h) := fun p h => by
    rw [eq_101]
    simp -implicitDefEqProofs (maxSteps := 1000000) [Go.Proofs.Tryz.f101, Code.hide, Code.key, hw]
  have g2 : ∀ p h, callW E p 82 [.int .i64 1, .int .i64 10] h = some (.str [49], dropFrom p 0 h) := fun p h => by
    rw [eq_82]
    simp -implicitDefEqProofs (maxSteps := 1000000) [Go.Proofs.Tryz.f82, Code.hide, Code.key, g1]
  have g3 : ∀ p h, callW E p 57 [.int .i64 1] h = some (.str [49], dropFrom p 0 h) := fun p h => by
    rw [eq_57]
    simp -implicitDefEqProofs (maxSteps := 1000000) [Go.Proofs.Tryz.f57, Code.hide, Code.key, g2]
  rw [eq_27]
  simp -implicitDefEqProofs (maxSteps := 1000000) [Go.Proofs.Tryz.f27, Code.hide, Code.key, g3]
theorem itoa_2 (p : Id) (h : Heap) : callW E p 27 [.int .i64 2] h = some (.str [50], dropFrom p 0 h) := by
  have hw : IntKind.i64.wrap 3 = 3 := by decide
  have g1 : ∀ p h, callW E p 101 [.int .i64 2] h = some (.str [50], dropFrom p 0 h) := fun p h => by
    rw [eq_101]
    simp -implicitDefEqProofs (maxSteps := 1000000) [Go.Proofs.Tryz.f101, Code.hide, Code.key, hw]
  have g2 : ∀ p h, callW E p 82 [.int .i64 2, .int .i64 10] h = some (.str [50], dropFrom p 0 h) := fun p h => by
    rw [eq_82]
    simp -implicitDefEqProofs (maxSteps := 1000000) [Go.Proofs.Tryz.f82, Code.hide, Code.key, g1]
  have g3 : ∀ p h, callW E p 57 [.int .i64 2] h = some (.str [50], dropFrom p 0 h) := fun p h => by
    rw [eq_57]
    simp -implicitDefEqProofs (maxSteps := 1000000) [Go.Proofs.Tryz.f57, Code.hide, Code.key, g2]
  rw [eq_27]
  simp -implicitDefEqProofs (maxSteps := 1000000) [Go.Proofs.Tryz.f27, Code.hide, Code.key, g3]
theorem itoa_3 (p : Id) (h : Heap) : callW E p 27 [.int .i64 3] h = some (.str [51], dropFrom p 0 h) := by
  have hw : IntKind.i64.wrap 4 = 4 := by decide
  have g1 : ∀ p h, callW E p 101 [.int .i64 3] h = some (.str [51], dropFrom p 0 h) := fun p h => by
    rw [eq_101]
    simp -implicitDefEqProofs (maxSteps := 1000000) [Go.Proofs.Tryz.f101, Code.hide, Code.key, hw]
  have g2 : ∀ p h, callW E p 82 [.int .i64 3, .int .i64 10] h = some (.str [51], dropFrom p 0 h) := fun p h => by
    rw [eq_82]
    simp -implicitDefEqProofs (maxSteps := 1000000) [Go.Proofs.Tryz.f82, Code.hide, Code.key, g1]
  have g3 : ∀ p h, callW E p 57 [.int .i64 3] h = some (.str [51], dropFrom p 0 h) := fun p h => by
    rw [eq_57]
    simp -implicitDefEqProofs (maxSteps := 1000000) [Go.Proofs.Tryz.f57, Code.hide, Code.key, g2]
  rw [eq_27]
  simp -implicitDefEqProofs (maxSteps := 1000000) [Go.Proofs.Tryz.f27, Code.hide, Code.key, g3]
/-- strconv.Itoa, of one digit -/
theorem itoa_ok {n : Int} (h0 : 0 ≤ n) (h1 : n < 4) : ∃ d : UInt8, ∀ (p : Id) (h : Heap), callW E p 27 [.int .i64 n] h = some (.str [d], dropFrom p 0 h) := by
  have : n = 0 ∨ n = 1 ∨ n = 2 ∨ n = 3 := by omega
  rcases this with rfl | rfl | rfl | rfl
  · exact ⟨48, itoa_0⟩
  · exact ⟨49, itoa_1⟩
  · exact ⟨50, itoa_2⟩
  · exact ⟨51, itoa_3⟩
end Go.Ai.T

/- What scripts make: attributes, points, metrics. -/
namespace Go.Ai.T
open Go
set_option maxRecDepth 100000
set_option maxHeartbeats 4000000

theorem least_ok {a b c : Int} (ha : 0 ≤ a) (hb : 0 ≤ b) (hc : 0 ≤ c) (p : Id) (h : Heap) : callW E p 20 [.int .i64 a, .int .i64 b, .int .i64 c] h = some (.tuple [.int .i64 a, .int .i64 b, .int .i64 c], dropFrom p 0 h) := by
  have h1 : ¬ a < 0 := by omega
  have h2 : ¬ b < 0 := by omega
  have h3 : ¬ c < 0 := by omega
  rw [eq_20]
  simp -implicitDefEqProofs (maxSteps := 1000000) [Go.Proofs.Tryz.f20, Code.hide, Code.key, h1, h2, h3]
/-- a point's attributes -/
def atA (a : Int) (cs : List A) : A := if a.tmod 3 = 0 then .nils else .slice [cs] none
theorem attrs_ok {a : Int} (ha : 0 ≤ a) (hb : a ≤ 1000000) : ∃ cs : List A, cs.length = 11 ∧ ∀ (p : Id) (h : Heap), callW E p 22 [.int .i64 a] h = some (atA a cs, dropFrom p 0 h) := by
  by_cases h3 : a.tmod 3 = 0
  · refine ⟨List.replicate 11 .nils, rfl, fun p h => ?_⟩
    rw [eq_22, atA, if_pos h3]
    simp -implicitDefEqProofs (maxSteps := 1000000) [Go.Proofs.Tryz.f22, Code.hide, Code.key, h3]
  · refine ⟨[.str [107], .bool true, .int .i64 3, .str [], .bool false, .int .u64 (IntKind.u64.wrap (a.tmod 3)), .slice [] none, .slice [] none, .str [], .str [], .str []], rfl, fun p h => ?_⟩
    rw [eq_22, atA, if_neg h3]
    simp -implicitDefEqProofs (maxSteps := 1000000) [Go.Proofs.Tryz.f22, Code.hide, Code.key, h3]
theorem each_48 (f : Nat) (p : Id) (h : Heap) : callW E p 48 [.slice [] none, .fn f []] h = some (.nils, dropFrom p 0 h) := by
  rw [eq_48]
  simp -implicitDefEqProofs (maxSteps := 1000000) [Go.Proofs.Tryz.f48, Code.hide, Code.key, rd_48_3, Code.loopAt]
theorem each_50 (f : Nat) (p : Id) (h : Heap) : callW E p 50 [.slice [] none, .fn f []] h = some (.nils, dropFrom p 0 h) := by
  rw [eq_50]
  simp -implicitDefEqProofs (maxSteps := 1000000) [Go.Proofs.Tryz.f50, Code.hide, Code.key, rd_50_3, Code.loopAt]
theorem each_52 (f : Nat) (p : Id) (h : Heap) : callW E p 52 [.slice [] none, .fn f []] h = some (.nils, dropFrom p 0 h) := by
  rw [eq_52]
  simp -implicitDefEqProofs (maxSteps := 1000000) [Go.Proofs.Tryz.f52, Code.hide, Code.key, rd_52_3, Code.loopAt]
theorem each_54 (f : Nat) (p : Id) (h : Heap) : callW E p 54 [.slice [] none, .fn f []] h = some (.nils, dropFrom p 0 h) := by
  rw [eq_54]
  simp -implicitDefEqProofs (maxSteps := 1000000) [Go.Proofs.Tryz.f54, Code.hide, Code.key, rd_54_3, Code.loopAt]
theorem each_80 (f : Nat) (p : Id) (h : Heap) : callW E p 80 [.slice [] none, .fn f []] h = some (.nils, dropFrom p 0 h) := by
  rw [eq_80]
  simp -implicitDefEqProofs (maxSteps := 1000000) [Go.Proofs.Tryz.f80, Code.hide, Code.key, rd_80_3, Code.loopAt]
theorem keys_nil (p : Id) (h : Heap) : callW E p 56 [.slice [] none] h = some (.nils, dropFrom p 0 h) := by
  have g := fun f q h => each_80 f q h
  rw [eq_56]
  simp -implicitDefEqProofs (maxSteps := 1000000) [Go.Proofs.Tryz.f56, Code.hide, Code.key, g]
theorem twMetric_ok {nm : List UInt8} {k t : Int} {mo : Bool} (p : Id) (h : Heap) : callW E p 21 [.agg [.str nm, .str [], .str [], .int .i64 k, .int .i32 t, .bool mo, .slice [] none, .slice [] none, .slice [] none, .slice [] none, .slice [] none, .str [], .str []]] h =
    some (.agg [.str nm, .str [], .str [], .int .i64 k, .int .i32 t, .bool mo, .nils, .nils, .nils, .nils, .nils, .str [], .str []], dropFrom p 0 h) := by
  have g1 := fun f q h => each_48 f q h
  have g2 := fun f q h => each_50 f q h
  have g3 := fun f q h => each_52 f q h
  have g4 := fun f q h => each_54 f q h
  have g5 := fun q h => keys_nil q h
  rw [eq_21]
  simp -implicitDefEqProofs (maxSteps := 1000000) [Go.Proofs.Tryz.f21, Code.hide, Code.key, g1, g2, g3, g4, g5]
theorem number_ok {L : List (List A)} {s t a c : Int} (hc0 : 0 ≤ c) (hc1 : c ≤ 1000000) (p : Id) (h : Heap) :
    callW E p 23 [.agg [.slice L none, .int .u64 s, .int .u64 t, .int .i64 0, .int .u64 0, .slice [] none, .int .u32 0, .str []], .int .i64 a, .int .i64 c] h =
      some (.agg [.slice L none, .int .u64 s, .int .u64 t, .int .i64 (if a.tmod 2 = 1 then 1 else 2), .int .u64 (if a.tmod 2 = 1 then dbl c else c), .slice [] none, .int .u32 0, .str []], dropFrom p 0 h) := by
  have g := fun q h => double_ok (n := c) hc0 (by omega) q h
  have hw : IntKind.u64.wrap c = c := wrap_u64 hc0 (by omega)
  rw [eq_23]
  by_cases h2 : a.tmod 2 = 1
  all_goals simp -implicitDefEqProofs (maxSteps := 1000000) [Go.Proofs.Tryz.f23, Code.hide, Code.key, g, hw, h2]
theorem hist_ok {L : List (List A)} {s t a b c : Int} (ha0 : 0 ≤ a) (ha1 : a ≤ 1000000) (hc0 : 0 ≤ c) (hc1 : c ≤ 1000000) (p : Id) (h : Heap) :
    callW E p 24 [.agg [.slice L none, .int .u64 s, .int .u64 t, .int .u64 0, .bool false, .int .u64 0, .bool false, .int .u64 0, .bool false, .int .u64 0, .slice [] none, .slice [] none, .slice [] none, .int .u32 0, .str []], .int .i64 a, .int .i64 b, .int .i64 c] h =
      some (.agg [.slice L none, .int .u64 s, .int .u64 t, .int .u64 (IntKind.u64.wrap (IntKind.u64.wrap (c.tmod 5) + IntKind.u64.wrap (b.tmod 5))), .bool (decide (a.tmod 2 = 1)), .int .u64 (if a.tmod 2 = 1 then dbl c else 0), .bool false, .int .u64 0, .bool false, .int .u64 0,
        .slice [[.int .u64 (IntKind.u64.wrap (c.tmod 5))], [.int .u64 (IntKind.u64.wrap (b.tmod 5))]] none, .slice [[.int .u64 (dbl (a.tmod 4))]] none, .slice [] none, .int .u32 0, .str []], dropFrom p 0 h) := by
  have h4 : 0 ≤ a.tmod 4 := Int.tmod_nonneg 4 ha0
  have h5 : a.tmod 4 < 4 := Int.tmod_lt_of_pos a (by omega)
  have g := fun q h => double_ok (n := c) hc0 (by omega) q h
  have g2 := fun q h => double_ok (n := a.tmod 4) h4 (by omega) q h
  rw [eq_24]
  by_cases h2 : a.tmod 2 = 1
  all_goals simp -implicitDefEqProofs (maxSteps := 1000000) [Go.Proofs.Tryz.f24, Code.hide, Code.key, g, g2, h2]
theorem exp_ok {L : List (List A)} {s t a b c : Int} : ∃ cs : List A, cs.length = 24 ∧ cs.map A.noOwn1 = cs ∧ cs.map A.weak1 = cs ∧ ∀ (p : Id) (h : Heap),
    callW E p 25 [.agg [.slice L none, .int .u64 s, .int .u64 t, .int .u64 0, .bool false, .int .u64 0, .bool false, .int .u64 0, .bool false, .int .u64 0, .int .i32 0, .int .u64 0, .bool false, .int .i32 0, .slice [] none, .str [], .bool false, .int .i32 0, .slice [] none, .str [], .slice [] none, .int .u32 0, .int .u64 0, .str []], .int .i64 a, .int .i64 b, .int .i64 c] h =
      some (.agg cs, dropFrom p 0 h) := by
  refine ⟨[.slice L none, .int .u64 s, .int .u64 t, .int .u64 (IntKind.u64.wrap (IntKind.u64.wrap (IntKind.u64.wrap (a.tmod 2) + IntKind.u64.wrap (a.tmod 3)) + IntKind.u64.wrap (IntKind.i64.wrap (1 + c.tmod 3)))), .bool false, .int .u64 0, .bool false, .int .u64 0, .bool false, .int .u64 0, .int .i32 (IntKind.i32.wrap (c.tmod 4)), .int .u64 (IntKind.u64.wrap (a.tmod 2)), .bool true,
    .int .i32 (IntKind.i32.wrap (IntKind.i64.wrap (b.tmod 32 - 16))), .slice [[.int .u64 (IntKind.u64.wrap (a.tmod 3))], [.int .u64 (IntKind.u64.wrap (IntKind.i64.wrap (1 + c.tmod 3)))]] none, .str [], .bool false, .int .i32 0, .slice [] none, .str [], .slice [] none, .int .u32 0, .int .u64 0, .str []], rfl, rfl, rfl, fun p h => ?_⟩
  rw [eq_25]
  simp -implicitDefEqProofs (maxSteps := 1000000) [Go.Proofs.Tryz.f25, Code.hide, Code.key]
end Go.Ai.T

/- What scripts make: metrics, a point more. -/
namespace Go.Ai.T
open Go
set_option maxRecDepth 100000
set_option maxHeartbeats 4000000

theorem metric_ok {k a b c : Int} (hk : 0 ≤ k) (ha : 0 ≤ a) (hb : 0 ≤ b) (hc : 0 ≤ c) : ∃ (nm : List UInt8) (t : Int) (mo : Bool), ∀ (p : Id) (h : Heap),
    callW E p 7 [.int .i64 k, .int .i64 a, .int .i64 b, .int .i64 c] h = some (.agg [.str nm, .str [], .str [], .int .i64 (k.tmod 6), .int .i32 t, .bool mo, .nils, .nils, .nils, .nils, .nils, .str [], .str []], dropFrom p 0 h) := by
  obtain ⟨d, g1⟩ := itoa_ok (n := a.tmod 4) (Int.tmod_nonneg 4 ha) (Int.tmod_lt_of_pos a (by omega))
  have g2 := fun q h => least_ok ha hb hc q h
  have hk' : ¬ k < 0 := by omega
  have hm : (1 : Nat) + 1 ≤ maxStr := by simp [maxStr]
  by_cases k2 : k.tmod 6 = 2
  · refine ⟨[109, d], IntKind.i32.wrap (IntKind.i64.wrap (1 + b.tmod 2)), decide (c.tmod 2 = 1), fun p h => ?_⟩
    rw [eq_7]
    simp -implicitDefEqProofs (maxSteps := 1000000) [Go.Proofs.Tryz.f7, Code.hide, Code.key, g1, g2, hk', k2, hm, maxStr]
  · by_cases k3 : k.tmod 6 = 3
    · refine ⟨[109, d], IntKind.i32.wrap (IntKind.i64.wrap (1 + b.tmod 2)), false, fun p h => ?_⟩
      rw [eq_7]
      simp -implicitDefEqProofs (maxSteps := 1000000) [Go.Proofs.Tryz.f7, Code.hide, Code.key, g1, g2, hk', k2, k3, hm, maxStr]
    · by_cases k4 : k.tmod 6 = 4
      · refine ⟨[109, d], IntKind.i32.wrap (IntKind.i64.wrap (1 + b.tmod 2)), false, fun p h => ?_⟩
        rw [eq_7]
        simp -implicitDefEqProofs (maxSteps := 1000000) [Go.Proofs.Tryz.f7, Code.hide, Code.key, g1, g2, hk', k2, k3, k4, hm, maxStr]
      · refine ⟨[109, d], 0, false, fun p h => ?_⟩
        rw [eq_7]
        simp -implicitDefEqProofs (maxSteps := 1000000) [Go.Proofs.Tryz.f7, Code.hide, Code.key, g1, g2, hk', k2, k3, k4, hm, maxStr]
/-- a point's attributes, in a list -/
def atL (a : Int) (cs : List A) : List (List A) := if a.tmod 3 = 0 then [] else [cs]
theorem atA_weak (a : Int) (cs : List A) : (atA a cs).weak = .slice (atL a cs) none := by
  unfold atA atL
  split <;> rfl
theorem point_0 {a b c : Int} (ha0 : 0 ≤ a) (ha1 : a ≤ 1000000) (hb0 : 0 ≤ b) (hc0 : 0 ≤ c) (hc1 : c ≤ 1000000) (nm : List UInt8) (t : Int) (mo : Bool) (p : Id) (h : Heap) :
    callW E p 6 [.agg [.str nm, .str [], .str [], .int .i64 0, .int .i32 t, .bool mo, .slice [] none, .slice [] none, .slice [] none, .slice [] none, .slice [] none, .str [], .str []], .int .i64 a, .int .i64 b, .int .i64 c] h =
      some (.agg [.str nm, .str [], .str [], .int .i64 0, .int .i32 t, .bool mo, .nils, .nils, .nils, .nils, .nils, .str [], .str []], dropFrom p 0 h) := by
  obtain ⟨cs, hcs, g1⟩ := attrs_ok ha0 ha1
  have g2 := fun q h => least_ok ha0 hb0 hc0 q h
  have g3 := fun k t q h => twMetric_ok (nm := nm) (k := k) (t := t) (mo := mo) q h
  have w2 : IntKind.u64.wrap 1 = 1 := by decide
  rw [eq_6]
  by_cases h3 : a.tmod 3 = 0
  all_goals
    simp only [atA, h3, if_true, if_false] at g1
    simp -implicitDefEqProofs (maxSteps := 1000000) [Go.Proofs.Tryz.f6, Code.hide, Code.key, g1, g2, g3]
theorem point_1 {a b c : Int} (ha0 : 0 ≤ a) (ha1 : a ≤ 1000000) (hb0 : 0 ≤ b) (hc0 : 0 ≤ c) (hc1 : c ≤ 1000000) : ∃ cs : List A, cs.length = 11 ∧ ∀ (nm : List UInt8) (t : Int) (mo : Bool) (p : Id) (h : Heap),
    callW E p 6 [.agg [.str nm, .str [], .str [], .int .i64 1, .int .i32 t, .bool mo, .slice [] none, .slice [] none, .slice [] none, .slice [] none, .slice [] none, .str [], .str []], .int .i64 a, .int .i64 b, .int .i64 c] h =
      some (.agg [.str nm, .str [], .str [], .int .i64 1, .int .i32 t, .bool mo, .slice [[.slice (atL a cs) none, .int .u64 (b.tmod 16), .int .u64 (b.tmod 16 + (1 + c.tmod 4)), .int .i64 (if a.tmod 2 = 1 then 1 else 2), .int .u64 (if a.tmod 2 = 1 then dbl c else c), .slice [] none, .int .u32 0, .str []]] none, .nils, .nils, .nils, .nils, .str [], .str []], dropFrom p 0 h) := by
  obtain ⟨cs, hcs, g1⟩ := attrs_ok ha0 ha1
  refine ⟨cs, hcs, fun nm t mo p h => ?_⟩
  have g2 := fun q h => least_ok ha0 hb0 hc0 q h
  have g3 := fun k t q h => twMetric_ok (nm := nm) (k := k) (t := t) (mo := mo) q h
  have b1 : 0 ≤ b.tmod 16 := Int.tmod_nonneg 16 hb0
  have b2 : b.tmod 16 < 16 := Int.tmod_lt_of_pos b (by omega)
  have c1 : 0 ≤ c.tmod 4 := Int.tmod_nonneg 4 hc0
  have c2 : c.tmod 4 < 4 := Int.tmod_lt_of_pos c (by omega)
  have w1 : IntKind.u64.wrap (b.tmod 16) = b.tmod 16 := wrap_u64 b1 (by omega)
  have w2 : IntKind.i64.wrap (1 + c.tmod 4) = 1 + c.tmod 4 := by rw [wrap_i64 (by omega) (by omega)]
  have w3 : IntKind.u64.wrap (1 + c.tmod 4) = 1 + c.tmod 4 := wrap_u64 (by omega) (by omega)
  have w4 : IntKind.u64.wrap (b.tmod 16 + (1 + c.tmod 4)) = b.tmod 16 + (1 + c.tmod 4) := wrap_u64 (by omega) (by omega)
  have g4 := fun L s t q h => number_ok (L := L) (s := s) (t := t) (a := a) hc0 hc1 q h
  have hw : (atA a cs).weak = .slice (atL a cs) none := atA_weak a cs
  rw [eq_6]
  by_cases h3 : a.tmod 3 = 0
  all_goals
    simp only [atA, atL, h3, if_true, if_false] at g1 ⊢
    simp -implicitDefEqProofs (maxSteps := 1000000) [Go.Proofs.Tryz.f6, Code.hide, Code.key, g1, g2, g3, g4, w1, w2, w3, w4, maxStr]
theorem point_2 {a b c : Int} (ha0 : 0 ≤ a) (ha1 : a ≤ 1000000) (hb0 : 0 ≤ b) (hc0 : 0 ≤ c) (hc1 : c ≤ 1000000) : ∃ cs : List A, cs.length = 11 ∧ ∀ (nm : List UInt8) (t : Int) (mo : Bool) (p : Id) (h : Heap),
    callW E p 6 [.agg [.str nm, .str [], .str [], .int .i64 2, .int .i32 t, .bool mo, .slice [] none, .slice [] none, .slice [] none, .slice [] none, .slice [] none, .str [], .str []], .int .i64 a, .int .i64 b, .int .i64 c] h =
      some (.agg [.str nm, .str [], .str [], .int .i64 2, .int .i32 t, .bool mo, .slice [[.slice (atL a cs) none, .int .u64 (b.tmod 16), .int .u64 (b.tmod 16 + (1 + c.tmod 4)), .int .i64 (if a.tmod 2 = 1 then 1 else 2), .int .u64 (if a.tmod 2 = 1 then dbl c else c), .slice [] none, .int .u32 0, .str []]] none, .nils, .nils, .nils, .nils, .str [], .str []], dropFrom p 0 h) := by
  obtain ⟨cs, hcs, g1⟩ := attrs_ok ha0 ha1
  refine ⟨cs, hcs, fun nm t mo p h => ?_⟩
  have g2 := fun q h => least_ok ha0 hb0 hc0 q h
  have g3 := fun k t q h => twMetric_ok (nm := nm) (k := k) (t := t) (mo := mo) q h
  have b1 : 0 ≤ b.tmod 16 := Int.tmod_nonneg 16 hb0
  have b2 : b.tmod 16 < 16 := Int.tmod_lt_of_pos b (by omega)
  have c1 : 0 ≤ c.tmod 4 := Int.tmod_nonneg 4 hc0
  have c2 : c.tmod 4 < 4 := Int.tmod_lt_of_pos c (by omega)
  have w1 : IntKind.u64.wrap (b.tmod 16) = b.tmod 16 := wrap_u64 b1 (by omega)
  have w2 : IntKind.i64.wrap (1 + c.tmod 4) = 1 + c.tmod 4 := by rw [wrap_i64 (by omega) (by omega)]
  have w3 : IntKind.u64.wrap (1 + c.tmod 4) = 1 + c.tmod 4 := wrap_u64 (by omega) (by omega)
  have w4 : IntKind.u64.wrap (b.tmod 16 + (1 + c.tmod 4)) = b.tmod 16 + (1 + c.tmod 4) := wrap_u64 (by omega) (by omega)
  have g4 := fun L s t q h => number_ok (L := L) (s := s) (t := t) (a := a) hc0 hc1 q h
  have hw : (atA a cs).weak = .slice (atL a cs) none := atA_weak a cs
  rw [eq_6]
  by_cases h3 : a.tmod 3 = 0
  all_goals
    simp only [atA, atL, h3, if_true, if_false] at g1 ⊢
    simp -implicitDefEqProofs (maxSteps := 1000000) [Go.Proofs.Tryz.f6, Code.hide, Code.key, g1, g2, g3, g4, w1, w2, w3, w4, maxStr]
theorem point_3 {a b c : Int} (ha0 : 0 ≤ a) (ha1 : a ≤ 1000000) (hb0 : 0 ≤ b) (hb1 : b ≤ 1000000) (hc0 : 0 ≤ c) (hc1 : c ≤ 1000000) : ∃ ps : List A, ps.length = 15 ∧ ∀ (nm : List UInt8) (t : Int) (mo : Bool) (p : Id) (h : Heap),
    callW E p 6 [.agg [.str nm, .str [], .str [], .int .i64 3, .int .i32 t, .bool mo, .slice [] none, .slice [] none, .slice [] none, .slice [] none, .slice [] none, .str [], .str []], .int .i64 a, .int .i64 b, .int .i64 c] h =
      some (.agg [.str nm, .str [], .str [], .int .i64 3, .int .i32 t, .bool mo, .nils, .slice [ps] none, .nils, .nils, .nils, .str [], .str []], dropFrom p 0 h) := by
  obtain ⟨cs, hcs, g1⟩ := attrs_ok ha0 ha1
  have g2 := fun q h => least_ok ha0 hb0 hc0 q h
  have g3 := fun nm k t mo q h => twMetric_ok (nm := nm) (k := k) (t := t) (mo := mo) q h
  have b1 : 0 ≤ b.tmod 16 := Int.tmod_nonneg 16 hb0
  have b2 : b.tmod 16 < 16 := Int.tmod_lt_of_pos b (by omega)
  have c1 : 0 ≤ c.tmod 4 := Int.tmod_nonneg 4 hc0
  have c2 : c.tmod 4 < 4 := Int.tmod_lt_of_pos c (by omega)
  have w1 : IntKind.u64.wrap (b.tmod 16) = b.tmod 16 := wrap_u64 b1 (by omega)
  have w2 : IntKind.i64.wrap (1 + c.tmod 4) = 1 + c.tmod 4 := by rw [wrap_i64 (by omega) (by omega)]
  have w3 : IntKind.u64.wrap (1 + c.tmod 4) = 1 + c.tmod 4 := wrap_u64 (by omega) (by omega)
  have w4 : IntKind.u64.wrap (b.tmod 16 + (1 + c.tmod 4)) = b.tmod 16 + (1 + c.tmod 4) := wrap_u64 (by omega) (by omega)
  have g4 := fun L s t q h => hist_ok (L := L) (s := s) (t := t) (b := b) ha0 ha1 hc0 hc1 q h
  refine ⟨[.slice (atL a cs) none, .int .u64 (b.tmod 16), .int .u64 (b.tmod 16 + (1 + c.tmod 4)), .int .u64 (IntKind.u64.wrap (IntKind.u64.wrap (c.tmod 5) + IntKind.u64.wrap (b.tmod 5))), .bool (decide (a.tmod 2 = 1)), .int .u64 (if a.tmod 2 = 1 then dbl c else 0), .bool false, .int .u64 0, .bool false, .int .u64 0,
        .slice [[.int .u64 (IntKind.u64.wrap (c.tmod 5))], [.int .u64 (IntKind.u64.wrap (b.tmod 5))]] none, .slice [[.int .u64 (dbl (a.tmod 4))]] none, .slice [] none, .int .u32 0, .str []], rfl, fun nm t mo p h => ?_⟩
  rw [eq_6]
  by_cases h3 : a.tmod 3 = 0
  all_goals
    simp only [atA, atL, h3, if_true, if_false] at g1 ⊢
    simp -implicitDefEqProofs (maxSteps := 1000000) [Go.Proofs.Tryz.f6, Code.hide, Code.key, g1, g2, g3, g4, w1, w2, w3, w4, maxStr]
theorem point_4 {a b c : Int} (ha0 : 0 ≤ a) (ha1 : a ≤ 1000000) (hb0 : 0 ≤ b) (hb1 : b ≤ 1000000) (hc0 : 0 ≤ c) (hc1 : c ≤ 1000000) : ∃ ps : List A, ps.length = 24 ∧ ∀ (nm : List UInt8) (t : Int) (mo : Bool) (p : Id) (h : Heap),
    callW E p 6 [.agg [.str nm, .str [], .str [], .int .i64 4, .int .i32 t, .bool mo, .slice [] none, .slice [] none, .slice [] none, .slice [] none, .slice [] none, .str [], .str []], .int .i64 a, .int .i64 b, .int .i64 c] h =
      some (.agg [.str nm, .str [], .str [], .int .i64 4, .int .i32 t, .bool mo, .nils, .nils, .slice [ps] none, .nils, .nils, .str [], .str []], dropFrom p 0 h) := by
  obtain ⟨cs, hcs, g1⟩ := attrs_ok ha0 ha1
  have g2 := fun q h => least_ok ha0 hb0 hc0 q h
  have g3 := fun nm k t mo q h => twMetric_ok (nm := nm) (k := k) (t := t) (mo := mo) q h
  have b1 : 0 ≤ b.tmod 16 := Int.tmod_nonneg 16 hb0
  have b2 : b.tmod 16 < 16 := Int.tmod_lt_of_pos b (by omega)
  have c1 : 0 ≤ c.tmod 4 := Int.tmod_nonneg 4 hc0
  have c2 : c.tmod 4 < 4 := Int.tmod_lt_of_pos c (by omega)
  have w1 : IntKind.u64.wrap (b.tmod 16) = b.tmod 16 := wrap_u64 b1 (by omega)
  have w2 : IntKind.i64.wrap (1 + c.tmod 4) = 1 + c.tmod 4 := by rw [wrap_i64 (by omega) (by omega)]
  have w3 : IntKind.u64.wrap (1 + c.tmod 4) = 1 + c.tmod 4 := wrap_u64 (by omega) (by omega)
  have w4 : IntKind.u64.wrap (b.tmod 16 + (1 + c.tmod 4)) = b.tmod 16 + (1 + c.tmod 4) := wrap_u64 (by omega) (by omega)
  obtain ⟨ps, p1, p2, p3, g4⟩ := exp_ok (L := atL a cs) (s := b.tmod 16) (t := b.tmod 16 + (1 + c.tmod 4)) (a := a) (b := b) (c := c)
  refine ⟨ps, p1, fun nm t mo p h => ?_⟩
  rw [eq_6]
  by_cases h3 : a.tmod 3 = 0
  all_goals
    simp only [atA, atL, h3, if_true, if_false] at g1 g4 ⊢
    simp -implicitDefEqProofs (maxSteps := 1000000) [Go.Proofs.Tryz.f6, Code.hide, Code.key, g1, g2, g3, g4, w1, w2, w3, w4, maxStr, p1, p2, p3]
theorem point_5 {a b c : Int} (ha0 : 0 ≤ a) (ha1 : a ≤ 1000000) (hb0 : 0 ≤ b) (hb1 : b ≤ 1000000) (hc0 : 0 ≤ c) (hc1 : c ≤ 1000000) : ∃ ps : List A, ps.length = 8 ∧ ∀ (nm : List UInt8) (t : Int) (mo : Bool) (p : Id) (h : Heap),
    callW E p 6 [.agg [.str nm, .str [], .str [], .int .i64 5, .int .i32 t, .bool mo, .slice [] none, .slice [] none, .slice [] none, .slice [] none, .slice [] none, .str [], .str []], .int .i64 a, .int .i64 b, .int .i64 c] h =
      some (.agg [.str nm, .str [], .str [], .int .i64 5, .int .i32 t, .bool mo, .nils, .nils, .nils, .slice [ps] none, .nils, .str [], .str []], dropFrom p 0 h) := by
  obtain ⟨cs, hcs, g1⟩ := attrs_ok ha0 ha1
  have g2 := fun q h => least_ok ha0 hb0 hc0 q h
  have g3 := fun nm k t mo q h => twMetric_ok (nm := nm) (k := k) (t := t) (mo := mo) q h
  have b1 : 0 ≤ b.tmod 16 := Int.tmod_nonneg 16 hb0
  have b2 : b.tmod 16 < 16 := Int.tmod_lt_of_pos b (by omega)
  have c1 : 0 ≤ c.tmod 4 := Int.tmod_nonneg 4 hc0
  have c2 : c.tmod 4 < 4 := Int.tmod_lt_of_pos c (by omega)
  have w1 : IntKind.u64.wrap (b.tmod 16) = b.tmod 16 := wrap_u64 b1 (by omega)
  have w2 : IntKind.i64.wrap (1 + c.tmod 4) = 1 + c.tmod 4 := by rw [wrap_i64 (by omega) (by omega)]
  have w3 : IntKind.u64.wrap (1 + c.tmod 4) = 1 + c.tmod 4 := wrap_u64 (by omega) (by omega)
  have w4 : IntKind.u64.wrap (b.tmod 16 + (1 + c.tmod 4)) = b.tmod 16 + (1 + c.tmod 4) := wrap_u64 (by omega) (by omega)
  have g4 := fun q h => double_ok (n := b) hb0 (by omega) q h
  have w5 : IntKind.u64.wrap c = c := wrap_u64 hc0 (by omega)
  refine ⟨[.slice (atL a cs) none, .int .u64 (b.tmod 16), .int .u64 (b.tmod 16 + (1 + c.tmod 4)), .int .u64 c, .int .u64 (dbl b), .nils, .int .u32 0, .str []], rfl, fun nm t mo p h => ?_⟩
  rw [eq_6]
  by_cases h3 : a.tmod 3 = 0
  all_goals
    simp only [atA, atL, h3, if_true, if_false] at g1 ⊢
    simp -implicitDefEqProofs (maxSteps := 1000000) [Go.Proofs.Tryz.f6, Code.hide, Code.key, g1, g2, g3, g4, w1, w2, w3, w4, w5, maxStr]
end Go.Ai.T

/- ScriptFine answers yes, in the evaluator. -/
namespace Go.Ai.T
open Go
set_option maxRecDepth 100000
set_option maxHeartbeats 4000000

theorem first_at0 (h : Heap) : ∃ h', callW E [0] 5 [] h = some (.bool true, h') ∧ h' [29, 3] = h [29, 3] := by
  have h1 : (call E 60 [0] 5 [] h).map (fun r => (r.1, r.2 [29, 3])) = some (.bool true, h [29, 3]) := by kernel_rfl
  obtain ⟨⟨v, h'⟩, h2, h3⟩ := Option.map_eq_some_iff.1 h1
  simp only [Prod.mk.injEq] at h3
  obtain ⟨rfl, h4⟩ := h3
  exact ⟨h', callW_some.2 ⟨60, h2⟩, h4⟩
theorem first_at4 (h : Heap) : ∃ h', callW E [4] 5 [] h = some (.bool true, h') ∧ h' [29, 3] = h [29, 3] := by
  have h1 : (call E 60 [4] 5 [] h).map (fun r => (r.1, r.2 [29, 3])) = some (.bool true, h [29, 3]) := by kernel_rfl
  obtain ⟨⟨v, h'⟩, h2, h3⟩ := Option.map_eq_some_iff.1 h1
  simp only [Prod.mk.injEq] at h3
  obtain ⟨rfl, h4⟩ := h3
  exact ⟨h', callW_some.2 ⟨60, h2⟩, h4⟩
theorem first_at5 (h : Heap) : ∃ h', callW E [5] 5 [] h = some (.bool true, h') ∧ h' [29, 3] = h [29, 3] := by
  have h1 : (call E 60 [5] 5 [] h).map (fun r => (r.1, r.2 [29, 3])) = some (.bool true, h [29, 3]) := by kernel_rfl
  obtain ⟨⟨v, h'⟩, h2, h3⟩ := Option.map_eq_some_iff.1 h1
  simp only [Prod.mk.injEq] at h3
  obtain ⟨rfl, h4⟩ := h3
  exact ⟨h', callW_some.2 ⟨60, h2⟩, h4⟩
theorem first_at6 (h : Heap) : ∃ h', callW E [6] 5 [] h = some (.bool true, h') ∧ h' [29, 3] = h [29, 3] ∧ h' [37, 5] = h [37, 5] := by
  have h1 : (call E 60 [6] 5 [] h).map (fun r => (r.1, r.2 [29, 3], r.2 [37, 5])) = some (.bool true, h [29, 3], h [37, 5]) := by kernel_rfl
  obtain ⟨⟨v, h'⟩, h2, h3⟩ := Option.map_eq_some_iff.1 h1
  simp only [Prod.mk.injEq] at h3
  obtain ⟨rfl, h4, h5⟩ := h3
  exact ⟨h', callW_some.2 ⟨60, h2⟩, h4, h5⟩
theorem first_F0 : ∃ F : Heap → Heap, (∀ h, callW E [0] 5 [] h = some (.bool true, F h)) ∧ ∀ h, F h [29, 3] = h [29, 3] :=
  ⟨fun h => Classical.choose (first_at0 h), fun h => (Classical.choose_spec (first_at0 h)).1, fun h => (Classical.choose_spec (first_at0 h)).2⟩
theorem first_F4 : ∃ F : Heap → Heap, (∀ h, callW E [4] 5 [] h = some (.bool true, F h)) ∧ ∀ h, F h [29, 3] = h [29, 3] :=
  ⟨fun h => Classical.choose (first_at4 h), fun h => (Classical.choose_spec (first_at4 h)).1, fun h => (Classical.choose_spec (first_at4 h)).2⟩
theorem first_F5 : ∃ F : Heap → Heap, (∀ h, callW E [5] 5 [] h = some (.bool true, F h)) ∧ ∀ h, F h [29, 3] = h [29, 3] :=
  ⟨fun h => Classical.choose (first_at5 h), fun h => (Classical.choose_spec (first_at5 h)).1, fun h => (Classical.choose_spec (first_at5 h)).2⟩
theorem first_F6 : ∃ F : Heap → Heap, (∀ h, callW E [6] 5 [] h = some (.bool true, F h)) ∧ (∀ h, F h [29, 3] = h [29, 3]) ∧ ∀ h, F h [37, 5] = h [37, 5] :=
  ⟨fun h => Classical.choose (first_at6 h), fun h => (Classical.choose_spec (first_at6 h)).1, fun h => (Classical.choose_spec (first_at6 h)).2.1, fun h => (Classical.choose_spec (first_at6 h)).2.2⟩
theorem points_ok {nm : List UInt8} {k t : Int} {mo : Bool} {N H X S : List (List A)} (hl : N.length + H.length + X.length + S.length ≤ 1000) (p : Id) (h : Heap) :
    callW E p 8 [.agg [.str nm, .str [], .str [], .int .i64 k, .int .i32 t, .bool mo, .slice N none, .slice H none, .slice X none, .slice S none, .slice [] none, .str [], .str []]] h = some (.int .i64 ((N.length + H.length + X.length + S.length : Nat) : Int), dropFrom p 0 h) := by
  have w1 : IntKind.i64.wrap ((N.length : Int) + (H.length : Int)) = ((N.length + H.length : Nat) : Int) := by rw [wrap_i64 (by omega) (by omega)]; omega
  have w2 : IntKind.i64.wrap (((N.length + H.length : Nat) : Int) + (X.length : Int)) = ((N.length + H.length + X.length : Nat) : Int) := by rw [wrap_i64 (by omega) (by omega)]; omega
  have w3 : IntKind.i64.wrap (((N.length + H.length + X.length : Nat) : Int) + (S.length : Int)) = ((N.length + H.length + X.length + S.length : Nat) : Int) := by rw [wrap_i64 (by omega) (by omega)]; omega
  rw [eq_8]
  simp -implicitDefEqProofs (maxSteps := 1000000) [-Int.natCast_add, Go.Proofs.Tryz.f8, Code.hide, Code.key, w1, w2, w3]
theorem lawScriptFine {k a b c : Int} (hk1 : -9223372036854775808 ≤ k) (hk2 : k ≤ 9223372036854775807) (ha1 : -9223372036854775808 ≤ a) (ha2 : a ≤ 9223372036854775807) (hb1 : -9223372036854775808 ≤ b) (hb2 : b ≤ 9223372036854775807) (hc1 : -9223372036854775808 ≤ c) (hc2 : c ≤ 9223372036854775807) :
    ∃ h', callW E [] 3 [.int .i64 k, .int .i64 a, .int .i64 b, .int .i64 c] (fun _ => none) = some (.bool true, h') := by
  obtain ⟨h0, f0, -⟩ := first_at0 (fun _ => none)
  by_cases hg : k < 0 ∨ a < 0 ∨ b < 0 ∨ c < 0 ∨ 1000000 < k ∨ 1000000 < a ∨ 1000000 < b ∨ 1000000 < c
  · have f1 : ∃ h', callW E [1] 5 [] h0 = some (.bool true, h') := by
      have h1 : (call E 60 [1] 5 [] h0).map (fun r => r.1) = some (.bool true) := by kernel_rfl
      obtain ⟨⟨v, h'⟩, h2, h3⟩ := Option.map_eq_some_iff.1 h1
      simp only at h3
      subst h3
      exact ⟨h', callW_some.2 ⟨60, h2⟩⟩
    obtain ⟨h1, f1⟩ := f1
    rw [eq_3]
    by_cases q1 : k < 0
    · simp -implicitDefEqProofs (maxSteps := 1000000) [Go.Proofs.Tryz.f3, Code.hide, Code.key, f0, f1, q1]
    by_cases q2 : a < 0
    · simp -implicitDefEqProofs (maxSteps := 1000000) [Go.Proofs.Tryz.f3, Code.hide, Code.key, f0, f1, q1, q2]
    by_cases q3 : b < 0
    · simp -implicitDefEqProofs (maxSteps := 1000000) [Go.Proofs.Tryz.f3, Code.hide, Code.key, f0, f1, q1, q2, q3]
    by_cases q4 : c < 0
    · simp -implicitDefEqProofs (maxSteps := 1000000) [Go.Proofs.Tryz.f3, Code.hide, Code.key, f0, f1, q1, q2, q3, q4]
    by_cases q5 : 1000000 < k
    · simp -implicitDefEqProofs (maxSteps := 1000000) [Go.Proofs.Tryz.f3, Code.hide, Code.key, f0, f1, q1, q2, q3, q4, q5]
    by_cases q6 : 1000000 < a
    · simp -implicitDefEqProofs (maxSteps := 1000000) [Go.Proofs.Tryz.f3, Code.hide, Code.key, f0, f1, q1, q2, q3, q4, q5, q6]
    by_cases q7 : 1000000 < b
    · simp -implicitDefEqProofs (maxSteps := 1000000) [Go.Proofs.Tryz.f3, Code.hide, Code.key, f0, f1, q1, q2, q3, q4, q5, q6, q7]
    by_cases q8 : 1000000 < c
    · simp -implicitDefEqProofs (maxSteps := 1000000) [Go.Proofs.Tryz.f3, Code.hide, Code.key, f0, f1, q1, q2, q3, q4, q5, q6, q7, q8]
    · exfalso; omega
  have hk0 : 0 ≤ k := by omega
  have ha0 : 0 ≤ a := by omega
  have hb0 : 0 ≤ b := by omega
  have hc0 : 0 ≤ c := by omega
  have ha3 : a ≤ 1000000 := by omega
  have hb3 : b ≤ 1000000 := by omega
  have hc3 : c ≤ 1000000 := by omega
  have q1 : ¬ k < 0 := by omega
  have q2 : ¬ a < 0 := by omega
  have q3 : ¬ b < 0 := by omega
  have q4 : ¬ c < 0 := by omega
  have q5 : ¬ 1000000 < k := by omega
  have q6 : ¬ 1000000 < a := by omega
  have q7 : ¬ 1000000 < b := by omega
  have q8 : ¬ 1000000 < c := by omega
  obtain ⟨nm, t, mo, gm⟩ := metric_ok (k := k) (a := a) (b := b) (c := c) hk0 ha0 hb0 hc0
  have kn : 0 ≤ k.tmod 6 := Int.tmod_nonneg 6 hk0
  have kl : k.tmod 6 < 6 := Int.tmod_lt_of_pos k (by omega)
  have hcase : k.tmod 6 = 0 ∨ k.tmod 6 = 1 ∨ k.tmod 6 = 2 ∨ k.tmod 6 = 3 ∨ k.tmod 6 = 4 ∨ k.tmod 6 = 5 := by omega
  obtain ⟨F4, f4, k4⟩ := first_F4
  obtain ⟨F5, f5, k5⟩ := first_F5
  obtain ⟨F6, f6, k6a, k6b⟩ := first_F6
  have nl1 : ((1 : Nat) : Int) = 1 := rfl
  have nl0 : ((0 : Nat) : Int) = 0 := rfl
  rcases hcase with k6 | k6 | k6 | k6 | k6 | k6
  · -- no kind
    have gp := fun q h => point_0 (a := a) (b := b) (c := c) ha0 ha3 hb0 hc0 hc3 nm t mo q h
    have gq := fun q h => points_ok (nm := nm) (k := 0) (t := t) (mo := mo) (N := []) (H := []) (X := []) (S := []) (by simp) q h
    rw [k6] at gm
    simp only [List.length_nil, Nat.zero_add, Nat.add_zero, nl0] at gq
    rw [eq_3]
    simp -implicitDefEqProofs (maxSteps := 1000000) [Go.Proofs.Tryz.f3, Code.hide, Code.key, f0, f4, k4, q1, q2, q3, q4, q5, q6, q7, q8, gm, gp, gq, k6]
  · obtain ⟨cs, hcs, gp⟩ := point_1 (a := a) (b := b) (c := c) ha0 ha3 hb0 hc0 hc3
    have gp := fun q h => gp nm t mo q h
    have gq := fun L q h => points_ok (nm := nm) (k := 1) (t := t) (mo := mo) (N := [L]) (H := []) (X := []) (S := []) (by simp) q h
    rw [k6] at gm
    simp only [List.length_nil, List.length_cons, Nat.zero_add, Nat.add_zero, nl1] at gq
    have gf := fun q h => from_ok (n := c) hc0 (by omega) q h
    have hw : IntKind.u64.wrap c = c := wrap_u64 hc0 (by omega)
    have c1 : 0 ≤ c.tmod 4 := Int.tmod_nonneg 4 hc0
    have hgt : b.tmod 16 < b.tmod 16 + (1 + c.tmod 4) := by omega
    have a2 : 0 ≤ a.tmod 2 := Int.tmod_nonneg 2 ha0
    have a2' : a.tmod 2 < 2 := Int.tmod_lt_of_pos a (by omega)
    have a3 : 0 ≤ a.tmod 3 := Int.tmod_nonneg 3 ha0
    rw [eq_3]
    by_cases o : a.tmod 2 = 1
    · by_cases h3 : a.tmod 3 = 0
      · simp only [o, h3, if_true, atL] at gp
        simp -implicitDefEqProofs (maxSteps := 1000000) [Go.Proofs.Tryz.f3, Code.hide, Code.key, f0, f6, k6a, k6b, q1, q2, q3, q4, q5, q6, q7, q8, gm, gp, gq, k6, gf, hw, hgt, o, h3]
      · have h4 : ¬ 1 < a.tmod 3 ∨ 1 < a.tmod 3 := by omega
        have h5 : ¬ a.tmod 3 < 1 := by omega
        simp only [o, h3, if_true, if_false, atL] at gp
        rcases h4 with h4 | h4
        · have h6 : a.tmod 3 = 1 := by omega
          simp -implicitDefEqProofs (maxSteps := 1000000) [Go.Proofs.Tryz.f3, Code.hide, Code.key, f0, f6, k6a, k6b, q1, q2, q3, q4, q5, q6, q7, q8, gm, gp, gq, k6, gf, hw, hgt, o, h6]
        · simp -implicitDefEqProofs (maxSteps := 1000000) [Go.Proofs.Tryz.f3, Code.hide, Code.key, f0, f6, k6a, k6b, q1, q2, q3, q4, q5, q6, q7, q8, gm, gp, gq, k6, gf, hw, hgt, o, h3, h4]
    · have o0 : a.tmod 2 = 0 := by omega
      by_cases h3 : a.tmod 3 = 0
      · simp only [o, h3, if_true, if_false, atL] at gp
        simp -implicitDefEqProofs (maxSteps := 1000000) [Go.Proofs.Tryz.f3, Code.hide, Code.key, f0, f6, k6a, k6b, q1, q2, q3, q4, q5, q6, q7, q8, gm, gp, gq, k6, gf, hw, hgt, o0, h3]
      · have h4 : ¬ 1 < a.tmod 3 ∨ 1 < a.tmod 3 := by omega
        have h5 : ¬ a.tmod 3 < 1 := by omega
        simp only [o, h3, if_true, if_false, atL] at gp
        rcases h4 with h4 | h4
        · have h6 : a.tmod 3 = 1 := by omega
          simp -implicitDefEqProofs (maxSteps := 1000000) [Go.Proofs.Tryz.f3, Code.hide, Code.key, f0, f6, k6a, k6b, q1, q2, q3, q4, q5, q6, q7, q8, gm, gp, gq, k6, gf, hw, hgt, o0, h6]
        · simp -implicitDefEqProofs (maxSteps := 1000000) [Go.Proofs.Tryz.f3, Code.hide, Code.key, f0, f6, k6a, k6b, q1, q2, q3, q4, q5, q6, q7, q8, gm, gp, gq, k6, gf, hw, hgt, o0, h3, h4]
  · obtain ⟨cs, hcs, gp⟩ := point_2 (a := a) (b := b) (c := c) ha0 ha3 hb0 hc0 hc3
    have gp := fun q h => gp nm t mo q h
    have gq := fun L q h => points_ok (nm := nm) (k := 2) (t := t) (mo := mo) (N := [L]) (H := []) (X := []) (S := []) (by simp) q h
    rw [k6] at gm
    simp only [List.length_nil, List.length_cons, Nat.zero_add, Nat.add_zero, nl1] at gq
    have gf := fun q h => from_ok (n := c) hc0 (by omega) q h
    have hw : IntKind.u64.wrap c = c := wrap_u64 hc0 (by omega)
    have c1 : 0 ≤ c.tmod 4 := Int.tmod_nonneg 4 hc0
    have hgt : b.tmod 16 < b.tmod 16 + (1 + c.tmod 4) := by omega
    have a2 : 0 ≤ a.tmod 2 := Int.tmod_nonneg 2 ha0
    have a2' : a.tmod 2 < 2 := Int.tmod_lt_of_pos a (by omega)
    have a3 : 0 ≤ a.tmod 3 := Int.tmod_nonneg 3 ha0
    rw [eq_3]
    by_cases o : a.tmod 2 = 1
    · by_cases h3 : a.tmod 3 = 0
      · simp only [o, h3, if_true, atL] at gp
        simp -implicitDefEqProofs (maxSteps := 1000000) [Go.Proofs.Tryz.f3, Code.hide, Code.key, f0, f6, k6a, k6b, q1, q2, q3, q4, q5, q6, q7, q8, gm, gp, gq, k6, gf, hw, hgt, o, h3]
      · have h4 : ¬ 1 < a.tmod 3 ∨ 1 < a.tmod 3 := by omega
        have h5 : ¬ a.tmod 3 < 1 := by omega
        simp only [o, h3, if_true, if_false, atL] at gp
        rcases h4 with h4 | h4
        · have h6 : a.tmod 3 = 1 := by omega
          simp -implicitDefEqProofs (maxSteps := 1000000) [Go.Proofs.Tryz.f3, Code.hide, Code.key, f0, f6, k6a, k6b, q1, q2, q3, q4, q5, q6, q7, q8, gm, gp, gq, k6, gf, hw, hgt, o, h6]
        · simp -implicitDefEqProofs (maxSteps := 1000000) [Go.Proofs.Tryz.f3, Code.hide, Code.key, f0, f6, k6a, k6b, q1, q2, q3, q4, q5, q6, q7, q8, gm, gp, gq, k6, gf, hw, hgt, o, h3, h4]
    · have o0 : a.tmod 2 = 0 := by omega
      by_cases h3 : a.tmod 3 = 0
      · simp only [o, h3, if_true, if_false, atL] at gp
        simp -implicitDefEqProofs (maxSteps := 1000000) [Go.Proofs.Tryz.f3, Code.hide, Code.key, f0, f6, k6a, k6b, q1, q2, q3, q4, q5, q6, q7, q8, gm, gp, gq, k6, gf, hw, hgt, o0, h3]
      · have h4 : ¬ 1 < a.tmod 3 ∨ 1 < a.tmod 3 := by omega
        have h5 : ¬ a.tmod 3 < 1 := by omega
        simp only [o, h3, if_true, if_false, atL] at gp
        rcases h4 with h4 | h4
        · have h6 : a.tmod 3 = 1 := by omega
          simp -implicitDefEqProofs (maxSteps := 1000000) [Go.Proofs.Tryz.f3, Code.hide, Code.key, f0, f6, k6a, k6b, q1, q2, q3, q4, q5, q6, q7, q8, gm, gp, gq, k6, gf, hw, hgt, o0, h6]
        · simp -implicitDefEqProofs (maxSteps := 1000000) [Go.Proofs.Tryz.f3, Code.hide, Code.key, f0, f6, k6a, k6b, q1, q2, q3, q4, q5, q6, q7, q8, gm, gp, gq, k6, gf, hw, hgt, o0, h3, h4]
  · obtain ⟨ps, hps, gp⟩ := point_3 (a := a) (b := b) (c := c) ha0 ha3 hb0 hb3 hc0 hc3
    have gp := fun q h => gp nm t mo q h
    have gq := fun q h => points_ok (nm := nm) (k := 3) (t := t) (mo := mo) (N := []) (H := [ps]) (X := []) (S := []) (by simp) q h
    rw [k6] at gm
    simp only [List.length_nil, List.length_cons, Nat.zero_add, Nat.add_zero, nl1] at gq
    rw [eq_3]
    simp -implicitDefEqProofs (maxSteps := 1000000) [Go.Proofs.Tryz.f3, Code.hide, Code.key, f0, f5, k5, q1, q2, q3, q4, q5, q6, q7, q8, gm, gp, gq, k6]
  · obtain ⟨ps, hps, gp⟩ := point_4 (a := a) (b := b) (c := c) ha0 ha3 hb0 hb3 hc0 hc3
    have gp := fun q h => gp nm t mo q h
    have gq := fun q h => points_ok (nm := nm) (k := 4) (t := t) (mo := mo) (N := []) (H := []) (X := [ps]) (S := []) (by simp) q h
    rw [k6] at gm
    simp only [List.length_nil, List.length_cons, Nat.zero_add, Nat.add_zero, nl1] at gq
    rw [eq_3]
    simp -implicitDefEqProofs (maxSteps := 1000000) [Go.Proofs.Tryz.f3, Code.hide, Code.key, f0, f5, k5, q1, q2, q3, q4, q5, q6, q7, q8, gm, gp, gq, k6]
  · obtain ⟨ps, hps, gp⟩ := point_5 (a := a) (b := b) (c := c) ha0 ha3 hb0 hb3 hc0 hc3
    have gp := fun q h => gp nm t mo q h
    have gq := fun q h => points_ok (nm := nm) (k := 5) (t := t) (mo := mo) (N := []) (H := []) (X := []) (S := [ps]) (by simp) q h
    rw [k6] at gm
    simp only [List.length_nil, List.length_cons, Nat.zero_add, Nat.add_zero, nl1] at gq
    rw [eq_3]
    simp -implicitDefEqProofs (maxSteps := 1000000) [Go.Proofs.Tryz.f3, Code.hide, Code.key, f0, f5, k5, q1, q2, q3, q4, q5, q6, q7, q8, gm, gp, gq, k6]
end Go.Ai.T

