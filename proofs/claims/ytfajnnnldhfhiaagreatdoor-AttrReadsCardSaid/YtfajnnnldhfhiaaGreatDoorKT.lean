/- Part KT of the proof that a law of this program answers yes at every input: no conditions beyond the given statement. -/
import Derived.Test.YtfajnnnldhfhiaaGreatDoorRows
import Derived.Test.YtfajnnnldhfhiaaGreatDoorCards
import Derived.Test.YtfajnnnldhfhiaaGreatDoorTie
import Derived.ChangeVars
import Derived.JoinedOf
import Derived.RowKitTokens
import Derived.LaidLaws
import Derived.LaidHandle
import Derived.Stop.Joined
import Derived.SevenTiedAt
import Derived.Test.YtfajnnnldhfhiaaGreatDoorKF
import Derived.Test.YtfajnnnldhfhiaaGreatDoorKD
set_option linter.unusedSimpArgs false
set_option linter.unusedVariables false
set_option linter.all false
namespace Go.Proofs.YtfajnnnldhfhiaaGreatDoor
open Go.ChangeShapes Go.WideShapes Go.RowKit
set_option maxRecDepth 100000
theorem Tryz.own : ownKnob Tryz.prog.godebug = none := by kernel_rfl
theorem Tryz.et : Tryz.prog.globalNamed "errors.errorType" = some 1 := by kernel_rfl
theorem Tryz.rt : (Tryz.prog.cutTypes.find? (·.1 == "internal/reflectlite.rtype")).map (·.2) = some 209 := by kernel_rfl
theorem Tryz.oneRow : ((List.range 253).filter fun t => Tryz.prog.rowNamed t [101, 114, 114, 111, 114]) = [25] := by kernel_rfl
theorem Tryz.size : Tryz.prog.types.size = 253 := by kernel_rfl
abbrev laidList : List (String × DataW Unit) := [("errors.errorType", Rows.laid_errors_errorType)]
theorem handle_of_laid {W : World} (h : laidMetH Tryz.prog laidList W) : W.cell? ⟨1, 0, none⟩ = some (.iface 209 (.agg #[.pointer (some ⟨2, 25, none⟩)])) := by
 have h' : laidMet Tryz.prog [] W ∧ handlesMet Tryz.prog laidList W := h
 obtain ⟨name, u, ty, e1, e2, e3, e4, e5⟩ := h'.2 _ (List.mem_singleton.2 rfl)
 have en : name = [101, 114, 114, 111, 114] := (Option.some.inj e1).symm
 subst en
 obtain rfl := Option.some.inj (Tryz.rt.symm.trans e2)
 have hm : ty ∈ (List.range 253).filter fun t => Tryz.prog.rowNamed t [101, 114, 114, 111, 114] := List.mem_filter.2 ⟨List.mem_range.2 (by rw [← Tryz.size]; exact e3), e4⟩
 rw [Tryz.oneRow] at hm
 obtain rfl := List.mem_singleton.1 hm
 have hh : typeHandle Tryz.prog 25 = .pointer (some ⟨2, 25, none⟩) := by kernel_rfl
 rw [hh] at e5
 simpa using World.var?_cell Tryz.et e5 0
noncomputable def laidWorld (os : Os) : World :=
 let w0 := World.holding Tryz.prog os ⟨#[], #[], []⟩
 { w0 with heap := w0.heap.modify 1 fun
   | .cells _ t frozen => .cells #[.iface 209 (.agg #[.pointer (some ⟨2, 25, none⟩)])] t frozen
   | o => o }
theorem laidWorld_met (os : Os) (args : Array Value) : laidMetH Tryz.prog laidList ((laidWorld os).forCall (fun _ _ => 0) ⟨#[], args, []⟩).memory :=
 laidMetH_of_parts (laidMet_nil _ _) (by kernel_rfl)
theorem plain_ok : Go.Ai.plainB Go.Ai.T.E.P [3, 4, 9, 23, 33, 34, 36, 38, 154] = true := by kernel_rfl
theorem laidOut : laidOutB Go.Ai.T.E.P = true := by kernel_rfl
theorem valTypes : Go.Ai.ValTypes Go.Ai.T.E.P 36 38 3 9 4 33 34 23 where
 hv := by kernel_rfl
 hk := by kernel_rfl
 hi := Tryz.underlying3
 hs := Tryz.underlying9
 hb := Tryz.underlying4
 hu := Tryz.underlying33
 hvs := Tryz.underlying34
 hks := Tryz.underlying23
theorem argV {a : Go.Ai.A} (h : Go.Ai.ArgT Go.Ai.T.E.P 36 a) : ∃ x : Go.Ai.Val, a = .agg (Go.Ai.encV x) ∧ x.wf := by
 simp only [Go.Ai.ArgT] at h
 rw [show Go.Ai.T.E.P.underlying 36 = Tryz.prog.underlying 36 from rfl, Tryz.underlying36] at h
 obtain ⟨as', rfl, hw⟩ := h
 obtain ⟨x, rfl, hx⟩ := (hw.values valTypes).1 rfl
 exact ⟨x, rfl, hx⟩
theorem argK {a : Go.Ai.A} (h : Go.Ai.ArgT Go.Ai.T.E.P 38 a) : ∃ x : Go.Ai.KV, a = .agg (Go.Ai.encK x) ∧ x.wf := by
 simp only [Go.Ai.ArgT] at h
 rw [show Go.Ai.T.E.P.underlying 38 = Tryz.prog.underlying 38 from rfl, Tryz.underlying38] at h
 obtain ⟨as', rfl, hw⟩ := h
 obtain ⟨x, rfl, hx⟩ := (hw.values valTypes).2.1 rfl
 exact ⟨x, rfl, hx⟩
theorem argKs {a : Go.Ai.A} (h : Go.Ai.ArgT Go.Ai.T.E.P 23 a) : ∃ l : List Go.Ai.KV, a = .slice (l.map Go.Ai.encK) none ∧ l.length ≤ Go.Ai.maxStr ∧ ∀ x ∈ l, x.wf := by
 simp only [Go.Ai.ArgT] at h
 rw [show Go.Ai.T.E.P.underlying 23 = Tryz.prog.underlying 23 from rfl, Tryz.underlying23] at h
 obtain ⟨l, hl, h1, h2⟩ := (h.values valTypes).2.2.2 rfl
 simp only [List.cons.injEq, and_true] at hl
 exact ⟨l, hl, h1, h2⟩
theorem argS {a : Go.Ai.A} (h : Go.Ai.ArgT Go.Ai.T.E.P 9 a) : ∃ s : List UInt8, a = .str s ∧ s.length ≤ Go.Ai.maxStr := by
 simp only [Go.Ai.ArgT] at h
 rw [show Go.Ai.T.E.P.underlying 9 = Tryz.prog.underlying 9 from rfl, Tryz.underlying9] at h
 obtain ⟨s, hs, h1⟩ := h.str_inv Tryz.underlying9
 simp only [List.cons.injEq, and_true] at hs
 exact ⟨s, hs, h1⟩
theorem argI {a : Go.Ai.A} (h : Go.Ai.ArgT Go.Ai.T.E.P 3 a) : ∃ n : Int, a = .int .i64 n ∧ -9223372036854775808 ≤ n ∧ n ≤ 9223372036854775807 := by
 simp only [Go.Ai.ArgT] at h
 rw [show Go.Ai.T.E.P.underlying 3 = Tryz.prog.underlying 3 from rfl, Tryz.underlying3] at h
 obtain ⟨n, hn, h1⟩ := h.int_inv Tryz.underlying3
 simp only [List.cons.injEq, and_true] at hn
 simp [IntKind.min, IntKind.max, IntKind.bits, IntKind.signed] at h1
 exact ⟨n, hn, h1⟩
theorem argU {a : Go.Ai.A} (h : Go.Ai.ArgT Go.Ai.T.E.P 33 a) : ∃ n : Nat, a = .int .u64 n ∧ n < 18446744073709551616 := by
 simp only [Go.Ai.ArgT] at h
 rw [show Go.Ai.T.E.P.underlying 33 = Tryz.prog.underlying 33 from rfl, Tryz.underlying33] at h
 obtain ⟨n, hn, h1⟩ := h.int_inv Tryz.underlying33
 simp only [List.cons.injEq, and_true] at hn
 simp [IntKind.min, IntKind.max, IntKind.bits, IntKind.signed] at h1
 obtain ⟨m, rfl⟩ := Int.eq_ofNat_of_zero_le h1.1
 exact ⟨m, hn, by omega⟩
end Go.Proofs.YtfajnnnldhfhiaaGreatDoor

