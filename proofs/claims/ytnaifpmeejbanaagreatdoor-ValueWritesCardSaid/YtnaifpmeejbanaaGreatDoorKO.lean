/- Part KO of the proof that a law of this program answers yes at every input: no conditions beyond the given statement. -/
import Derived.Test.YtnaifpmeejbanaaGreatDoorKE
import Derived.Test.YtnaifpmeejbanaaGreatDoorKH
import Derived.Test.YtnaifpmeejbanaaGreatDoorKI
set_option linter.unusedSimpArgs false
set_option linter.unusedVariables false
set_option linter.all false
/- Are attributes little? And the chapter's examples, wherever they are asked in a law over two values. -/
namespace Go.Ai.T
open Go
set_option maxRecDepth 100000
set_option maxHeartbeats 4000000
theorem fewV_ok {x : Val} (hx : x.wf) (p : Id) (h : Heap) : callW E p 18 [.agg (encV x)] h = some (.bool (decide (0 ≤ roomV x 60 8000)), dropFrom p 0 h) := by
  have h1 := fun q h => roomV_ok.1 x hx 60 8000 (by omega) (by omega) (by omega) (by omega) q h
  rw [eq_18]
  simp -implicitDefEqProofs (maxSteps := 1000000) [Go.Proofs.Tryz.f18, Code.key, h1]
theorem roomK_ok {l : List KV} (hl : l.length ≤ maxStr) (hw : ∀ x ∈ l, x.wf) {d r : Int} (hd : -1 ≤ d) (hd2 : d ≤ 9223372036854775807) (hr : -1 ≤ r) (hr2 : r ≤ 9223372036854775807) (p : Id) (h : Heap) :
    callW E p 57 [.slice (l.map encK) none, .int .i64 d, .int .i64 r] h = some (.int .i64 (roomK l d r), dropFrom p 0 h) :=
  roomK_of hl hw hd hd2 (fun x hx v hv d r => roomV_ok.2 x (hw x hx) v hv d r) hr hr2 p h
theorem fewK_ok {l : List KV} (hl : l.length ≤ maxStr) (hw : ∀ x ∈ l, x.wf) (p : Id) (h : Heap) : callW E p 19 [.slice (l.map encK) none] h = some (.bool (decide (0 ≤ roomK l 60 8000)), dropFrom p 0 h) := by
  have h1 := fun q h => roomK_ok hl hw (d := 60) (r := 8000) (by omega) (by omega) (by omega) (by omega) q h
  rw [eq_19]
  simp -implicitDefEqProofs (maxSteps := 1000000) [Go.Proofs.Tryz.f19, Code.key, h1]
theorem first_at2 (h : Heap) : ∃ h', callW E [2] 10 [] h = some (.bool true, h') ∧ h' [27, 0] = h [27, 0] ∧ h' [27, 1] = h [27, 1] := by
  have h1 : (call E 100 [2] 10 [] h).map (fun r => (r.1, r.2 [27, 0], r.2 [27, 1])) = some (.bool true, h [27, 0], h [27, 1]) := by kernel_rfl
  obtain ⟨⟨v, h'⟩, h2, h3⟩ := Option.map_eq_some_iff.1 h1
  simp only [Prod.mk.injEq] at h3
  obtain ⟨rfl, h4, h5⟩ := h3
  exact ⟨h', callW_some.2 ⟨100, h2⟩, h4, h5⟩
theorem first_at3 (h : Heap) : ∃ h', callW E [3] 10 [] h = some (.bool true, h') ∧ h' [27, 0] = h [27, 0] ∧ h' [27, 1] = h [27, 1] := by
  have h1 : (call E 100 [3] 10 [] h).map (fun r => (r.1, r.2 [27, 0], r.2 [27, 1])) = some (.bool true, h [27, 0], h [27, 1]) := by kernel_rfl
  obtain ⟨⟨v, h'⟩, h2, h3⟩ := Option.map_eq_some_iff.1 h1
  simp only [Prod.mk.injEq] at h3
  obtain ⟨rfl, h4, h5⟩ := h3
  exact ⟨h', callW_some.2 ⟨100, h2⟩, h4, h5⟩
theorem first_at4 (h : Heap) : ∃ h', callW E [4] 10 [] h = some (.bool true, h') ∧ h' [27, 0] = h [27, 0] ∧ h' [27, 1] = h [27, 1] := by
  have h1 : (call E 100 [4] 10 [] h).map (fun r => (r.1, r.2 [27, 0], r.2 [27, 1])) = some (.bool true, h [27, 0], h [27, 1]) := by kernel_rfl
  obtain ⟨⟨v, h'⟩, h2, h3⟩ := Option.map_eq_some_iff.1 h1
  simp only [Prod.mk.injEq] at h3
  obtain ⟨rfl, h4, h5⟩ := h3
  exact ⟨h', callW_some.2 ⟨100, h2⟩, h4, h5⟩
theorem first_at5 (h : Heap) : ∃ h', callW E [5] 10 [] h = some (.bool true, h') ∧ h' [27, 0] = h [27, 0] ∧ h' [27, 1] = h [27, 1] := by
  have h1 : (call E 100 [5] 10 [] h).map (fun r => (r.1, r.2 [27, 0], r.2 [27, 1])) = some (.bool true, h [27, 0], h [27, 1]) := by kernel_rfl
  obtain ⟨⟨v, h'⟩, h2, h3⟩ := Option.map_eq_some_iff.1 h1
  simp only [Prod.mk.injEq] at h3
  obtain ⟨rfl, h4, h5⟩ := h3
  exact ⟨h', callW_some.2 ⟨100, h2⟩, h4, h5⟩
theorem first_at6 (h : Heap) : ∃ h', callW E [6] 10 [] h = some (.bool true, h') ∧ h' [27, 0] = h [27, 0] ∧ h' [27, 1] = h [27, 1] := by
  have h1 : (call E 100 [6] 10 [] h).map (fun r => (r.1, r.2 [27, 0], r.2 [27, 1])) = some (.bool true, h [27, 0], h [27, 1]) := by kernel_rfl
  obtain ⟨⟨v, h'⟩, h2, h3⟩ := Option.map_eq_some_iff.1 h1
  simp only [Prod.mk.injEq] at h3
  obtain ⟨rfl, h4, h5⟩ := h3
  exact ⟨h', callW_some.2 ⟨100, h2⟩, h4, h5⟩
theorem first_at7 (h : Heap) : ∃ h', callW E [7] 10 [] h = some (.bool true, h') ∧ h' [27, 0] = h [27, 0] ∧ h' [27, 1] = h [27, 1] := by
  have h1 : (call E 100 [7] 10 [] h).map (fun r => (r.1, r.2 [27, 0], r.2 [27, 1])) = some (.bool true, h [27, 0], h [27, 1]) := by kernel_rfl
  obtain ⟨⟨v, h'⟩, h2, h3⟩ := Option.map_eq_some_iff.1 h1
  simp only [Prod.mk.injEq] at h3
  obtain ⟨rfl, h4, h5⟩ := h3
  exact ⟨h', callW_some.2 ⟨100, h2⟩, h4, h5⟩
theorem first_at8 (h : Heap) : ∃ h', callW E [8] 10 [] h = some (.bool true, h') ∧ h' [27, 0] = h [27, 0] ∧ h' [27, 1] = h [27, 1] := by
  have h1 : (call E 100 [8] 10 [] h).map (fun r => (r.1, r.2 [27, 0], r.2 [27, 1])) = some (.bool true, h [27, 0], h [27, 1]) := by kernel_rfl
  obtain ⟨⟨v, h'⟩, h2, h3⟩ := Option.map_eq_some_iff.1 h1
  simp only [Prod.mk.injEq] at h3
  obtain ⟨rfl, h4, h5⟩ := h3
  exact ⟨h', callW_some.2 ⟨100, h2⟩, h4, h5⟩
theorem first_at9 (h : Heap) : ∃ h', callW E [9] 10 [] h = some (.bool true, h') ∧ h' [27, 0] = h [27, 0] ∧ h' [27, 1] = h [27, 1] := by
  have h1 : (call E 100 [9] 10 [] h).map (fun r => (r.1, r.2 [27, 0], r.2 [27, 1])) = some (.bool true, h [27, 0], h [27, 1]) := by kernel_rfl
  obtain ⟨⟨v, h'⟩, h2, h3⟩ := Option.map_eq_some_iff.1 h1
  simp only [Prod.mk.injEq] at h3
  obtain ⟨rfl, h4, h5⟩ := h3
  exact ⟨h', callW_some.2 ⟨100, h2⟩, h4, h5⟩
theorem first_at10 (h : Heap) : ∃ h', callW E [10] 10 [] h = some (.bool true, h') ∧ h' [27, 0] = h [27, 0] ∧ h' [27, 1] = h [27, 1] := by
  have h1 : (call E 100 [10] 10 [] h).map (fun r => (r.1, r.2 [27, 0], r.2 [27, 1])) = some (.bool true, h [27, 0], h [27, 1]) := by kernel_rfl
  obtain ⟨⟨v, h'⟩, h2, h3⟩ := Option.map_eq_some_iff.1 h1
  simp only [Prod.mk.injEq] at h3
  obtain ⟨rfl, h4, h5⟩ := h3
  exact ⟨h', callW_some.2 ⟨100, h2⟩, h4, h5⟩
end Go.Ai.T

/- ValueBack answers yes, in the evaluator. -/
namespace Go.Ai.T
open Go
set_option maxRecDepth 100000
set_option maxHeartbeats 4000000
theorem few_sz {x : Val} (h : 0 ≤ roomV x 60 8000) : x.sz ≤ 8000 := by
  have := room_sz.1 x 60 8000 (by omega) h
  omega
theorem fewK_sz {x : KV} (h : 0 ≤ roomK [x] 60 8000) : x.sz ≤ 8000 := by
  rw [roomK, if_neg (by omega), if_pos (by omega), roomKs] at h
  have := room_sz.2 x 60 8000 (by omega) h
  omega
theorem oneK (x : KV) : [encK x] = [x].map encK := rfl
open Classical in
theorem law_back {x : Val} {k : KV} (hx : x.wf) (hk : k.wf) {d e : Int} (hd1 : -9223372036854775808 ≤ d) (hd : d ≤ 9223372036854775807) (_ : -9223372036854775808 ≤ e) (_ : e ≤ 9223372036854775807) :
    ∃ h', callW E [] 8 [.agg (encV x), .agg (encK k), .int .i64 d, .int .i64 e] (fun _ => none) = some (.bool true, h') := by
  have f := fun q h => first_ok q h
  have fx := fun q h => fewV_ok hx q h
  have fk := fun q h => fewK_ok (l := [k]) (by simp [maxStr]) (by simpa using hk) q h
  rw [eq_8]
  by_cases cx : 0 ≤ roomV x 60 8000
  · by_cases ck : 0 ≤ roomK [k] 60 8000
    · have szx := few_sz cx
      have szk := fewK_sz ck
      have hxl := write_sz.1 x hx (by omega)
      have hkl := write_sz.2 k hk (by omega)
      obtain ⟨cs, hcs, hsh⟩ := flatV x
      obtain ⟨cq, hcq, hsk⟩ := flatK k
      by_cases e0 : e < 0
      · simp only [List.map_cons, List.map_nil] at fk
        rw [hcs] at fx ⊢
        rw [hcq] at fk ⊢
        obtain ⟨k0, s0, b0, n0, l0, m0, i0, u0, rfl⟩ := hsh
        obtain ⟨ky, hs', k0', s0', b0', n0', l0', m0', i0', u0', uu, rfl⟩ := hsk
        simp -implicitDefEqProofs (maxSteps := 1000000) [Go.Proofs.Tryz.f8, Code.key, f, fx, fk, cx, ck, e0]
      by_cases e1 : d < e
      · simp only [List.map_cons, List.map_nil] at fk
        rw [hcs] at fx ⊢
        rw [hcq] at fk ⊢
        obtain ⟨k0, s0, b0, n0, l0, m0, i0, u0, rfl⟩ := hsh
        obtain ⟨ky, hs', k0', s0', b0', n0', l0', m0', i0', u0', uu, rfl⟩ := hsk
        simp -implicitDefEqProofs (maxSteps := 1000000) [Go.Proofs.Tryz.f8, Code.key, f, fx, fk, cx, ck, e0, e1]
      have wde : IntKind.i64.wrap (d - e) = d - e := wrap_i64 (by omega) (by omega)
      have m1 := fun q h => marV_ok hx (by omega) hd q h
      have m2 := fun q h => marK_ok hk (by omega) hd q h
      have ma := fun q h => mayV_ok hx (by omega) (d := d - e) (by omega) q h
      have sv := fun q h => same_ok.1 x hx x q h
      have sk := fun q h => same_ok.2 k hk k q h
      simp only [decide_true] at sv sk
      have u1 := fun q h => (unm_all _ d (Nat.le_refl _) hd (writeV x) (by omega)).1 q h
      have u2 := fun q h => (unm_all _ (d - e) (Nat.le_refl _) (by omega) (writeV x) (by omega)).1 q h
      have u3 := fun q h => (unm_all _ d (Nat.le_refl _) hd (writeK k) (by omega)).2 q h
      have bk : mayK k d = true → readK (writeK k) d = (k, none) := fun hm => readK_writeK hm (by omega) hk
      have bv : mayV x d = true → readV (writeV x) d = (x, none) := fun hm => readV_writeV hm (by omega) hx
      have bl := fun hm : mayV x d = true => readV_less (x := x) (d' := d - e) hm (by omega) hx (by omega)
      simp only [List.map_cons, List.map_nil] at fk
      generalize writeV x = wx at *
      generalize writeK k = wk at *
      generalize hmx : mayV x d = mx at *
      generalize hmk : mayK k d = mk at *
      cases mk with
      | false =>
        cases mx with
        | false =>
          simp only [marE, Bool.false_eq_true, if_false, encO_some, encE_code] at m1 m2
          rw [hcs] at fx m1 ⊢
          rw [hcq] at fk m2 ⊢
          obtain ⟨k0, s0, b0, n0, l0, m0, i0, u0, rfl⟩ := hsh
          obtain ⟨ky, hs', k0', s0', b0', n0', l0', m0', i0', u0', uu, rfl⟩ := hsk
          simp -implicitDefEqProofs (maxSteps := 1000000) [Go.Proofs.Tryz.f8, Code.key, f, fx, fk, cx, ck, e0, e1, m1, m2]
        | true =>
          rw [bv rfl] at u1
          obtain ⟨b1, b2⟩ := bl rfl
          simp only [marE, if_true, Bool.false_eq_true, if_false, encO_some, encO_none, encE_code] at m1 m2 u1
          rw [← b1] at ma
          cases hr : (readV wx (d - e)).2 with
          | none =>
            rw [hr, b2 hr] at u2
            rw [hr] at ma
            simp only [Option.isNone_none, encO_none] at ma u2
            rw [hcs] at fx m1 u1 u2 sv ma ⊢
            rw [hcq] at fk m2 ⊢
            obtain ⟨k0, s0, b0, n0, l0, m0, i0, u0, rfl⟩ := hsh
            obtain ⟨ky, hs', k0', s0', b0', n0', l0', m0', i0', u0', uu, rfl⟩ := hsk
            simp -implicitDefEqProofs (maxSteps := 1000000) [Go.Proofs.Tryz.f8, Code.key, f, fx, fk, cx, ck, e0, e1, m1, m2, u1, u2, sv, ma, wde]
          | some y =>
            obtain ⟨t, a, hy⟩ := encE_iface y
            rw [hr] at u2 ma
            obtain ⟨cz, hcz, hsz⟩ := flatV (readV wx (d - e)).1
            rw [hcz] at u2
            obtain ⟨k1, s1, b1', n1, l1, m1', i1, u1', rfl⟩ := hsz
            simp only [Option.isNone_some, encO_some, hy] at ma u2
            rw [hcs] at fx m1 u1 sv ma ⊢
            rw [hcq] at fk m2 ⊢
            obtain ⟨k0, s0, b0, n0, l0, m0, i0, u0, rfl⟩ := hsh
            obtain ⟨ky, hs', k0', s0', b0', n0', l0', m0', i0', u0', uu, rfl⟩ := hsk
            simp -implicitDefEqProofs (maxSteps := 1000000) [Go.Proofs.Tryz.f8, Code.key, f, fx, fk, cx, ck, e0, e1, m1, m2, u1, u2, sv, ma, wde]
      | true =>
        rw [bk rfl] at u3
        cases mx with
        | false =>
          simp only [marE, if_true, Bool.false_eq_true, if_false, encO_some, encO_none, encE_code] at m1 m2 u3
          rw [hcs] at fx m1 ⊢
          rw [hcq] at fk m2 u3 sk ⊢
          obtain ⟨k0, s0, b0, n0, l0, m0, i0, u0, rfl⟩ := hsh
          obtain ⟨ky, hs', k0', s0', b0', n0', l0', m0', i0', u0', uu, rfl⟩ := hsk
          simp -implicitDefEqProofs (maxSteps := 1000000) [Go.Proofs.Tryz.f8, Code.key, f, fx, fk, cx, ck, e0, e1, m1, m2, u3, sk]
        | true =>
          rw [bv rfl] at u1
          obtain ⟨b1, b2⟩ := bl rfl
          simp only [marE, if_true, encO_some, encO_none, encE_code] at m1 m2 u1 u3
          rw [← b1] at ma
          cases hr : (readV wx (d - e)).2 with
          | none =>
            rw [hr, b2 hr] at u2
            rw [hr] at ma
            simp only [Option.isNone_none, encO_none] at ma u2
            rw [hcs] at fx m1 u1 u2 sv ma ⊢
            rw [hcq] at fk m2 u3 sk ⊢
            obtain ⟨k0, s0, b0, n0, l0, m0, i0, u0, rfl⟩ := hsh
            obtain ⟨ky, hs', k0', s0', b0', n0', l0', m0', i0', u0', uu, rfl⟩ := hsk
            simp -implicitDefEqProofs (maxSteps := 1000000) [Go.Proofs.Tryz.f8, Code.key, f, fx, fk, cx, ck, e0, e1, m1, m2, u1, u2, u3, sv, sk, ma, wde]
          | some y =>
            obtain ⟨t, a, hy⟩ := encE_iface y
            rw [hr] at u2 ma
            obtain ⟨cz, hcz, hsz⟩ := flatV (readV wx (d - e)).1
            rw [hcz] at u2
            obtain ⟨k1, s1, b1', n1, l1, m1', i1, u1', rfl⟩ := hsz
            simp only [Option.isNone_some, encO_some, hy] at ma u2
            rw [hcs] at fx m1 u1 sv ma ⊢
            rw [hcq] at fk m2 u3 sk ⊢
            obtain ⟨k0, s0, b0, n0, l0, m0, i0, u0, rfl⟩ := hsh
            obtain ⟨ky, hs', k0', s0', b0', n0', l0', m0', i0', u0', uu, rfl⟩ := hsk
            simp -implicitDefEqProofs (maxSteps := 1000000) [Go.Proofs.Tryz.f8, Code.key, f, fx, fk, cx, ck, e0, e1, m1, m2, u1, u2, u3, sv, sk, ma, wde]
    · simp only [List.map_cons, List.map_nil] at fk
      obtain ⟨cs, hcs, hsh⟩ := flatV x
      obtain ⟨cq, hcq, hsk⟩ := flatK k
      rw [hcs] at fx ⊢
      rw [hcq] at fk ⊢
      obtain ⟨k0, s0, b0, n0, l0, m0, i0, u0, rfl⟩ := hsh
      obtain ⟨ky, hs', k0', s0', b0', n0', l0', m0', i0', u0', uu, rfl⟩ := hsk
      simp -implicitDefEqProofs (maxSteps := 1000000) [Go.Proofs.Tryz.f8, Code.key, f, fx, fk, cx, ck]
  · obtain ⟨cs, hcs, hsh⟩ := flatV x
    obtain ⟨cq, hcq, hsk⟩ := flatK k
    rw [hcs] at fx ⊢
    rw [hcq]
    obtain ⟨k0, s0, b0, n0, l0, m0, i0, u0, rfl⟩ := hsh
    obtain ⟨ky, hs', k0', s0', b0', n0', l0', m0', i0', u0', uu, rfl⟩ := hsk
    simp -implicitDefEqProofs (maxSteps := 1000000) [Go.Proofs.Tryz.f8, Code.key, f, fx, cx]
end Go.Ai.T

