/- Part KG of the proof that a law of this program answers yes at every input: no conditions beyond the given statement. -/
import Derived.Test.YtnaifpmeejbanaaGreatDoorKE
import Derived.Test.YtnaifpmeejbanaaGreatDoorKD
set_option linter.unusedSimpArgs false
set_option linter.unusedVariables false
set_option linter.all false
/- Are two attributes alike: what the program's functions answer. -/
namespace Go.Ai.T
open Go
set_option maxRecDepth 100000
set_option maxHeartbeats 4000000

theorem eqfV_loop {g : Nat} {f : Val → Val → Bool} {p : Id} {c0 : Nat} {xs ys : List Val} (hl : xs.length = ys.length) (hm : xs.length ≤ maxStr)
    (hf : ∀ x ∈ xs, ∀ y ∈ ys, ∀ q h, callW E q g [.agg (encV x), .agg (encV y)] h = some (.bool (f x y), dropFrom q 0 h)) : ∀ (k i c : Nat) (h : Heap), i + k = xs.length → c0 ≤ c →
    ∃ e fr' c', iterW E 58 p [1, 2, 6, 15, 16, 17] L_58_4 c0 ((((((bot.set 17 (.int .i64 i)).set 16 (.int .i64 xs.length)).set 15 (.slice (xs.map encV) none)).set 6 (.bool false)).set 2 (.fn g [])).set 1 (.slice (ys.map encV) none)) c h = some (e, fr', c', dropFrom p c0 h) ∧
      (((xs.drop i).zip (ys.drop i)).all (fun q => f q.1 q.2) = true ∧ e = .exit 0 ∨ ((xs.drop i).zip (ys.drop i)).all (fun q => f q.1 q.2) = false ∧ e = .ret ∧ fr' 6 = .bool false) := by
  intro k
  induction k with
  | zero =>
    intro i c h hi hc
    rw [rd_58_4]
    have h1 : ¬ (i : Int) < xs.length := by omega
    generalize hr : execW E 58 p _ _ _ _ = r
    simp -implicitDefEqProofs [Go.Proofs.Tryz.f58, Code.loopAt, Code.key, h1] at hr
    subst hr
    refine ⟨_, _, _, rfl, .inl ⟨?_, rfl⟩⟩
    rw [List.drop_eq_nil_of_le (by omega)]; rfl
  | succ k ih =>
    intro i c h hi hc
    rw [rd_58_4]
    have h1 : (i : Int) < xs.length := by omega
    have hc1 : c0 ≤ c + 1 := by omega
    have hc2 : c0 ≤ c + 2 := by omega
    obtain ⟨x, hx, hdx⟩ : ∃ x, xs[i]? = some x ∧ xs.drop i = x :: xs.drop (i + 1) := ⟨xs[i], List.getElem?_eq_getElem (by omega), List.drop_eq_getElem_cons (by omega)⟩
    obtain ⟨y, hy, hdy⟩ : ∃ y, ys[i]? = some y ∧ ys.drop i = y :: ys.drop (i + 1) := ⟨ys[i], List.getElem?_eq_getElem (by omega), List.drop_eq_getElem_cons (by omega)⟩
    have hf' := hf _ (List.mem_of_getElem? hx) _ (List.mem_of_getElem? hy)
    have hw : IntKind.i64.wrap ((i : Int) + 1) = (i : Int) + 1 := by rw [wrap_i64 (by omega) (by unfold maxStr at hm; omega)]
    rw [hdx, hdy]
    generalize hr : execW E 58 p _ _ _ _ = r
    simp -implicitDefEqProofs [Go.Proofs.Tryz.f58, Code.loopAt, Code.key, h1, hx, hy, hf', hw] at hr
    cases hv : f x y with
    | false =>
      simp [hv] at hr
      subst hr
      refine ⟨_, _, _, some4 (by simp [hc, hc1, hc2]), .inr ⟨by simp [hv], rfl, rfl⟩⟩
    | true =>
      simp [hv] at hr
      subst hr
      obtain ⟨e, fr', c', g1, g2⟩ := ih (i + 1) (c + 1 + 1 + 1) (dropFrom p c0 h) (by omega) (by omega)
      refine ⟨e, fr', c', ?_, ?_⟩
      · simpa [hc, hc1, hc2] using g1
      · simpa [hv] using g2
theorem eqfV {g : Nat} {f : Val → Val → Bool} {p : Id} {h : Heap} {xs ys : List Val} (hmx : xs.length ≤ maxStr)
    (hf : ∀ x ∈ xs, ∀ y ∈ ys, ∀ q h, callW E q g [.agg (encV x), .agg (encV y)] h = some (.bool (f x y), dropFrom q 0 h)) :
    callW E p 58 [.slice (xs.map encV) none, .slice (ys.map encV) none, .fn g []] h = some (.bool (xs.length == ys.length && (xs.zip ys).all fun q => f q.1 q.2), dropFrom p 0 h) := by
  rw [eq_58]
  by_cases hl : xs.length = ys.length
  · obtain ⟨e, fr', c', g1, g2⟩ := eqfV_loop (p := p) (c0 := 0) (g := g) (f := f) hl hmx hf xs.length 0 0 h (by omega) (Nat.le_refl _)
    simp only [List.drop_zero] at g2
    rw [hl, nat0] at g1
    rcases g2 with ⟨g2, rfl⟩ | ⟨g2, rfl, g3⟩
    · simp -implicitDefEqProofs [Go.Proofs.Tryz.f58, Code.hide, Code.key, hl, g1, g2]
    · simp -implicitDefEqProofs [Go.Proofs.Tryz.f58, Code.hide, Code.key, hl, g1, g2, g3]
  · have h1 : ¬ (xs.length : Int) = ys.length := by omega
    simp -implicitDefEqProofs [Go.Proofs.Tryz.f58, Code.key, Code.hide, hl, h1]
theorem eqfK_loop {g : Nat} {f : KV → KV → Bool} {p : Id} {c0 : Nat} {xs ys : List KV} (hl : xs.length = ys.length) (hm : xs.length ≤ maxStr)
    (hf : ∀ x ∈ xs, ∀ y ∈ ys, ∀ q h, callW E q g [.agg (encK x), .agg (encK y)] h = some (.bool (f x y), dropFrom q 0 h)) : ∀ (k i c : Nat) (h : Heap), i + k = xs.length → c0 ≤ c →
    ∃ e fr' c', iterW E 59 p [1, 2, 6, 15, 16, 17] L_59_4 c0 ((((((bot.set 17 (.int .i64 i)).set 16 (.int .i64 xs.length)).set 15 (.slice (xs.map encK) none)).set 6 (.bool false)).set 2 (.fn g [])).set 1 (.slice (ys.map encK) none)) c h = some (e, fr', c', dropFrom p c0 h) ∧
      (((xs.drop i).zip (ys.drop i)).all (fun q => f q.1 q.2) = true ∧ e = .exit 0 ∨ ((xs.drop i).zip (ys.drop i)).all (fun q => f q.1 q.2) = false ∧ e = .ret ∧ fr' 6 = .bool false) := by
  intro k
  induction k with
  | zero =>
    intro i c h hi hc
    rw [rd_59_4]
    have h1 : ¬ (i : Int) < xs.length := by omega
    generalize hr : execW E 59 p _ _ _ _ = r
    simp -implicitDefEqProofs [Go.Proofs.Tryz.f59, Code.loopAt, Code.key, h1] at hr
    subst hr
    refine ⟨_, _, _, rfl, .inl ⟨?_, rfl⟩⟩
    rw [List.drop_eq_nil_of_le (by omega)]; rfl
  | succ k ih =>
    intro i c h hi hc
    rw [rd_59_4]
    have h1 : (i : Int) < xs.length := by omega
    have hc1 : c0 ≤ c + 1 := by omega
    have hc2 : c0 ≤ c + 2 := by omega
    obtain ⟨x, hx, hdx⟩ : ∃ x, xs[i]? = some x ∧ xs.drop i = x :: xs.drop (i + 1) := ⟨xs[i], List.getElem?_eq_getElem (by omega), List.drop_eq_getElem_cons (by omega)⟩
    obtain ⟨y, hy, hdy⟩ : ∃ y, ys[i]? = some y ∧ ys.drop i = y :: ys.drop (i + 1) := ⟨ys[i], List.getElem?_eq_getElem (by omega), List.drop_eq_getElem_cons (by omega)⟩
    have hf' := hf _ (List.mem_of_getElem? hx) _ (List.mem_of_getElem? hy)
    have hw : IntKind.i64.wrap ((i : Int) + 1) = (i : Int) + 1 := by rw [wrap_i64 (by omega) (by unfold maxStr at hm; omega)]
    rw [hdx, hdy]
    generalize hr : execW E 59 p _ _ _ _ = r
    simp -implicitDefEqProofs [Go.Proofs.Tryz.f59, Code.loopAt, Code.key, h1, hx, hy, hf', hw] at hr
    cases hv : f x y with
    | false =>
      simp [hv] at hr
      subst hr
      refine ⟨_, _, _, some4 (by simp [hc, hc1, hc2]), .inr ⟨by simp [hv], rfl, rfl⟩⟩
    | true =>
      simp [hv] at hr
      subst hr
      obtain ⟨e, fr', c', g1, g2⟩ := ih (i + 1) (c + 1 + 1 + 1) (dropFrom p c0 h) (by omega) (by omega)
      refine ⟨e, fr', c', ?_, ?_⟩
      · simpa [hc, hc1, hc2] using g1
      · simpa [hv] using g2
theorem eqfK {g : Nat} {f : KV → KV → Bool} {p : Id} {h : Heap} {xs ys : List KV} (hmx : xs.length ≤ maxStr)
    (hf : ∀ x ∈ xs, ∀ y ∈ ys, ∀ q h, callW E q g [.agg (encK x), .agg (encK y)] h = some (.bool (f x y), dropFrom q 0 h)) :
    callW E p 59 [.slice (xs.map encK) none, .slice (ys.map encK) none, .fn g []] h = some (.bool (xs.length == ys.length && (xs.zip ys).all fun q => f q.1 q.2), dropFrom p 0 h) := by
  rw [eq_59]
  by_cases hl : xs.length = ys.length
  · obtain ⟨e, fr', c', g1, g2⟩ := eqfK_loop (p := p) (c0 := 0) (g := g) (f := f) hl hmx hf xs.length 0 0 h (by omega) (Nat.le_refl _)
    simp only [List.drop_zero] at g2
    rw [hl, nat0] at g1
    rcases g2 with ⟨g2, rfl⟩ | ⟨g2, rfl, g3⟩
    · simp -implicitDefEqProofs [Go.Proofs.Tryz.f59, Code.hide, Code.key, hl, g1, g2]
    · simp -implicitDefEqProofs [Go.Proofs.Tryz.f59, Code.hide, Code.key, hl, g1, g2, g3]
  · have h1 : ¬ (xs.length : Int) = ys.length := by omega
    simp -implicitDefEqProofs [Go.Proofs.Tryz.f59, Code.key, Code.hide, hl, h1]

theorem eqL_dec {α : Type} [DecidableEq α] (xs ys : List α) : (xs.length == ys.length && (xs.zip ys).all fun q => decide (q.1 = q.2)) = decide (xs = ys) := by
  induction xs generalizing ys with
  | nil => cases ys <;> simp
  | cons x xs ih =>
    cases ys with
    | nil => simp
    | cons y ys =>
      have := ih ys
      rw [Bool.eq_iff_iff] at this ⊢
      simp at this ⊢
      constructor
      · rintro ⟨h1, rfl, h2⟩; exact ⟨rfl, this.1 ⟨h1, h2⟩⟩
      · rintro ⟨rfl, rfl⟩; exact ⟨rfl, rfl, (this.2 rfl).2⟩
open Classical in
/-- value.Same, value.SameKey -/
theorem same_ok : (∀ a : Val, a.wf → ∀ (b : Val) (p : Id) (h : Heap), callW E p 21 [.agg (encV a), .agg (encV b)] h = some (.bool (decide (a = b)), dropFrom p 0 h)) ∧
    ∀ a : KV, a.wf → ∀ (b : KV) (p : Id) (h : Heap), callW E p 20 [.agg (encK a), .agg (encK b)] h = some (.bool (decide (a = b)), dropFrom p 0 h) := by
  refine Val.ind2 ?_ ?_
  · intro k s bb n l m i u ihl ihm hwf b p h
    obtain ⟨k', s', b', n', l', m', i', u'⟩ := b
    obtain ⟨_, _, _, hl, hm, _, _, hwl, hwm⟩ := Val.wf_mk.1 hwf
    have hel : ∀ q h, callW E q 58 [.slice (l.map encV) none, .slice (l'.map encV) none, .fn 21 []] h = some (.bool (decide (l = l')), dropFrom q 0 h) := fun q h => by
      rw [eqfV (f := fun x y => decide (x = y)) hl (fun x hx y _ q h => ihl x hx (hwl x hx) y q h), eqL_dec]
    have hek : ∀ q h, callW E q 59 [.slice (m.map encK) none, .slice (m'.map encK) none, .fn 20 []] h = some (.bool (decide (m = m')), dropFrom q 0 h) := fun q h => by
      rw [eqfK (f := fun x y => decide (x = y)) hm (fun x hx y _ q h => ihm x hx (hwm x hx) y q h), eqL_dec]
    have hsk : ∀ q h, callW E q 22 [.slice (m.map encK) none, .slice (m'.map encK) none] h = some (.bool (decide (m = m')), dropFrom q 0 h) := fun q h => by
      rw [eq_22]
      simp -implicitDefEqProofs [Go.Proofs.Tryz.f22, Code.key, hek]
    rw [eq_21]
    by_cases hk : k = k'
    · subst hk
      by_cases hs : s = s'
      · subst hs
        by_cases hb : bb = b'
        · subst hb
          by_cases hn : n = n'
          · subst hn
            by_cases hi : i = i'
            · subst hi
              by_cases hu : u = u'
              · subst hu
                by_cases hl : l = l'
                · subst hl
                  simp -implicitDefEqProofs [Go.Proofs.Tryz.f21, Code.key, hel, hsk]
                · simp -implicitDefEqProofs [Go.Proofs.Tryz.f21, Code.key, hel, hl]
              · simp -implicitDefEqProofs [Go.Proofs.Tryz.f21, Code.key, hu]
            · simp -implicitDefEqProofs [Go.Proofs.Tryz.f21, Code.key, hi]
          · have hn' : ¬ ((n : Int) = n') := by omega
            simp -implicitDefEqProofs [Go.Proofs.Tryz.f21, Code.key, hn', hn]
        · simp -implicitDefEqProofs [Go.Proofs.Tryz.f21, Code.key, hb]
      · simp -implicitDefEqProofs [Go.Proofs.Tryz.f21, Code.key, hs]
    · simp -implicitDefEqProofs [Go.Proofs.Tryz.f21, Code.key, hk]
  · intro k has v u ih hwf b p h
    obtain ⟨k', has', v', u'⟩ := b
    obtain ⟨_, _, hwv⟩ := KV.wf_mk.1 hwf
    have hv := ih hwv
    rw [eq_20]
    by_cases hk : k = k'
    · subst hk
      by_cases hh : has = has'
      · subst hh
        by_cases hu : u = u'
        · subst hu
          simp -implicitDefEqProofs [Go.Proofs.Tryz.f20, Code.key, hv]
        · simp -implicitDefEqProofs [Go.Proofs.Tryz.f20, Code.key, hu]
      · simp -implicitDefEqProofs [Go.Proofs.Tryz.f20, Code.key, hh]
    · simp -implicitDefEqProofs [Go.Proofs.Tryz.f20, Code.key, hk]
open Classical in
theorem sameKeys_ok {l m : List KV} (hl : l.length ≤ maxStr) (hw : ∀ x ∈ l, x.wf) (p : Id) (h : Heap) : callW E p 22 [.slice (l.map encK) none, .slice (m.map encK) none] h = some (.bool (decide (l = m)), dropFrom p 0 h) := by
  have hek : ∀ q h, callW E q 59 [.slice (l.map encK) none, .slice (m.map encK) none, .fn 20 []] h = some (.bool (decide (l = m)), dropFrom q 0 h) := fun q h => by
    rw [eqfK (f := fun x y => decide (x = y)) hl (fun x hx y _ q h => same_ok.2 x (hw x hx) y q h), eqL_dec]
  rw [eq_22]
  simp -implicitDefEqProofs [Go.Proofs.Tryz.f22, Code.key, hek]
end Go.Ai.T

/- Are two attributes alike: what the reference's functions answer. -/
namespace Go.Ai.T
open Go
set_option maxRecDepth 100000
set_option maxHeartbeats 4000000

theorem drop_facts {α : Type} {l : List α} {j : Nat} {x : α} {xs : List α} (h : l.drop j = x :: xs) : j < l.length ∧ l[j]? = some x ∧ l.drop (j + 1) = xs := by
  have hlt : j < l.length := by
    rcases Nat.lt_or_ge j l.length with h' | h'
    · exact h'
    · rw [List.drop_eq_nil_of_le h'] at h; cases h
  refine ⟨hlt, ?_, ?_⟩
  · have := congrArg (fun l => l[0]?) h
    simpa using this
  · rw [← List.drop_drop, h]; rfl
theorem drop_end {α : Type} {l : List α} {j : Nat} (h : l.drop j = []) : ¬ (j : Int) < l.length := by
  have := congrArg List.length h
  simp at this; omega
theorem drop_lt {α : Type} {l : List α} {j : Nat} {x : α} {xs : List α} (h : l.drop j = x :: xs) : (j : Int) < l.length := by
  have := (drop_facts h).1; omega
theorem wrap_succ {j n : Nat} (h : j < n) (hn : n ≤ maxStr) : IntKind.i64.wrap ((j : Int) + 1) = (j : Int) + 1 := by
  rw [wrap_i64 (by omega) (by unfold maxStr at hn; omega)]

open Classical in
theorem rKeys_loop {p : Id} {c0 : Nat} {l m : List KV} (hl : l.length ≤ maxStr)
    (hf : ∀ x ∈ l, ∀ y, ∀ q h, callW E q 17 [.agg (encK x), .agg (encK y)] h = some (.bool (decide (x = y)), dropFrom q 0 h)) :
    ∀ (ra rb : List KV), ra.length = rb.length → ∃ dj dc : Nat, ∀ (j c : Nat) (h : Heap), l.drop j = ra → m.drop j = rb → c0 ≤ c →
    iterW E 23 p [0, 1, 4, 5] L_23_4 c0 ((((bot.set 5 (.int .i64 j)).set 4 (.bool false)).set 1 (.slice (m.map encK) none)).set 0 (.slice (l.map encK) none)) c h =
      some (if ra = rb then .exit 0 else .ret, (((bot.set 5 (.int .i64 (j + dj : Nat))).set 4 (.bool false)).set 1 (.slice (m.map encK) none)).set 0 (.slice (l.map encK) none), c + dc, dropFrom p c0 h) := by
  intro ra
  induction ra with
  | nil =>
    intro rb hrb
    obtain rfl : rb = [] := List.eq_nil_of_length_eq_zero hrb.symm
    refine ⟨0, 0, fun j c h hj hj2 hc => ?_⟩
    rw [rd_23_4]
    have h1 := drop_end hj
    generalize hr : execW E 23 p _ _ _ _ = e
    simp -implicitDefEqProofs [Go.Proofs.Tryz.f23, Code.loopAt, Code.key, h1] at hr
    subst hr
    rfl
  | cons x xs ih =>
    intro rb hrb
    cases rb with
    | nil => cases hrb
    | cons y ys =>
      obtain ⟨dj, dc, ih⟩ := ih ys (by simpa using hrb)
      refine ⟨if x = y then dj + 1 else 0, if x = y then dc + 1 else 1, fun j c h hj hj2 hc => ?_⟩
      rw [rd_23_4]
      obtain ⟨hlt, hx, hxs⟩ := drop_facts hj
      obtain ⟨_, hy, hys⟩ := drop_facts hj2
      have h1 := drop_lt hj
      have hw := wrap_succ hlt hl
      have hf' := hf x (List.mem_of_getElem? hx) y
      generalize hr : execW E 23 p _ _ _ _ = e
      by_cases hxy : x = y
      · subst hxy
        simp -implicitDefEqProofs [Go.Proofs.Tryz.f23, Code.loopAt, Code.key, h1, hx, hy, hw, hf'] at hr
        subst hr
        have g := ih (j + 1) (c + 1) (dropFrom p c0 h) hxs hys (by omega)
        rw [if_pos rfl, if_pos rfl, show j + (dj + 1) = j + 1 + dj by omega, show c + (dc + 1) = c + 1 + dc by omega]
        simpa [hc] using g
      · simp -implicitDefEqProofs [Go.Proofs.Tryz.f23, Code.loopAt, Code.key, h1, hx, hy, hw, hf', hxy] at hr
        subst hr
        simp [hxy, hc]
open Classical in
theorem rKeys_of {l m : List KV} (hl : l.length ≤ maxStr)
    (hf : ∀ x ∈ l, ∀ y, ∀ q h, callW E q 17 [.agg (encK x), .agg (encK y)] h = some (.bool (decide (x = y)), dropFrom q 0 h)) (p : Id) (h : Heap) :
    callW E p 23 [.slice (l.map encK) none, .slice (m.map encK) none] h = some (.bool (decide (l = m)), dropFrom p 0 h) := by
  rw [eq_23]
  by_cases hlm : l.length = m.length
  · obtain ⟨dj, dc, g⟩ := rKeys_loop (p := p) (c0 := 0) hl hf l m hlm
    have g := fun h => g 0 0 h rfl rfl (Nat.le_refl _)
    rw [nat0] at g
    by_cases he : l = m
    · subst he
      simp -implicitDefEqProofs [Go.Proofs.Tryz.f23, Code.hide, Code.key, g]
    · have hl' : ((l.length : Nat) : Int) = m.length := by omega
      simp -implicitDefEqProofs [Go.Proofs.Tryz.f23, Code.hide, Code.key, g, he, hl']
  · have h1 : ¬ ((l.length : Nat) : Int) = m.length := by omega
    have he : ¬ l = m := fun e => hlm (by rw [e])
    simp -implicitDefEqProofs [Go.Proofs.Tryz.f23, Code.hide, Code.key, h1, he]
open Classical in
theorem rValue_loop {p : Id} {c0 : Nat} {k k' : Int} {s s' : List UInt8} {b b' : Bool} {n n' : Nat} {l l' : List Val} {m m' : List KV} {i i' u u' : List UInt8} (hl : l.length ≤ maxStr) (h0 : 2 ≤ c0)
    (hf : ∀ x ∈ l, ∀ y, ∀ q h, callW E q 16 [.agg (encV x), .agg (encV y)] h = some (.bool (decide (x = y)), dropFrom q 0 h)) :
    ∀ (ra rb : List Val), ra.length = rb.length → ∃ dj dc : Nat, ∀ (j c : Nat) (h : Heap), l.drop j = ra → l'.drop j = rb → c0 ≤ c →
      h (27 :: 0 :: p) = some [.int .i64 k, .str s, .bool b, .int .u64 n, .slice (l.map encV) none, .slice (m.map encK) none, .str i, .str u] →
      h (27 :: 1 :: p) = some [.int .i64 k', .str s', .bool b', .int .u64 n', .slice (l'.map encV) none, .slice (m'.map encK) none, .str i', .str u'] →
    iterW E 16 p [2, 3, 4, 5] L_16_4 c0 ((((bot.set 5 (.int .i64 j)).set 4 (.bool false)).set 3 (.ptr (27 :: 1 :: p) 0)).set 2 (.ptr (27 :: 0 :: p) 0)) c h =
      some (if ra = rb then .exit 0 else .ret, (((bot.set 5 (.int .i64 (j + dj : Nat))).set 4 (.bool false)).set 3 (.ptr (27 :: 1 :: p) 0)).set 2 (.ptr (27 :: 0 :: p) 0), c + dc, dropFrom p c0 h) := by
  intro ra
  have hc0 : ¬ c0 = 0 := by omega
  have hc1 : ¬ c0 ≤ 1 := by omega
  induction ra with
  | nil =>
    intro rb hrb
    obtain rfl : rb = [] := List.eq_nil_of_length_eq_zero hrb.symm
    refine ⟨0, 0, fun j c h hj hj2 hc hh1 hh2 => ?_⟩
    rw [rd_16_4]
    have h1 := drop_end hj
    generalize hr : execW E 16 p _ _ _ _ = e
    simp -implicitDefEqProofs [Go.Proofs.Tryz.f16, Code.loopAt, Code.key, h1, hh1, hh2] at hr
    subst hr
    rfl
  | cons x xs ih =>
    intro rb hrb
    cases rb with
    | nil => cases hrb
    | cons y ys =>
      obtain ⟨dj, dc, ih⟩ := ih ys (by simpa using hrb)
      refine ⟨if x = y then dj + 1 else 0, if x = y then dc + 1 else 1, fun j c h hj hj2 hc hh1 hh2 => ?_⟩
      rw [rd_16_4]
      obtain ⟨hlt, hx, hxs⟩ := drop_facts hj
      obtain ⟨_, hy, hys⟩ := drop_facts hj2
      have h1 := drop_lt hj
      have hw := wrap_succ hlt hl
      have hf' := hf x (List.mem_of_getElem? hx) y
      generalize hr : execW E 16 p _ _ _ _ = e
      by_cases hxy : x = y
      · subst hxy
        simp -implicitDefEqProofs [Go.Proofs.Tryz.f16, Code.loopAt, Code.key, h1, hx, hy, hw, hf', hh1, hh2] at hr
        subst hr
        have g := ih (j + 1) (c + 1) (dropFrom p c0 h) hxs hys (by omega) (by simp [hc0, hh1]) (by simp [hc1, hh2])
        rw [if_pos rfl, if_pos rfl, show j + (dj + 1) = j + 1 + dj by omega, show c + (dc + 1) = c + 1 + dc by omega]
        simpa [hc] using g
      · simp -implicitDefEqProofs [Go.Proofs.Tryz.f16, Code.loopAt, Code.key, h1, hx, hy, hw, hf', hxy, hh1, hh2] at hr
        subst hr
        simp [hxy, hc]

open Classical in
/-- hygref.Value, hygref.Key -/
theorem rsame_ok : (∀ a : Val, a.wf → ∀ (b : Val) (p : Id) (h : Heap), callW E p 16 [.agg (encV a), .agg (encV b)] h = some (.bool (decide (a = b)), dropFrom p 0 h)) ∧
    ∀ a : KV, a.wf → ∀ (b : KV) (p : Id) (h : Heap), callW E p 17 [.agg (encK a), .agg (encK b)] h = some (.bool (decide (a = b)), dropFrom p 0 h) := by
  refine Val.ind2 ?_ ?_
  · intro k s bb n l m i u ihl ihm hwf b p h
    obtain ⟨k', s', b', n', l', m', i', u'⟩ := b
    obtain ⟨_, _, _, hl, hm, _, _, hwl, hwm⟩ := Val.wf_mk.1 hwf
    have hek := fun q h => rKeys_of (l := m) (m := m') hm (fun x hx y q h => ihm x hx (hwm x hx) y q h) q h
    rw [eq_16]
    by_cases hk : k = k'
    · subst hk
      by_cases hs : s = s'
      · subst hs
        by_cases hb : bb = b'
        · subst hb
          by_cases hn : n = n'
          · subst hn
            by_cases hi : i = i'
            · subst hi
              by_cases hu : u = u'
              · subst hu
                by_cases hll : l.length = l'.length
                · by_cases hmm : m = m'
                  · subst hmm
                    obtain ⟨dj, dc, g⟩ := rValue_loop (p := p) (c0 := 3) (k := k) (k' := k) (s := s) (s' := s) (b := bb) (b' := bb) (n := n) (n' := n) (m := m) (m' := m) (i := i) (i' := i) (u := u) (u' := u) hl (by omega) (fun x hx y q h => ihl x hx (hwl x hx) y q h) l l' hll
                    have g := fun h => g 0 3 h rfl rfl (Nat.le_refl _)
                    rw [nat0] at g
                    by_cases hlm : l = l'
                    · subst hlm
                      simp -implicitDefEqProofs [Go.Proofs.Tryz.f16, Code.key, Code.hide, hek, g]
                    · have hl' : ((l.length : Nat) : Int) = l'.length := by omega
                      simp -implicitDefEqProofs [Go.Proofs.Tryz.f16, Code.key, Code.hide, hek, g, hlm, hl']
                  · have hl' : ((l.length : Nat) : Int) = l'.length := by omega
                    simp -implicitDefEqProofs [Go.Proofs.Tryz.f16, Code.key, Code.hide, hek, hmm, hl']
                · have hl' : ¬ ((l.length : Nat) : Int) = l'.length := by omega
                  have hlm : ¬ l = l' := fun e => hll (by rw [e])
                  simp -implicitDefEqProofs [Go.Proofs.Tryz.f16, Code.key, Code.hide, hl', hlm]
              · simp -implicitDefEqProofs [Go.Proofs.Tryz.f16, Code.key, Code.hide, hu]
            · simp -implicitDefEqProofs [Go.Proofs.Tryz.f16, Code.key, Code.hide, hi]
          · have hn' : ¬ ((n : Int) = n') := by omega
            simp -implicitDefEqProofs [Go.Proofs.Tryz.f16, Code.key, Code.hide, hn', hn]
        · simp -implicitDefEqProofs [Go.Proofs.Tryz.f16, Code.key, Code.hide, hb]
      · simp -implicitDefEqProofs [Go.Proofs.Tryz.f16, Code.key, Code.hide, hs]
    · simp -implicitDefEqProofs [Go.Proofs.Tryz.f16, Code.key, Code.hide, hk]
  · intro k has v u ih hwf b p h
    obtain ⟨k', has', v', u'⟩ := b
    obtain ⟨_, _, hwv⟩ := KV.wf_mk.1 hwf
    have hv := ih hwv
    rw [eq_17]
    by_cases hk : k = k'
    · subst hk
      by_cases hh : has = has'
      · subst hh
        by_cases hu : u = u'
        · subst hu
          simp -implicitDefEqProofs [Go.Proofs.Tryz.f17, Code.key, hv]
        · simp -implicitDefEqProofs [Go.Proofs.Tryz.f17, Code.key, hu]
      · simp -implicitDefEqProofs [Go.Proofs.Tryz.f17, Code.key, hh]
    · simp -implicitDefEqProofs [Go.Proofs.Tryz.f17, Code.key, hk]
open Classical in
theorem rKeys_ok {l m : List KV} (hl : l.length ≤ maxStr) (hw : ∀ x ∈ l, x.wf) (p : Id) (h : Heap) : callW E p 23 [.slice (l.map encK) none, .slice (m.map encK) none] h = some (.bool (decide (l = m)), dropFrom p 0 h) :=
  rKeys_of hl (fun x hx y q h => rsame_ok.2 x (hw x hx) y q h) p h
end Go.Ai.T

/- How much there is: room is measured. -/
namespace Go.Ai.T
open Go
set_option maxRecDepth 100000
set_option maxHeartbeats 4000000

/-- hygref.take -/
def takeR (room n : Int) : Int := if room < 0 ∨ n > room - 20 then -1 else room - n - 20
theorem take_ok {room n : Int} (h1 : -1 ≤ room) (h2 : room ≤ 9223372036854775807) (h3 : 0 ≤ n) (p : Id) (h : Heap) : callW E p 94 [.int .i64 room, .int .i64 n] h = some (.int .i64 (takeR room n), dropFrom p 0 h) := by
  rw [eq_94]
  unfold takeR
  by_cases hr : room < 0
  · simp -implicitDefEqProofs [Go.Proofs.Tryz.f94, hr]
  · have hw : IntKind.i64.wrap (room - 20) = room - 20 := wrap_i64 (by omega) (by omega)
    by_cases hn : n > room - 20
    · simp -implicitDefEqProofs [Go.Proofs.Tryz.f94, hr, hw, hn]
    · have hn' : ¬ room - 20 < n := hn
      have hw2 : IntKind.i64.wrap (room - n) = room - n := wrap_i64 (by omega) (by omega)
      have hw3 : IntKind.i64.wrap (room - n - 20) = room - n - 20 := wrap_i64 (by omega) (by omega)
      simp -implicitDefEqProofs [Go.Proofs.Tryz.f94, hr, hw, hn', hw2, hw3]
theorem takeR_le {room n : Int} (h1 : -1 ≤ room) (h3 : 0 ≤ n) : -1 ≤ takeR room n ∧ takeR room n ≤ room := by
  unfold takeR; split <;> omega

mutual
def roomV : Val → Int → Int → Int
  | .mk _ s _ _ l m i u, d, r => if d < 0 then -1 else roomK m (d - 1) (roomVs l (d - 1) (takeR (takeR (takeR r s.length) i.length) u.length))
def roomVs : List Val → Int → Int → Int
  | [], _, r => r
  | x :: xs, d, r => if 0 ≤ r then roomVs xs d (roomV x d r) else r
def roomK : List KV → Int → Int → Int
  | [], _, r => r
  | x :: xs, d, r => if d < 0 then -1 else if 0 ≤ r then roomKs xs d (roomKV x d r) else r
def roomKs : List KV → Int → Int → Int
  | [], _, r => r
  | x :: xs, d, r => if 0 ≤ r then roomKs xs d (roomKV x d r) else r
def roomKV : KV → Int → Int → Int
  | .mk k _ v u, d, r => roomV v d (takeR (takeR r k.length) u.length)
end
theorem roomK_eq (l : List KV) (d r : Int) : roomK l d r = if d < 0 ∧ l ≠ [] then -1 else roomKs l d r := by
  cases l with
  | nil => rw [roomK, roomKs]; simp
  | cons x xs => rw [roomK, roomKs]; simp

theorem room_le : (∀ x : Val, ∀ d r : Int, -1 ≤ r → -1 ≤ roomV x d r ∧ roomV x d r ≤ r) ∧ ∀ x : KV, ∀ d r : Int, -1 ≤ r → -1 ≤ roomKV x d r ∧ roomKV x d r ≤ r := by
  refine Val.ind2 ?_ ?_
  · intro k s b n l m i u ihl ihm d r hr
    have hVs : ∀ (l : List Val), (∀ x ∈ l, ∀ d r : Int, -1 ≤ r → -1 ≤ roomV x d r ∧ roomV x d r ≤ r) → ∀ d r : Int, -1 ≤ r → -1 ≤ roomVs l d r ∧ roomVs l d r ≤ r := by
      intro l
      induction l with
      | nil => intro _ d r hr; rw [roomVs]; omega
      | cons x xs ih =>
        intro h d r hr
        rw [roomVs]
        split
        · have h1 := h x (by simp) d r hr
          have h2 := ih (fun y hy => h y (by simp [hy])) d (roomV x d r) h1.1
          omega
        · omega
    have hKs : ∀ (l : List KV), (∀ x ∈ l, ∀ d r : Int, -1 ≤ r → -1 ≤ roomKV x d r ∧ roomKV x d r ≤ r) → ∀ d r : Int, -1 ≤ r → -1 ≤ roomKs l d r ∧ roomKs l d r ≤ r := by
      intro l
      induction l with
      | nil => intro _ d r hr; rw [roomKs]; omega
      | cons x xs ih =>
        intro h d r hr
        rw [roomKs]
        split
        · have h1 := h x (by simp) d r hr
          have h2 := ih (fun y hy => h y (by simp [hy])) d (roomKV x d r) h1.1
          omega
        · omega
    rw [roomV]
    split
    · omega
    · have t1 := takeR_le (room := r) (n := s.length) hr (by omega)
      have t2 := takeR_le (n := i.length) t1.1 (by omega)
      have t3 := takeR_le (n := u.length) t2.1 (by omega)
      have t4 := hVs l ihl (d - 1) _ t3.1
      rw [roomK_eq]
      split
      · omega
      · have t5 := hKs m ihm (d - 1) _ t4.1
        omega
  · intro k h v u ih d r hr
    rw [roomKV]
    have t1 := takeR_le (room := r) (n := k.length) hr (by omega)
    have t2 := takeR_le (n := u.length) t1.1 (by omega)
    have t3 := ih d _ t2.1
    omega

theorem roomV_loop {p : Id} {c0 : Nat} {k : Int} {s : List UInt8} {b : Bool} {n : Nat} {l : List Val} {m : List KV} {i u : List UInt8} (hl : l.length ≤ maxStr) (h0 : 1 ≤ c0) {d : Int} (hd : 0 ≤ d) (hd2 : d ≤ 9223372036854775807)
    (hf : ∀ x ∈ l, ∀ (d r : Int), -1 ≤ d → d ≤ 9223372036854775807 → -1 ≤ r → r ≤ 9223372036854775807 → ∀ q h, callW E q 56 [.agg (encV x), .int .i64 d, .int .i64 r] h = some (.int .i64 (roomV x d r), dropFrom q 0 h)) :
    ∀ (rest : List Val) (r : Int), -1 ≤ r → r ≤ 9223372036854775807 → ∃ dj dc : Nat, ∀ (j c : Nat) (h : Heap), l.drop j = rest → j ≤ l.length → c0 ≤ c → h (27 :: 0 :: p) = some [.int .i64 k, .str s, .bool b, .int .u64 n, .slice (l.map encV) none, .slice (m.map encK) none, .str i, .str u] →
    iterW E 56 p [1, 2, 3, 7] L_56_5 c0 ((((bot.set 7 (.int .i64 j)).set 3 (.ptr (27 :: 0 :: p) 0)).set 2 (.int .i64 r)).set 1 (.int .i64 d)) c h =
      some (.exit 0, (((bot.set 7 (.int .i64 (j + dj : Nat))).set 3 (.ptr (27 :: 0 :: p) 0)).set 2 (.int .i64 (roomVs rest (d - 1) r))).set 1 (.int .i64 d), c + dc, dropFrom p c0 h) := by
  intro rest
  have hc0 : ¬ c0 ≤ 0 := by omega
  induction rest with
  | nil =>
    intro r hr hr2
    refine ⟨0, 0, fun j c h hj hjl hc hh => ?_⟩
    rw [rd_56_5]
    have h1 : ¬ (j : Int) < l.length := by
      have := congrArg List.length hj
      simp at this; omega
    generalize hr : execW E 56 p _ _ _ _ = e
    simp -implicitDefEqProofs [Go.Proofs.Tryz.f56, Code.loopAt, Code.key, h1, hh] at hr
    subst hr
    rw [roomVs]
    rfl
  | cons x xs ih =>
    intro r hr hr2
    rw [roomVs]
    have hrl := room_le.1 x (d - 1) r hr
    obtain ⟨dj, dc, ih⟩ := ih (roomV x (d - 1) r) hrl.1 (by omega)
    refine ⟨if 0 ≤ r then dj + 1 else 0, if 0 ≤ r then dc + 1 else 0, fun j c h hj hjl hc hh => ?_⟩
    rw [rd_56_5]
    have hlt : j < l.length := by
      rcases Nat.lt_or_ge j l.length with h' | h'
      · exact h'
      · rw [List.drop_eq_nil_of_le h'] at hj; cases hj
    have h1 : (j : Int) < l.length := by omega
    have hx : l[j]? = some x := by
      have := congrArg (fun l => l[0]?) hj
      simpa using this
    have hxs : l.drop (j + 1) = xs := by
      rw [← List.drop_drop, hj]; rfl
    by_cases h2 : 0 ≤ r
    · have hw : IntKind.i64.wrap ((j : Int) + 1) = (j : Int) + 1 := by rw [wrap_i64 (by omega) (by unfold maxStr at hl; omega)]
      have hw2 : IntKind.i64.wrap (d - 1) = d - 1 := wrap_i64 (by omega) (by omega)
      have hf' := hf x (List.mem_of_getElem? hx) (d - 1) r (by omega) (by omega) hr hr2
      generalize hr : execW E 56 p _ _ _ _ = e
      simp -implicitDefEqProofs [Go.Proofs.Tryz.f56, Code.loopAt, Code.key, h1, hh, h2, hx, hw, hw2, hf'] at hr
      subst hr
      have g := ih (j + 1) (c + 1) (dropFrom p c0 h) hxs (by omega) (by omega) (by simp [hc0, hh])
      rw [if_pos h2, if_pos h2, if_pos h2, show j + (dj + 1) = j + 1 + dj by omega, show c + (dc + 1) = c + 1 + dc by omega]
      simpa [hc] using g
    · rw [if_neg h2, if_neg h2, if_neg h2]
      generalize hr : execW E 56 p _ _ _ _ = e
      simp -implicitDefEqProofs [Go.Proofs.Tryz.f56, Code.loopAt, Code.key, h1, hh, h2] at hr
      subst hr
      rfl

theorem roomK_loop {p : Id} {c0 : Nat} {l : List KV} (hl : l.length ≤ maxStr) (hw : ∀ x ∈ l, x.wf) {d : Int} (hd : -1 ≤ d) (hd2 : d ≤ 9223372036854775807)
    (hf : ∀ x ∈ l, ∀ v, (∃ k hs u, x = .mk k hs v u) → ∀ (d r : Int), -1 ≤ d → d ≤ 9223372036854775807 → -1 ≤ r → r ≤ 9223372036854775807 → ∀ q h, callW E q 56 [.agg (encV v), .int .i64 d, .int .i64 r] h = some (.int .i64 (roomV v d r), dropFrom q 0 h)) :
    ∀ (rest : List KV) (r : Int), -1 ≤ r → r ≤ 9223372036854775807 → ∃ dj dc : Nat, ∀ (j c : Nat) (h : Heap), l.drop j = rest → j ≤ l.length → c0 ≤ c →
    iterW E 57 p [0, 1, 2, 7] L_57_4 c0 ((((bot.set 7 (.int .i64 j)).set 2 (.int .i64 r)).set 1 (.int .i64 d)).set 0 (.slice (l.map encK) none)) c h =
      some (.exit 0, (((bot.set 7 (.int .i64 (j + dj : Nat))).set 2 (.int .i64 (roomKs rest d r))).set 1 (.int .i64 d)).set 0 (.slice (l.map encK) none), c + dc, dropFrom p c0 h) := by
  intro rest
  induction rest with
  | nil =>
    intro r hr hr2
    refine ⟨0, 0, fun j c h hj hjl hc => ?_⟩
    rw [rd_57_4]
    have h1 : ¬ (j : Int) < l.length := by
      have := congrArg List.length hj
      simp at this; omega
    generalize hr : execW E 57 p _ _ _ _ = e
    simp -implicitDefEqProofs [Go.Proofs.Tryz.f57, Code.loopAt, Code.key, h1] at hr
    subst hr
    rw [roomKs]
    rfl
  | cons x xs ih =>
    intro r hr hr2
    rw [roomKs]
    have hrl := room_le.2 x d r hr
    obtain ⟨dj, dc, ih⟩ := ih (roomKV x d r) hrl.1 (by omega)
    refine ⟨if 0 ≤ r then dj + 1 else 0, if 0 ≤ r then dc + 3 else 0, fun j c h hj hjl hc => ?_⟩
    rw [rd_57_4]
    have hlt : j < l.length := by
      rcases Nat.lt_or_ge j l.length with h' | h'
      · exact h'
      · rw [List.drop_eq_nil_of_le h'] at hj; cases hj
    have h1 : (j : Int) < l.length := by omega
    have hx : l[j]? = some x := by
      have := congrArg (fun l => l[0]?) hj
      simpa using this
    have hxs : l.drop (j + 1) = xs := by
      rw [← List.drop_drop, hj]; rfl
    have hxm := List.mem_of_getElem? hx
    obtain ⟨k, hs, v, u⟩ := x
    obtain ⟨w1, w2, _⟩ := KV.wf_mk.1 (hw _ hxm)
    rw [roomKV] at ih ⊢
    by_cases h2 : 0 ≤ r
    · have hw : IntKind.i64.wrap ((j : Int) + 1) = (j : Int) + 1 := by rw [wrap_i64 (by omega) (by unfold maxStr at hl; omega)]
      have ht1 := fun q h => take_ok (room := r) (n := k.length) hr hr2 (by omega) q h
      have hl1 := takeR_le (room := r) (n := k.length) hr (by omega)
      have ht2 := fun q h => take_ok (room := takeR r k.length) (n := u.length) hl1.1 (by omega) (by omega) q h
      have hl2 := takeR_le (room := takeR r k.length) (n := u.length) hl1.1 (by omega)
      have hf' := hf _ hxm v ⟨_, _, _, rfl⟩ d (takeR (takeR r k.length) u.length) (by omega) (by omega) hl2.1 (by omega)
      generalize hr : execW E 57 p _ _ _ _ = e
      simp -implicitDefEqProofs [Go.Proofs.Tryz.f57, Code.loopAt, Code.key, h1, h2, hx, hw, ht1, ht2, hf'] at hr
      subst hr
      have g := ih (j + 1) (c + 1 + 1 + 1) (dropFrom p c0 h) hxs (by omega) (by omega)
      rw [if_pos h2, if_pos h2, if_pos h2, show j + (dj + 1) = j + 1 + dj by omega, show c + (dc + 3) = c + 1 + 1 + 1 + dc by omega]
      have hc1 : c0 ≤ c + 1 := by omega
      have hc2 : c0 ≤ c + 2 := by omega
      simpa [hc, hc1, hc2] using g
    · rw [if_neg h2, if_neg h2, if_neg h2]
      generalize hr : execW E 57 p _ _ _ _ = e
      simp -implicitDefEqProofs [Go.Proofs.Tryz.f57, Code.loopAt, Code.key, h1, h2] at hr
      subst hr
      rfl

theorem roomK_of {l : List KV} (hl : l.length ≤ maxStr) (hw : ∀ x ∈ l, x.wf) {d : Int} (hd : -1 ≤ d) (hd2 : d ≤ 9223372036854775807)
    (hf : ∀ x ∈ l, ∀ v, (∃ k hs u, x = .mk k hs v u) → ∀ (d r : Int), -1 ≤ d → d ≤ 9223372036854775807 → -1 ≤ r → r ≤ 9223372036854775807 → ∀ q h, callW E q 56 [.agg (encV v), .int .i64 d, .int .i64 r] h = some (.int .i64 (roomV v d r), dropFrom q 0 h))
    {r : Int} (hr : -1 ≤ r) (hr2 : r ≤ 9223372036854775807) (p : Id) (h : Heap) : callW E p 57 [.slice (l.map encK) none, .int .i64 d, .int .i64 r] h = some (.int .i64 (roomK l d r), dropFrom p 0 h) := by
  rw [eq_57, roomK_eq]
  by_cases hc : d < 0 ∧ l ≠ []
  · have h1 : (0 : Int) < l.length := by
      have := List.length_pos_iff.2 hc.2
      omega
    rw [if_pos hc]
    simp -implicitDefEqProofs [Go.Proofs.Tryz.f57, Code.hide, Code.key, hc.1, hc.2]
  · obtain ⟨dj, dc, g⟩ := roomK_loop (p := p) (c0 := 0) hl hw hd hd2 hf l r hr hr2
    have g := g 0 0 h rfl (Nat.zero_le _) (Nat.le_refl _)
    rw [if_neg hc]
    rw [nat0] at g
    by_cases hd0 : d < 0
    · have hl0 : l = [] := by
        rcases Classical.em (l = []) with h | h
        · exact h
        · exact absurd ⟨hd0, h⟩ hc
      subst hl0
      simp at g
      simp -implicitDefEqProofs [Go.Proofs.Tryz.f57, Code.hide, Code.key, hd0, g]
    · simp -implicitDefEqProofs [Go.Proofs.Tryz.f57, Code.hide, Code.key, hd0, g]

theorem roomV_ok : (∀ x : Val, x.wf → ∀ (d r : Int), -1 ≤ d → d ≤ 9223372036854775807 → -1 ≤ r → r ≤ 9223372036854775807 → ∀ q h, callW E q 56 [.agg (encV x), .int .i64 d, .int .i64 r] h = some (.int .i64 (roomV x d r), dropFrom q 0 h)) ∧
    ∀ x : KV, x.wf → ∀ v, (∃ k hs u, x = .mk k hs v u) → ∀ (d r : Int), -1 ≤ d → d ≤ 9223372036854775807 → -1 ≤ r → r ≤ 9223372036854775807 → ∀ q h, callW E q 56 [.agg (encV v), .int .i64 d, .int .i64 r] h = some (.int .i64 (roomV v d r), dropFrom q 0 h) := by
  refine Val.ind2 ?_ ?_
  · intro k s b n l m i u ihl ihm hwf d r hd hd2 hr hr2 p h
    obtain ⟨_, hs, _, hl, hm, hi, hu, hwl, hwm⟩ := Val.wf_mk.1 hwf
    rw [eq_56, roomV]
    by_cases hd0 : d < 0
    · simp -implicitDefEqProofs [Go.Proofs.Tryz.f56, Code.hide, Code.key, hd0]
    · have ht1 := fun q h => take_ok (room := r) (n := s.length) hr hr2 (by omega) q h
      have hl1 := takeR_le (room := r) (n := s.length) hr (by omega)
      have ht2 := fun q h => take_ok (room := takeR r s.length) (n := i.length) hl1.1 (by omega) (by omega) q h
      have hl2 := takeR_le (room := takeR r s.length) (n := i.length) hl1.1 (by omega)
      have ht3 := fun q h => take_ok (room := takeR (takeR r s.length) i.length) (n := u.length) hl2.1 (by omega) (by omega) q h
      have hl3 := takeR_le (room := takeR (takeR r s.length) i.length) (n := u.length) hl2.1 (by omega)
      have hw2 : IntKind.i64.wrap (d - 1) = d - 1 := wrap_i64 (by omega) (by omega)
      have hrl : -1 ≤ roomVs l (d - 1) (takeR (takeR (takeR r s.length) i.length) u.length) ∧ roomVs l (d - 1) (takeR (takeR (takeR r s.length) i.length) u.length) ≤ r := by
        have : ∀ (l : List Val) (r : Int), -1 ≤ r → -1 ≤ roomVs l (d - 1) r ∧ roomVs l (d - 1) r ≤ r := by
          intro l
          induction l with
          | nil => intro r hr; rw [roomVs]; omega
          | cons x xs ih =>
            intro r hr
            rw [roomVs]
            split
            · have h1 := room_le.1 x (d - 1) r hr
              have h2 := ih _ h1.1
              omega
            · omega
        have := this l _ hl3.1
        omega
      have hk := fun q h => roomK_of hm hwm (d := d - 1) (by omega) (by omega) (fun x hx v hv d r => ihm x hx (hwm x hx) v hv d r) hrl.1 (by omega) q h
      obtain ⟨dj, dc, g⟩ := roomV_loop (p := p) (c0 := 4) (k := k) (s := s) (b := b) (n := n) (m := m) (i := i) (u := u) hl (by omega) (d := d) (by omega) hd2 (fun x hx d r => ihl x hx (hwl x hx) d r) l _ hl3.1 (by omega)
      have g := fun h => g 0 4 h rfl (Nat.zero_le _) (Nat.le_refl _)
      rw [nat0] at g
      simp -implicitDefEqProofs [Go.Proofs.Tryz.f56, Code.hide, Code.key, hd0, ht1, ht2, ht3, g, hw2, hk]
  · intro k hs v u ih hwf v' hv
    obtain ⟨_, _, _, e⟩ := hv
    cases e
    exact ih (KV.wf_mk.1 hwf).2.2
end Go.Ai.T

/- Are attributes little? And the chapter's examples, wherever they are asked in a law over two values. -/
namespace Go.Ai.T
open Go
set_option maxRecDepth 100000
set_option maxHeartbeats 4000000
theorem fewV_ok {x : Val} (hx : x.wf) (p : Id) (h : Heap) : callW E p 18 [.agg (encV x)] h = some (.bool (decide (0 ≤ roomV x 60 8000)), dropFrom p 0 h) := by
  have h1 := fun q h => roomV_ok.1 x hx 60 8000 (by omega) (by omega) (by omega) (by omega) q h
  rw [eq_18]
  simp -implicitDefEqProofs [Go.Proofs.Tryz.f18, Code.key, h1]
theorem roomK_ok {l : List KV} (hl : l.length ≤ maxStr) (hw : ∀ x ∈ l, x.wf) {d r : Int} (hd : -1 ≤ d) (hd2 : d ≤ 9223372036854775807) (hr : -1 ≤ r) (hr2 : r ≤ 9223372036854775807) (p : Id) (h : Heap) :
    callW E p 57 [.slice (l.map encK) none, .int .i64 d, .int .i64 r] h = some (.int .i64 (roomK l d r), dropFrom p 0 h) :=
  roomK_of hl hw hd hd2 (fun x hx v hv d r => roomV_ok.2 x (hw x hx) v hv d r) hr hr2 p h
theorem fewK_ok {l : List KV} (hl : l.length ≤ maxStr) (hw : ∀ x ∈ l, x.wf) (p : Id) (h : Heap) : callW E p 19 [.slice (l.map encK) none] h = some (.bool (decide (0 ≤ roomK l 60 8000)), dropFrom p 0 h) := by
  have h1 := fun q h => roomK_ok hl hw (d := 60) (r := 8000) (by omega) (by omega) (by omega) (by omega) q h
  rw [eq_19]
  simp -implicitDefEqProofs [Go.Proofs.Tryz.f19, Code.key, h1]
theorem first_at2 (h : Heap) : ∃ h', callW E [2] 10 [] h = some (.bool true, h') ∧ h' [27, 0] = h [27, 0] ∧ h' [27, 1] = h [27, 1] := by
  have h1 : (call E 100 [2] 10 [] h).map (fun r => (r.1, r.2 [27, 0], r.2 [27, 1])) = some (.bool true, h [27, 0], h [27, 1]) := by kernel_rfl
  obtain ⟨⟨v, h'⟩, h2, h3⟩ := Option.map_eq_some_iff.1 h1
  simp only [Prod.mk.injEq] at h3
  obtain ⟨rfl, h4, h5⟩ := h3
  exact ⟨h', callW_some.2 ⟨100, h2⟩, h4, h5⟩
theorem first_at3 (h : Heap) : ∃ h', callW E [3] 10 [] h = some (.bool true, h') ∧ h' [27, 0] = h [27, 0] ∧ h' [27, 1] = h [27, 1] := by
  have h1 : (call E 100 [3] 10 [] h).map (fun r => (r.1, r.2 [27, 0], r.2 [27, 1])) = some (.bool true, h [27, 0], h [27, 1]) := by kernel_rfl
  obtain ⟨⟨v, h'⟩, h2, h3⟩ := Option.map_eq_some_iff.1 h1
  simp only [Prod.mk.injEq] at h3
  obtain ⟨rfl, h4, h5⟩ := h3
  exact ⟨h', callW_some.2 ⟨100, h2⟩, h4, h5⟩
theorem first_at4 (h : Heap) : ∃ h', callW E [4] 10 [] h = some (.bool true, h') ∧ h' [27, 0] = h [27, 0] ∧ h' [27, 1] = h [27, 1] := by
  have h1 : (call E 100 [4] 10 [] h).map (fun r => (r.1, r.2 [27, 0], r.2 [27, 1])) = some (.bool true, h [27, 0], h [27, 1]) := by kernel_rfl
  obtain ⟨⟨v, h'⟩, h2, h3⟩ := Option.map_eq_some_iff.1 h1
  simp only [Prod.mk.injEq] at h3
  obtain ⟨rfl, h4, h5⟩ := h3
  exact ⟨h', callW_some.2 ⟨100, h2⟩, h4, h5⟩
theorem first_at5 (h : Heap) : ∃ h', callW E [5] 10 [] h = some (.bool true, h') ∧ h' [27, 0] = h [27, 0] ∧ h' [27, 1] = h [27, 1] := by
  have h1 : (call E 100 [5] 10 [] h).map (fun r => (r.1, r.2 [27, 0], r.2 [27, 1])) = some (.bool true, h [27, 0], h [27, 1]) := by kernel_rfl
  obtain ⟨⟨v, h'⟩, h2, h3⟩ := Option.map_eq_some_iff.1 h1
  simp only [Prod.mk.injEq] at h3
  obtain ⟨rfl, h4, h5⟩ := h3
  exact ⟨h', callW_some.2 ⟨100, h2⟩, h4, h5⟩
theorem first_at6 (h : Heap) : ∃ h', callW E [6] 10 [] h = some (.bool true, h') ∧ h' [27, 0] = h [27, 0] ∧ h' [27, 1] = h [27, 1] := by
  have h1 : (call E 100 [6] 10 [] h).map (fun r => (r.1, r.2 [27, 0], r.2 [27, 1])) = some (.bool true, h [27, 0], h [27, 1]) := by kernel_rfl
  obtain ⟨⟨v, h'⟩, h2, h3⟩ := Option.map_eq_some_iff.1 h1
  simp only [Prod.mk.injEq] at h3
  obtain ⟨rfl, h4, h5⟩ := h3
  exact ⟨h', callW_some.2 ⟨100, h2⟩, h4, h5⟩
theorem first_at7 (h : Heap) : ∃ h', callW E [7] 10 [] h = some (.bool true, h') ∧ h' [27, 0] = h [27, 0] ∧ h' [27, 1] = h [27, 1] := by
  have h1 : (call E 100 [7] 10 [] h).map (fun r => (r.1, r.2 [27, 0], r.2 [27, 1])) = some (.bool true, h [27, 0], h [27, 1]) := by kernel_rfl
  obtain ⟨⟨v, h'⟩, h2, h3⟩ := Option.map_eq_some_iff.1 h1
  simp only [Prod.mk.injEq] at h3
  obtain ⟨rfl, h4, h5⟩ := h3
  exact ⟨h', callW_some.2 ⟨100, h2⟩, h4, h5⟩
theorem first_at8 (h : Heap) : ∃ h', callW E [8] 10 [] h = some (.bool true, h') ∧ h' [27, 0] = h [27, 0] ∧ h' [27, 1] = h [27, 1] := by
  have h1 : (call E 100 [8] 10 [] h).map (fun r => (r.1, r.2 [27, 0], r.2 [27, 1])) = some (.bool true, h [27, 0], h [27, 1]) := by kernel_rfl
  obtain ⟨⟨v, h'⟩, h2, h3⟩ := Option.map_eq_some_iff.1 h1
  simp only [Prod.mk.injEq] at h3
  obtain ⟨rfl, h4, h5⟩ := h3
  exact ⟨h', callW_some.2 ⟨100, h2⟩, h4, h5⟩
theorem first_at9 (h : Heap) : ∃ h', callW E [9] 10 [] h = some (.bool true, h') ∧ h' [27, 0] = h [27, 0] ∧ h' [27, 1] = h [27, 1] := by
  have h1 : (call E 100 [9] 10 [] h).map (fun r => (r.1, r.2 [27, 0], r.2 [27, 1])) = some (.bool true, h [27, 0], h [27, 1]) := by kernel_rfl
  obtain ⟨⟨v, h'⟩, h2, h3⟩ := Option.map_eq_some_iff.1 h1
  simp only [Prod.mk.injEq] at h3
  obtain ⟨rfl, h4, h5⟩ := h3
  exact ⟨h', callW_some.2 ⟨100, h2⟩, h4, h5⟩
theorem first_at10 (h : Heap) : ∃ h', callW E [10] 10 [] h = some (.bool true, h') ∧ h' [27, 0] = h [27, 0] ∧ h' [27, 1] = h [27, 1] := by
  have h1 : (call E 100 [10] 10 [] h).map (fun r => (r.1, r.2 [27, 0], r.2 [27, 1])) = some (.bool true, h [27, 0], h [27, 1]) := by kernel_rfl
  obtain ⟨⟨v, h'⟩, h2, h3⟩ := Option.map_eq_some_iff.1 h1
  simp only [Prod.mk.injEq] at h3
  obtain ⟨rfl, h4, h5⟩ := h3
  exact ⟨h', callW_some.2 ⟨100, h2⟩, h4, h5⟩
end Go.Ai.T

/- ValueSame answers yes, in the evaluator. -/
namespace Go.Ai.T
open Go
set_option maxRecDepth 100000
set_option maxHeartbeats 4000000
open Classical in
theorem law_same {a b : Val} {l m : List KV} (ha : a.wf) (hb : b.wf) (hl : l.length ≤ maxStr) (hm : m.length ≤ maxStr) (hwl : ∀ x ∈ l, x.wf) (hwm : ∀ x ∈ m, x.wf) :
    ∃ h', callW E [] 4 [.agg (encV a), .agg (encV b), .slice (l.map encK) none, .slice (m.map encK) none] (fun _ => none) = some (.bool true, h') := by
  obtain ⟨F2, hF2⟩ := Classical.axiomOfChoice first_at2
  have e2 := fun h => (hF2 h).1
  have i2 := fun h => (hF2 h).2.1
  have j2 := fun h => (hF2 h).2.2
  clear hF2
  obtain ⟨F3, hF3⟩ := Classical.axiomOfChoice first_at3
  have e3 := fun h => (hF3 h).1
  have i3 := fun h => (hF3 h).2.1
  have j3 := fun h => (hF3 h).2.2
  clear hF3
  obtain ⟨F4, hF4⟩ := Classical.axiomOfChoice first_at4
  have e4 := fun h => (hF4 h).1
  have i4 := fun h => (hF4 h).2.1
  have j4 := fun h => (hF4 h).2.2
  clear hF4
  obtain ⟨F5, hF5⟩ := Classical.axiomOfChoice first_at5
  have e5 := fun h => (hF5 h).1
  have i5 := fun h => (hF5 h).2.1
  have j5 := fun h => (hF5 h).2.2
  clear hF5
  obtain ⟨F6, hF6⟩ := Classical.axiomOfChoice first_at6
  have e6 := fun h => (hF6 h).1
  have i6 := fun h => (hF6 h).2.1
  have j6 := fun h => (hF6 h).2.2
  clear hF6
  obtain ⟨F7, hF7⟩ := Classical.axiomOfChoice first_at7
  have e7 := fun h => (hF7 h).1
  have i7 := fun h => (hF7 h).2.1
  have j7 := fun h => (hF7 h).2.2
  clear hF7
  obtain ⟨F8, hF8⟩ := Classical.axiomOfChoice first_at8
  have e8 := fun h => (hF8 h).1
  have i8 := fun h => (hF8 h).2.1
  have j8 := fun h => (hF8 h).2.2
  clear hF8
  obtain ⟨F9, hF9⟩ := Classical.axiomOfChoice first_at9
  have e9 := fun h => (hF9 h).1
  have i9 := fun h => (hF9 h).2.1
  have j9 := fun h => (hF9 h).2.2
  clear hF9
  obtain ⟨F10, hF10⟩ := Classical.axiomOfChoice first_at10
  have e10 := fun h => (hF10 h).1
  have i10 := fun h => (hF10 h).2.1
  have j10 := fun h => (hF10 h).2.2
  clear hF10
  have fa := fun q h => fewV_ok ha q h
  have fb := fun q h => fewV_ok hb q h
  have fl := fun q h => fewK_ok hl hwl q h
  have fm := fun q h => fewK_ok hm hwm q h
  have sab := fun q h => same_ok.1 a ha b q h
  have saa := fun q h => same_ok.1 a ha a q h
  have slm := fun q h => sameKeys_ok (m := m) hl hwl q h
  have sll := fun q h => sameKeys_ok (m := l) hl hwl q h
  have rab := fun q h => rsame_ok.1 a ha b q h
  have rlm := fun q h => rKeys_ok (m := m) hl hwl q h
  rw [eq_4]
  by_cases ca : 0 ≤ roomV a 60 8000
  · by_cases cb : 0 ≤ roomV b 60 8000
    · by_cases cl : 0 ≤ roomK l 60 8000
      · by_cases cm : 0 ≤ roomK m 60 8000
        · by_cases c1 : (0 : Int) < l.length
          · by_cases c2 : (0 : Int) < m.length
            · have m1 : 0 < l.length := by omega
              have m2 : 0 < m.length := by omega
              have sk := fun q h => same_ok.2 (l[0]'m1) (hwl _ (List.getElem_mem m1)) (m[0]'m2) q h
              have rk := fun q h => rsame_ok.2 (l[0]'m1) (hwl _ (List.getElem_mem m1)) (m[0]'m2) q h
              have c1' : l ≠ [] := by rintro rfl; simp at c1
              have c2' : m ≠ [] := by rintro rfl; simp at c2
              simp -implicitDefEqProofs (maxSteps := 1000000) [m1, m2, Go.Proofs.Tryz.f4, Code.key, ca, cb, cl, cm, c1, c2, c1', c2', sk, rk, fa, fb, fl, fm, sab, saa, slm, sll, rab, rlm, e2, e3, e4, e5, e6, e7, e8, e9, e10, i2, i7, i8, i9, j2, j7, j8, j9]
            · have c1' : l ≠ [] := by rintro rfl; simp at c1
              have c2' : m = [] := by cases m with | nil => rfl | cons y ys => simp at c2
              have m1 : 0 < l.length := by omega
              have m2 : ¬ 0 < m.length := by omega
              simp -implicitDefEqProofs (maxSteps := 1000000) [m1, m2, Go.Proofs.Tryz.f4, Code.key, ca, cb, cl, cm, c1, c2, eq_true c2', c1', fa, fb, fl, fm, sab, saa, slm, sll, rab, rlm, e2, e3, e4, e5, e6, e7, e8, e9, e10, i2, i7, i8, i9, j2, j7, j8, j9]
          · have c1' : l = [] := by cases l with | nil => rfl | cons y ys => simp at c1
            have m1 : ¬ 0 < l.length := by omega
            simp -implicitDefEqProofs (maxSteps := 1000000) [m1, Go.Proofs.Tryz.f4, Code.key, ca, cb, cl, cm, c1, eq_true c1', fa, fb, fl, fm, sab, saa, slm, sll, rab, rlm, e2, e3, e4, e5, e6, e7, e8, e9, e10, i2, i7, i8, i9, j2, j7, j8, j9]
        · simp -implicitDefEqProofs (maxSteps := 1000000) [Go.Proofs.Tryz.f4, Code.key, ca, cb, cl, cm, fa, fb, fl, fm, sab, saa, slm, sll, rab, rlm, e2, e3, e4, e5, e6, e7, e8, e9, e10, i2, i7, i8, i9, j2, j7, j8, j9]
      · simp -implicitDefEqProofs (maxSteps := 1000000) [Go.Proofs.Tryz.f4, Code.key, ca, cb, cl, fa, fb, fl, fm, sab, saa, slm, sll, rab, rlm, e2, e3, e4, e5, e6, e7, e8, e9, e10, i2, i7, i8, i9, j2, j7, j8, j9]
    · simp -implicitDefEqProofs (maxSteps := 1000000) [Go.Proofs.Tryz.f4, Code.key, ca, cb, fa, fb, fl, fm, sab, saa, slm, sll, rab, rlm, e2, e3, e4, e5, e6, e7, e8, e9, e10, i2, i7, i8, i9, j2, j7, j8, j9]
  · simp -implicitDefEqProofs (maxSteps := 1000000) [Go.Proofs.Tryz.f4, Code.key, ca, fa, fb, fl, fm, sab, saa, slm, sll, rab, rlm, e2, e3, e4, e5, e6, e7, e8, e9, e10, i2, i7, i8, i9, j2, j7, j8, j9]
end Go.Ai.T

