/- Part KH of the proof that a law of this program answers yes at every input: no conditions beyond the given statement. -/
import Derived.Test.YtalicejjbahmpaaGreatDoorKE
import Derived.Test.YtalicejjbahmpaaGreatDoorKM
import Derived.Test.YtalicejjbahmpaaGreatDoorKG
import Derived.Test.YtalicejjbahmpaaGreatDoorKD
set_option linter.unusedSimpArgs false
set_option linter.unusedVariables false
set_option linter.all false
namespace Go.Ai.T
open Go Go.Proofs
set_option maxRecDepth 100000
set_option maxHeartbeats 4000000
def rsFr (s : List UInt8) (q n lo hi i : Nat) : Fr := ((((((bot.set 9 (.int .i64 i)).set 8 (.int .u8 hi)).set 7 (.int .u8 lo)).set 6 (.int .i64 n)).set 4 (.int .i64 0)).set 1 (.int .i64 q)).set 0 (.str s)
theorem rsign_loop {s : List UInt8} (hb : s.length ≤ 1099511627776) {q n : Nat} (hq : q < s.length) (hn : n ≤ 4) : ∀ (m i lo hi : Nat), i + m = n → ∃ lo' hi' i' : Nat, ∀ (p : Id) (c0 c : Nat) (h : Heap),
  iterW E 93 p [0, 1, 4, 6, 7, 8, 9] L_93_22 c0 (rsFr s q n lo hi i) c h =
   some (if okRest m (s.drop (q + i)) lo hi = true then .exit 2 else .ret, rsFr s q n lo' hi' i', c, dropFrom p c0 h) := by
 intro m
 induction m with
 | zero =>
  intro i lo hi hi'
  refine ⟨lo, hi, i, fun p c0 c h => ?_⟩
  have h1 : ¬ (i : Int) < n := by omega
  unfold rsFr
  rw [rd_93_22]
  generalize hr : execW E 93 p _ _ _ _ = e
  simp -implicitDefEqProofs (maxSteps := 1000000) [Tryz.f93, Code.loopAt, Code.key, h1] at hr
  subst hr
  simp [okRest]
 | succ m ih =>
  intro i lo hi hi'
  have h1 : (i : Int) < n := by omega
  have hw1 : IntKind.i64.wrap ((q : Int) + i) = ((q + i : Nat) : Int) := by rw [wrap_i64 (by omega) (by omega)]; rfl
  have hw2 : IntKind.i64.wrap ((i : Int) + 1) = ((i + 1 : Nat) : Int) := by rw [wrap_i64 (by omega) (by omega)]; rfl
  unfold rsFr at ih ⊢
  cases hd : s.drop (q + i) with
  | nil =>
   have h2 : ((s.length : Nat) : Int) ≤ ((q + i : Nat) : Int) := by have := congrArg List.length hd; simp at this; omega
   refine ⟨lo, hi, i, fun p c0 c h => ?_⟩
   rw [rd_93_22]
   generalize hr : execW E 93 p _ _ _ _ = e
   simp -implicitDefEqProofs (maxSteps := 1000000) [-Int.natCast_add, Tryz.f93, Code.loopAt, Code.key, h1, hw1, h2] at hr
   subst hr
   simp [okRest]
  | cons b bs =>
   obtain ⟨hlt, hbb, hbs⟩ := drop_facts hd
   have h2 : ¬ ((s.length : Nat) : Int) ≤ ((q + i : Nat) : Int) := by omega
   have hget : ∀ hl, s[q + i]'hl = b := fun hl => by rw [List.getElem?_eq_getElem hl] at hbb; exact Option.some.inj hbb
   by_cases h3 : (b.toNat : Int) < lo
   ·refine ⟨lo, hi, i, fun p c0 c h => ?_⟩
    rw [rd_93_22]
    generalize hr : execW E 93 p _ _ _ _ = e
    simp -implicitDefEqProofs (maxSteps := 1000000) [-Int.natCast_add, Tryz.f93, Code.loopAt, Code.key, h1, hw1, h2, hlt, hget, hbb, h3] at hr
    subst hr
    have : ¬ lo ≤ b.toNat := by omega
    simp [okRest, this]
   by_cases h4 : (hi : Int) < b.toNat
   ·refine ⟨lo, hi, i, fun p c0 c h => ?_⟩
    rw [rd_93_22]
    generalize hr : execW E 93 p _ _ _ _ = e
    simp -implicitDefEqProofs (maxSteps := 1000000) [-Int.natCast_add, Tryz.f93, Code.loopAt, Code.key, h1, hw1, h2, hlt, hget, hbb, h3, h4] at hr
    subst hr
    have : ¬ b.toNat ≤ hi := by omega
    simp [okRest, this]
   ·obtain ⟨lo', hi2, i', gl⟩ := ih (i + 1) 128 191 (by omega)
    refine ⟨lo', hi2, i', fun p c0 c h => ?_⟩
    rw [rd_93_22]
    generalize hr : execW E 93 p _ _ _ _ = e
    simp -implicitDefEqProofs (maxSteps := 1000000) [-Int.natCast_add, Tryz.f93, Code.loopAt, Code.key, h1, hw1, hw2, h2, hlt, hget, hbb, h3, h4] at hr
    subst hr
    have e1 : lo ≤ b.toNat ∧ b.toNat ≤ hi := by omega
    have hbs' : s.drop (q + (i + 1)) = bs := hbs
    have e := gl p c0 c (dropFrom p c0 h)
    rw [hbs'] at e
    simpa [-Int.natCast_add, okRest, e1] using e
theorem rsign_ok {s : List UInt8} (hb : s.length ≤ 1099511627776) {q : Nat} (hq : q < s.length) (p : Id) (h : Heap) : callW E p 93 [.str s, .int .i64 q] h = some (.int .i64 (uSign (s.drop q)), dropFrom p 0 h) := by
 obtain ⟨c, hc⟩ : ∃ c, s[q]? = some c := ⟨_, List.getElem?_eq_getElem hq⟩
 have hget : ∀ hl, s[q]'hl = c := fun hl => by rw [List.getElem?_eq_getElem hl] at hc; exact Option.some.inj hc
 have hd : s.drop q = c :: s.drop (q + 1) := by rw [List.drop_eq_getElem_cons hq, hget]
 rw [eq_93, hd, uSign_ref]
 have c256 : c.toNat < 256 := c.toNat_lt
 have x1 : ((128 : Nat) : Int) = 128 := rfl
 have x2 : ((191 : Nat) : Int) = 191 := rfl
 have x3 : ((160 : Nat) : Int) = 160 := rfl
 have x4 : ((159 : Nat) : Int) = 159 := rfl
 have x5 : ((144 : Nat) : Int) = 144 := rfl
 have x6 : ((143 : Nat) : Int) = 143 := rfl
 by_cases h1 : (c.toNat : Int) < 128
 ·have e : uSize c.toNat = 1 := by unfold uSize; (repeat' split) <;> omega
  rw [e]
  simp -implicitDefEqProofs (maxSteps := 1000000) [Tryz.f93, Code.hide, Code.key, h1, hc, hget, hq]
 by_cases k : 194 ≤ c.toNat ∧ c.toNat ≤ 223
 ·have e : uSize c.toNat = 2 := by unfold uSize; (repeat' split) <;> omega
  have e1 : uLo c.toNat = 128 := by unfold uLo; (repeat' split) <;> omega
  have e2 : uHi c.toNat = 191 := by unfold uHi; (repeat' split) <;> omega
  have n0 : ¬ (c.toNat : Int) < 128 := by omega
  have n1 : 194 ≤ (c.toNat : Int) := by omega
  have n2 : (c.toNat : Int) ≤ 223 := by omega
  have n3 : ¬ (c.toNat : Int) = 224 := by omega
  have n4 : ¬ (c.toNat : Int) = 237 := by omega
  have n5 : ¬ (c.toNat : Int) = 240 := by omega
  have n6 : ¬ (c.toNat : Int) = 244 := by omega
  obtain ⟨lo', hi', i', gl⟩ := rsign_loop hb hq (n := 2) (by omega) 1 1 128 191 rfl
  simp only [rsFr, nl1, nl2, nl3, nl4, x1, x2, x3, x4, x5, x6] at gl
  rw [e, e1, e2]
  by_cases hk : okRest 1 (s.drop (q + 1)) 128 191 = true
  ·simp only [hk, if_true] at gl
   simp -implicitDefEqProofs (maxSteps := 1000000) [Tryz.f93, Code.hide, Code.key, hc, hget, hq, n0, n1, n2, n3, n4, n5, n6, gl, hk]
  ·simp only [if_neg hk] at gl
   simp -implicitDefEqProofs (maxSteps := 1000000) [Tryz.f93, Code.hide, Code.key, hc, hget, hq, n0, n1, n2, n3, n4, n5, n6, gl, hk]
 by_cases k : c.toNat = 224
 ·have e : uSize c.toNat = 3 := by unfold uSize; (repeat' split) <;> omega
  have e1 : uLo c.toNat = 160 := by unfold uLo; (repeat' split) <;> omega
  have e2 : uHi c.toNat = 191 := by unfold uHi; (repeat' split) <;> omega
  have n0 : (c.toNat : Int) = 224 := by omega
  obtain ⟨lo', hi', i', gl⟩ := rsign_loop hb hq (n := 3) (by omega) 2 1 160 191 rfl
  simp only [rsFr, nl1, nl2, nl3, nl4, x1, x2, x3, x4, x5, x6] at gl
  rw [e, e1, e2]
  by_cases hk : okRest 2 (s.drop (q + 1)) 160 191 = true
  ·simp only [hk, if_true] at gl
   simp -implicitDefEqProofs (maxSteps := 1000000) [Tryz.f93, Code.hide, Code.key, hc, hget, hq, n0, gl, hk]
  ·simp only [if_neg hk] at gl
   simp -implicitDefEqProofs (maxSteps := 1000000) [Tryz.f93, Code.hide, Code.key, hc, hget, hq, n0, gl, hk]
 by_cases k : c.toNat = 237
 ·have e : uSize c.toNat = 3 := by unfold uSize; (repeat' split) <;> omega
  have e1 : uLo c.toNat = 128 := by unfold uLo; (repeat' split) <;> omega
  have e2 : uHi c.toNat = 159 := by unfold uHi; (repeat' split) <;> omega
  have n0 : (c.toNat : Int) = 237 := by omega
  obtain ⟨lo', hi', i', gl⟩ := rsign_loop hb hq (n := 3) (by omega) 2 1 128 159 rfl
  simp only [rsFr, nl1, nl2, nl3, nl4, x1, x2, x3, x4, x5, x6] at gl
  rw [e, e1, e2]
  by_cases hk : okRest 2 (s.drop (q + 1)) 128 159 = true
  ·simp only [hk, if_true] at gl
   simp -implicitDefEqProofs (maxSteps := 1000000) [Tryz.f93, Code.hide, Code.key, hc, hget, hq, n0, gl, hk]
  ·simp only [if_neg hk] at gl
   simp -implicitDefEqProofs (maxSteps := 1000000) [Tryz.f93, Code.hide, Code.key, hc, hget, hq, n0, gl, hk]
 by_cases k : 224 < c.toNat ∧ c.toNat ≤ 239 ∧ c.toNat ≠ 237
 ·have e : uSize c.toNat = 3 := by unfold uSize; (repeat' split) <;> omega
  have e1 : uLo c.toNat = 128 := by unfold uLo; (repeat' split) <;> omega
  have e2 : uHi c.toNat = 191 := by unfold uHi; (repeat' split) <;> omega
  have n0 : ¬ (c.toNat : Int) < 128 := by omega
  have n1 : 194 ≤ (c.toNat : Int) := by omega
  have n2 : ¬ (c.toNat : Int) ≤ 223 := by omega
  have n3 : 224 ≤ (c.toNat : Int) := by omega
  have n4 : (c.toNat : Int) ≤ 239 := by omega
  have n5 : ¬ (c.toNat : Int) = 224 := by omega
  have n6 : ¬ (c.toNat : Int) = 237 := by omega
  have n7 : ¬ (c.toNat : Int) = 240 := by omega
  have n8 : ¬ (c.toNat : Int) = 244 := by omega
  obtain ⟨lo', hi', i', gl⟩ := rsign_loop hb hq (n := 3) (by omega) 2 1 128 191 rfl
  simp only [rsFr, nl1, nl2, nl3, nl4, x1, x2, x3, x4, x5, x6] at gl
  rw [e, e1, e2]
  by_cases hk : okRest 2 (s.drop (q + 1)) 128 191 = true
  ·simp only [hk, if_true] at gl
   simp -implicitDefEqProofs (maxSteps := 1000000) [Tryz.f93, Code.hide, Code.key, hc, hget, hq, n0, n1, n2, n3, n4, n5, n6, n7, n8, gl, hk]
  ·simp only [if_neg hk] at gl
   simp -implicitDefEqProofs (maxSteps := 1000000) [Tryz.f93, Code.hide, Code.key, hc, hget, hq, n0, n1, n2, n3, n4, n5, n6, n7, n8, gl, hk]
 by_cases k : c.toNat = 240
 ·have e : uSize c.toNat = 4 := by unfold uSize; (repeat' split) <;> omega
  have e1 : uLo c.toNat = 144 := by unfold uLo; (repeat' split) <;> omega
  have e2 : uHi c.toNat = 191 := by unfold uHi; (repeat' split) <;> omega
  have n0 : (c.toNat : Int) = 240 := by omega
  obtain ⟨lo', hi', i', gl⟩ := rsign_loop hb hq (n := 4) (by omega) 3 1 144 191 rfl
  simp only [rsFr, nl1, nl2, nl3, nl4, x1, x2, x3, x4, x5, x6] at gl
  rw [e, e1, e2]
  by_cases hk : okRest 3 (s.drop (q + 1)) 144 191 = true
  ·simp only [hk, if_true] at gl
   simp -implicitDefEqProofs (maxSteps := 1000000) [Tryz.f93, Code.hide, Code.key, hc, hget, hq, n0, gl, hk]
  ·simp only [if_neg hk] at gl
   simp -implicitDefEqProofs (maxSteps := 1000000) [Tryz.f93, Code.hide, Code.key, hc, hget, hq, n0, gl, hk]
 by_cases k : c.toNat = 244
 ·have e : uSize c.toNat = 4 := by unfold uSize; (repeat' split) <;> omega
  have e1 : uLo c.toNat = 128 := by unfold uLo; (repeat' split) <;> omega
  have e2 : uHi c.toNat = 143 := by unfold uHi; (repeat' split) <;> omega
  have n0 : (c.toNat : Int) = 244 := by omega
  obtain ⟨lo', hi', i', gl⟩ := rsign_loop hb hq (n := 4) (by omega) 3 1 128 143 rfl
  simp only [rsFr, nl1, nl2, nl3, nl4, x1, x2, x3, x4, x5, x6] at gl
  rw [e, e1, e2]
  by_cases hk : okRest 3 (s.drop (q + 1)) 128 143 = true
  ·simp only [hk, if_true] at gl
   simp -implicitDefEqProofs (maxSteps := 1000000) [Tryz.f93, Code.hide, Code.key, hc, hget, hq, n0, gl, hk]
  ·simp only [if_neg hk] at gl
   simp -implicitDefEqProofs (maxSteps := 1000000) [Tryz.f93, Code.hide, Code.key, hc, hget, hq, n0, gl, hk]
 by_cases k : 240 < c.toNat ∧ c.toNat < 244
 ·have e : uSize c.toNat = 4 := by unfold uSize; (repeat' split) <;> omega
  have e1 : uLo c.toNat = 128 := by unfold uLo; (repeat' split) <;> omega
  have e2 : uHi c.toNat = 191 := by unfold uHi; (repeat' split) <;> omega
  have n0 : ¬ (c.toNat : Int) < 128 := by omega
  have n1 : 194 ≤ (c.toNat : Int) := by omega
  have n2 : ¬ (c.toNat : Int) ≤ 223 := by omega
  have n3 : 224 ≤ (c.toNat : Int) := by omega
  have n4 : ¬ (c.toNat : Int) ≤ 239 := by omega
  have n5 : 240 ≤ (c.toNat : Int) := by omega
  have n6 : (c.toNat : Int) ≤ 244 := by omega
  have n7 : ¬ (c.toNat : Int) = 224 := by omega
  have n8 : ¬ (c.toNat : Int) = 237 := by omega
  have n9 : ¬ (c.toNat : Int) = 240 := by omega
  have n10 : ¬ (c.toNat : Int) = 244 := by omega
  obtain ⟨lo', hi', i', gl⟩ := rsign_loop hb hq (n := 4) (by omega) 3 1 128 191 rfl
  simp only [rsFr, nl1, nl2, nl3, nl4, x1, x2, x3, x4, x5, x6] at gl
  rw [e, e1, e2]
  by_cases hk : okRest 3 (s.drop (q + 1)) 128 191 = true
  ·simp only [hk, if_true] at gl
   simp -implicitDefEqProofs (maxSteps := 1000000) [Tryz.f93, Code.hide, Code.key, hc, hget, hq, n0, n1, n2, n3, n4, n5, n6, n7, n8, n9, n10, gl, hk]
  ·simp only [if_neg hk] at gl
   simp -implicitDefEqProofs (maxSteps := 1000000) [Tryz.f93, Code.hide, Code.key, hc, hget, hq, n0, n1, n2, n3, n4, n5, n6, n7, n8, n9, n10, gl, hk]
 have e : uSize c.toNat = 0 := by unfold uSize; (repeat' split) <;> omega
 rw [e]
 by_cases k : c.toNat < 194
 ·have n1 : ¬ (194 : Int) ≤ c.toNat := by omega
  have n2 : ¬ (224 : Int) ≤ c.toNat := by omega
  have n3 : ¬ (240 : Int) ≤ c.toNat := by omega
  simp -implicitDefEqProofs (maxSteps := 1000000) [Tryz.f93, Code.hide, Code.key, hc, hget, hq, h1, n1, n2, n3]
 ·have n1 : (194 : Int) ≤ c.toNat := by omega
  have n2 : ¬ (c.toNat : Int) ≤ 223 := by omega
  have n3 : (224 : Int) ≤ c.toNat := by omega
  have n4 : ¬ (c.toNat : Int) ≤ 239 := by omega
  have n5 : (240 : Int) ≤ c.toNat := by omega
  have n6 : ¬ (c.toNat : Int) ≤ 244 := by omega
  simp -implicitDefEqProofs (maxSteps := 1000000) [Tryz.f93, Code.hide, Code.key, hc, hget, hq, h1, n1, n2, n3, n4, n5, n6]
theorem rbad_loop {s : List UInt8} (hb : s.length ≤ 1099511627776) : ∀ q, q ≤ s.length → ∃ k i' r, ∀ (p : Id) (c0 c : Nat) (h : Heap), c0 ≤ c →
  iterW E 52 p [0, 2, 3] L_52_2 c0 (((bot.set 3 (.int .i64 q)).set 2 (.int .i64 0)).set 0 (.str s)) c h =
   some (if uWhole s q = s.length then .exit 0 else .ret, ((bot.set 3 (.int .i64 i')).set 2 (.int .i64 r)).set 0 (.str s), c + k, dropFrom p c0 h) ∧ (uWhole s q ≠ s.length → r = (uWhole s q : Int)) := by
 refine rec_ind fun q hq ih => ?_
 by_cases hlt : q < s.length
 ·have hlt' : (q : Int) < s.length := by omega
  have g := rsign_ok hb hlt
  have hle := uSign_le (s.drop q)
  simp only [List.length_drop] at hle
  have hw2 : IntKind.i64.wrap ((q : Int) + uSign (s.drop q)) = ((q + uSign (s.drop q) : Nat) : Int) := by rw [wrap_i64 (by omega) (by omega)]; rfl
  by_cases h0 : uSign (s.drop q) = 0
  ·have e0 : uWhole s q = q := by rw [uWhole, dif_neg (fun x => x.2 h0)]
   refine ⟨1, q, q, fun p c0 c h hc => ⟨?_, fun _ => by rw [e0]⟩⟩
   rw [e0, rd_52_2, if_neg (by omega)]
   rw [h0] at g
   generalize hr : execW E 52 p _ _ _ _ = e
   simp -implicitDefEqProofs (maxSteps := 1000000) [Tryz.f52, Code.loopAt, Code.key, hlt, hlt', hq, g] at hr
   subst hr
   simp [drop_drop_cons hc]
  ·have e0 : uWhole s q = uWhole s (q + uSign (s.drop q)) := by rw [uWhole, dif_pos ⟨hlt, h0⟩]
   have h0' : ¬ (uSign (s.drop q) : Int) = 0 := by omega
   obtain ⟨k, i', r, gl⟩ := ih (q + uSign (s.drop q)) (by omega) (by omega)
   refine ⟨1 + k, i', r, fun p c0 c h hc => ⟨?_, fun hx => by rw [e0] at hx ⊢; exact (gl p c0 c h hc).2 hx⟩⟩
   rw [e0, rd_52_2]
   generalize hr : execW E 52 p _ _ _ _ = e
   simp -implicitDefEqProofs (maxSteps := 1000000) [Tryz.f52, Code.loopAt, Code.key, hlt, hlt', hq, g, h0, h0', hw2] at hr
   subst hr
   have e := (gl p c0 (c + 1) (dropFrom p c0 h) (by omega)).1
   simpa [drop_drop_cons hc, Nat.add_assoc] using e
 ·have hlt' : ¬ (q : Int) < s.length := by omega
  have e0 : uWhole s q = q := by rw [uWhole, dif_neg (fun x => hlt x.1)]
  refine ⟨0, q, 0, fun p c0 c h hc => ⟨?_, fun hx => by omega⟩⟩
  rw [e0, rd_52_2, if_pos (by omega)]
  generalize hr : execW E 52 p _ _ _ _ = e
  simp -implicitDefEqProofs (maxSteps := 1000000) [Tryz.f52, Code.loopAt, Code.key, hlt, hlt', hq] at hr
  subst hr
  simp
theorem rbad_ok {s : List UInt8} (hb : s.length ≤ 1099511627776) (p : Id) (h : Heap) : callW E p 52 [.str s] h = some (.int .i64 (badI (uBad s)), dropFrom p 0 h) := by
 obtain ⟨k, i', r, gl⟩ := rbad_loop hb 0 (Nat.zero_le _)
 have hr := fun (hc : uWhole s 0 ≠ s.length) => (gl p 0 0 h (Nat.le_refl 0)).2 hc
 have g := fun p c0 c h hc => (gl p c0 c h hc).1
 simp only [nat0] at g
 rw [eq_52]
 unfold uBad
 by_cases h1 : uWhole s 0 = s.length
 ·rw [if_pos h1]
  simp only [if_pos h1] at g
  simp -implicitDefEqProofs (maxSteps := 1000000) [Tryz.f52, Code.hide, Code.key, g, badI]
 ·rw [if_neg h1]
  simp only [if_neg h1] at g
  have := hr h1
  simp -implicitDefEqProofs (maxSteps := 1000000) [Tryz.f52, Code.hide, Code.key, g, badI, this]
theorem rtext_ok {s : List UInt8} (hb : s.length ≤ 1099511627776) (p : Id) (h : Heap) : callW E p 30 [.str s] h = some (.bool (uBad s).isNone, dropFrom p 0 h) := by
 have g := rbad_ok hb
 rw [eq_30]
 cases hx : uBad s with
 | none =>
  rw [hx] at g
  simp only [badI] at g
  simp -implicitDefEqProofs (maxSteps := 1000000) [Tryz.f30, Code.key, g]
 | some n =>
  rw [hx] at g
  have : ¬ (n : Int) < 0 := by omega
  simp only [badI] at g
  simp -implicitDefEqProofs (maxSteps := 1000000) [Tryz.f30, Code.key, g, this]
end Go.Ai.T

namespace Go.Ai.T
open Go Go.Proofs
set_option maxRecDepth 100000
set_option maxHeartbeats 4000000
def rgetX (q : Nat) : Except Int (Nat × Nat) → A × A × A
 | .ok (n, k) => (.int .u64 n, .int .i64 (q + k : Nat), .int .i64 0)
 | .error c => (.int .u64 0, .int .i64 0, .int .i64 c)
def rgFr (s : List UInt8) (q i acc : Nat) (r : A × A × A) : Fr := ((((((bot.set 8 (.int .i64 i)).set 7 (.int .u64 acc)).set 6 r.2.2).set 5 r.2.1).set 4 r.1).set 1 (.int .i64 q)).set 0 (.str s)
theorem rget_loop {s : List UInt8} (hb : s.length ≤ 1099511627776) {q : Nat} (hq : q ≤ s.length) : ∀ (rest : List UInt8) (i acc : Nat), s.drop (q + i) = rest → i ≤ 9 → acc < 2 ^ (7 * i) → ∃ i' acc' : Nat, ∀ (p : Id) (c0 c : Nat) (h : Heap),
  iterW E 144 p [0, 1, 4, 5, 6, 7, 8] L_144_5 c0 (rgFr s q i acc (.int .u64 0, .int .i64 0, .int .i64 0)) c h =
   some (.ret, rgFr s q i' acc' (rgetX q (vgo i acc rest)), c, dropFrom p c0 h) := by
 intro rest
 induction rest with
 | nil =>
  intro i acc hj hi ha
  refine ⟨i, acc, fun p c0 c h => ?_⟩
  have h1 : (i : Int) < 10 := by omega
  have hw1 : IntKind.i64.wrap ((q : Int) + i) = ((q + i : Nat) : Int) := by rw [wrap_i64 (by omega) (by omega)]; rfl
  have h2 : ((s.length : Nat) : Int) ≤ ((q + i : Nat) : Int) := by have := congrArg List.length hj; simp at this; omega
  unfold rgFr
  rw [rd_144_5]
  generalize hr : execW E 144 p _ _ _ _ = e
  simp -implicitDefEqProofs (maxSteps := 1000000) [-Int.natCast_add, Tryz.f144, Code.loopAt, Code.key, h1, hw1, h2] at hr
  subst hr
  simp [vgo, rgetX]
 | cons b bs ih =>
  intro i acc hj hi ha
  obtain ⟨hlt, hbb, hbs⟩ := drop_facts hj
  have hget : ∀ hl, s[q + i]'hl = b := fun hl => by rw [List.getElem?_eq_getElem hl] at hbb; exact Option.some.inj hbb
  have h1 : (i : Int) < 10 := by omega
  have hw1 : IntKind.i64.wrap ((q : Int) + i) = ((q + i : Nat) : Int) := by rw [wrap_i64 (by omega) (by omega)]; rfl
  have hw2 : IntKind.i64.wrap ((i : Int) + 1) = ((i + 1 : Nat) : Int) := by rw [wrap_i64 (by omega) (by omega)]; rfl
  have hw3 : IntKind.i64.wrap (((q + i : Nat) : Int) + 1) = ((q + (i + 1) : Nat) : Int) := by rw [wrap_i64 (by omega) (by omega)]; rfl
  have h2 : ¬ ((s.length : Nat) : Int) ≤ ((q + i : Nat) : Int) := by omega
  have hb256 : b.toNat < 256 := b.toNat_lt
  have hw7 : IntKind.i64.wrap (7 * (i : Int)) = 7 * (i : Int) := wrap_i64 (by omega) (by omega)
  have hwu : IntKind.u64.wrap (7 * (i : Int)) = 7 * (i : Int) := wrap_u64 (by omega) (by omega)
  have hp : 2 ^ (7 * (i + 1)) = 128 * 2 ^ (7 * i) := by rw [show 7 * (i + 1) = 7 * i + 7 by omega, Nat.pow_add]; omega
  have hmm : b.toNat % 128 * 2 ^ (7 * i) ≤ 127 * 2 ^ (7 * i) := Nat.mul_le_mul_right _ (by omega)
  have hn7 : ¬ 7 * (i : Int) < 0 := by omega
  have hmin : min (7 * (i : Int)).toNat 64 = 7 * i := by omega
  have hmin2 : min (7 * i) 64 = 7 * i := by omega
  have hand : bitsA .and .u8 (b.toNat : Int) 127 = ((b.toNat % 128 : Nat) : Int) := by
   have : ∀ m : Fin 256, bitsA .and .u8 (m.val : Int) 127 = ((m.val % 128 : Nat) : Int) := by decide +kernel
   exact this ⟨b.toNat, hb256⟩
  have hw8 : IntKind.u64.wrap ((b.toNat % 128 : Nat) : Int) = ((b.toNat % 128 : Nat) : Int) := wrap_u64 (by omega) (by omega)
  rw [vgo]
  unfold rgFr at ih ⊢
  by_cases h9 : i = 9 ∧ 1 < b.toNat
  ·rw [if_pos h9]
   obtain ⟨rfl, h91⟩ := h9
   refine ⟨9, acc, fun p c0 c h => ?_⟩
   rw [rd_144_5]
   have h91' : (1 : Int) < b.toNat := by omega
   have x9 : ((9 : Nat) : Int) = 9 := rfl
   simp only [x9] at hw1 ⊢
   generalize hr : execW E 144 p _ _ _ _ = e
   simp -implicitDefEqProofs (maxSteps := 1000000) [-Int.natCast_add, Tryz.f144, Code.loopAt, Code.key, hw1, h2, hlt, hget, hbb, h91', h91] at hr
   subst hr
   simp [rgetX]
  ·rw [if_neg h9]
   have step : b.toNat % 128 * 2 ^ (7 * i) < 18446744073709551616 ∧ acc < 18446744073709551616 := by
    rcases Nat.lt_or_ge i 9 with h8 | h8
    ·have : 2 ^ (7 * i) ≤ 2 ^ 56 := Nat.pow_le_pow_right (by omega) (by omega)
     omega
    ·have hi9 : i = 9 := by omega
     subst hi9
     have : b.toNat ≤ 1 := by omega
     have hm' : b.toNat % 128 * 2 ^ (7 * 9) ≤ 1 * 2 ^ (7 * 9) := Nat.mul_le_mul_right _ (by omega)
     omega
   obtain ⟨hs1, hs2⟩ := step
   have hsh : IntKind.u64.wrap (((b.toNat % 128 : Nat) : Int) * 2 ^ (7 * i)) = ((b.toNat % 128 * 2 ^ (7 * i) : Nat) : Int) := by
    have e : (((b.toNat % 128 : Nat) : Int) * 2 ^ (7 * i)) = ((b.toNat % 128 * 2 ^ (7 * i) : Nat) : Int) := by push_cast; rfl
    rw [e]
    exact wrap_u64 (by omega) (by omega)
   have hor : bitsA .or .u64 (acc : Int) ((b.toNat % 128 * 2 ^ (7 * i) : Nat) : Int) = ((acc + b.toNat % 128 * 2 ^ (7 * i) : Nat) : Int) := by
    rw [bitsA_or_u64 _ _ hs2 hs1, or_shift _ _ _ ha]
   have hi9 : (i : Int) = 9 → ¬ (1 : Int) < b.toNat := by intro h h2; exact h9 ⟨by omega, by omega⟩
   by_cases hc : b.toNat < 128
   ·rw [if_pos hc]
    refine ⟨i, acc + b.toNat % 128 * 2 ^ (7 * i), fun p c0 c h => ?_⟩
    rw [rd_144_5]
    have hc' : (b.toNat : Int) < 128 := by omega
    generalize hr : execW E 144 p _ _ _ _ = e
    by_cases hi : (i : Int) = 9
    ·simp -implicitDefEqProofs (maxSteps := 1000000) [-Int.natCast_add, -Int.natCast_emod, -Int.natCast_mul, Tryz.f144, Code.loopAt, Code.key, h1, hw1, h2, hlt, hget, hbb, hw7, hwu, hw8, hw3, hn7, hmin, hmin2, hand, hsh, hor, hc', eq_true hi, eq_true (show i = 9 by omega), hi9 hi, IntKind.bits] at hr
     subst hr
     simp [-Int.natCast_add, rgetX]
     done
    ·simp -implicitDefEqProofs (maxSteps := 1000000) [-Int.natCast_add, -Int.natCast_emod, -Int.natCast_mul, Tryz.f144, Code.loopAt, Code.key, h1, hw1, h2, hlt, hget, hbb, hw7, hwu, hw8, hw3, hn7, hmin, hmin2, hand, hsh, hor, hc', hi, show ¬ i = 9 by omega, IntKind.bits] at hr
     subst hr
     simp [-Int.natCast_add, rgetX]
   ·rw [if_neg hc]
    have hi : i < 9 := by omega
    obtain ⟨i', acc', g⟩ := ih (i + 1) (acc + b.toNat % 128 * 2 ^ (7 * i)) hbs (by omega) (by omega)
    refine ⟨i', acc', fun p c0 c h => ?_⟩
    rw [rd_144_5]
    have hc' : ¬ (b.toNat : Int) < 128 := by omega
    generalize hr : execW E 144 p _ _ _ _ = e
    simp -implicitDefEqProofs (maxSteps := 1000000) [-Int.natCast_add, -Int.natCast_emod, -Int.natCast_mul, Tryz.f144, Code.loopAt, Code.key, h1, hw1, hw2, h2, hlt, hget, hbb, hw7, hwu, hw8, hw3, hn7, hmin, hmin2, hand, hsh, hor, hc', show ¬ (i : Int) = 9 by omega, show ¬ i = 9 by omega, IntKind.bits] at hr
    subst hr
    simpa [-Int.natCast_add] using g p c0 c (dropFrom p c0 h)
def encRGet (q : Nat) (r : Except Int (Nat × Nat)) : A := .tuple [(rgetX q r).1, (rgetX q r).2.1, (rgetX q r).2.2]
theorem rget_ok {s : List UInt8} (hb : s.length ≤ 1099511627776) {q : Nat} (hq : q ≤ s.length) (p : Id) (h : Heap) : callW E p 144 [.str s, .int .i64 q] h = some (encRGet q (vread (s.drop q)), dropFrom p 0 h) := by
 obtain ⟨i', acc', gl⟩ := rget_loop hb hq _ 0 0 rfl (by omega) (by omega)
 have hq0 : ¬ (q : Int) < 0 := by omega
 have hq1 : ¬ (s.length : Int) < q := by omega
 simp only [rgFr, nat0, Nat.add_zero] at gl
 have hv : vgo 0 0 (s.drop q) = vread (s.drop q) := rfl
 rw [hv] at gl
 rw [eq_144]
 cases hr : vread (s.drop q) with
 | ok r =>
  obtain ⟨n, k⟩ := r
  rw [hr] at gl
  simp only [rgetX] at gl
  simp -implicitDefEqProofs (maxSteps := 1000000) [-Int.natCast_add, Tryz.f144, Code.hide, Code.key, gl, hq, hq0, hq1, encRGet, rgetX]
 | error c =>
  rw [hr] at gl
  simp only [rgetX] at gl
  simp -implicitDefEqProofs (maxSteps := 1000000) [-Int.natCast_add, Tryz.f144, Code.hide, Code.key, gl, hq, hq0, hq1, encRGet, rgetX]
theorem rfixed_loop {s : List UInt8} (h8 : s.length ≤ 8) : ∀ j, j ≤ s.length → ∀ (p : Id) (c0 c : Nat) (h : Heap),
  iterW E 145 p [0, 3, 4] L_145_3 c0 (((bot.set 4 (.int .i64 ((j : Int) - 1))).set 3 (.int .u64 (leN (s.drop j)))).set 0 (.str s)) c h =
   some (.exit 0, ((bot.set 4 (.int .i64 (-1))).set 3 (.int .u64 (leN s))).set 0 (.str s), c, dropFrom p c0 h) := by
 intro j
 induction j with
 | zero =>
  intro hj p c0 c h
  rw [rd_145_3]
  generalize hr : execW E 145 p _ _ _ _ = e
  simp -implicitDefEqProofs (maxSteps := 1000000) [Tryz.f145, Code.loopAt, Code.key] at hr
  subst hr
  simp
 | succ j ih =>
  intro hj p c0 c h
  obtain ⟨b, hb⟩ : ∃ b, s[j]? = some b := ⟨_, List.getElem?_eq_getElem (by omega)⟩
  have hlt : j < s.length := by omega
  have hget : ∀ hl, s[j]'hl = b := fun hl => by rw [List.getElem?_eq_getElem hl] at hb; exact Option.some.inj hb
  have hd : s.drop j = b :: s.drop (j + 1) := by rw [List.drop_eq_getElem_cons hlt, hget]
  have hle : leN (s.drop j) = leN (s.drop (j + 1)) * 256 + b.toNat := by rw [hd, leN]; omega
  have hlt2 := leN_lt (s.drop (j + 1))
  simp only [List.length_drop] at hlt2
  have hp : 256 ^ (s.length - (j + 1)) ≤ 256 ^ 7 := Nat.pow_le_pow_right (by omega) (by omega)
  have hb256 : b.toNat < 256 := b.toNat_lt
  have hj1 : ((j + 1 : Nat) : Int) - 1 = j := by omega
  have hj0 : (0 : Int) ≤ j := by omega
  have hw1 : IntKind.i64.wrap ((j : Int) - 1) = (j : Int) - 1 := wrap_i64 (by omega) (by omega)
  have hw2 : IntKind.u64.wrap (b.toNat : Int) = b.toNat := wrap_u64 (by omega) (by omega)
  have hsh : IntKind.u64.wrap ((leN (s.drop (j + 1)) : Int) * 256) = ((leN (s.drop (j + 1)) * 256 : Nat) : Int) := by rw [wrap_u64 (by omega) (by omega)]; rfl
  have hor : bitsA .or .u64 ((leN (s.drop (j + 1)) * 256 : Nat) : Int) (b.toNat : Int) = ((leN (s.drop j) : Nat) : Int) := by
   rw [bitsA_or_u64 _ _ (by omega) (by omega), Nat.or_comm, show (256 : Nat) = 2 ^ 8 from rfl, or_shift _ _ _ (by omega), hle]
   congr 1; omega
  rw [hj1, rd_145_3]
  generalize hr : execW E 145 p _ _ _ _ = e
  simp -implicitDefEqProofs (maxSteps := 1000000) [-Int.natCast_mul, Tryz.f145, Code.loopAt, Code.key, hj0, hlt, hb, hget, hw1, hw2, hsh, hor, IntKind.bits] at hr
  subst hr
  simpa using ih (by omega) p c0 c (dropFrom p c0 h)
theorem rfixed_ok {s : List UInt8} (h8 : s.length ≤ 8) (p : Id) (h : Heap) : callW E p 145 [.str s] h = some (.int .u64 (leN s), dropFrom p 0 h) := by
 have gl := rfixed_loop h8 s.length (Nat.le_refl _)
 simp only [List.drop_length, leN, nat0] at gl
 have hw1 : IntKind.i64.wrap ((s.length : Int) - 1) = (s.length : Int) - 1 := wrap_i64 (by omega) (by omega)
 rw [eq_145]
 simp -implicitDefEqProofs (maxSteps := 1000000) [Tryz.f145, Code.hide, Code.key, gl, hw1]
theorem tag_parts {s : List UInt8} {q num kind q1 : Nat} (h : tagE s q = .ok (num, kind, q1)) : ∃ n k, vread (s.drop q) = .ok (n, k) ∧ num = n / 8 ∧ kind = n % 8 ∧ q1 = q + k := by
 unfold tagE at h
 split at h
 ·cases h
 ·rename_i n q' hg
  split at h
  ·cases h
  ·simp only [Except.ok.injEq, Prod.mk.injEq] at h
   obtain ⟨rfl, rfl, rfl⟩ := h
   unfold vgetE at hg
   split at hg
   ·rename_i n' k hr
    simp only [Except.ok.injEq, Prod.mk.injEq] at hg
    obtain ⟨rfl, rfl⟩ := hg
    exact ⟨n', k, hr, rfl, rfl, rfl⟩
   ·cases hg
theorem vget_parts {s : List UInt8} {q n q1 : Nat} (h : vgetE s q = .ok (n, q1)) : ∃ k, vread (s.drop q) = .ok (n, k) ∧ q1 = q + k := by
 unfold vgetE at h
 split at h
 ·rename_i n' k hr
  simp only [Except.ok.injEq, Prod.mk.injEq] at h
  obtain ⟨rfl, rfl⟩ := h
  exact ⟨k, hr, rfl⟩
 ·cases h
def rNone : A := .tuple [.agg [.int .i64 0, .int .i64 0, .int .u64 0, .str [], .str []], .int .i64 0, .bool false]
def NextY (s : List UInt8) (q : Nat) : Prop := ∀ (d : Int), d ≤ 9223372036854775807 → ∀ (r : Rec) (e : Nat), recE s d q = .ok (r, e) → ∀ (p : Id) (h : Heap), callW E p 129 [.str s, .int .i64 q, .int .i64 d] h = some (.tuple [encRec r, .int .i64 e, .bool true], dropFrom p 0 h)
def NextN (s : List UInt8) (q : Nat) : Prop := ∀ (d : Int), d ≤ 9223372036854775807 → ∀ (x : Err), recE s d q = .error x → ∀ (p : Id) (h : Heap), callW E p 129 [.str s, .int .i64 q, .int .i64 d] h = some (rNone, dropFrom p 0 h)
def RGroupY (s : List UInt8) (q : Nat) : Prop := ∀ (d : Int), d ≤ 9223372036854775807 → ∀ (num e : Nat), 1 ≤ num → num ≤ 536870911 → groupE s d num q = .ok e → ∀ (p : Id) (h : Heap), callW E p 146 [.str s, .int .i64 q, .int .i64 num, .int .i64 d] h = some (.tuple [.int .i64 e, .bool true], dropFrom p 0 h)
def RGroupN (s : List UInt8) (q : Nat) : Prop := ∀ (d : Int), d ≤ 9223372036854775807 → ∀ (num : Nat) (x : Err), 1 ≤ num → num ≤ 536870911 → groupE s d num q = .error x → ∃ v : Int, ∀ (p : Id) (h : Heap), callW E p 146 [.str s, .int .i64 q, .int .i64 num, .int .i64 d] h = some (.tuple [.int .i64 v, .bool false], dropFrom p 0 h)
theorem next_y {s : List UInt8} (hb : s.length ≤ 1099511627776) {q : Nat} (hq : q ≤ s.length) (hg : ∀ q1, q < q1 → q1 ≤ s.length → RGroupY s q1) : NextY s q := by
 intro d hd r e hv p h
 have hs' : s.length ≤ maxStr := by unfold maxStr; omega
 unfold recE at hv
 split at hv
 ·cases hv
 rename_i num kind q1 ht
 have b1 := tagE_lt ht
 obtain ⟨⟨nn, bs, e'⟩, hbd, h2⟩ := map_ok hv
 simp only [Prod.mk.injEq] at h2
 obtain ⟨rfl, rfl⟩ := h2
 have b2 := bodyE_lt hbd b1.2.1
 -- the tag
 obtain ⟨n, k, hvr, hnum, hkind, hq1⟩ := tag_parts ht
 have hn := (vread_lt hvr).1
 have g := rget_ok hb hq
 rw [hvr] at g
 simp only [encRGet, rgetX] at g
 have t1 : ((n : Int).fdiv 8) = ((n / 8 : Nat) : Int) := fdiv_nat n 8
 have t2 : ¬ ((n / 8 : Nat) : Int) < 1 := by omega
 have t3 : ¬ (536870912 : Int) ≤ ((n / 8 : Nat) : Int) := by omega
 have t5 := and7 n hn
 have t6 : IntKind.i64.wrap ((n / 8 : Nat) : Int) = ((n / 8 : Nat) : Int) := wrap_i64 (by omega) (by omega)
 have t7 : IntKind.i64.wrap ((n % 8 : Nat) : Int) = ((n % 8 : Nat) : Int) := wrap_i64 (by omega) (by omega)
 rw [← hnum, ← hkind] at *
 have q1' : q + k = q1 := hq1.symm
 rw [q1'] at g
 have c1 : ¬ (e' : Int) < q := by omega
 have hraw : List.drop q (List.take e' s) = List.take (e' - q) (List.drop q s) := List.drop_take
 rw [bodyE] at hbd
 rw [eq_129]
 split at hbd
 ·rename_i hk
  obtain ⟨⟨n', e2⟩, h1, h2⟩ := map_ok hbd
  simp only [Prod.mk.injEq] at h2
  obtain ⟨rfl, rfl, rfl⟩ := h2
  obtain ⟨k2, hv2, rfl⟩ := vget_parts h1
  have g2 := rget_ok hb b1.2.1
  rw [hv2] at g2
  simp only [encRGet, rgetX] at g2
  rw [hk] at t5 t7 ⊢
  simp only [nat0] at t5 t7 ⊢
  simp -implicitDefEqProofs (maxSteps := 1000000) [IntKind.bits, -Int.natCast_ediv, -Int.natCast_emod, -Int.natCast_add, Tryz.f129, Code.key, g, g2, t1, t2, t3, t5, t6, t7, encRec]
  exact ⟨by omega, by omega, hraw⟩
 split at hbd
 ·rename_i hk
  obtain ⟨⟨tt, e2⟩, h1, h2⟩ := map_ok hbd
  simp only [Prod.mk.injEq] at h2
  obtain ⟨rfl, rfl, rfl⟩ := h2
  obtain ⟨he2, hle2, hlen, htt⟩ := takeE_lt h1 b1.2.1
  have g2 := rfixed_ok (s := tt) (by omega)
  have w1 : IntKind.i64.wrap ((s.length : Int) - q1) = ((s.length - q1 : Nat) : Int) := by rw [wrap_i64 (by omega) (by omega)]; omega
  have w2 : IntKind.i64.wrap ((q1 : Int) + 8) = ((q1 + 8 : Nat) : Int) := by rw [wrap_i64 (by omega) (by omega)]; rfl
  have w3 : ¬ ((s.length - q1 : Nat) : Int) < 8 := by omega
  have w4 : ¬ (s.length - q1 < 8) := by omega
  have hsub : List.drop q1 (List.take (q1 + 8) s) = tt := by rw [List.drop_take, Nat.add_sub_cancel_left, ← htt]
  have w5 : q1 + 8 ≤ s.length := by omega
  rw [hk] at t5 t7 ⊢
  simp only [nl1, nl5, he2] at t5 t7 hraw ⊢
  simp -implicitDefEqProofs (maxSteps := 1000000) [IntKind.bits, -Int.natCast_ediv, -Int.natCast_emod, -Int.natCast_add, Tryz.f129, Code.key, g, t1, t2, t3, t5, t6, t7, encRec, g2, w1, w2, w3, w4, w5, hsub]
  exact ⟨by omega, hraw⟩
 split at hbd
 ·rename_i hk
  obtain ⟨⟨tt, e2⟩, h1, h2⟩ := map_ok hbd
  simp only [Prod.mk.injEq] at h2
  obtain ⟨rfl, rfl, rfl⟩ := h2
  obtain ⟨he2, hle2, hlen, htt⟩ := takeE_lt h1 b1.2.1
  have g2 := rfixed_ok (s := tt) (by omega)
  have w1 : IntKind.i64.wrap ((s.length : Int) - q1) = ((s.length - q1 : Nat) : Int) := by rw [wrap_i64 (by omega) (by omega)]; omega
  have w2 : IntKind.i64.wrap ((q1 : Int) + 4) = ((q1 + 4 : Nat) : Int) := by rw [wrap_i64 (by omega) (by omega)]; rfl
  have w3 : ¬ ((s.length - q1 : Nat) : Int) < 4 := by omega
  have w4 : ¬ (s.length - q1 < 4) := by omega
  have hsub : List.drop q1 (List.take (q1 + 4) s) = tt := by rw [List.drop_take, Nat.add_sub_cancel_left, ← htt]
  have w5 : q1 + 4 ≤ s.length := by omega
  rw [hk] at t5 t7 ⊢
  simp only [nl1, nl5, he2] at t5 t7 hraw ⊢
  simp -implicitDefEqProofs (maxSteps := 1000000) [IntKind.bits, -Int.natCast_ediv, -Int.natCast_emod, -Int.natCast_add, Tryz.f129, Code.key, g, t1, t2, t3, t5, t6, t7, encRec, g2, w1, w2, w3, w4, w5, hsub]
  exact ⟨by omega, hraw⟩
 split at hbd
 ·rename_i hk
  split at hbd
  ·cases hbd
  rename_i n2 q2 hv2
  obtain ⟨⟨tt, e2⟩, h1, h2⟩ := map_ok hbd
  simp only [Prod.mk.injEq] at h2
  obtain ⟨rfl, rfl, rfl⟩ := h2
  have b3 := vgetE_lt hv2 b1.2.1
  obtain ⟨he2, hle2, hlen, htt⟩ := takeE_lt h1 b3.2.2.1
  obtain ⟨k2, hv3, hq2⟩ := vget_parts hv2
  have g2 := rget_ok hb b1.2.1
  rw [hv3] at g2
  simp only [encRGet, rgetX] at g2
  rw [← hq2] at g2
  have w1 : IntKind.i64.wrap ((s.length : Int) - q2) = ((s.length - q2 : Nat) : Int) := by rw [wrap_i64 (by omega) (by omega)]; omega
  have w2 : IntKind.u64.wrap ((s.length - q2 : Nat) : Int) = ((s.length - q2 : Nat) : Int) := wrap_u64 (by omega) (by omega)
  have w3 : IntKind.i64.wrap (n2 : Int) = n2 := wrap_i64 (by omega) (by omega)
  have w4 : IntKind.i64.wrap ((q2 : Int) + n2) = ((q2 + n2 : Nat) : Int) := by rw [wrap_i64 (by omega) (by omega)]; rfl
  have w5 : ¬ ((s.length - q2 : Nat) : Int) < n2 := by omega
  have w6 : ¬ (s.length - q2 < n2) := by omega
  have hsub : List.drop q2 (List.take (q2 + n2) s) = tt := by rw [List.drop_take, Nat.add_sub_cancel_left, ← htt]
  have w7 : q2 + n2 ≤ s.length := by omega
  rw [hk] at t5 t7 ⊢
  simp only [nl2, he2] at t5 t7 hraw ⊢
  simp -implicitDefEqProofs (maxSteps := 1000000) [IntKind.bits, -Int.natCast_ediv, -Int.natCast_emod, -Int.natCast_add, Tryz.f129, Code.key, g, t1, t2, t3, t5, t6, t7, encRec, g2, w1, w2, w3, w4, w5, w6, w7, hsub]
  exact ⟨by omega, hraw⟩
 split at hbd
 ·rename_i hk
  obtain ⟨e2, h1, h2⟩ := map_ok hbd
  simp only [Prod.mk.injEq] at h2
  obtain ⟨rfl, rfl, rfl⟩ := h2
  have g2 := hg q1 b1.1 b1.2.1 d hd num e2 b1.2.2.2.1 b1.2.2.2.2.1 h1
  rw [hk] at t5 t7 ⊢
  simp only [nl3] at t5 t7 hraw ⊢
  simp -implicitDefEqProofs (maxSteps := 1000000) [IntKind.bits, -Int.natCast_ediv, -Int.natCast_emod, -Int.natCast_add, Tryz.f129, Code.key, g, t1, t2, t3, t5, t6, t7, encRec, g2]
  exact ⟨by omega, by omega, hraw⟩
 ·cases hbd
theorem vget_err {s : List UInt8} {q : Nat} {x : Err} (h : vgetE s q = .error x) : ∃ c, vread (s.drop q) = .error c ∧ c ≠ 0 := by
 unfold vgetE at h
 split at h
 ·cases h
 ·rename_i c hr
  refine ⟨c, hr, ?_⟩
  have := vgo_err _ _ _ _ hr
  omega
theorem next_n {s : List UInt8} (hb : s.length ≤ 1099511627776) {q : Nat} (hq : q ≤ s.length) (hg : ∀ q1, q < q1 → q1 ≤ s.length → RGroupN s q1) : NextN s q := by
 intro d hd x hv p h
 have hs' : s.length ≤ maxStr := by unfold maxStr; omega
 have g := rget_ok hb hq
 unfold recE at hv
 rw [eq_129]
 split at hv
 ·rename_i x1 ht
  unfold tagE at ht
  split at ht
  ·rename_i x2 hvg
   obtain ⟨c, hc, hc0⟩ := vget_err hvg
   rw [hc] at g
   simp only [encRGet, rgetX] at g
   simp -implicitDefEqProofs (maxSteps := 1000000) [Tryz.f129, Code.key, g, hc0, rNone]
  ·rename_i n q1 hvg
   have hn := (vgetE_lt hvg hq).1
   obtain ⟨k, hvr, hq1⟩ := vget_parts hvg
   rw [hvr] at g
   simp only [encRGet, rgetX] at g
   rw [← hq1] at g
   have t1 : ((n : Int).fdiv 8) = ((n / 8 : Nat) : Int) := fdiv_nat n 8
   split at ht
   ·rename_i hbad
    by_cases t2 : ((n / 8 : Nat) : Int) < 1
    ·simp -implicitDefEqProofs (maxSteps := 1000000) [IntKind.bits, -Int.natCast_ediv, -Int.natCast_emod, -Int.natCast_add, Tryz.f129, Code.key, g, t1, rNone, t2]
    ·have t3 : (536870912 : Int) ≤ ((n / 8 : Nat) : Int) := by omega
     simp -implicitDefEqProofs (maxSteps := 1000000) [IntKind.bits, -Int.natCast_ediv, -Int.natCast_emod, -Int.natCast_add, Tryz.f129, Code.key, g, t1, rNone, t2, t3]
   ·cases ht
 rename_i num kind q1 ht
 have b1 := tagE_lt ht
 have hbd := map_err hv
 obtain ⟨n, k, hvr, hnum, hkind, hq1⟩ := tag_parts ht
 have hn := (vread_lt hvr).1
 rw [hvr] at g
 simp only [encRGet, rgetX] at g
 have t1 : ((n : Int).fdiv 8) = ((n / 8 : Nat) : Int) := fdiv_nat n 8
 have t2 : ¬ ((n / 8 : Nat) : Int) < 1 := by omega
 have t3 : ¬ (536870912 : Int) ≤ ((n / 8 : Nat) : Int) := by omega
 have t5 := and7 n hn
 have t6 : IntKind.i64.wrap ((n / 8 : Nat) : Int) = ((n / 8 : Nat) : Int) := wrap_i64 (by omega) (by omega)
 have t7 : IntKind.i64.wrap ((n % 8 : Nat) : Int) = ((n % 8 : Nat) : Int) := wrap_i64 (by omega) (by omega)
 rw [← hnum, ← hkind] at *
 have q1' : q + k = q1 := hq1.symm
 rw [q1'] at g
 rw [bodyE] at hbd
 split at hbd
 ·rename_i hk
  obtain ⟨c, hc, hc0⟩ := vget_err (map_err hbd)
  have g2 := rget_ok hb b1.2.1
  rw [hc] at g2
  simp only [encRGet, rgetX] at g2
  rw [hk] at t5 t7
  simp only [nat0] at t5 t7
  simp -implicitDefEqProofs (maxSteps := 1000000) [IntKind.bits, -Int.natCast_ediv, -Int.natCast_emod, -Int.natCast_add, Tryz.f129, Code.key, g, t1, t2, t3, t5, t6, t7, rNone, g2, hc0]
 split at hbd
 ·rename_i hk
  have h1 := map_err hbd
  unfold takeE at h1
  split at h1
  ·rename_i hlt
   have w1 : IntKind.i64.wrap ((s.length : Int) - q1) = ((s.length - q1 : Nat) : Int) := by rw [wrap_i64 (by omega) (by omega)]; omega
   have w3 : ((s.length - q1 : Nat) : Int) < 8 := by omega
   rw [hk] at t5 t7
   simp only [nl1, nl5] at t5 t7
   simp -implicitDefEqProofs (maxSteps := 1000000) [IntKind.bits, -Int.natCast_ediv, -Int.natCast_emod, -Int.natCast_add, Tryz.f129, Code.key, g, t1, t2, t3, t5, t6, t7, rNone, w1, w3, hlt]
  ·cases h1
 split at hbd
 ·rename_i hk
  have h1 := map_err hbd
  unfold takeE at h1
  split at h1
  ·rename_i hlt
   have w1 : IntKind.i64.wrap ((s.length : Int) - q1) = ((s.length - q1 : Nat) : Int) := by rw [wrap_i64 (by omega) (by omega)]; omega
   have w3 : ((s.length - q1 : Nat) : Int) < 4 := by omega
   rw [hk] at t5 t7
   simp only [nl1, nl5] at t5 t7
   simp -implicitDefEqProofs (maxSteps := 1000000) [IntKind.bits, -Int.natCast_ediv, -Int.natCast_emod, -Int.natCast_add, Tryz.f129, Code.key, g, t1, t2, t3, t5, t6, t7, rNone, w1, w3, hlt]
  ·cases h1
 split at hbd
 ·rename_i hk
  have g2 := rget_ok hb b1.2.1
  split at hbd
  ·rename_i x2 hv2
   obtain ⟨c, hc, hc0⟩ := vget_err hv2
   rw [hc] at g2
   simp only [encRGet, rgetX] at g2
   rw [hk] at t5 t7
   simp only [nl2] at t5 t7
   simp -implicitDefEqProofs (maxSteps := 1000000) [IntKind.bits, -Int.natCast_ediv, -Int.natCast_emod, -Int.natCast_add, Tryz.f129, Code.key, g, t1, t2, t3, t5, t6, t7, rNone, g2, hc0]
  ·rename_i n2 q2 hv2
   have h1 := map_err hbd
   have b3 := vgetE_lt hv2 b1.2.1
   obtain ⟨k2, hv3, hq2⟩ := vget_parts hv2
   rw [hv3] at g2
   simp only [encRGet, rgetX] at g2
   rw [← hq2] at g2
   unfold takeE at h1
   split at h1
   ·rename_i hlt
    have w1 : IntKind.i64.wrap ((s.length : Int) - q2) = ((s.length - q2 : Nat) : Int) := by rw [wrap_i64 (by omega) (by omega)]; omega
    have w2 : IntKind.u64.wrap ((s.length - q2 : Nat) : Int) = ((s.length - q2 : Nat) : Int) := wrap_u64 (by omega) (by omega)
    have w5 : ((s.length - q2 : Nat) : Int) < n2 := by omega
    rw [hk] at t5 t7
    simp only [nl2] at t5 t7
    simp -implicitDefEqProofs (maxSteps := 1000000) [IntKind.bits, -Int.natCast_ediv, -Int.natCast_emod, -Int.natCast_add, Tryz.f129, Code.key, g, t1, t2, t3, t5, t6, t7, rNone, g2, w1, w2, w5, hlt]
   ·cases h1
 split at hbd
 ·rename_i hk
  obtain ⟨v, gg⟩ := hg q1 b1.1 b1.2.1 d hd num x b1.2.2.2.1 b1.2.2.2.2.1 (map_err hbd)
  rw [hk] at t5 t7
  simp only [nl3] at t5 t7
  simp -implicitDefEqProofs (maxSteps := 1000000) [IntKind.bits, -Int.natCast_ediv, -Int.natCast_emod, -Int.natCast_add, Tryz.f129, Code.key, g, t1, t2, t3, t5, t6, t7, rNone, gg]
 ·rename_i k0 k1 k5 k2 k3
  have z0 : ¬ (kind : Int) = 0 := by omega
  have z1 : ¬ (kind : Int) = 1 := by omega
  have z2 : ¬ (kind : Int) = 2 := by omega
  have z3 : ¬ (kind : Int) = 3 := by omega
  have z5 : ¬ (kind : Int) = 5 := by omega
  simp -implicitDefEqProofs (maxSteps := 1000000) [IntKind.bits, -Int.natCast_ediv, -Int.natCast_emod, -Int.natCast_add, Tryz.f129, Code.key, g, t1, t2, t3, t5, t6, t7, rNone, k0, k1, k5, k2, k3, z0, z1, z2, z3, z5]
def rgrFr (s : List UInt8) (q num : Nat) (d : Int) (r ok : A) : Fr := (((((bot.set 9 ok).set 8 r).set 3 (.int .i64 d)).set 2 (.int .i64 num)).set 1 (.int .i64 q)).set 0 (.str s)
def RLoopY (s : List UInt8) (q : Nat) : Prop := ∀ (d : Int), 1 ≤ d → d ≤ 9223372036854775807 → ∀ (num e : Nat), 1 ≤ num → num ≤ 536870911 → loopE s (d - 1) num q = .ok e → ∃ k q' : Nat, ∀ (p : Id) (c0 c : Nat) (h : Heap), c0 ≤ c →
  iterW E 146 p [0, 1, 2, 3, 8, 9] L_146_3 c0 (rgrFr s q num d (.int .i64 0) (.bool false)) c h = some (.ret, rgrFr s q' num d (.int .i64 e) (.bool true), c + k, dropFrom p c0 h)
def RLoopN (s : List UInt8) (q : Nat) : Prop := ∀ (d : Int), 1 ≤ d → d ≤ 9223372036854775807 → ∀ (num : Nat) (x : Err), 1 ≤ num → num ≤ 536870911 → loopE s (d - 1) num q = .error x → ∃ (k q' : Nat) (v : Int), ∀ (p : Id) (c0 c : Nat) (h : Heap), c0 ≤ c →
  iterW E 146 p [0, 1, 2, 3, 8, 9] L_146_3 c0 (rgrFr s q num d (.int .i64 0) (.bool false)) c h = some (.ret, rgrFr s q' num d (.int .i64 v) (.bool false), c + k, dropFrom p c0 h)
theorem recE_of {s : List UInt8} {d : Int} {q n kind q1 m q2 : Nat} {bs : List UInt8} (ht : tagE s q = .ok (n, kind, q1)) (hb : bodyE s d n kind q q1 = .ok (m, bs, q2)) : ∃ r, recE s d q = .ok (r, q2) := by
 unfold recE; rw [ht]; dsimp only; rw [hb]; exact ⟨_, rfl⟩
theorem recE_of_err {s : List UInt8} {d : Int} {q n kind q1 : Nat} {x : Err} (ht : tagE s q = .ok (n, kind, q1)) (hb : bodyE s d n kind q q1 = .error x) : recE s d q = .error x := by
 unfold recE; rw [ht]; dsimp only; rw [hb]; rfl
theorem recE_of_tag {s : List UInt8} {d : Int} {q : Nat} {x : Err} (ht : tagE s q = .error x) : recE s d q = .error x := by
 unfold recE; rw [ht]
theorem rloop_y {s : List UInt8} (hb : s.length ≤ 1099511627776) {q : Nat} (hq : q ≤ s.length) (hy : NextY s q) (hl : ∀ q1, q < q1 → q1 ≤ s.length → RLoopY s q1) : RLoopY s q := by
 intro d hd1 hd num e hn1 hn2 hv
 have g := rget_ok hb hq
 have w1 : IntKind.i64.wrap (d - 1) = d - 1 := wrap_i64 (by omega) (by omega)
 cases ht : tagE s q with
 | error x => rw [loopE_err ht] at hv; cases hv
 | ok r =>
  obtain ⟨n, kind, q1⟩ := r
  have b1 := tagE_lt ht
  obtain ⟨m, k, hvr, hnum, hkind, hq1⟩ := tag_parts ht
  have hn := (vread_lt hvr).1
  rw [hvr] at g
  simp only [encRGet, rgetX] at g
  rw [← hq1] at g
  have t1 : ((m : Int).fdiv 8) = ((m / 8 : Nat) : Int) := fdiv_nat m 8
  have t5 := and7 m hn
  rw [← hnum] at t1
  rw [← hkind] at t5
  rw [loopE_ok ht] at hv
  unfold rgrFr
  split at hv
  ·rename_i hk
   split at hv
   ·rename_i hnn
    simp only [Except.ok.injEq] at hv
    rw [← hv]
    rw [hk] at t5
    rw [hnn] at t1
    have w2 : IntKind.u64.wrap (num : Int) = num := wrap_u64 (by omega) (by omega)
    simp only [nl4] at t5
    refine ⟨1, q, fun p c0 c h hc => ?_⟩
    rw [rd_146_3]
    generalize hr : execW E 146 p _ _ _ _ = e
    simp -implicitDefEqProofs (maxSteps := 1000000) [IntKind.bits, -Int.natCast_ediv, -Int.natCast_emod, -Int.natCast_add, Tryz.f146, Code.loopAt, Code.key, encRec, g, t1, t5, w1, w2] at hr
    subst hr
    simp [drop_drop_cons hc]
   ·cases hv
  ·rename_i hk4
   have hk4' : ¬ (kind : Int) = 4 := by omega
   split at hv
   ·cases hv
   ·rename_i n2 b2 q2 hbd
    have b2' := bodyE_lt hbd b1.2.1
    rw [if_pos (by omega)] at hv
    obtain ⟨r, hr⟩ := recE_of ht hbd
    have g2 := hy (d - 1) (by omega) r q2 hr
    obtain ⟨k2, q', gl⟩ := hl q2 (by omega) b2'.2.1 d hd1 hd num e hn1 hn2 hv
    unfold rgrFr at gl
    refine ⟨3 + k2, q', fun p c0 c h hc => ?_⟩
    rw [rd_146_3]
    generalize hr : execW E 146 p _ _ _ _ = e
    simp -implicitDefEqProofs (maxSteps := 1000000) [IntKind.bits, -Int.natCast_ediv, -Int.natCast_emod, -Int.natCast_add, Tryz.f146, Code.loopAt, Code.key, encRec, g, t1, t5, w1, g2, hk4, hk4'] at hr
    subst hr
    have e := gl p c0 (c + 3) (dropFrom p c0 h) (by omega)
    have hc1 : c0 ≤ c + 1 := by omega
    have hc2 : c0 ≤ c + 2 := by omega
    simpa [drop_drop_cons hc, drop_drop_cons hc1, drop_upd hc2, Nat.add_assoc] using e
theorem rloop_n {s : List UInt8} (hb : s.length ≤ 1099511627776) {q : Nat} (hq : q ≤ s.length) (hy : NextY s q) (hnx : NextN s q) (hl : ∀ q1, q < q1 → q1 ≤ s.length → RLoopN s q1) : RLoopN s q := by
 intro d hd1 hd num x hn1 hn2 hv
 have g := rget_ok hb hq
 have w1 : IntKind.i64.wrap (d - 1) = d - 1 := wrap_i64 (by omega) (by omega)
 have w2 : IntKind.u64.wrap (num : Int) = num := wrap_u64 (by omega) (by omega)
 unfold rgrFr
 cases ht : tagE s q with
 | error x1 =>
  have g2 := hnx (d - 1) (by omega) x1 (recE_of_tag ht)
  unfold tagE at ht
  split at ht
  ·rename_i x2 hvg
   obtain ⟨c', hc', hc0⟩ := vget_err hvg
   rw [hc'] at g
   simp only [encRGet, rgetX] at g
   refine ⟨1, q, 0, fun p c0 c h hc => ?_⟩
   rw [rd_146_3]
   generalize hr : execW E 146 p _ _ _ _ = e
   simp -implicitDefEqProofs (maxSteps := 1000000) [IntKind.bits, -Int.natCast_ediv, -Int.natCast_emod, -Int.natCast_add, Tryz.f146, Code.loopAt, Code.key, encRec, g, hc0] at hr
   subst hr
   simp [drop_drop_cons hc]
  ·rename_i m q1 hvg
   have hn := (vgetE_lt hvg hq).1
   obtain ⟨k, hvr, hq1⟩ := vget_parts hvg
   rw [hvr] at g
   simp only [encRGet, rgetX] at g
   rw [← hq1] at g
   have t1 : ((m : Int).fdiv 8) = ((m / 8 : Nat) : Int) := fdiv_nat m 8
   have t5 := and7 m hn
   split at ht
   ·rename_i hbad
    by_cases hk : m % 8 = 4
    ·rw [hk] at t5
     simp only [nl4] at t5
     have n1 : ¬ ((m / 8 : Nat) : Int) = num := by omega
     have n2 : ¬ m / 8 = num := by omega
     refine ⟨1, q, q1, fun p c0 c h hc => ?_⟩
     rw [rd_146_3]
     generalize hr : execW E 146 p _ _ _ _ = e
     simp -implicitDefEqProofs (maxSteps := 1000000) [IntKind.bits, -Int.natCast_ediv, -Int.natCast_emod, -Int.natCast_add, Tryz.f146, Code.loopAt, Code.key, encRec, g, t1, t5, w2, n1, n2] at hr
     subst hr
     simp [drop_drop_cons hc]
    ·have hk' : ¬ ((m % 8 : Nat) : Int) = 4 := by omega
     refine ⟨3, q, 0, fun p c0 c h hc => ?_⟩
     have hc1 : c0 ≤ c + 1 := by omega
     have hc2 : c0 ≤ c + 2 := by omega
     simp only [rNone] at g2
     rw [rd_146_3]
     generalize hr : execW E 146 p _ _ _ _ = e
     simp -implicitDefEqProofs (maxSteps := 1000000) [IntKind.bits, -Int.natCast_ediv, -Int.natCast_emod, -Int.natCast_add, Tryz.f146, Code.loopAt, Code.key, encRec, g, t1, t5, w1, w2, hk, hk', g2] at hr
     subst hr
     simp [drop_drop_cons hc, drop_drop_cons hc1, drop_upd hc2]
   ·cases ht
 | ok r =>
  obtain ⟨n, kind, q1⟩ := r
  have b1 := tagE_lt ht
  obtain ⟨m, k, hvr, hnum, hkind, hq1⟩ := tag_parts ht
  have hn := (vread_lt hvr).1
  rw [hvr] at g
  simp only [encRGet, rgetX] at g
  rw [← hq1] at g
  have t1 : ((m : Int).fdiv 8) = ((m / 8 : Nat) : Int) := fdiv_nat m 8
  have t5 := and7 m hn
  rw [← hnum] at t1
  rw [← hkind] at t5
  rw [loopE_ok ht] at hv
  split at hv
  ·rename_i hk
   split at hv
   ·cases hv
   ·rename_i hnn
    rw [hk] at t5
    have hnn' : ¬ (n : Int) = num := by omega
    simp only [nl4] at t5
    refine ⟨1, q, q1, fun p c0 c h hc => ?_⟩
    rw [rd_146_3]
    generalize hr : execW E 146 p _ _ _ _ = e
    simp -implicitDefEqProofs (maxSteps := 1000000) [IntKind.bits, -Int.natCast_ediv, -Int.natCast_emod, -Int.natCast_add, Tryz.f146, Code.loopAt, Code.key, encRec, g, t1, t5, w1, w2, hnn, hnn'] at hr
    subst hr
    simp [drop_drop_cons hc]
  ·rename_i hk4
   have hk4' : ¬ (kind : Int) = 4 := by omega
   split at hv
   ·rename_i x1 hbd
    have g2 := hnx (d - 1) (by omega) x1 (recE_of_err ht hbd)
    refine ⟨3, q, 0, fun p c0 c h hc => ?_⟩
    have hc1 : c0 ≤ c + 1 := by omega
    have hc2 : c0 ≤ c + 2 := by omega
    simp only [rNone] at g2
    rw [rd_146_3]
    generalize hr : execW E 146 p _ _ _ _ = e
    simp -implicitDefEqProofs (maxSteps := 1000000) [IntKind.bits, -Int.natCast_ediv, -Int.natCast_emod, -Int.natCast_add, Tryz.f146, Code.loopAt, Code.key, encRec, g, t1, t5, w1, w2, hk4, hk4', g2] at hr
    subst hr
    simp [drop_drop_cons hc, drop_drop_cons hc1, drop_upd hc2]
   ·rename_i n2 b2 q2 hbd
    have b2' := bodyE_lt hbd b1.2.1
    rw [if_pos (by omega)] at hv
    obtain ⟨r, hr⟩ := recE_of ht hbd
    have g2 := hy (d - 1) (by omega) r q2 hr
    obtain ⟨k2, q', v, gl⟩ := hl q2 (by omega) b2'.2.1 d hd1 hd num x hn1 hn2 hv
    unfold rgrFr at gl
    refine ⟨3 + k2, q', v, fun p c0 c h hc => ?_⟩
    rw [rd_146_3]
    generalize hr : execW E 146 p _ _ _ _ = e
    simp -implicitDefEqProofs (maxSteps := 1000000) [IntKind.bits, -Int.natCast_ediv, -Int.natCast_emod, -Int.natCast_add, Tryz.f146, Code.loopAt, Code.key, encRec, g, t1, t5, w1, g2, hk4, hk4'] at hr
    subst hr
    have e := gl p c0 (c + 3) (dropFrom p c0 h) (by omega)
    have hc1 : c0 ≤ c + 1 := by omega
    have hc2 : c0 ≤ c + 2 := by omega
    simpa [drop_drop_cons hc, drop_drop_cons hc1, drop_upd hc2, Nat.add_assoc] using e
theorem rgroup_y {s : List UInt8} {q : Nat} (hl : RLoopY s q) : RGroupY s q := by
 intro d hd num e hn1 hn2 hv p h
 rw [groupE] at hv
 split at hv
 ·cases hv
 ·rename_i h1
  obtain ⟨k, q', gl⟩ := hl d (by omega) hd num e hn1 hn2 hv
  have g := fun p c0 c h hc => gl p c0 c h hc
  simp only [rgrFr] at g
  rw [eq_146]
  simp -implicitDefEqProofs (maxSteps := 1000000) [Tryz.f146, Code.key, Code.hide, g, h1]
theorem rgroup_n {s : List UInt8} {q : Nat} (hl : RLoopN s q) : RGroupN s q := by
 intro d hd num x hn1 hn2 hv
 rw [groupE] at hv
 split at hv
 ·rename_i h1
  refine ⟨0, fun p h => ?_⟩
  rw [eq_146]
  simp -implicitDefEqProofs (maxSteps := 1000000) [Tryz.f146, Code.key, Code.hide, h1]
 ·rename_i h1
  obtain ⟨k, q', v, gl⟩ := hl d (by omega) hd num x hn1 hn2 hv
  refine ⟨v, fun p h => ?_⟩
  have g := fun p c0 c h hc => gl p c0 c h hc
  simp only [rgrFr] at g
  rw [eq_146]
  simp -implicitDefEqProofs (maxSteps := 1000000) [Tryz.f146, Code.key, Code.hide, g, h1]
theorem next_all {s : List UInt8} (hb : s.length ≤ 1099511627776) : ∀ m q, s.length + 1 - q ≤ m → q ≤ s.length → NextY s q ∧ NextN s q ∧ RLoopY s q ∧ RLoopN s q := by
 intro m
 induction m with
 | zero => intro q hm hq; omega
 | succ m ih =>
  intro q hm hq
  have ny := next_y hb hq (fun q1 h1 h2 => rgroup_y (ih q1 (by omega) h2).2.2.1)
  have nn := next_n hb hq (fun q1 h1 h2 => rgroup_n (ih q1 (by omega) h2).2.2.2)
  exact ⟨ny, nn, rloop_y hb hq ny (fun q1 h1 h2 => (ih q1 (by omega) h2).2.2.1), rloop_n hb hq ny nn (fun q1 h1 h2 => (ih q1 (by omega) h2).2.2.2)⟩
theorem nextY {s : List UInt8} (hb : s.length ≤ 1099511627776) {q : Nat} (hq : q ≤ s.length) : NextY s q := (next_all hb _ q (Nat.le_refl _) hq).1
theorem nextN {s : List UInt8} (hb : s.length ≤ 1099511627776) {q : Nat} (hq : q ≤ s.length) : NextN s q := (next_all hb _ q (Nat.le_refl _) hq).2.1
def rallFr (s : List UInt8) (d : Int) (q : Nat) (rs : List Rec) (ok : A) : Fr := (((((bot.set 7 (.int .i64 q)).set 6 (growing (103, 5) (recsA rs))).set 5 ok).set 4 .nils).set 1 (.int .i64 d)).set 0 (.str s)
theorem rall_loop {s : List UInt8} (hb : s.length ≤ 1099511627776) {d : Int} (hd : d ≤ 9223372036854775807) : ∀ q, q ≤ s.length → ∀ (rs : List Rec), rs.length ≤ q → ∃ k q' rs', (∀ out, allE s d q = .ok out → rs' = rs ++ out) ∧ ∀ (p : Id) (c0 c : Nat) (h : Heap), c0 ≤ c →
  iterW E 94 p [0, 1, 4, 5, 6, 7] L_94_3 c0 (rallFr s d q rs (.bool false)) c h = some (match allE s d q with | .ok _ => .exit 0 | .error _ => .ret, rallFr s d q' rs' (.bool false), c + k, dropFrom p c0 h) := by
 refine rec_ind fun q hq ih rs hrs => ?_
 by_cases hlt : q < s.length
 ·have hlt' : (q : Int) < s.length := by omega
  cases hr : recE s d q with
  | error x =>
   have g := nextN hb hq d hd x hr
   have hE := allE_err hlt hr
   refine ⟨2, q, rs, fun out ho => (by rw [hE] at ho; cases ho), fun p c0 c h hc => ?_⟩
   have hc1 : c0 ≤ c + 1 := by omega
   rw [hE]
   simp only [rNone] at g
   unfold rallFr
   rw [rd_94_3]
   generalize hr : execW E 94 p _ _ _ _ = e
   simp -implicitDefEqProofs (maxSteps := 1000000) [-Int.natCast_add, Tryz.f94, Code.loopAt, Code.key, encRec, g, hlt, hlt'] at hr
   subst hr
   simp [drop_drop_cons hc, drop_upd hc1]
  | ok re =>
   obtain ⟨r, e⟩ := re
   have b1 := recE_lt hr
   have g := nextY hb hq d hd r e hr
   obtain ⟨k, q', rs', hout, gl⟩ := ih e b1.1 b1.2.1 (rs ++ [r]) (by simp; omega)
   have hl1 : (recsA rs).length = rs.length := by simp [recsA]
   have hmax : (recsA rs).length + 1 ≤ maxStr := by unfold maxStr; omega
   have hmax2 : ((recsA rs).length + 1) * 56 ≤ 140737488355328 := by omega
   have hE := allE_ok hr
   refine ⟨2 + k, q', rs', fun out ho => ?_, fun p c0 c h hc => ?_⟩
   ·rw [hE] at ho
    obtain ⟨out', ho', rfl⟩ := map_ok ho
    rw [hout out' ho']; simp
   have hc1 : c0 ≤ c + 1 := by omega
   have hE2 : (match allE s d q with | .ok _ => Ex.exit 0 | .error _ => Ex.ret) = (match allE s d e with | .ok _ => Ex.exit 0 | .error _ => Ex.ret) := by
    rw [hE]; cases allE s d e <;> rfl
   rw [hE2]
   unfold rallFr at gl ⊢
   rw [rd_94_3]
   generalize hr : execW E 94 p _ _ _ _ = ee
   simp -implicitDefEqProofs (maxSteps := 1000000) [-Int.natCast_add, Tryz.f94, Code.loopAt, Code.key, encRec, g, hlt, hlt', hmax, hmax2] at hr
   subst hr
   have e6 : A.slice (recsA rs ++ [[.int .i64 r.num, .int .i64 r.kind, .int .u64 r.n, .str r.s, .str r.raw]]) (some (103, 5)) = growing (103, 5) (recsA (rs ++ [r])) := by
    rw [slice_growing]; simp [recsA, recCells]
   have e := gl p c0 (c + 2) (dropFrom p c0 h) (by omega)
   simpa [drop_drop_cons hc, drop_upd hc1, e6, Nat.add_assoc] using e
 ·have hlt' : ¬ (q : Int) < s.length := by omega
  have hE := allE_end (d := d) hlt
  refine ⟨0, q, rs, fun out ho => (by rw [hE] at ho; cases ho; simp), fun p c0 c h hc => ?_⟩
  rw [hE]
  unfold rallFr
  rw [rd_94_3]
  generalize hr : execW E 94 p _ _ _ _ = e
  simp -implicitDefEqProofs (maxSteps := 1000000) [-Int.natCast_add, Tryz.f94, Code.loopAt, Code.key, encRec, hlt, hlt'] at hr
  subst hr
  simp
def encRAll : Except Err (List Rec) → A
 | .ok rs => .tuple [.slice (recsA rs) none, .bool true]
 | .error _ => .tuple [.slice [] none, .bool false]
theorem rall_ok {s : List UInt8} (hb : s.length ≤ 1099511627776) {d : Int} (hd : d ≤ 9223372036854775807) (p : Id) (h : Heap) : callW E p 94 [.str s, .int .i64 d] h = some (encRAll (allE s d 0), dropFrom p 0 h) := by
 obtain ⟨k, q', rs', hout, gl⟩ := rall_loop hb hd 0 (Nat.zero_le _) [] (Nat.le_refl _)
 rw [eq_94]
 cases hv : allE s d 0 with
 | ok out =>
  have ho := hout out hv
  have g := gl
  rw [hv] at g
  simp only [rallFr, recsA, List.map_nil, growing_nil, nat0, ho, List.nil_append] at g
  simp -implicitDefEqProofs (maxSteps := 1000000) [Tryz.f94, Code.hide, Code.key, g, encRAll, recsA]
 | error x =>
  have g := gl
  rw [hv] at g
  simp only [rallFr, recsA, List.map_nil, growing_nil, nat0] at g
  simp -implicitDefEqProofs (maxSteps := 1000000) [Tryz.f94, Code.hide, Code.key, g, encRAll, recsA]
end Go.Ai.T

namespace Go.Ai.T
open Go Go.Proofs
set_option maxRecDepth 100000
set_option maxHeartbeats 4000000
theorem allE_lens {s : List UInt8} {d : Int} {rs : List Rec} (h : allE s d 0 = .ok rs) : rs.length ≤ s.length ∧ rawLen rs ≤ s.length ∧ (∀ r ∈ rs, r.s.length ≤ s.length) ∧ ∀ r ∈ rs, r.kind < 8 := by
 have h1 := allE_raw 0 (Nat.zero_le _) rs h
 have h2 := allE_short 0 (Nat.zero_le _) rs h
 have h3 := allE_mem 0 (Nat.zero_le _) rs h
 exact ⟨by omega, by omega, h2, fun r hr => (h3 r hr).2.2.1⟩
def auFr (d : Int) (rs : List Rec) (acc : List KV) (k i : Nat) : Fr := (((((((bot.set 25 (.int .i64 i)).set 24 (.int .i64 rs.length)).set 23 (.slice (recsA rs) none)).set 9 (.int .i64 k)).set 8 (growing (38, 11) (acc.map encK))).set 5 .nili).set 4 .nils).set 1 (.int .i64 d)
theorem au_loop {d : Int} (hd : d ≤ 9223372036854775807) {rs : List Rec} (hn : rs.length ≤ 549755813888)
  (hread : ∀ r ∈ rs, ∀ (q : Id) (h : Heap), callW E q 17 [.str r.s, .int .i64 d] h = some (.tuple [.agg (encK (readK r.s d).1), encO (readK r.s d).2], dropFrom q 0 h)) {p : Id} :
  ∀ (rest : List Rec) (i k : Nat) (acc : List KV) (c0 c : Nat) (h : Heap), rs.drop i = rest → i ≤ rs.length → acc.length ≤ i → k + rawLen rest ≤ 1099511627776 → c0 ≤ c →
  ∃ e fr' c', iterW E 7 p [1, 4, 5, 8, 9, 23, 24, 25] L_7_7 c0 (auFr d rs acc k i) c h = some (e, fr', c', dropFrom p c0 h) ∧
   ((unpL (fun t => readK t d) rest k acc).2 = none ∧ e = .exit 0 ∧ fr' 8 = growing (38, 11) ((unpL (fun t => readK t d) rest k acc).1.map encK) ∨
    ∃ x, (unpL (fun t => readK t d) rest k acc).2 = some x ∧ e = .ret ∧ fr' 4 = .nils ∧ fr' 5 = encE x) := by
 have hrl : (recsA rs).length = rs.length := by simp [recsA]
 intro rest
 induction rest with
 | nil =>
  intro i k acc c0 c h hj hi hx hk hc
  have hlt' : ¬ (i : Int) < rs.length := by have := drop_end hj; omega
  unfold auFr
  rw [rd_7_7]
  generalize hr : execW E 7 p _ _ _ _ = e
  simp -implicitDefEqProofs (maxSteps := 1000000) [Tryz.f7, Code.loopAt, Code.key, hlt'] at hr
  subst hr
  exact ⟨_, _, _, rfl, .inl ⟨rfl, rfl, by simp [unpL]⟩⟩
 | cons r rest ih =>
  intro i k acc c0 c h hj hi hx hk hc
  obtain ⟨hlt, hbb, hbs⟩ := drop_facts hj
  have hlt' : (i : Int) < rs.length := by omega
  have hw : IntKind.i64.wrap ((i : Int) + 1) = ((i + 1 : Nat) : Int) := by rw [wrap_i64 (by omega) (by omega)]; rfl
  have hget? : (recsA rs)[i]? = some (recCells r) := by simp [recsA, hbb]
  have hget : ∀ hl, (recsA rs)[i]'hl = recCells r := fun hl => by rw [List.getElem?_eq_getElem hl] at hget?; exact Option.some.inj hget?
  rw [rawLen_cons] at hk
  have hwk : IntKind.i64.wrap ((k : Int) + (r.raw.length : Int)) = ((k + r.raw.length : Nat) : Int) := by rw [wrap_i64 (by omega) (by omega)]; omega
  have hl1 : (acc.map encK).length = acc.length := by simp
  have hmax : acc.length + 1 ≤ maxStr := by unfold maxStr; omega
  have hmax2 : (acc.length + 1) * 160 ≤ 140737488355328 := by omega
  have hc1 : c0 ≤ c + 1 := by omega
  have hc2 : c0 ≤ c + 1 + 1 := by omega
  have g := hread r (List.mem_of_getElem? hbb)
  have ga := fun q h => at_ok k (.code 3) q h
  simp only [encE_code] at ga
  rw [unpL]
  unfold auFr
  rw [rd_7_7]
  by_cases e1 : r.num = 1
  ·by_cases e2 : r.kind = 2
   ·have ht : takesL r.num r.kind = true := by simp [takesL, e1, e2]
    rw [if_neg (by simp [ht])]
    cases hrr : (readK r.s d).2 with
    | some x =>
     have gx := fun q h => at_ok k x q h
     rw [if_pos (by simp)]
     rw [hrr] at g
     obtain ⟨t1, a1, hy⟩ := encE_iface x
     obtain ⟨cs, hcs, hst⟩ := flatK (readK r.s d).1
     rw [hcs] at g
     obtain ⟨ky, hs', k0', s0', b0', n0', l0', m0', i0', u0', uu, rfl⟩ := hst
     simp only [encO_some, hy] at g gx
     generalize hr : execW E 7 p _ _ _ _ = ee
     simp -implicitDefEqProofs (maxSteps := 1000000) [-Int.natCast_add, Tryz.f7, Code.loopAt, Code.key, recCells, hlt, hlt', hrl, hget?, hget, e1, e2, nl1, nl2, g, gx] at hr
     subst hr
     exact ⟨_, _, _, some4 (by first | (simp [hc, hc1, hc2]; done) | (simp -implicitDefEqProofs (disch := omega) only [own_du, drop_drop_cons, drop_upd, drop_drop, drop_drop_self, upd_upd, drop_upd_under, under2, hc, hc1, hc2]; done)), .inr ⟨.at_ k x, by simp, rfl, by simp, by simp⟩⟩
    | none =>
     rw [if_neg (by simp)]
     rw [hrr] at g
     obtain ⟨cs, hcs, hst⟩ := flatK (readK r.s d).1
     rw [hcs] at g
     obtain ⟨ky, hs', k0', s0', b0', n0', l0', m0', i0', u0', uu, rfl⟩ := hst
     simp only [encO_none] at g
     have hgl := fun (c : Nat) (h : Heap) (hc : c0 ≤ c) => ih (i + 1) (k + r.raw.length) (acc ++ [(readK r.s d).1]) c0 c h hbs (by omega) (by simp; omega) (by omega) hc
     generalize hr : execW E 7 p _ _ _ _ = ee
     simp -implicitDefEqProofs (maxSteps := 1000000) [-Int.natCast_add, Tryz.f7, Code.loopAt, Code.key, recCells, hlt, hlt', hrl, hget?, hget, e1, e2, nl1, nl2, g, hw, hwk, hmax, hmax2] at hr
     subst hr
     rw [← hcs]
     have e6 : A.slice (acc.map encK ++ [encK (readK r.s d).1]) (some (38, 11)) = growing (38, 11) ((acc ++ [(readK r.s d).1]).map encK) := by
      rw [slice_growing]; simp
     simp [-Int.natCast_add, -List.map_append]
     rw [e6]
     obtain ⟨e, fr', c', q1, q2⟩ := hgl (c + 1 + 1 + 1) (dropFrom p c0 h) (by omega)
     refine ⟨e, fr', ⟨c', ?_⟩, q2⟩
     rw [drop_drop_self] at q1
     rw [← q1]
     exact iterW_congr rfl rfl rfl (by simp -implicitDefEqProofs (disch := omega) only [own_du, drop_drop_cons, drop_upd, drop_drop, drop_drop_self, upd_upd, drop_upd_under, under2, hc, hc1, hc2])
   ·have ht : takesL r.num r.kind = false := by simp [takesL, e2]
    have e2' : ¬ (r.kind : Int) = 2 := by omega
    rw [if_pos ht]
    generalize hr : execW E 7 p _ _ _ _ = ee
    simp -implicitDefEqProofs (maxSteps := 1000000) [-Int.natCast_add, Tryz.f7, Code.loopAt, Code.key, recCells, hlt, hlt', hrl, hget?, hget, e1, e2, e2', nl1, ga] at hr
    subst hr
    exact ⟨_, _, _, some4 (by simp [hc, hc1, hc2]), .inr ⟨_, rfl, rfl, by simp, by simp⟩⟩
  ·have ht : takesL r.num r.kind = false := by simp [takesL, e1]
   have e1' : ¬ (r.num : Int) = 1 := by omega
   rw [if_pos ht]
   generalize hr : execW E 7 p _ _ _ _ = ee
   simp -implicitDefEqProofs (maxSteps := 1000000) [-Int.natCast_add, Tryz.f7, Code.loopAt, Code.key, recCells, hlt, hlt', hrl, hget?, hget, e1, e1', ga] at hr
   subst hr
   exact ⟨_, _, _, some4 (by simp [hc, hc1, hc2]), .inr ⟨_, rfl, rfl, by simp, by simp⟩⟩
theorem aunpack_ok {s : List UInt8} (hb : s.length ≤ 549755813888) {d : Int} (hd : d ≤ 9223372036854775807) (p : Id) (h : Heap) :
  callW E p 7 [.str s, .int .i64 d] h = some (.tuple [.slice ((unpE s d).1.map encK) none, encO (unpE s d).2], dropFrom p 0 h) := by
 have ga := fun q h => all_ok (s := s) (by omega) hd q h
 unfold unpE
 cases hv : allE s d 0 with
 | error x =>
  rw [hv] at ga
  obtain ⟨t1, a1, hy⟩ := encE_iface x
  simp only [encAll, hy] at ga
  rw [eq_7]
  simp only [encO_some, hy]
  simp -implicitDefEqProofs (maxSteps := 1000000) [Tryz.f7, Code.hide, Code.key, ga]
 | ok rs =>
  rw [hv] at ga
  simp only [encAll] at ga
  have hlen := allE_lens hv
  obtain ⟨e, fr', c', q1, q2⟩ := au_loop (p := p) hd (rs := rs) (by omega) (fun r hr q h => (unm_all _ d (Nat.le_refl _) hd r.s (by have := hlen.2.2.1 r hr; omega)).2 q h) rs 0 0 [] 1 1 (dropFrom (0 :: p) 0 h) rfl (Nat.zero_le _) (Nat.le_refl _) (by omega) (Nat.le_refl _)
  have hrl : (recsA rs).length = rs.length := by simp [recsA]
  simp only [auFr, nat0, List.map_nil, growing_nil] at q1
  dsimp only
  rw [eq_7]
  rcases q2 with ⟨q3, rfl, q4⟩ | ⟨x, q3, rfl, q4, q5⟩
  ·rw [q3]
   simp only [encO_none]
   simp -implicitDefEqProofs (maxSteps := 1000000) [Tryz.f7, Code.hide, Code.key, ga, hrl, q1, q4]
  ·have q6 := unpL_bad _ _ _ _ _ q3
   rw [q3, q6]
   obtain ⟨t1, a1, hy⟩ := encE_iface x
   rw [hy] at q5
   simp only [encO_some, hy]
   simp -implicitDefEqProofs (maxSteps := 1000000) [Tryz.f7, Code.hide, Code.key, ga, hrl, q1, q4, q5]
end Go.Ai.T

namespace Go.Ai.T
open Go Go.Proofs
set_option maxRecDepth 100000
set_option maxHeartbeats 4000000
theorem eqfV_loop {g : Nat} {f : Val → Val → Bool} {p : Id} {c0 : Nat} {xs ys : List Val} (hl : xs.length = ys.length) (hm : xs.length ≤ maxStr)
  (hf : ∀ x ∈ xs, ∀ y ∈ ys, ∀ q h, callW E q g [.agg (encV x), .agg (encV y)] h = some (.bool (f x y), dropFrom q 0 h)) : ∀ (k i c : Nat) (h : Heap), i + k = xs.length → c0 ≤ c →
  ∃ e fr' c', iterW E 115 p [1, 2, 6, 15, 16, 17] L_115_4 c0 ((((((bot.set 17 (.int .i64 i)).set 16 (.int .i64 xs.length)).set 15 (.slice (xs.map encV) none)).set 6 (.bool false)).set 2 (.fn g [])).set 1 (.slice (ys.map encV) none)) c h = some (e, fr', c', dropFrom p c0 h) ∧
   (((xs.drop i).zip (ys.drop i)).all (fun q => f q.1 q.2) = true ∧ e = .exit 0 ∨ ((xs.drop i).zip (ys.drop i)).all (fun q => f q.1 q.2) = false ∧ e = .ret ∧ fr' 6 = .bool false) := by
 intro k
 induction k with
 | zero =>
  intro i c h hi hc
  rw [rd_115_4]
  have h1 : ¬ (i : Int) < xs.length := by omega
  generalize hr : execW E 115 p _ _ _ _ = r
  simp -implicitDefEqProofs (maxSteps := 1000000) [Tryz.f115, Code.loopAt, Code.key, h1] at hr
  subst hr
  refine ⟨_, _, _, rfl, .inl ⟨?_, rfl⟩⟩
  rw [List.drop_eq_nil_of_le (by omega)]; rfl
 | succ k ih =>
  intro i c h hi hc
  rw [rd_115_4]
  have h1 : (i : Int) < xs.length := by omega
  have hc1 : c0 ≤ c + 1 := by omega
  have hc2 : c0 ≤ c + 2 := by omega
  obtain ⟨x, hx, hdx⟩ : ∃ x, xs[i]? = some x ∧ xs.drop i = x :: xs.drop (i + 1) := ⟨xs[i], List.getElem?_eq_getElem (by omega), List.drop_eq_getElem_cons (by omega)⟩
  obtain ⟨y, hy, hdy⟩ : ∃ y, ys[i]? = some y ∧ ys.drop i = y :: ys.drop (i + 1) := ⟨ys[i], List.getElem?_eq_getElem (by omega), List.drop_eq_getElem_cons (by omega)⟩
  have hf' := hf _ (List.mem_of_getElem? hx) _ (List.mem_of_getElem? hy)
  have hw : IntKind.i64.wrap ((i : Int) + 1) = (i : Int) + 1 := by rw [wrap_i64 (by omega) (by unfold maxStr at hm; omega)]
  rw [hdx, hdy]
  generalize hr : execW E 115 p _ _ _ _ = r
  simp -implicitDefEqProofs (maxSteps := 1000000) [Tryz.f115, Code.loopAt, Code.key, h1, hx, hy, hf', hw] at hr
  cases hv : f x y with
  | false =>
   simp [hv] at hr
   subst hr
   refine ⟨_, _, _, some4 (by simp [hc, hc1, hc2]), .inr ⟨by simp [hv], rfl, rfl⟩⟩
  | true =>
   simp [hv] at hr
   subst hr
   obtain ⟨e, fr', c', g1, g2⟩ := ih (i + 1) (c + 1 + 1 + 1) (dropFrom p c0 h) (by omega) (by omega)
   refine ⟨e, fr', c', ?_, ?_⟩
   ·simpa [hc, hc1, hc2] using g1
   ·simpa [hv] using g2
theorem eqfV {g : Nat} {f : Val → Val → Bool} {p : Id} {h : Heap} {xs ys : List Val} (hmx : xs.length ≤ maxStr)
  (hf : ∀ x ∈ xs, ∀ y ∈ ys, ∀ q h, callW E q g [.agg (encV x), .agg (encV y)] h = some (.bool (f x y), dropFrom q 0 h)) :
  callW E p 115 [.slice (xs.map encV) none, .slice (ys.map encV) none, .fn g []] h = some (.bool (xs.length == ys.length && (xs.zip ys).all fun q => f q.1 q.2), dropFrom p 0 h) := by
 rw [eq_115]
 by_cases hl : xs.length = ys.length
 ·obtain ⟨e, fr', c', g1, g2⟩ := eqfV_loop (p := p) (c0 := 0) (g := g) (f := f) hl hmx hf xs.length 0 0 h (by omega) (Nat.le_refl _)
  simp only [List.drop_zero] at g2
  rw [hl, nat0] at g1
  rcases g2 with ⟨g2, rfl⟩ | ⟨g2, rfl, g3⟩
  ·simp -implicitDefEqProofs (maxSteps := 1000000) [Tryz.f115, Code.hide, Code.key, hl, g1, g2]
  ·simp -implicitDefEqProofs (maxSteps := 1000000) [Tryz.f115, Code.hide, Code.key, hl, g1, g2, g3]
 ·have h1 : ¬ (xs.length : Int) = ys.length := by omega
  simp -implicitDefEqProofs (maxSteps := 1000000) [Tryz.f115, Code.key, Code.hide, hl, h1]
theorem eqfK_loop {g : Nat} {f : KV → KV → Bool} {p : Id} {c0 : Nat} {xs ys : List KV} (hl : xs.length = ys.length) (hm : xs.length ≤ maxStr)
  (hf : ∀ x ∈ xs, ∀ y ∈ ys, ∀ q h, callW E q g [.agg (encK x), .agg (encK y)] h = some (.bool (f x y), dropFrom q 0 h)) : ∀ (k i c : Nat) (h : Heap), i + k = xs.length → c0 ≤ c →
  ∃ e fr' c', iterW E 138 p [1, 2, 6, 15, 16, 17] L_138_4 c0 ((((((bot.set 17 (.int .i64 i)).set 16 (.int .i64 xs.length)).set 15 (.slice (xs.map encK) none)).set 6 (.bool false)).set 2 (.fn g [])).set 1 (.slice (ys.map encK) none)) c h = some (e, fr', c', dropFrom p c0 h) ∧
   (((xs.drop i).zip (ys.drop i)).all (fun q => f q.1 q.2) = true ∧ e = .exit 0 ∨ ((xs.drop i).zip (ys.drop i)).all (fun q => f q.1 q.2) = false ∧ e = .ret ∧ fr' 6 = .bool false) := by
 intro k
 induction k with
 | zero =>
  intro i c h hi hc
  rw [rd_138_4]
  have h1 : ¬ (i : Int) < xs.length := by omega
  generalize hr : execW E 138 p _ _ _ _ = r
  simp -implicitDefEqProofs (maxSteps := 1000000) [Tryz.f138, Code.loopAt, Code.key, h1] at hr
  subst hr
  refine ⟨_, _, _, rfl, .inl ⟨?_, rfl⟩⟩
  rw [List.drop_eq_nil_of_le (by omega)]; rfl
 | succ k ih =>
  intro i c h hi hc
  rw [rd_138_4]
  have h1 : (i : Int) < xs.length := by omega
  have hc1 : c0 ≤ c + 1 := by omega
  have hc2 : c0 ≤ c + 2 := by omega
  obtain ⟨x, hx, hdx⟩ : ∃ x, xs[i]? = some x ∧ xs.drop i = x :: xs.drop (i + 1) := ⟨xs[i], List.getElem?_eq_getElem (by omega), List.drop_eq_getElem_cons (by omega)⟩
  obtain ⟨y, hy, hdy⟩ : ∃ y, ys[i]? = some y ∧ ys.drop i = y :: ys.drop (i + 1) := ⟨ys[i], List.getElem?_eq_getElem (by omega), List.drop_eq_getElem_cons (by omega)⟩
  have hf' := hf _ (List.mem_of_getElem? hx) _ (List.mem_of_getElem? hy)
  have hw : IntKind.i64.wrap ((i : Int) + 1) = (i : Int) + 1 := by rw [wrap_i64 (by omega) (by unfold maxStr at hm; omega)]
  rw [hdx, hdy]
  generalize hr : execW E 138 p _ _ _ _ = r
  simp -implicitDefEqProofs (maxSteps := 1000000) [Tryz.f138, Code.loopAt, Code.key, h1, hx, hy, hf', hw] at hr
  cases hv : f x y with
  | false =>
   simp [hv] at hr
   subst hr
   refine ⟨_, _, _, some4 (by simp [hc, hc1, hc2]), .inr ⟨by simp [hv], rfl, rfl⟩⟩
  | true =>
   simp [hv] at hr
   subst hr
   obtain ⟨e, fr', c', g1, g2⟩ := ih (i + 1) (c + 1 + 1 + 1) (dropFrom p c0 h) (by omega) (by omega)
   refine ⟨e, fr', c', ?_, ?_⟩
   ·simpa [hc, hc1, hc2] using g1
   ·simpa [hv] using g2
theorem eqfK {g : Nat} {f : KV → KV → Bool} {p : Id} {h : Heap} {xs ys : List KV} (hmx : xs.length ≤ maxStr)
  (hf : ∀ x ∈ xs, ∀ y ∈ ys, ∀ q h, callW E q g [.agg (encK x), .agg (encK y)] h = some (.bool (f x y), dropFrom q 0 h)) :
  callW E p 138 [.slice (xs.map encK) none, .slice (ys.map encK) none, .fn g []] h = some (.bool (xs.length == ys.length && (xs.zip ys).all fun q => f q.1 q.2), dropFrom p 0 h) := by
 rw [eq_138]
 by_cases hl : xs.length = ys.length
 ·obtain ⟨e, fr', c', g1, g2⟩ := eqfK_loop (p := p) (c0 := 0) (g := g) (f := f) hl hmx hf xs.length 0 0 h (by omega) (Nat.le_refl _)
  simp only [List.drop_zero] at g2
  rw [hl, nat0] at g1
  rcases g2 with ⟨g2, rfl⟩ | ⟨g2, rfl, g3⟩
  ·simp -implicitDefEqProofs (maxSteps := 1000000) [Tryz.f138, Code.hide, Code.key, hl, g1, g2]
  ·simp -implicitDefEqProofs (maxSteps := 1000000) [Tryz.f138, Code.hide, Code.key, hl, g1, g2, g3]
 ·have h1 : ¬ (xs.length : Int) = ys.length := by omega
  simp -implicitDefEqProofs (maxSteps := 1000000) [Tryz.f138, Code.key, Code.hide, hl, h1]
theorem eqL_dec {α : Type} [DecidableEq α] (xs ys : List α) : (xs.length == ys.length && (xs.zip ys).all fun q => decide (q.1 = q.2)) = decide (xs = ys) := by
 induction xs generalizing ys with
 | nil => cases ys <;> simp
 | cons x xs ih =>
  cases ys with
  | nil => simp
  | cons y ys =>
   have := ih ys
   rw [Bool.eq_iff_iff] at this ⊢
   simp at this ⊢
   constructor
   ·rintro ⟨h1, rfl, h2⟩; exact ⟨rfl, this.1 ⟨h1, h2⟩⟩
   ·rintro ⟨rfl, rfl⟩; exact ⟨rfl, rfl, (this.2 rfl).2⟩
open Classical in
theorem same_ok : (∀ a : Val, a.wf → ∀ (b : Val) (p : Id) (h : Heap), callW E p 72 [.agg (encV a), .agg (encV b)] h = some (.bool (decide (a = b)), dropFrom p 0 h)) ∧
  ∀ a : KV, a.wf → ∀ (b : KV) (p : Id) (h : Heap), callW E p 139 [.agg (encK a), .agg (encK b)] h = some (.bool (decide (a = b)), dropFrom p 0 h) := by
 refine Val.ind2 ?_ ?_
 ·intro k s bb n l m i u ihl ihm hwf b p h
  obtain ⟨k', s', b', n', l', m', i', u'⟩ := b
  obtain ⟨_, _, _, hl, hm, _, _, hwl, hwm⟩ := Val.wf_mk.1 hwf
  have hel : ∀ q h, callW E q 115 [.slice (l.map encV) none, .slice (l'.map encV) none, .fn 72 []] h = some (.bool (decide (l = l')), dropFrom q 0 h) := fun q h => by
   rw [eqfV (f := fun x y => decide (x = y)) hl (fun x hx y _ q h => ihl x hx (hwl x hx) y q h), eqL_dec]
  have hek : ∀ q h, callW E q 138 [.slice (m.map encK) none, .slice (m'.map encK) none, .fn 139 []] h = some (.bool (decide (m = m')), dropFrom q 0 h) := fun q h => by
   rw [eqfK (f := fun x y => decide (x = y)) hm (fun x hx y _ q h => ihm x hx (hwm x hx) y q h), eqL_dec]
  have hsk : ∀ q h, callW E q 116 [.slice (m.map encK) none, .slice (m'.map encK) none] h = some (.bool (decide (m = m')), dropFrom q 0 h) := fun q h => by
   rw [eq_116]
   simp -implicitDefEqProofs (maxSteps := 1000000) [Tryz.f116, Code.key, hek]
  rw [eq_72]
  by_cases hk : k = k'
  ·subst hk
   by_cases hs : s = s'
   ·subst hs
    by_cases hb : bb = b'
    ·subst hb
     by_cases hn : n = n'
     ·subst hn
      by_cases hi : i = i'
      ·subst hi
       by_cases hu : u = u'
       ·subst hu
        by_cases hl : l = l'
        ·subst hl
         simp -implicitDefEqProofs (maxSteps := 1000000) [Tryz.f72, Code.key, hel, hsk]
        ·simp -implicitDefEqProofs (maxSteps := 1000000) [Tryz.f72, Code.key, hel, hl]
       ·simp -implicitDefEqProofs (maxSteps := 1000000) [Tryz.f72, Code.key, hu]
      ·simp -implicitDefEqProofs (maxSteps := 1000000) [Tryz.f72, Code.key, hi]
     ·have hn' : ¬ ((n : Int) = n') := by omega
      simp -implicitDefEqProofs (maxSteps := 1000000) [Tryz.f72, Code.key, hn', hn]
    ·simp -implicitDefEqProofs (maxSteps := 1000000) [Tryz.f72, Code.key, hb]
   ·simp -implicitDefEqProofs (maxSteps := 1000000) [Tryz.f72, Code.key, hs]
  ·simp -implicitDefEqProofs (maxSteps := 1000000) [Tryz.f72, Code.key, hk]
 ·intro k has v u ih hwf b p h
  obtain ⟨k', has', v', u'⟩ := b
  obtain ⟨_, _, hwv⟩ := KV.wf_mk.1 hwf
  have hv := ih hwv
  rw [eq_139]
  by_cases hk : k = k'
  ·subst hk
   by_cases hh : has = has'
   ·subst hh
    by_cases hu : u = u'
    ·subst hu
     simp -implicitDefEqProofs (maxSteps := 1000000) [Tryz.f139, Code.key, hv]
    ·simp -implicitDefEqProofs (maxSteps := 1000000) [Tryz.f139, Code.key, hu]
   ·simp -implicitDefEqProofs (maxSteps := 1000000) [Tryz.f139, Code.key, hh]
  ·simp -implicitDefEqProofs (maxSteps := 1000000) [Tryz.f139, Code.key, hk]
open Classical in
theorem sameKeys_ok {l m : List KV} (hl : l.length ≤ maxStr) (hw : ∀ x ∈ l, x.wf) (p : Id) (h : Heap) : callW E p 116 [.slice (l.map encK) none, .slice (m.map encK) none] h = some (.bool (decide (l = m)), dropFrom p 0 h) := by
 have hek : ∀ q h, callW E q 138 [.slice (l.map encK) none, .slice (m.map encK) none, .fn 139 []] h = some (.bool (decide (l = m)), dropFrom q 0 h) := fun q h => by
  rw [eqfK (f := fun x y => decide (x = y)) hl (fun x hx y _ q h => same_ok.2 x (hw x hx) y q h), eqL_dec]
 rw [eq_116]
 simp -implicitDefEqProofs (maxSteps := 1000000) [Tryz.f116, Code.key, hek]
end Go.Ai.T

namespace Go.Ai.T
open Go Go.Proofs
set_option maxRecDepth 100000
set_option maxHeartbeats 4000000
theorem nested_ok {k : Int} {s : List UInt8} {b : Bool} {n : Nat} {l : List Val} {m : List KV} {i u : List UInt8} (p : Id) (h : Heap) :
  callW E p 137 [.agg (encV (.mk k s b n l m i u))] h = some (.bool (l.isEmpty && m.isEmpty && i.isEmpty), dropFrom p 0 h) := by
 simp only [encV_mk]
 rw [eq_137]
 cases l with
 | cons x xs =>
  have e : ¬ ((x :: xs).map encV) = [] := by simp
  generalize (x :: xs).map encV = L at *
  simp -implicitDefEqProofs (maxSteps := 1000000) [Tryz.f137, Code.key, e]
 | nil =>
  cases m with
  | cons x xs =>
   have e : ¬ ((x :: xs).map encK) = [] := by simp
   generalize (x :: xs).map encK = L at *
   simp -implicitDefEqProofs (maxSteps := 1000000) [Tryz.f137, Code.key, e]
  | nil =>
   cases i <;> simp -implicitDefEqProofs (maxSteps := 1000000) [Tryz.f137, Code.key]
theorem plain_ok' {k : Int} {s : List UInt8} {b : Bool} {n : Nat} {l : List Val} {m : List KV} {i u : List UInt8} (p : Id) (h : Heap) :
  callW E p 136 [.agg (encV (.mk k s b n l m i u))] h = some (.bool (n == 0 && !b && (l.isEmpty && m.isEmpty && i.isEmpty)), dropFrom p 0 h) := by
 have g := fun q h => nested_ok (k := k) (s := s) (b := b) (n := n) (l := l) (m := m) (i := i) (u := u) q h
 simp only [encV_mk] at g ⊢
 generalize (l.isEmpty && m.isEmpty && i.isEmpty) = r at *
 rw [eq_136]
 by_cases hn : n = 0
 ·subst hn
  simp only [nat0] at *
  cases b <;> simp -implicitDefEqProofs (maxSteps := 1000000) [Tryz.f136, Code.key, g]
 ·have hn' : ¬ (n : Int) = 0 := by omega
  simp -implicitDefEqProofs (maxSteps := 1000000) [Tryz.f136, Code.key, hn, hn', g]
theorem bare_ok {k : Int} {s : List UInt8} {b : Bool} {n : Nat} {l : List Val} {m : List KV} {i u : List UInt8} (hs : s.length ≤ maxStr) (p : Id) (h : Heap) :
  callW E p 113 [.agg (encV (.mk k s b n l m i u))] h = some (.bool (bareV (.mk k s b n l m i u)), dropFrom p 0 h) := by
 have g := fun q h => nested_ok (k := k) (s := s) (b := b) (n := n) (l := l) (m := m) (i := i) (u := u) q h
 have g2 := fun q h => plain_ok' (k := k) (s := s) (b := b) (n := n) (l := l) (m := m) (i := i) (u := u) q h
 have g3 := fun q h => uvalid_ok hs q h
 unfold bareV
 simp only [encV_mk] at g g2 ⊢
 rw [eq_113]
 by_cases k1 : k = 1
 ·subst k1
  change ∀ q h, callW E q 69 [.str s] h = some (.bool (textOk s), dropFrom q 0 h) at g3
  generalize (n == 0 && !b && (l.isEmpty && m.isEmpty && i.isEmpty)) = r at *
  cases ht : textOk s with
  | false => rw [ht] at g3; simp -implicitDefEqProofs (maxSteps := 1000000) [Tryz.f113, Code.key, g2, g3]
  | true => rw [ht] at g3; simp -implicitDefEqProofs (maxSteps := 1000000) [Tryz.f113, Code.key, g2, g3]
 by_cases k7 : k = 7
 ·subst k7
  generalize (n == 0 && !b && (l.isEmpty && m.isEmpty && i.isEmpty)) = r at *
  simp -implicitDefEqProofs (maxSteps := 1000000) [Tryz.f113, Code.key, g2]
 by_cases k2 : k = 2
 ·subst k2
  generalize (l.isEmpty && m.isEmpty && i.isEmpty) = r at *
  cases s with
  | nil =>
   by_cases hn : n = 0
   ·subst hn
    simp only [nat0] at *
    simp -implicitDefEqProofs (maxSteps := 1000000) [Tryz.f113, Code.key, g]
   ·have hn' : ¬ (n : Int) = 0 := by omega
    simp -implicitDefEqProofs (maxSteps := 1000000) [Tryz.f113, Code.key, g, hn, hn']
  | cons x xs =>
   simp -implicitDefEqProofs (maxSteps := 1000000) [Tryz.f113, Code.key, g]
 by_cases k3 : k = 3
 ·subst k3
  generalize (l.isEmpty && m.isEmpty && i.isEmpty) = r at *
  cases s with
  | nil =>
   cases b with
   | true =>
    simp -implicitDefEqProofs (maxSteps := 1000000) [Tryz.f113, Code.key, g]
   | false =>
    simp -implicitDefEqProofs (maxSteps := 1000000) [Tryz.f113, Code.key, g]
  | cons x xs =>
   simp -implicitDefEqProofs (maxSteps := 1000000) [Tryz.f113, Code.key, g]
 by_cases k4 : k = 4
 ·subst k4
  generalize (l.isEmpty && m.isEmpty && i.isEmpty) = r at *
  cases s with
  | nil =>
   cases b with
   | true =>
    simp -implicitDefEqProofs (maxSteps := 1000000) [Tryz.f113, Code.key, g]
   | false =>
    simp -implicitDefEqProofs (maxSteps := 1000000) [Tryz.f113, Code.key, g]
  | cons x xs =>
   simp -implicitDefEqProofs (maxSteps := 1000000) [Tryz.f113, Code.key, g]
 by_cases k0 : k = 0
 ·subst k0
  generalize (l.isEmpty && m.isEmpty && i.isEmpty) = r at *
  cases s with
  | nil =>
   by_cases hn : n = 0
   ·subst hn
    simp only [nat0] at *
    cases b with
    | true =>
     simp -implicitDefEqProofs (maxSteps := 1000000) [Tryz.f113, Code.key, g]
    | false =>
     simp -implicitDefEqProofs (maxSteps := 1000000) [Tryz.f113, Code.key, g]
   ·have hn' : ¬ (n : Int) = 0 := by omega
    simp -implicitDefEqProofs (maxSteps := 1000000) [Tryz.f113, Code.key, g, hn, hn']
  | cons x xs =>
   simp -implicitDefEqProofs (maxSteps := 1000000) [Tryz.f113, Code.key, g]
 by_cases k5 : k = 5
 ·subst k5
  cases s with
  | nil =>
   by_cases hn : n = 0
   ·subst hn
    simp only [nat0] at *
    cases b with
    | true =>
     simp -implicitDefEqProofs (maxSteps := 1000000) [Tryz.f113, Code.key, g]
    | false =>
     cases m with
     | nil =>
      simp -implicitDefEqProofs (maxSteps := 1000000) [Tryz.f113, Code.key, g]
     | cons y ys =>
      have e2 : ¬ ((y :: ys).map encK) = [] := by simp
      generalize (y :: ys).map encK = L at *
      simp -implicitDefEqProofs (maxSteps := 1000000) [Tryz.f113, Code.key, g, e2]
   ·have hn' : ¬ (n : Int) = 0 := by omega
    simp -implicitDefEqProofs (maxSteps := 1000000) [Tryz.f113, Code.key, g, hn, hn']
  | cons x xs =>
   simp -implicitDefEqProofs (maxSteps := 1000000) [Tryz.f113, Code.key, g]
 by_cases k6 : k = 6
 ·subst k6
  cases s with
  | nil =>
   by_cases hn : n = 0
   ·subst hn
    simp only [nat0] at *
    cases b with
    | true =>
     simp -implicitDefEqProofs (maxSteps := 1000000) [Tryz.f113, Code.key, g]
    | false =>
     cases l with
     | nil =>
      simp -implicitDefEqProofs (maxSteps := 1000000) [Tryz.f113, Code.key, g]
     | cons y ys =>
      have e2 : ¬ ((y :: ys).map encV) = [] := by simp
      generalize (y :: ys).map encV = L at *
      simp -implicitDefEqProofs (maxSteps := 1000000) [Tryz.f113, Code.key, g, e2]
   ·have hn' : ¬ (n : Int) = 0 := by omega
    simp -implicitDefEqProofs (maxSteps := 1000000) [Tryz.f113, Code.key, g, hn, hn']
  | cons x xs =>
   simp -implicitDefEqProofs (maxSteps := 1000000) [Tryz.f113, Code.key, g]
 simp -implicitDefEqProofs (maxSteps := 1000000) [Tryz.f113, Code.key, k0, k1, k2, k3, k4, k5, k6, k7]
end Go.Ai.T

namespace Go.Ai.T
open Go Go.Proofs
set_option maxRecDepth 100000
set_option maxHeartbeats 4000000
def restFr (f : Nat) (err : A) (rs : List Rec) (i : Nat) : Fr := ((((((bot.set 19 (.int .i64 i)).set 18 (.int .i64 rs.length)).set 17 (.slice (recsA rs) none)).set 8 err).set 6 (.bool false)).set 2 (.fn f []))
theorem rest_loop {f : Nat} {t : Nat → Nat → Bool} (ht : ∀ (p : Id) (h : Heap) (a b : Nat), callW E p f [.int .i64 a, .int .i64 b] h = some (.bool (t a b), dropFrom p 0 h)) {rs : List Rec} (hn : rs.length ≤ 1099511627776) {err : A} :
  ∀ (rest : List Rec) (i : Nat), rs.drop i = rest → i ≤ rs.length → ∃ K i', ∀ (p : Id) (c0 c : Nat) (h : Heap), c0 ≤ c →
  iterW E 70 p [2, 6, 8, 17, 18, 19] L_70_3 c0 (restFr f err rs i) c h =
   some (if (rest.all fun r => !t r.num r.kind) = true then .exit 0 else .ret, restFr f err rs i', c + K, dropFrom p c0 h) := by
 intro rest
 induction rest with
 | nil =>
  intro i hj hi
  have hlen : i = rs.length := by have := drop_end hj; omega
  subst hlen
  refine ⟨0, rs.length, fun p c0 c h h1 => ?_⟩
  have hlt' : ¬ ((rs.length : Nat) : Int) < rs.length := by omega
  unfold restFr
  rw [rd_70_3]
  generalize hr : execW E 70 p _ _ _ _ = e
  simp -implicitDefEqProofs (maxSteps := 1000000) [Tryz.f70, Code.loopAt, Code.key] at hr
  subst hr
  simp
 | cons r rest ih =>
  intro i hj hi
  obtain ⟨hlt, hbb, hbs⟩ := drop_facts hj
  have hlt' : (i : Int) < rs.length := by omega
  have hw : IntKind.i64.wrap ((i : Int) + 1) = ((i + 1 : Nat) : Int) := by rw [wrap_i64 (by omega) (by omega)]; rfl
  have hrl : (recsA rs).length = rs.length := by simp [recsA]
  have hget? : (recsA rs)[i]? = some (recCells r) := by simp [recsA, hbb]
  have hget : ∀ hl, (recsA rs)[i]'hl = recCells r := fun hl => by rw [List.getElem?_eq_getElem hl] at hget?; exact Option.some.inj hget?
  cases htr : t r.num r.kind with
  | true =>
   refine ⟨2, i, fun p c0 c h h1 => ?_⟩
   have e : ((r :: rest).all fun r => !t r.num r.kind) = false := by simp [htr]
   rw [e]
   unfold restFr
   rw [rd_70_3]
   generalize hr : execW E 70 p _ _ _ _ = ee
   simp -implicitDefEqProofs (maxSteps := 1000000) [-Int.natCast_add, Tryz.f70, Code.loopAt, Code.key, recCells, ht, htr, hlt, hlt', hrl, hget?, hget, hw] at hr
   subst hr
   simp [-Int.natCast_add]
   simp -implicitDefEqProofs (disch := omega) only [own_du, drop_drop_cons, drop_upd, drop_drop, drop_drop_self, upd_upd]
  | false =>
   obtain ⟨K, i', gl⟩ := ih (i + 1) hbs (by omega)
   refine ⟨2 + K, i', fun p c0 c h h1 => ?_⟩
   have e : ((r :: rest).all fun r => !t r.num r.kind) = (rest.all fun r => !t r.num r.kind) := by simp [htr]
   rw [e]
   have e := gl p c0 (c + 2) (dropFrom p c0 h) (by omega)
   unfold restFr at e ⊢
   rw [rd_70_3]
   generalize hr : execW E 70 p _ _ _ _ = ee
   simp -implicitDefEqProofs (maxSteps := 1000000) [-Int.natCast_add, Tryz.f70, Code.loopAt, Code.key, recCells, ht, htr, hlt, hlt', hrl, hget?, hget, hw] at hr
   subst hr
   simp [-Int.natCast_add, -List.all_eq_true]
   exact (iterW_congr rfl rfl (by omega) (by simp -implicitDefEqProofs (disch := omega) only [own_du, drop_drop_cons, drop_upd, drop_drop, drop_drop_self, upd_upd])).trans (e.trans (some5 rfl (by omega) (by simp -implicitDefEqProofs (disch := omega) only [own_du, drop_drop_cons, drop_upd, drop_drop, drop_drop_self, upd_upd])))
theorem rest_ok {s : List UInt8} (hb : s.length ≤ 1099511627776) {d : Int} (hd : d ≤ 9223372036854775807) {f : Nat} {t : Nat → Nat → Bool} (ht : ∀ (p : Id) (h : Heap) (a b : Nat), callW E p f [.int .i64 a, .int .i64 b] h = some (.bool (t a b), dropFrom p 0 h)) (p : Id) (h : Heap) :
  callW E p 70 [.str s, .int .i64 d, .fn f []] h = some (.bool (restE t s d), dropFrom p 0 h) := by
 have ga := fun q h => all_ok hb hd q h
 unfold restE
 rw [eq_70]
 cases hv : allE s d 0 with
 | error x =>
  rw [hv] at ga
  obtain ⟨K, i', gl⟩ := rest_loop ht (rs := []) (by simp) (err := encE x) [] 0 rfl (Nat.zero_le _)
  have g := fun h => gl p 1 1 h (Nat.le_refl _)
  simp only [encAll, restFr, nat0, recsA, List.map_nil, List.length_nil] at ga g
  cases x <;> simp only [encE_code, encE_at, encE_fld] at ga g <;> simp -implicitDefEqProofs (maxSteps := 1000000) [Tryz.f70, Code.hide, Code.key, ga, g]
 | ok rs =>
  rw [hv] at ga
  have h1 := allE_raw 0 (Nat.zero_le _) rs hv
  obtain ⟨K, i', gl⟩ := rest_loop ht (rs := rs) (by omega) (err := .nili) rs 0 rfl (Nat.zero_le _)
  have g := fun h => gl p 1 1 h (Nat.le_refl _)
  have hrl : (recsA rs).length = rs.length := by simp [recsA]
  simp only [encAll, restFr, nat0] at ga g
  dsimp only
  cases hx : rs.all fun r => !t r.num r.kind with
  | true =>
   rw [hx] at g
   simp only [if_true] at g
   simp -implicitDefEqProofs (maxSteps := 1000000) [Tryz.f70, Code.hide, Code.key, ga, g, hrl]
  | false =>
   rw [hx] at g
   simp only [Bool.false_eq_true, if_false] at g
   simp -implicitDefEqProofs (maxSteps := 1000000) [Tryz.f70, Code.hide, Code.key, ga, g, hrl]
end Go.Ai.T

namespace Go.Ai.T
open Go Go.Proofs
set_option maxRecDepth 100000
set_option maxHeartbeats 4000000
def mkFr (d : Int) (l : List KV) (i : Nat) : Fr := (((((bot.set 9 (.int .i64 i)).set 8 (.int .i64 l.length)).set 7 (.slice (l.map encK) none)).set 4 (.bool false)).set 1 (.int .i64 d))
def mvFr (p : Id) (d : Int) (l : List Val) (i : Nat) : Fr := ((((((bot.set 42 (.int .i64 i)).set 41 (.int .i64 l.length)).set 40 (.slice (l.map encV) none)).set 4 (.bool false)).set 2 (.ptr (36 :: 0 :: p) 0)).set 1 (.int .i64 d))
theorem mayKs_loop {d : Int} {l : List KV} (hn : l.length ≤ maxStr) (hd1 : -9223372036854775808 ≤ d) (hd2 : d ≤ 9223372036854775807) (hr : ∀ x ∈ l, ∀ (q : Id) (h : Heap), callW E q 40 [.agg (encK x), .int .i64 d] h = some (.bool (mayK x d), dropFrom q 0 h)) :
  ∀ (t : List KV) (i : Nat), l.drop i = t → i ≤ l.length → ∃ K i', ∀ (p : Id) (c0 c : Nat) (h : Heap), c0 ≤ c →
  iterW E 114 p [1, 4, 7, 8, 9] L_114_2 c0 (mkFr d l i) c h = some (if (t.all fun x => mayK x d) = true then .exit 0 else .ret, mkFr d l i', c + K, dropFrom p c0 h) := by
 intro t
 induction t with
 | nil =>
  intro i hj hi
  have hlen : i = l.length := by have := drop_end hj; omega
  subst hlen
  refine ⟨0, l.length, fun p c0 c h h1 => ?_⟩
  have hlt' : ¬ ((l.length : Nat) : Int) < l.length := by omega
  unfold mkFr
  rw [rd_114_2]
  generalize hr : execW E 114 p _ _ _ _ = e
  simp -implicitDefEqProofs (maxSteps := 1000000) [Tryz.f114, Code.loopAt, Code.key] at hr
  subst hr
  simp
 | cons x t ih =>
  intro i hj hi
  obtain ⟨hlt, hbb, hbs⟩ := drop_facts hj
  have hlt' : (i : Int) < l.length := by omega
  have hw1 : IntKind.i64.wrap ((i : Int) + 1) = ((i + 1 : Nat) : Int) := by rw [wrap_succ hlt hn]; rfl
  have hwe : IntKind.i64.wrap d = d := wrap_i64 hd1 hd2
  have hget? : (l.map encK)[i]? = some (encK x) := by simp [hbb]
  have hget : ∀ hl, (l.map encK)[i]'hl = encK x := fun hl => by rw [List.getElem?_eq_getElem hl] at hget?; exact Option.some.inj hget?
  have hgetl : ∀ hl, l[i]'hl = x := fun hl => by rw [List.getElem?_eq_getElem hl] at hbb; exact Option.some.inj hbb
  have g := hr x (List.mem_of_getElem? hbb)
  cases hv : mayK x d with
  | false =>
   refine ⟨2, i, fun p c0 c h h1 => ?_⟩
   have e : ((x :: t).all fun x => mayK x d) = false := by simp [hv]
   rw [e]
   rw [hv] at g
   unfold mkFr
   rw [rd_114_2]
   generalize hr : execW E 114 p _ _ _ _ = ee
   simp -implicitDefEqProofs (maxSteps := 1000000) [-Int.natCast_add, Tryz.f114, Code.loopAt, Code.key, hlt, hlt', hget?, hget, hgetl, hbb, hw1, hwe, g] at hr
   subst hr
   simp [-Int.natCast_add]
   simp -implicitDefEqProofs (disch := omega) only [own_du, drop_drop_cons, drop_upd, drop_drop, drop_drop_self, upd_upd]
  | true =>
   obtain ⟨K, i', gl⟩ := ih (i + 1) hbs (by omega)
   refine ⟨2 + K, i', fun p c0 c h h1 => ?_⟩
   have e : ((x :: t).all fun x => mayK x d) = (t.all fun x => mayK x d) := by simp [hv]
   rw [e]
   rw [hv] at g
   have e := gl p c0 (c + 2) (dropFrom p c0 h) (by omega)
   unfold mkFr at e ⊢
   rw [rd_114_2]
   generalize hr : execW E 114 p _ _ _ _ = ee
   simp -implicitDefEqProofs (maxSteps := 1000000) [-Int.natCast_add, Tryz.f114, Code.loopAt, Code.key, hlt, hlt', hget?, hget, hgetl, hbb, hw1, hwe, g] at hr
   subst hr
   simp [-Int.natCast_add, -List.all_eq_true]
   exact (iterW_congr rfl rfl (by omega) (by simp -implicitDefEqProofs (disch := omega) only [own_du, drop_drop_cons, drop_upd, drop_drop, drop_drop_self, upd_upd])).trans (e.trans (some5 rfl (by omega) (by simp -implicitDefEqProofs (disch := omega) only [own_du, drop_drop_cons, drop_upd, drop_drop, drop_drop_self, upd_upd])))
theorem mayVs_loop {d : Int} {l : List Val} (hn : l.length ≤ maxStr) (hd1 : -9223372036854775808 ≤ (d - 2)) (hd2 : (d - 2) ≤ 9223372036854775807) (hr : ∀ x ∈ l, ∀ (q : Id) (h : Heap), callW E q 71 [.agg (encV x), .int .i64 (d - 2)] h = some (.bool (mayV x (d - 2)), dropFrom q 0 h)) :
  ∀ (t : List Val) (i : Nat), l.drop i = t → i ≤ l.length → ∃ K i', ∀ (p : Id) (c0 c : Nat) (h : Heap), c0 ≤ c →
  iterW E 71 p [1, 2, 4, 40, 41, 42] L_71_8 c0 (mvFr p d l i) c h = some (if (t.all fun x => mayV x (d - 2)) = true then .exit 0 else .ret, mvFr p d l i', c + K, dropFrom p c0 h) := by
 intro t
 induction t with
 | nil =>
  intro i hj hi
  have hlen : i = l.length := by have := drop_end hj; omega
  subst hlen
  refine ⟨0, l.length, fun p c0 c h h1 => ?_⟩
  have hlt' : ¬ ((l.length : Nat) : Int) < l.length := by omega
  unfold mvFr
  rw [rd_71_8]
  generalize hr : execW E 71 p _ _ _ _ = e
  simp -implicitDefEqProofs (maxSteps := 1000000) [Tryz.f71, Code.loopAt, Code.key] at hr
  subst hr
  simp
 | cons x t ih =>
  intro i hj hi
  obtain ⟨hlt, hbb, hbs⟩ := drop_facts hj
  have hlt' : (i : Int) < l.length := by omega
  have hw1 : IntKind.i64.wrap ((i : Int) + 1) = ((i + 1 : Nat) : Int) := by rw [wrap_succ hlt hn]; rfl
  have hwe : IntKind.i64.wrap (d - 2) = (d - 2) := wrap_i64 hd1 hd2
  have hget? : (l.map encV)[i]? = some (encV x) := by simp [hbb]
  have hget : ∀ hl, (l.map encV)[i]'hl = encV x := fun hl => by rw [List.getElem?_eq_getElem hl] at hget?; exact Option.some.inj hget?
  have hgetl : ∀ hl, l[i]'hl = x := fun hl => by rw [List.getElem?_eq_getElem hl] at hbb; exact Option.some.inj hbb
  have g := hr x (List.mem_of_getElem? hbb)
  cases hv : mayV x (d - 2) with
  | false =>
   refine ⟨2, i, fun p c0 c h h1 => ?_⟩
   have e : ((x :: t).all fun x => mayV x (d - 2)) = false := by simp [hv]
   rw [e]
   rw [hv] at g
   unfold mvFr
   rw [rd_71_8]
   generalize hr : execW E 71 p _ _ _ _ = ee
   simp -implicitDefEqProofs (maxSteps := 1000000) [-Int.natCast_add, Tryz.f71, Code.loopAt, Code.key, hlt, hlt', hget?, hget, hgetl, hbb, hw1, hwe, g] at hr
   subst hr
   simp [-Int.natCast_add]
   simp -implicitDefEqProofs (disch := omega) only [own_du, drop_drop_cons, drop_upd, drop_drop, drop_drop_self, upd_upd]
  | true =>
   obtain ⟨K, i', gl⟩ := ih (i + 1) hbs (by omega)
   refine ⟨2 + K, i', fun p c0 c h h1 => ?_⟩
   have e : ((x :: t).all fun x => mayV x (d - 2)) = (t.all fun x => mayV x (d - 2)) := by simp [hv]
   rw [e]
   rw [hv] at g
   have e := gl p c0 (c + 2) (dropFrom p c0 h) (by omega)
   unfold mvFr at e ⊢
   rw [rd_71_8]
   generalize hr : execW E 71 p _ _ _ _ = ee
   simp -implicitDefEqProofs (maxSteps := 1000000) [-Int.natCast_add, Tryz.f71, Code.loopAt, Code.key, hlt, hlt', hget?, hget, hgetl, hbb, hw1, hwe, g] at hr
   subst hr
   simp [-Int.natCast_add, -List.all_eq_true]
   exact (iterW_congr rfl rfl (by omega) (by simp -implicitDefEqProofs (disch := omega) only [own_du, drop_drop_cons, drop_upd, drop_drop, drop_drop_self, upd_upd])).trans (e.trans (some5 rfl (by omega) (by simp -implicitDefEqProofs (disch := omega) only [own_du, drop_drop_cons, drop_upd, drop_drop, drop_drop_self, upd_upd])))
theorem mayKs_of {d : Int} {l : List KV} (hn : l.length ≤ maxStr) (hd1 : -9223372036854775808 ≤ d) (hd2 : d ≤ 9223372036854775807) (hr : ∀ x ∈ l, ∀ (q : Id) (h : Heap), callW E q 40 [.agg (encK x), .int .i64 d] h = some (.bool (mayK x d), dropFrom q 0 h)) (p : Id) (h : Heap) :
  callW E p 114 [.slice (l.map encK) none, .int .i64 d] h = some (.bool (mayKs l d), dropFrom p 0 h) := by
 obtain ⟨K, i', gl⟩ := mayKs_loop hn hd1 hd2 hr l 0 rfl (Nat.zero_le _)
 have g := fun h => gl p 0 0 h (Nat.le_refl _)
 rw [mayKs_all]
 rw [eq_114]
 simp only [mkFr, nat0] at g
 cases hx : l.all fun x => mayK x d with
 | true =>
  rw [hx] at g
  simp only [if_true] at g
  simp -implicitDefEqProofs (maxSteps := 1000000) [Tryz.f114, Code.hide, Code.key, g]
 | false =>
  rw [hx] at g
  simp only [Bool.false_eq_true, if_false] at g
  simp -implicitDefEqProofs (maxSteps := 1000000) [Tryz.f114, Code.hide, Code.key, g]
theorem may_of {k : Int} {s : List UInt8} {b : Bool} {n : Nat} {l : List Val} {m : List KV} {i u : List UInt8} (hwf : (Val.mk k s b n l m i u).wf) (hu : u.length ≤ 1099511627776) (hi : i.length ≤ 1099511627776) {d : Int} (hd2 : d ≤ 9223372036854775807)
  (hV : 1 ≤ d → ∀ x ∈ l, ∀ (q : Id) (h : Heap), callW E q 71 [.agg (encV x), .int .i64 (d - 2)] h = some (.bool (mayV x (d - 2)), dropFrom q 0 h))
  (hK : 1 ≤ d → ∀ x ∈ m, ∀ (q : Id) (h : Heap), callW E q 40 [.agg (encK x), .int .i64 (d - 2)] h = some (.bool (mayK x (d - 2)), dropFrom q 0 h)) (p : Id) (h : Heap) :
  callW E p 71 [.agg (encV (.mk k s b n l m i u)), .int .i64 d] h = some (.bool (mayV (.mk k s b n l m i u) d), dropFrom p 0 h) := by
 obtain ⟨hk, hs, hn, hll, hml, hil, hul, hwl, hwm⟩ := Val.wf_mk.1 hwf
 have g1 := fun q h => bare_ok (k := k) (b := b) (n := n) (l := l) (m := m) (i := i) (u := u) hs q h
 have g2 := fun q h => rest_ok hu hd2 takes_ok q h
 rw [mayV]
 generalize bareV (.mk k s b n l m i u) = bb at *
 simp only [encV_mk] at g1 ⊢
 rw [eq_71]
 by_cases h0 : d < 0
 ·have e : decide (0 ≤ d) = false := by simp; omega
  rw [e]
  simp -implicitDefEqProofs (maxSteps := 1000000) [Tryz.f71, Code.hide, Code.key, h0]
 have e0 : decide (0 ≤ d) = true := by simp; omega
 rw [e0]
 cases bb with
 | false => simp -implicitDefEqProofs (maxSteps := 1000000) [Tryz.f71, Code.hide, Code.key, h0, g1]
 | true =>
  cases hx : restE takesV u d with
  | false =>
   rw [hx] at g2
   simp -implicitDefEqProofs (maxSteps := 1000000) [Tryz.f71, Code.hide, Code.key, h0, g1, g2]
  | true =>
   rw [hx] at g2
   by_cases hk56 : k = 5 ∨ k = 6
   ·rw [if_pos hk56]
    by_cases h1 : d < 1
    ·have e1 : decide (1 ≤ d) = false := by simp; omega
     rw [e1]
     rcases hk56 with rfl | rfl <;> simp -implicitDefEqProofs (maxSteps := 1000000) [Tryz.f71, Code.hide, Code.key, h0, h1, g1, g2]
    have e1 : decide (1 ≤ d) = true := by simp; omega
    rw [e1]
    have hwd : IntKind.i64.wrap (d - 1) = d - 1 := wrap_i64 (by omega) (by omega)
    have hwd2 : IntKind.i64.wrap (d - 2) = d - 2 := wrap_i64 (by omega) (by omega)
    have g3 := fun q h => rest_ok hi (d := d - 1) (by omega) lone_ok q h
    cases hy : restE loneT i (d - 1) with
    | false =>
     rw [hy] at g3
     rcases hk56 with rfl | rfl <;> simp -implicitDefEqProofs (maxSteps := 1000000) [Tryz.f71, Code.hide, Code.key, h0, h1, g1, g2, g3, hwd]
    | true =>
     rw [hy] at g3
     obtain ⟨K, i', gl⟩ := mayVs_loop (d := d) hll (by omega) (by omega) (hV (by omega)) l 0 rfl (Nat.zero_le _)
     have g := fun c h => gl p c c h (Nat.le_refl _)
     have g4 := fun q h => mayKs_of (d := d - 2) hml (by omega) (by omega) (hK (by omega)) q h
     rw [mayVs_all]
     simp only [mvFr, nat0] at g
     cases hz : l.all fun x => mayV x (d - 2) with
     | false =>
      rw [hz] at g
      simp only [Bool.false_eq_true, if_false] at g
      rcases hk56 with rfl | rfl <;> simp -implicitDefEqProofs (maxSteps := 1000000) [Tryz.f71, Code.hide, Code.key, h0, h1, g1, g2, g3, hwd, hwd2, g]
     | true =>
      rw [hz] at g
      simp only [if_true] at g
      rcases hk56 with rfl | rfl <;> simp -implicitDefEqProofs (maxSteps := 1000000) [Tryz.f71, Code.hide, Code.key, h0, h1, g1, g2, g3, hwd, hwd2, g, g4]
   ·rw [if_neg hk56]
    have k5 : ¬ k = 5 := fun e => hk56 (.inl e)
    have k6 : ¬ k = 6 := fun e => hk56 (.inr e)
    simp -implicitDefEqProofs (maxSteps := 1000000) [Tryz.f71, Code.hide, Code.key, h0, g1, g2, k5, k6]
open Classical in
theorem mayKey_of {key : List UInt8} {has : Bool} {v : Val} {u : List UInt8} (hkl : key.length ≤ maxStr) (hvw : v.wf) (hu : u.length ≤ 1099511627776) {d : Int} (hd2 : d ≤ 9223372036854775807)
  (hV : 0 ≤ d → ∀ (q : Id) (h : Heap), callW E q 71 [.agg (encV v), .int .i64 (d - 1)] h = some (.bool (mayV v (d - 1)), dropFrom q 0 h)) (p : Id) (h : Heap) :
  callW E p 40 [.agg (encK (.mk key has v u)), .int .i64 d] h = some (.bool (mayK (.mk key has v u) d), dropFrom p 0 h) := by
 have g1 := fun q h => uvalid_ok hkl q h
 change ∀ q h, callW E q 69 [.str key] h = some (.bool (textOk key), dropFrom q 0 h) at g1
 have g2 := fun q h => rest_ok hu hd2 takesKey_ok q h
 have g3 := fun q h => same_ok.1 v hvw val0 q h
 have hz : (decide (v = val0)) = v.isZero := by rw [Bool.eq_iff_iff, Val.isZero_iff]; simp
 rw [hz] at g3
 rw [mayK]
 obtain ⟨cs, hcs, hsh⟩ := flatV v
 simp only [encK_mk]
 rw [hcs] at hV g3 ⊢
 obtain ⟨k0, s0, b0, n0, l0, m0, i0, u0, rfl⟩ := hsh
 have hz0 : encV val0 = [.int .i64 0, .str [], .bool false, .int .u64 0, .slice [] none, .slice [] none, .str [], .str []] := by simp [val0]
 rw [hz0] at g3
 rw [eq_40]
 by_cases h0 : d < 0
 ·have e : decide (0 ≤ d) = false := by simp; omega
  rw [e]
  simp -implicitDefEqProofs (maxSteps := 1000000) [Tryz.f40, Code.key, h0]
 have e0 : decide (0 ≤ d) = true := by simp; omega
 have hwd : IntKind.i64.wrap (d - 1) = d - 1 := wrap_i64 (by omega) (by omega)
 have gV := hV (by omega)
 rw [e0]
 cases ht : textOk key with
 | false =>
  rw [ht] at g1
  simp -implicitDefEqProofs (maxSteps := 1000000) [Tryz.f40, Code.key, h0, g1]
 | true =>
  rw [ht] at g1
  cases hx : restE takesK u d with
  | false =>
   rw [hx] at g2
   simp -implicitDefEqProofs (maxSteps := 1000000) [Tryz.f40, Code.key, h0, g1, g2]
  | true =>
   rw [hx] at g2
   cases has with
   | true => simp -implicitDefEqProofs (maxSteps := 1000000) [Tryz.f40, Code.key, h0, g1, g2, gV, hwd]
   | false => simp -implicitDefEqProofs (maxSteps := 1000000) [Tryz.f40, Code.key, h0, g1, g2, g3]
end Go.Ai.T

namespace Go.Ai.T
open Go Go.Proofs
set_option maxRecDepth 100000
set_option maxHeartbeats 4000000
theorem tag_bits {num kind : Nat} (h2 : num ≤ 536870911) (h3 : kind < 8) : bitsA .or .u64 ((num * 8 : Nat) : Int) (kind : Int) = ((num * 8 + kind : Nat) : Int) := by
 rw [bitsA_or_u64 _ _ (by omega) (by omega)]
 have := or_shift kind num 3 (by omega)
 rw [show (2 : Nat) ^ 3 = 8 from rfl] at this
 rw [Nat.or_comm, this, Nat.add_comm]
theorem wtag_ok {num kind : Nat} (h1 : 1 ≤ num) (h2 : num ≤ 536870911) (h3 : kind ≤ 5) (p : Id) (h : Heap) : callW E p 79 [.int .i64 num, .int .i64 kind] h = some (.str (tagB num kind), dropFrom p 0 h) := by
 have g := fun q h => put_ok (n := num * 8 + kind) (by omega) q h
 have c1 : ¬ (num : Int) < 1 := by omega
 have c2 : ¬ (536870911 : Int) < num := by omega
 have c3 : ¬ (kind : Int) < 0 := by omega
 have c4 : ¬ (5 : Int) < kind := by omega
 have w1 : IntKind.u64.wrap (num : Int) = num := wrap_u64 (by omega) (by omega)
 have w2 : IntKind.u64.wrap (kind : Int) = kind := wrap_u64 (by omega) (by omega)
 have w3 : IntKind.u64.wrap ((num : Int) * 8) = ((num * 8 : Nat) : Int) := by rw [wrap_u64 (by omega) (by omega)]; omega
 have w4 := tag_bits (num := num) (kind := kind) h2 (by omega)
 have c5 : ¬ 536870911 < num := by omega
 have c6 : ¬ num = 0 := by omega
 have c7 : ¬ 5 < kind := by omega
 rw [eq_79]
 simp -implicitDefEqProofs (maxSteps := 1000000) [-Int.natCast_add, -Int.natCast_mul, Tryz.f79, Code.key, c1, c2, c3, c4, c5, c6, c7, w1, w2, w3, w4, g, tagB, IntKind.bits]
theorem putV_pos' (n : Nat) : 1 ≤ (putV n).length := by simp [putV]
theorem tagB_pos (num kind : Nat) : tagB num kind ≠ [] := by
 have := putV_pos' (num * 8 + kind)
 unfold tagB
 intro h
 rw [h] at this
 simp at this
theorem wput_ok {num kind : Nat} (h1 : 1 ≤ num) (h2 : num ≤ 536870911) (h3 : kind ≤ 5) {s : List UInt8} (hs : s.length ≤ 1099511627776) (p : Id) (h : Heap) : callW E p 43 [.int .i64 num, .int .i64 kind, .str s] h = some (.str (tagB num kind ++ s), dropFrom p 0 h) := by
 have g := fun q h => wtag_ok h1 h2 h3 q h
 have hl : (tagB num kind).length ≤ 10 := (putV_len (n := num * 8 + kind) (by omega)).2
 have hm : (tagB num kind).length + s.length ≤ maxStr := by unfold maxStr; omega
 have hn := tagB_pos num kind
 rw [eq_43]
 simp -implicitDefEqProofs (maxSteps := 1000000) [Tryz.f43, Code.key, g, hm, hn]
theorem leB8 (n : Nat) : leB 8 n = [UInt8.ofNat (n % 256), UInt8.ofNat (n / 256 % 256), UInt8.ofNat (n / 65536 % 256), UInt8.ofNat (n / 16777216 % 256), UInt8.ofNat (n / 4294967296 % 256), UInt8.ofNat (n / 1099511627776 % 256), UInt8.ofNat (n / 281474976710656 % 256), UInt8.ofNat (n / 72057594037927936 % 256)] := by
 simp only [leB, Nat.div_div_eq_div_mul]
theorem weight_ok {n : Nat} (p : Id) (h : Heap) : callW E p 154 [.int .u64 n] h = some (.str (leB 8 n), dropFrom p 0 h) := by
 have f0 : Int.fdiv (n : Int) 1 = n := by simp
 have f1 : Int.fdiv (n : Int) 256 = ((n / 256 : Nat) : Int) := fdiv_nat n 256
 have f2 : Int.fdiv (n : Int) 65536 = ((n / 65536 : Nat) : Int) := fdiv_nat n 65536
 have f3 : Int.fdiv (n : Int) 16777216 = ((n / 16777216 : Nat) : Int) := fdiv_nat n 16777216
 have f4 : Int.fdiv (n : Int) 4294967296 = ((n / 4294967296 : Nat) : Int) := fdiv_nat n 4294967296
 have f5 : Int.fdiv (n : Int) 1099511627776 = ((n / 1099511627776 : Nat) : Int) := fdiv_nat n 1099511627776
 have f6 : Int.fdiv (n : Int) 281474976710656 = ((n / 281474976710656 : Nat) : Int) := fdiv_nat n 281474976710656
 have f7 : Int.fdiv (n : Int) 72057594037927936 = ((n / 72057594037927936 : Nat) : Int) := fdiv_nat n 72057594037927936
 have ub : ∀ (m : Nat) (xs : List (List A)), unbytes ([A.int .u8 ((m % 256 : Nat) : Int)] :: xs) = (unbytes xs).map (UInt8.ofNat (m % 256) :: ·) := fun m xs => by
  rw [unbytes, if_pos (by omega)]; rfl
 have ub0 : unbytes [] = some [] := rfl
 rw [eq_154, leB8]
 simp -implicitDefEqProofs (maxSteps := 1000000) [-Int.natCast_emod, -Int.natCast_ediv, Tryz.f154, Code.hide, Code.loopAt, Code.key, rd_154_3, IntKind.bits, f0, f1, f2, f3, f4, f5, f6, f7, wrap_u8_nat, ub, ub0, wrap_i64]
theorem wvarint_ok {num n : Nat} (h1 : 1 ≤ num) (h2 : num ≤ 536870911) (hn : n < 18446744073709551616) (p : Id) (h : Heap) : callW E p 140 [.int .i64 num, .int .u64 n] h = some (.str (numB num n), dropFrom p 0 h) := by
 have g := fun q h => put_ok hn q h
 have hl := (putV_len hn).2
 have g2 := fun q h => wput_ok h1 h2 (kind := 0) (by omega) (s := putV n) (by omega) q h
 simp only [nat0] at g2
 rw [eq_140]
 simp -implicitDefEqProofs (maxSteps := 1000000) [Tryz.f140, Code.key, g, g2, numB]
theorem wfixed_ok {num n : Nat} (h1 : 1 ≤ num) (h2 : num ≤ 536870911) (p : Id) (h : Heap) : callW E p 141 [.int .i64 num, .int .u64 n] h = some (.str (fixB num n), dropFrom p 0 h) := by
 have g := fun q h => weight_ok (n := n) q h
 have g2 := fun q h => wput_ok h1 h2 (kind := 1) (by omega) (s := leB 8 n) (by simp) q h
 simp only [nl1] at g2
 rw [eq_141]
 simp -implicitDefEqProofs (maxSteps := 1000000) [Tryz.f141, Code.key, g, g2, fixB]
theorem wbytes_ok {num : Nat} (h1 : 1 ≤ num) (h2 : num ≤ 536870911) {s : List UInt8} (hs : s.length ≤ 549755813888) (p : Id) (h : Heap) : callW E p 20 [.int .i64 num, .str s] h = some (.str (bytesB num s), dropFrom p 0 h) := by
 have hn : s.length < 18446744073709551616 := by omega
 have g := fun q h => put_ok hn q h
 have hl := (putV_len hn).2
 have hm : (putV s.length).length + s.length ≤ maxStr := by unfold maxStr; omega
 have w : IntKind.u64.wrap (s.length : Int) = s.length := wrap_u64 (by omega) (by omega)
 have g2 := fun q h => wput_ok h1 h2 (kind := 2) (by omega) (s := putV s.length ++ s) (by simp; omega) q h
 simp only [nl2] at g2
 rw [eq_20]
 simp -implicitDefEqProofs (maxSteps := 1000000) [Tryz.f20, Code.key, g, g2, hm, w, bytesB]
theorem xraw_ok {id : Id} {o : Option (List UInt8)} {s : List UInt8} (hb : (o.getD []).length + s.length ≤ 70368744177664) {p : Id} (a : Apart p (129 :: id)) {h : Heap} (hh : h (129 :: id) = some (bld (129 :: id) o)) :
  callW E p 76 [.ptr (129 :: id) 0, .str s] h = some (.tuple [], upd (dropFrom p 0 h) (129 :: id) (bld (129 :: id) (some (o.getD [] ++ s)))) := by
 obtain ⟨f1, f2, f3, f4, f5, f6⟩ := a.facts
 have g := fun k h hh => sbwrite_ok (T := 129) (Or.inr rfl) hb (a.sub k) (h := h) hh
 rw [eq_76]
 simp -implicitDefEqProofs (maxSteps := 1000000) [Tryz.f76, Code.key, hh, f1, f2, f3, f4, f5, f6, g]
theorem xpart_ok {id : Id} {o : Option (List UInt8)} {num : Nat} (h1 : 1 ≤ num) (h2 : num ≤ 536870911) {s : List UInt8} (hs : s.length ≤ 549755813888) (hb : (o.getD []).length + (bytesB num s).length ≤ 70368744177664) {p : Id} (a : Apart p (129 :: id)) {h : Heap} (hh : h (129 :: id) = some (bld (129 :: id) o)) :
  callW E p 74 [.ptr (129 :: id) 0, .int .i64 num, .str s] h = some (.tuple [], upd (dropFrom p 0 h) (129 :: id) (bld (129 :: id) (some (o.getD [] ++ bytesB num s)))) := by
 obtain ⟨f1, f2, f3, f4, f5, f6⟩ := a.facts
 have g := fun q h => wbytes_ok h1 h2 hs q h
 have g2 := fun k h hh => xraw_ok hb (a.sub k) (h := h) hh
 rw [eq_74]
 simp -implicitDefEqProofs (maxSteps := 1000000) [Tryz.f74, Code.key, hh, f1, f2, f3, f4, f5, f6, g, g2]
theorem xfew_ok {id : Id} {o : Option (List UInt8)} {num n : Nat} (h1 : 1 ≤ num) (h2 : num ≤ 536870911) (hn : n < 18446744073709551616) (hb : (o.getD []).length + (numB num n).length ≤ 70368744177664) {p : Id} (a : Apart p (129 :: id)) {h : Heap} (hh : h (129 :: id) = some (bld (129 :: id) o)) :
  callW E p 117 [.ptr (129 :: id) 0, .int .i64 num, .int .u64 n] h = some (.tuple [], upd (dropFrom p 0 h) (129 :: id) (bld (129 :: id) (some (o.getD [] ++ numB num n)))) := by
 obtain ⟨f1, f2, f3, f4, f5, f6⟩ := a.facts
 have g := fun q h => wvarint_ok h1 h2 hn q h
 have g2 := fun k h hh => xraw_ok hb (a.sub k) (h := h) hh
 rw [eq_117]
 simp -implicitDefEqProofs (maxSteps := 1000000) [Tryz.f117, Code.key, hh, f1, f2, f3, f4, f5, f6, g, g2]
theorem xeight_ok {id : Id} {o : Option (List UInt8)} {num n : Nat} (h1 : 1 ≤ num) (h2 : num ≤ 536870911) (hb : (o.getD []).length + (fixB num n).length ≤ 70368744177664) {p : Id} (a : Apart p (129 :: id)) {h : Heap} (hh : h (129 :: id) = some (bld (129 :: id) o)) :
  callW E p 118 [.ptr (129 :: id) 0, .int .i64 num, .int .u64 n] h = some (.tuple [], upd (dropFrom p 0 h) (129 :: id) (bld (129 :: id) (some (o.getD [] ++ fixB num n)))) := by
 obtain ⟨f1, f2, f3, f4, f5, f6⟩ := a.facts
 have g := fun q h => wfixed_ok (n := n) h1 h2 q h
 have g2 := fun k h hh => xraw_ok hb (a.sub k) (h := h) hh
 rw [eq_118]
 simp -implicitDefEqProofs (maxSteps := 1000000) [Tryz.f118, Code.key, hh, f1, f2, f3, f4, f5, f6, g, g2]
def orW (o : Option (List UInt8)) (yes : Bool) (s : List UInt8) : Option (List UInt8) := if yes = true then some (o.getD [] ++ s) else o
theorem xtext_ok {id : Id} {o : Option (List UInt8)} {num : Nat} (h1 : 1 ≤ num) (h2 : num ≤ 536870911) {s : List UInt8} (hs : s.length ≤ 549755813888) (hb : (o.getD []).length + (bytesB num s).length ≤ 70368744177664) {p : Id} (a : Apart p (129 :: id)) {h : Heap} (hh : h (129 :: id) = some (bld (129 :: id) o)) :
  callW E p 73 [.ptr (129 :: id) 0, .int .i64 num, .str s] h = some (.tuple [], upd (dropFrom p 0 h) (129 :: id) (bld (129 :: id) (orW o (!s.isEmpty) (bytesB num s)))) := by
 obtain ⟨f1, f2, f3, f4, f5, f6⟩ := a.facts
 have g2 := fun k h hh => xpart_ok h1 h2 hs hb (a.sub k) (h := h) hh
 rw [eq_73]
 cases s with
 | nil =>
  simp -implicitDefEqProofs (maxSteps := 1000000) [Tryz.f73, Code.key, hh, f1, f2, f3, f4, f5, f6, orW]
  rw [upd_id (h := dropFrom p 0 h) (by rw [f2, hh])]
 | cons x xs =>
  simp -implicitDefEqProofs (maxSteps := 1000000) [Tryz.f73, Code.key, hh, f1, f2, f3, f4, f5, f6, g2, orW]
theorem xstring_ok {id : Id} {o : Option (List UInt8)} (hb : (o.getD []).length ≤ maxStr) {p : Id} (a : Apart p id) {h : Heap} (hh : h id = some (bld id o)) :
  callW E p 77 [.ptr id 0] h = some (.str (o.getD []), dropFrom p 0 h) := by
 have g := fun (k : Nat) h hh => sbstring_ok (id := id) (o := o) hb (p := k :: p) (h := h) hh
 rw [eq_77]
 simp -implicitDefEqProofs (maxSteps := 1000000) [Tryz.f77, Code.key, hh, g]
end Go.Ai.T

namespace Go.Ai.T
open Go Go.Proofs
set_option maxRecDepth 100000
set_option maxHeartbeats 4000000
def ptVFr (p : Id) (f : Nat) (kw : Nat) (rest : List UInt8) (l : List Val) (i : Nat) : Fr := ((((((bot.set 12 (.int .i64 i)).set 11 (.int .i64 l.length)).set 10 (.slice (l.map encV) none)).set 7 (.ptr (129 :: kw :: p) 0)).set 2 (.str rest)).set 1 (.fn f []))
theorem ptV_loop {f : Nat} {wr : Val → List UInt8} {l : List Val} (hn : l.length ≤ maxStr) {rest : List UInt8} (hw : ∀ x ∈ l, ∀ (q : Id) (h : Heap), callW E q f [.agg (encV x)] h = some (.str (wr x), dropFrom q 0 h)) :
  ∀ (t : List Val) (i : Nat) (o : Option (List UInt8)), l.drop i = t → i ≤ l.length → (o.getD []).length + (rawsR (t.map fun x => bytesR 1 (wr x))).length ≤ 549755813888 → ∃ K o', o'.getD [] = o.getD [] ++ rawsR (t.map fun x => bytesR 1 (wr x)) ∧ ∀ (p : Id) (kw c0 c : Nat) (h : Heap), kw < c0 → c0 ≤ c → h (129 :: kw :: p) = some (bld (129 :: kw :: p) o) →
  iterW E 119 p [1, 2, 7, 10, 11, 12] L_119_3 c0 (ptVFr p f kw rest l i) c h =
   some (.exit 0, ptVFr p f kw rest l l.length, c + K, upd (dropFrom p c0 h) (129 :: kw :: p) (bld (129 :: kw :: p) o')) := by
 intro t
 induction t with
 | nil =>
  intro i o hj hi hb
  have hlen : i = l.length := by have := drop_end hj; omega
  subst hlen
  refine ⟨0, o, by simp, fun p kw c0 c h h1 h2 hx => ?_⟩
  have hlt' : ¬ ((l.length : Nat) : Int) < l.length := by omega
  unfold ptVFr
  rw [rd_119_3]
  generalize hr : execW E 119 p _ _ _ _ = e
  simp -implicitDefEqProofs (maxSteps := 1000000) [Tryz.f119, Code.loopAt, Code.key] at hr
  subst hr
  rw [upd_id (h := dropFrom p c0 h) (by rw [own_dg h1, hx])]
  simp
 | cons x t ih =>
  intro i o hj hi hb
  obtain ⟨hlt, hbb, hbs⟩ := drop_facts hj
  have hlt' : (i : Int) < l.length := by omega
  have hw1 : IntKind.i64.wrap ((i : Int) + 1) = ((i + 1 : Nat) : Int) := by rw [wrap_succ hlt hn]; rfl
  have hget? : (l.map encV)[i]? = some (encV x) := by simp [hbb]
  have hget : ∀ hl, (l.map encV)[i]'hl = encV x := fun hl => by rw [List.getElem?_eq_getElem hl] at hget?; exact Option.some.inj hget?
  have hgetl : ∀ hl, l[i]'hl = x := fun hl => by rw [List.getElem?_eq_getElem hl] at hbb; exact Option.some.inj hbb
  rw [List.map_cons, rawsR_cons, List.length_append] at hb
  have hr1 : (bytesR 1 (wr x)).raw = bytesB 1 (wr x) := rfl
  rw [hr1] at hb
  have hbl := bytesB_len 1 (wr x)
  obtain ⟨K, o', ho, gl⟩ := ih (i + 1) (some (o.getD [] ++ bytesB 1 (wr x))) hbs (by omega) (by simp; omega)
  refine ⟨3 + K, o', by rw [ho, List.map_cons, rawsR_cons, hr1]; simp, fun p kw c0 c h h1 h2 hx => ?_⟩
  obtain ⟨o1, o2, o3, o4, o5, o6⟩ := own_facts (p := p) 129 kw
  have n0 : kw ≠ c := by omega
  have n1 : kw ≠ c + 1 := by omega
  have n2 : kw ≠ c + 1 + 1 := by omega
  have n3 : c ≠ c + 1 := by omega
  have n4 : c ≠ c + 1 + 1 := by omega
  have g := hw x (List.mem_of_getElem? hbb)
  have g2 := fun k h (hne : kw ≠ k) hh => xpart_ok (id := kw :: p) (o := o) (num := 1) (by omega) (by omega) (s := wr x) (by omega) (by omega) (p := k :: p) (Apart.own hne) (h := h) hh
  simp only [nl1] at g2
  have e := gl p kw c0 (c + 3) (upd (dropFrom p c0 h) (129 :: kw :: p) (bld (129 :: kw :: p) (some (o.getD [] ++ bytesB 1 (wr x))))) h1 (by omega) (by simp)
  unfold ptVFr at e ⊢
  rw [rd_119_3]
  generalize hr : execW E 119 p _ _ _ _ = ee
  simp -implicitDefEqProofs (maxSteps := 1000000) [-Int.natCast_add, Tryz.f119, Code.loopAt, Code.key, hx, o1, o2, o3, o4, o5, o6, n0, n1, n2, n3, n4, hlt, hlt', hget?, hget, hgetl, hbb, hw1, g, g2] at hr
  subst hr
  simp [-Int.natCast_add]
  rw [show c + (3 + K) = c + 3 + K by omega]
  refine (iterW_congr rfl rfl (by omega) (by simp -implicitDefEqProofs (disch := omega) only [own_du, drop_drop_cons, drop_upd, drop_drop, drop_drop_self, upd_upd] <;> rfl)).trans (e.trans (some5 rfl (by omega) (by simp -implicitDefEqProofs (disch := omega) only [own_du, drop_drop_cons, drop_upd, drop_drop, drop_drop_self, upd_upd] <;> rfl)))
theorem partsV_ok {f : Nat} {wr : Val → List UInt8} {l : List Val} (hn : l.length ≤ maxStr) {rest : List UInt8} (hw : ∀ x ∈ l, ∀ (q : Id) (h : Heap), callW E q f [.agg (encV x)] h = some (.str (wr x), dropFrom q 0 h))
  (hb : (rawsR (l.map fun x => bytesR 1 (wr x))).length + rest.length ≤ 549755813888) (p : Id) (h : Heap) :
  callW E p 119 [.slice (l.map encV) none, .fn f [], .str rest] h = some (.str (rawsR (l.map fun x => bytesR 1 (wr x)) ++ rest), dropFrom p 0 h) := by
 obtain ⟨K, o', ho, gl⟩ := ptV_loop (rest := rest) hn hw l 0 none rfl (Nat.zero_le _) (by simp; omega)
 simp only [Option.getD_none, List.nil_append] at ho
 have g := fun h => gl p 0 1 1 h (by omega) (Nat.le_refl _)
 have g2 := fun k h (hne : 0 ≠ k) hh => xraw_ok (id := 0 :: p) (o := o') (s := rest) (by rw [ho]; omega) (p := k :: p) (Apart.own hne) (h := h) hh
 have g3 := fun k h (hne : 0 ≠ k) hh => xstring_ok (id := 129 :: 0 :: p) (o := some (o'.getD [] ++ rest)) (by rw [Option.getD_some, List.length_append, ho]; unfold maxStr; omega) (p := k :: p) (Apart.own hne) (h := h) hh
 have hbn : ∀ id, bld id none = [.nilp, .nils] := fun _ => rfl
 have nK : ¬ 0 = 1 + K := by omega
 have nK1 : ¬ 0 = 1 + K + 1 := by omega
 simp only [ptVFr, nat0, hbn, Option.getD_some, ho] at g g2 g3
 rw [eq_119]
 simp -implicitDefEqProofs (maxSteps := 1000000) [Tryz.f119, Code.hide, Code.key, g, g2, g3, nK, nK1]
def ptKFr (p : Id) (f : Nat) (kw : Nat) (rest : List UInt8) (l : List KV) (i : Nat) : Fr := ((((((bot.set 12 (.int .i64 i)).set 11 (.int .i64 l.length)).set 10 (.slice (l.map encK) none)).set 7 (.ptr (129 :: kw :: p) 0)).set 2 (.str rest)).set 1 (.fn f []))
theorem ptK_loop {f : Nat} {wr : KV → List UInt8} {l : List KV} (hn : l.length ≤ maxStr) {rest : List UInt8} (hw : ∀ x ∈ l, ∀ (q : Id) (h : Heap), callW E q f [.agg (encK x)] h = some (.str (wr x), dropFrom q 0 h)) :
  ∀ (t : List KV) (i : Nat) (o : Option (List UInt8)), l.drop i = t → i ≤ l.length → (o.getD []).length + (rawsR (t.map fun x => bytesR 1 (wr x))).length ≤ 549755813888 → ∃ K o', o'.getD [] = o.getD [] ++ rawsR (t.map fun x => bytesR 1 (wr x)) ∧ ∀ (p : Id) (kw c0 c : Nat) (h : Heap), kw < c0 → c0 ≤ c → h (129 :: kw :: p) = some (bld (129 :: kw :: p) o) →
  iterW E 120 p [1, 2, 7, 10, 11, 12] L_120_3 c0 (ptKFr p f kw rest l i) c h =
   some (.exit 0, ptKFr p f kw rest l l.length, c + K, upd (dropFrom p c0 h) (129 :: kw :: p) (bld (129 :: kw :: p) o')) := by
 intro t
 induction t with
 | nil =>
  intro i o hj hi hb
  have hlen : i = l.length := by have := drop_end hj; omega
  subst hlen
  refine ⟨0, o, by simp, fun p kw c0 c h h1 h2 hx => ?_⟩
  have hlt' : ¬ ((l.length : Nat) : Int) < l.length := by omega
  unfold ptKFr
  rw [rd_120_3]
  generalize hr : execW E 120 p _ _ _ _ = e
  simp -implicitDefEqProofs (maxSteps := 1000000) [Tryz.f120, Code.loopAt, Code.key] at hr
  subst hr
  rw [upd_id (h := dropFrom p c0 h) (by rw [own_dg h1, hx])]
  simp
 | cons x t ih =>
  intro i o hj hi hb
  obtain ⟨hlt, hbb, hbs⟩ := drop_facts hj
  have hlt' : (i : Int) < l.length := by omega
  have hw1 : IntKind.i64.wrap ((i : Int) + 1) = ((i + 1 : Nat) : Int) := by rw [wrap_succ hlt hn]; rfl
  have hget? : (l.map encK)[i]? = some (encK x) := by simp [hbb]
  have hget : ∀ hl, (l.map encK)[i]'hl = encK x := fun hl => by rw [List.getElem?_eq_getElem hl] at hget?; exact Option.some.inj hget?
  have hgetl : ∀ hl, l[i]'hl = x := fun hl => by rw [List.getElem?_eq_getElem hl] at hbb; exact Option.some.inj hbb
  rw [List.map_cons, rawsR_cons, List.length_append] at hb
  have hr1 : (bytesR 1 (wr x)).raw = bytesB 1 (wr x) := rfl
  rw [hr1] at hb
  have hbl := bytesB_len 1 (wr x)
  obtain ⟨K, o', ho, gl⟩ := ih (i + 1) (some (o.getD [] ++ bytesB 1 (wr x))) hbs (by omega) (by simp; omega)
  refine ⟨3 + K, o', by rw [ho, List.map_cons, rawsR_cons, hr1]; simp, fun p kw c0 c h h1 h2 hx => ?_⟩
  obtain ⟨o1, o2, o3, o4, o5, o6⟩ := own_facts (p := p) 129 kw
  have n0 : kw ≠ c := by omega
  have n1 : kw ≠ c + 1 := by omega
  have n2 : kw ≠ c + 1 + 1 := by omega
  have n3 : c ≠ c + 1 := by omega
  have n4 : c ≠ c + 1 + 1 := by omega
  have g := hw x (List.mem_of_getElem? hbb)
  have g2 := fun k h (hne : kw ≠ k) hh => xpart_ok (id := kw :: p) (o := o) (num := 1) (by omega) (by omega) (s := wr x) (by omega) (by omega) (p := k :: p) (Apart.own hne) (h := h) hh
  simp only [nl1] at g2
  have e := gl p kw c0 (c + 3) (upd (dropFrom p c0 h) (129 :: kw :: p) (bld (129 :: kw :: p) (some (o.getD [] ++ bytesB 1 (wr x))))) h1 (by omega) (by simp)
  unfold ptKFr at e ⊢
  rw [rd_120_3]
  generalize hr : execW E 120 p _ _ _ _ = ee
  simp -implicitDefEqProofs (maxSteps := 1000000) [-Int.natCast_add, Tryz.f120, Code.loopAt, Code.key, hx, o1, o2, o3, o4, o5, o6, n0, n1, n2, n3, n4, hlt, hlt', hget?, hget, hgetl, hbb, hw1, g, g2] at hr
  subst hr
  simp [-Int.natCast_add]
  rw [show c + (3 + K) = c + 3 + K by omega]
  refine (iterW_congr rfl rfl (by omega) (by simp -implicitDefEqProofs (disch := omega) only [own_du, drop_drop_cons, drop_upd, drop_drop, drop_drop_self, upd_upd] <;> rfl)).trans (e.trans (some5 rfl (by omega) (by simp -implicitDefEqProofs (disch := omega) only [own_du, drop_drop_cons, drop_upd, drop_drop, drop_drop_self, upd_upd] <;> rfl)))
theorem partsK_ok {f : Nat} {wr : KV → List UInt8} {l : List KV} (hn : l.length ≤ maxStr) {rest : List UInt8} (hw : ∀ x ∈ l, ∀ (q : Id) (h : Heap), callW E q f [.agg (encK x)] h = some (.str (wr x), dropFrom q 0 h))
  (hb : (rawsR (l.map fun x => bytesR 1 (wr x))).length + rest.length ≤ 549755813888) (p : Id) (h : Heap) :
  callW E p 120 [.slice (l.map encK) none, .fn f [], .str rest] h = some (.str (rawsR (l.map fun x => bytesR 1 (wr x)) ++ rest), dropFrom p 0 h) := by
 obtain ⟨K, o', ho, gl⟩ := ptK_loop (rest := rest) hn hw l 0 none rfl (Nat.zero_le _) (by simp; omega)
 simp only [Option.getD_none, List.nil_append] at ho
 have g := fun h => gl p 0 1 1 h (by omega) (Nat.le_refl _)
 have g2 := fun k h (hne : 0 ≠ k) hh => xraw_ok (id := 0 :: p) (o := o') (s := rest) (by rw [ho]; omega) (p := k :: p) (Apart.own hne) (h := h) hh
 have g3 := fun k h (hne : 0 ≠ k) hh => xstring_ok (id := 129 :: 0 :: p) (o := some (o'.getD [] ++ rest)) (by rw [Option.getD_some, List.length_append, ho]; unfold maxStr; omega) (p := k :: p) (Apart.own hne) (h := h) hh
 have hbn : ∀ id, bld id none = [.nilp, .nils] := fun _ => rfl
 have nK : ¬ 0 = 1 + K := by omega
 have nK1 : ¬ 0 = 1 + K + 1 := by omega
 simp only [ptKFr, nat0, hbn, Option.getD_some, ho] at g g2 g3
 rw [eq_120]
 simp -implicitDefEqProofs (maxSteps := 1000000) [Tryz.f120, Code.hide, Code.key, g, g2, g3, nK, nK1]
end Go.Ai.T

namespace Go.Ai.T
open Go Go.Proofs
set_option maxRecDepth 100000
set_option maxHeartbeats 4000000
theorem write_of {k : Int} {s : List UInt8} {b : Bool} {n : Nat} {l : List Val} {m : List KV} {i u : List UInt8} (hwf : (Val.mk k s b n l m i u).wf) (hl : (writeV (.mk k s b n l m i u)).length ≤ 549755813888)
  (hV : ∀ x ∈ l, (writeV x).length ≤ 549755813888 → ∀ (q : Id) (h : Heap), callW E q 75 [.agg (encV x)] h = some (.str (writeV x), dropFrom q 0 h))
  (hK : ∀ x ∈ m, (writeK x).length ≤ 549755813888 → ∀ (q : Id) (h : Heap), callW E q 41 [.agg (encK x)] h = some (.str (writeK x), dropFrom q 0 h)) (p : Id) (h : Heap) :
  callW E p 75 [.agg (encV (.mk k s b n l m i u))] h = some (.str (writeV (.mk k s b n l m i u)), dropFrom p 0 h) := by
 obtain ⟨hk, hs, hn, hll, hml, hil, hul, hwl, hwm⟩ := Val.wf_mk.1 hwf
 have hbn : ∀ id, bld id none = [.nilp, .nils] := fun _ => rfl
 have nl6 : ((6 : Nat) : Int) = 6 := rfl
 have nl7 : ((7 : Nat) : Int) = 7 := rfl
 rw [writeV] at hl ⊢
 simp only [encV_mk]
 rw [List.length_append] at hl
 have fin : ∀ (o : Option (List UInt8)), (o.getD []).length + u.length ≤ 549755813888 → (∀ k h, 1 ≠ k → h (129 :: 1 :: p) = some (bld (129 :: 1 :: p) o) → callW E (k :: p) 76 [.ptr (129 :: 1 :: p) 0, .str u] h = some (.tuple [], upd (dropFrom (k :: p) 0 h) (129 :: 1 :: p) (bld (129 :: 1 :: p) (some (o.getD [] ++ u))))) ∧
   (∀ k h, 1 ≠ k → h (129 :: 1 :: p) = some (bld (129 :: 1 :: p) (some (o.getD [] ++ u))) → callW E (k :: p) 77 [.ptr (129 :: 1 :: p) 0] h = some (.str (o.getD [] ++ u), dropFrom (k :: p) 0 h)) := fun o ho =>
  ⟨fun k h hne hh => xraw_ok (id := 1 :: p) (o := o) (s := u) (by omega) (p := k :: p) (Apart.own hne) (h := h) hh,
   fun k h hne hh => xstring_ok (id := 129 :: 1 :: p) (o := some (o.getD [] ++ u)) (by rw [Option.getD_some, List.length_append]; unfold maxStr; omega) (p := k :: p) (Apart.own hne) (h := h) hh⟩
 by_cases k1 : k = 1
 ·subst k1
  simp only [if_true] at hl ⊢
  have hbl := bytesB_len 1 s
  obtain ⟨g2, g3⟩ := fin (some (bytesB 1 s)) (by simpa using hl)
  have g := fun k h (hne : 1 ≠ k) hh => xpart_ok (id := 1 :: p) (o := none) (num := 1) (by omega) (by omega) (s := s) (by omega) (by simp; omega) (p := k :: p) (Apart.own hne) (h := h) hh
  simp only [nl1, hbn, Option.getD_none, Option.getD_some, List.nil_append] at g g2 g3
  rw [eq_75]
  simp -implicitDefEqProofs (maxSteps := 1000000) [Tryz.f75, Code.key, g, g2, g3]
 by_cases k7 : k = 7
 ·subst k7
  simp [-List.length_append] at hl ⊢
  have hbl := bytesB_len 7 s
  obtain ⟨g2, g3⟩ := fin (some (bytesB 7 s)) (by simpa using hl)
  have g := fun k h (hne : 1 ≠ k) hh => xpart_ok (id := 1 :: p) (o := none) (num := 7) (by omega) (by omega) (s := s) (by omega) (by simp; omega) (p := k :: p) (Apart.own hne) (h := h) hh
  simp only [nl7, hbn, Option.getD_none, Option.getD_some, List.nil_append] at g g2 g3
  rw [eq_75]
  simp -implicitDefEqProofs (maxSteps := 1000000) [Tryz.f75, Code.key, g, g2, g3]
 by_cases k2 : k = 2
 ·subst k2
  simp [-List.length_append] at hl ⊢
  obtain ⟨g2, g3⟩ := fin (some (numB 2 (if b = true then 1 else n))) (by simpa using hl)
  have g := fun k h (hne : 1 ≠ k) hh => xfew_ok (id := 1 :: p) (o := none) (num := 2) (n := if b = true then 1 else n) (by omega) (by omega) (by split <;> omega) (by simp; omega) (p := k :: p) (Apart.own hne) (h := h) hh
  rw [eq_75]
  cases b with
  | true =>
   simp only [nl1, nl2, hbn, Option.getD_none, Option.getD_some, List.nil_append, if_true] at g g2 g3
   simp -implicitDefEqProofs (maxSteps := 1000000) [Tryz.f75, Code.key, g, g2, g3]
  | false =>
   simp only [nl2, hbn, Option.getD_none, Option.getD_some, List.nil_append, Bool.false_eq_true, if_false] at g g2 g3
   simp -implicitDefEqProofs (maxSteps := 1000000) [Tryz.f75, Code.key, g, g2, g3]
 by_cases k3 : k = 3
 ·subst k3
  simp [-List.length_append] at hl ⊢
  obtain ⟨g2, g3⟩ := fin (some (numB 3 n)) (by simpa using hl)
  have g := fun k h (hne : 1 ≠ k) hh => xfew_ok (id := 1 :: p) (o := none) (num := 3) (n := n) (by omega) (by omega) hn (by simp; omega) (p := k :: p) (Apart.own hne) (h := h) hh
  simp only [nl3, hbn, Option.getD_none, Option.getD_some, List.nil_append] at g g2 g3
  rw [eq_75]
  simp -implicitDefEqProofs (maxSteps := 1000000) [Tryz.f75, Code.key, g, g2, g3]
 by_cases k4 : k = 4
 ·subst k4
  simp [-List.length_append] at hl ⊢
  obtain ⟨g2, g3⟩ := fin (some (fixB 4 n)) (by simpa using hl)
  have g := fun k h (hne : 1 ≠ k) hh => xeight_ok (id := 1 :: p) (o := none) (num := 4) (n := n) (by omega) (by omega) (by simp; omega) (p := k :: p) (Apart.own hne) (h := h) hh
  simp only [nl4, hbn, Option.getD_none, Option.getD_some, List.nil_append] at g g2 g3
  rw [eq_75]
  simp -implicitDefEqProofs (maxSteps := 1000000) [Tryz.f75, Code.key, g, g2, g3]
 by_cases k5 : k = 5
 ·subst k5
  simp [-List.length_append] at hl ⊢
  have hbl := bytesB_len 5 (partsV l ++ i)
  obtain ⟨g2, g3⟩ := fin (some (bytesB 5 (partsV l ++ i))) (by simpa using hl)
  have g := fun k h (hne : 1 ≠ k) hh => xpart_ok (id := 1 :: p) (o := none) (num := 5) (by omega) (by omega) (s := partsV l ++ i) (by omega) (by simp at hl ⊢; omega) (p := k :: p) (Apart.own hne) (h := h) hh
  have hpl : (rawsR (l.map fun x => bytesR 1 (writeV x))).length + i.length ≤ 549755813888 := by rw [← partsV_eq, ← List.length_append]; omega
  have gp := fun q h => partsV_ok (f := 75) (wr := writeV) (l := l) hll (rest := i) (fun x hx q h => hV x hx (by have := parts_len (wr := writeV) x hx; omega) q h) hpl q h
  rw [← partsV_eq] at gp
  simp only [nl5, hbn, Option.getD_none, Option.getD_some, List.nil_append] at g g2 g3
  rw [eq_75]
  simp -implicitDefEqProofs (maxSteps := 1000000) [Tryz.f75, Code.key, g, g2, g3, gp]
 by_cases k6 : k = 6
 ·subst k6
  simp [-List.length_append] at hl ⊢
  have hbl := bytesB_len 6 (partsK m ++ i)
  obtain ⟨g2, g3⟩ := fin (some (bytesB 6 (partsK m ++ i))) (by simpa using hl)
  have g := fun k h (hne : 1 ≠ k) hh => xpart_ok (id := 1 :: p) (o := none) (num := 6) (by omega) (by omega) (s := partsK m ++ i) (by omega) (by simp at hl ⊢; omega) (p := k :: p) (Apart.own hne) (h := h) hh
  have hpl : (rawsR (m.map fun x => bytesR 1 (writeK x))).length + i.length ≤ 549755813888 := by rw [← partsK_eq, ← List.length_append]; omega
  have gp := fun q h => partsK_ok (f := 41) (wr := writeK) (l := m) hml (rest := i) (fun x hx q h => hK x hx (by have := parts_len (wr := writeK) x hx; omega) q h) hpl q h
  rw [← partsK_eq] at gp
  simp only [nl6, hbn, Option.getD_none, Option.getD_some, List.nil_append] at g g2 g3
  rw [eq_75]
  simp -implicitDefEqProofs (maxSteps := 1000000) [Tryz.f75, Code.key, g, g2, g3, gp]
 ·simp only [k1, k2, k3, k4, k5, k6, k7, if_false, List.length_nil, List.nil_append] at hl ⊢
  obtain ⟨g2, g3⟩ := fin none (by simpa using hl)
  simp only [hbn, Option.getD_none, List.nil_append] at g2 g3
  rw [eq_75]
  simp -implicitDefEqProofs (maxSteps := 1000000) [Tryz.f75, Code.key, g2, g3, k1, k2, k3, k4, k5, k6, k7]
theorem writeKey_of {key : List UInt8} {has : Bool} {v : Val} {u : List UInt8} (hl : (writeK (.mk key has v u)).length ≤ 549755813888)
  (hV : (writeV v).length ≤ 549755813888 → ∀ (q : Id) (h : Heap), callW E q 75 [.agg (encV v)] h = some (.str (writeV v), dropFrom q 0 h)) (p : Id) (h : Heap) :
  callW E p 41 [.agg (encK (.mk key has v u))] h = some (.str (writeK (.mk key has v u)), dropFrom p 0 h) := by
 have hbn : ∀ id, bld id none = [.nilp, .nils] := fun _ => rfl
 rw [writeK] at hl ⊢
 rw [List.length_append, List.length_append] at hl
 have hkey : key.length ≤ 549755813888 ∧ (bytesB 1 key).length ≤ 549755813900 := by
  unfold textB at hl
  split at hl
  ·rename_i he; subst he
   have : (bytesB 1 []).length ≤ 30 := by decide +kernel
   simp; omega
  ·have := bytesB_len 1 key; omega
 have ho : ∀ key : List UInt8, (orW none (!key.isEmpty) (bytesB 1 key)).getD [] = textB 1 key := fun key => by
  cases key <;> simp [orW, textB]
 have g := fun k h (hne : 1 ≠ k) hh => xtext_ok (id := 1 :: p) (o := none) (num := 1) (by omega) (by omega) (s := key) hkey.1 (by simp; omega) (p := k :: p) (Apart.own hne) (h := h) hh
 rw [eq_41]
 obtain ⟨cs, hcs, hsh⟩ := flatV v
 rw [hcs] at hV
 obtain ⟨k0, s0, b0, n0, l0, m0, i0, u0, rfl⟩ := hsh
 cases has with
 | false =>
  simp only [Bool.false_eq_true, if_false, List.length_nil, List.nil_append] at hl ⊢
  have g2 := fun k h (hne : 1 ≠ k) hh => xraw_ok (id := 1 :: p) (o := orW none (!key.isEmpty) (bytesB 1 key)) (s := u) (by rw [ho]; omega) (p := k :: p) (Apart.own hne) (h := h) hh
  have g3 := fun k h (hne : 1 ≠ k) hh => xstring_ok (id := 129 :: 1 :: p) (o := some (textB 1 key ++ u)) (by rw [Option.getD_some, List.length_append]; unfold maxStr; omega) (p := k :: p) (Apart.own hne) (h := h) hh
  simp only [nl1, hbn, Option.getD_some, ho] at g g2 g3
  simp -implicitDefEqProofs (maxSteps := 1000000) [Tryz.f41, Code.key, encK_mk, hcs, g, g2, g3]
 | true =>
  simp only [if_true] at hl ⊢
  have hbl := bytesB_len 2 (writeV v)
  have gv := hV (by omega)
  have gp := fun k h (hne : 1 ≠ k) hh => xpart_ok (id := 1 :: p) (o := orW none (!key.isEmpty) (bytesB 1 key)) (num := 2) (by omega) (by omega) (s := writeV v) (by omega) (by rw [ho]; omega) (p := k :: p) (Apart.own hne) (h := h) hh
  have g2 := fun k h (hne : 1 ≠ k) hh => xraw_ok (id := 1 :: p) (o := some (textB 1 key ++ bytesB 2 (writeV v))) (s := u) (by rw [Option.getD_some, List.length_append]; omega) (p := k :: p) (Apart.own hne) (h := h) hh
  have g3 := fun k h (hne : 1 ≠ k) hh => xstring_ok (id := 129 :: 1 :: p) (o := some (textB 1 key ++ bytesB 2 (writeV v) ++ u)) (by rw [Option.getD_some, List.length_append, List.length_append]; unfold maxStr; omega) (p := k :: p) (Apart.own hne) (h := h) hh
  simp only [nl1, nl2, hbn, Option.getD_some, ho] at g g2 g3 gp
  simp -implicitDefEqProofs (maxSteps := 1000000) [Tryz.f41, Code.key, encK_mk, hcs, g, g2, g3, gp, gv]
theorem write_all : (∀ x : Val, x.wf → (writeV x).length ≤ 549755813888 → ∀ (p : Id) (h : Heap), callW E p 75 [.agg (encV x)] h = some (.str (writeV x), dropFrom p 0 h)) ∧
  ∀ x : KV, x.wf → (writeK x).length ≤ 549755813888 → ∀ (p : Id) (h : Heap), callW E p 41 [.agg (encK x)] h = some (.str (writeK x), dropFrom p 0 h) := by
 refine Val.ind2 ?_ ?_
 ·intro k s b n l m i u ihl ihm hwf hl p h
  obtain ⟨hk, hs, hn, hll, hml, hil, hul, hwl, hwm⟩ := Val.wf_mk.1 hwf
  exact write_of hwf hl (fun x hx hxl q h => ihl x hx (hwl x hx) hxl q h) (fun x hx hxl q h => ihm x hx (hwm x hx) hxl q h) p h
 ·intro key has v u ih hwf hl p h
  obtain ⟨hkl, hul, hwv⟩ := KV.wf_mk.1 hwf
  exact writeKey_of hl (fun hvl q h => ih hwv hvl q h) p h
theorem writeV_ok {x : Val} (hw : x.wf) (hl : (writeV x).length ≤ 549755813888) (p : Id) (h : Heap) : callW E p 75 [.agg (encV x)] h = some (.str (writeV x), dropFrom p 0 h) := write_all.1 x hw hl p h
theorem writeK_ok {x : KV} (hw : x.wf) (hl : (writeK x).length ≤ 549755813888) (p : Id) (h : Heap) : callW E p 41 [.agg (encK x)] h = some (.str (writeK x), dropFrom p 0 h) := write_all.2 x hw hl p h
end Go.Ai.T

namespace Go.Ai.T
open Go Go.Proofs
set_option maxRecDepth 100000
set_option maxHeartbeats 4000000
def takeR (room n : Int) : Int := if room < 0 ∨ n > room - 20 then -1 else room - n - 20
theorem take_ok {room n : Int} (h1 : -1 ≤ room) (h2 : room ≤ 9223372036854775807) (h3 : 0 ≤ n) (p : Id) (h : Heap) : callW E p 28 [.int .i64 room, .int .i64 n] h = some (.int .i64 (takeR room n), dropFrom p 0 h) := by
 rw [eq_28]
 unfold takeR
 by_cases hr : room < 0
 ·simp -implicitDefEqProofs (maxSteps := 1000000) [Tryz.f28, hr]
 ·have hw : IntKind.i64.wrap (room - 20) = room - 20 := wrap_i64 (by omega) (by omega)
  by_cases hn : n > room - 20
  ·simp -implicitDefEqProofs (maxSteps := 1000000) [Tryz.f28, hr, hw, hn]
  ·have hn' : ¬ room - 20 < n := hn
   have hw2 : IntKind.i64.wrap (room - n) = room - n := wrap_i64 (by omega) (by omega)
   have hw3 : IntKind.i64.wrap (room - n - 20) = room - n - 20 := wrap_i64 (by omega) (by omega)
   simp -implicitDefEqProofs (maxSteps := 1000000) [Tryz.f28, hr, hw, hn', hw2, hw3]
theorem takeR_le {room n : Int} (h1 : -1 ≤ room) (h3 : 0 ≤ n) : -1 ≤ takeR room n ∧ takeR room n ≤ room := by
 unfold takeR; split <;> omega
mutual
def roomV : Val → Int → Int → Int
 | .mk _ s _ _ l m i u, d, r => if d < 0 then -1 else roomK m (d - 1) (roomVs l (d - 1) (takeR (takeR (takeR r s.length) i.length) u.length))
def roomVs : List Val → Int → Int → Int
 | [], _, r => r
 | x :: xs, d, r => if 0 ≤ r then roomVs xs d (roomV x d r) else r
def roomK : List KV → Int → Int → Int
 | [], _, r => r
 | x :: xs, d, r => if d < 0 then -1 else if 0 ≤ r then roomKs xs d (roomKV x d r) else r
def roomKs : List KV → Int → Int → Int
 | [], _, r => r
 | x :: xs, d, r => if 0 ≤ r then roomKs xs d (roomKV x d r) else r
def roomKV : KV → Int → Int → Int
 | .mk k _ v u, d, r => roomV v d (takeR (takeR r k.length) u.length)
end
theorem roomK_eq (l : List KV) (d r : Int) : roomK l d r = if d < 0 ∧ l ≠ [] then -1 else roomKs l d r := by
 cases l with
 | nil => rw [roomK, roomKs]; simp
 | cons x xs => rw [roomK, roomKs]; simp
theorem room_le : (∀ x : Val, ∀ d r : Int, -1 ≤ r → -1 ≤ roomV x d r ∧ roomV x d r ≤ r) ∧ ∀ x : KV, ∀ d r : Int, -1 ≤ r → -1 ≤ roomKV x d r ∧ roomKV x d r ≤ r := by
 refine Val.ind2 ?_ ?_
 ·intro k s b n l m i u ihl ihm d r hr
  have hVs : ∀ (l : List Val), (∀ x ∈ l, ∀ d r : Int, -1 ≤ r → -1 ≤ roomV x d r ∧ roomV x d r ≤ r) → ∀ d r : Int, -1 ≤ r → -1 ≤ roomVs l d r ∧ roomVs l d r ≤ r := by
   intro l
   induction l with
   | nil => intro _ d r hr; rw [roomVs]; omega
   | cons x xs ih =>
    intro h d r hr
    rw [roomVs]
    split
    ·have h1 := h x (by simp) d r hr
     have h2 := ih (fun y hy => h y (by simp [hy])) d (roomV x d r) h1.1
     omega
    ·omega
  have hKs : ∀ (l : List KV), (∀ x ∈ l, ∀ d r : Int, -1 ≤ r → -1 ≤ roomKV x d r ∧ roomKV x d r ≤ r) → ∀ d r : Int, -1 ≤ r → -1 ≤ roomKs l d r ∧ roomKs l d r ≤ r := by
   intro l
   induction l with
   | nil => intro _ d r hr; rw [roomKs]; omega
   | cons x xs ih =>
    intro h d r hr
    rw [roomKs]
    split
    ·have h1 := h x (by simp) d r hr
     have h2 := ih (fun y hy => h y (by simp [hy])) d (roomKV x d r) h1.1
     omega
    ·omega
  rw [roomV]
  split
  ·omega
  ·have t1 := takeR_le (room := r) (n := s.length) hr (by omega)
   have t2 := takeR_le (n := i.length) t1.1 (by omega)
   have t3 := takeR_le (n := u.length) t2.1 (by omega)
   have t4 := hVs l ihl (d - 1) _ t3.1
   rw [roomK_eq]
   split
   ·omega
   ·have t5 := hKs m ihm (d - 1) _ t4.1
    omega
 ·intro k h v u ih d r hr
  rw [roomKV]
  have t1 := takeR_le (room := r) (n := k.length) hr (by omega)
  have t2 := takeR_le (n := u.length) t1.1 (by omega)
  have t3 := ih d _ t2.1
  omega
theorem roomV_loop {p : Id} {c0 : Nat} {k : Int} {s : List UInt8} {b : Bool} {n : Nat} {l : List Val} {m : List KV} {i u : List UInt8} (hl : l.length ≤ maxStr) (h0 : 1 ≤ c0) {d : Int} (hd : 0 ≤ d) (hd2 : d ≤ 9223372036854775807)
  (hf : ∀ x ∈ l, ∀ (d r : Int), -1 ≤ d → d ≤ 9223372036854775807 → -1 ≤ r → r ≤ 9223372036854775807 → ∀ q h, callW E q 29 [.agg (encV x), .int .i64 d, .int .i64 r] h = some (.int .i64 (roomV x d r), dropFrom q 0 h)) :
  ∀ (rest : List Val) (r : Int), -1 ≤ r → r ≤ 9223372036854775807 → ∃ dj dc : Nat, ∀ (j c : Nat) (h : Heap), l.drop j = rest → j ≤ l.length → c0 ≤ c → h (36 :: 0 :: p) = some [.int .i64 k, .str s, .bool b, .int .u64 n, .slice (l.map encV) none, .slice (m.map encK) none, .str i, .str u] →
  iterW E 29 p [1, 2, 3, 7] L_29_5 c0 ((((bot.set 7 (.int .i64 j)).set 3 (.ptr (36 :: 0 :: p) 0)).set 2 (.int .i64 r)).set 1 (.int .i64 d)) c h =
   some (.exit 0, (((bot.set 7 (.int .i64 (j + dj : Nat))).set 3 (.ptr (36 :: 0 :: p) 0)).set 2 (.int .i64 (roomVs rest (d - 1) r))).set 1 (.int .i64 d), c + dc, dropFrom p c0 h) := by
 intro rest
 have hc0 : ¬ c0 ≤ 0 := by omega
 induction rest with
 | nil =>
  intro r hr hr2
  refine ⟨0, 0, fun j c h hj hjl hc hh => ?_⟩
  rw [rd_29_5]
  have h1 : ¬ (j : Int) < l.length := by
   have := congrArg List.length hj
   simp at this; omega
  generalize hr : execW E 29 p _ _ _ _ = e
  simp -implicitDefEqProofs (maxSteps := 1000000) [Tryz.f29, Code.loopAt, Code.key, h1, hh] at hr
  subst hr
  rw [roomVs]
  rfl
 | cons x xs ih =>
  intro r hr hr2
  rw [roomVs]
  have hrl := room_le.1 x (d - 1) r hr
  obtain ⟨dj, dc, ih⟩ := ih (roomV x (d - 1) r) hrl.1 (by omega)
  refine ⟨if 0 ≤ r then dj + 1 else 0, if 0 ≤ r then dc + 1 else 0, fun j c h hj hjl hc hh => ?_⟩
  rw [rd_29_5]
  have hlt : j < l.length := by
   rcases Nat.lt_or_ge j l.length with h' | h'
   ·exact h'
   ·rw [List.drop_eq_nil_of_le h'] at hj; cases hj
  have h1 : (j : Int) < l.length := by omega
  have hx : l[j]? = some x := by
   have := congrArg (fun l => l[0]?) hj
   simpa using this
  have hxs : l.drop (j + 1) = xs := by
   rw [← List.drop_drop, hj]; rfl
  by_cases h2 : 0 ≤ r
  ·have hw : IntKind.i64.wrap ((j : Int) + 1) = (j : Int) + 1 := by rw [wrap_i64 (by omega) (by unfold maxStr at hl; omega)]
   have hw2 : IntKind.i64.wrap (d - 1) = d - 1 := wrap_i64 (by omega) (by omega)
   have hf' := hf x (List.mem_of_getElem? hx) (d - 1) r (by omega) (by omega) hr hr2
   generalize hr : execW E 29 p _ _ _ _ = e
   simp -implicitDefEqProofs (maxSteps := 1000000) [Tryz.f29, Code.loopAt, Code.key, h1, hh, h2, hx, hw, hw2, hf'] at hr
   subst hr
   have g := ih (j + 1) (c + 1) (dropFrom p c0 h) hxs (by omega) (by omega) (by simp [hc0, hh])
   rw [if_pos h2, if_pos h2, if_pos h2, show j + (dj + 1) = j + 1 + dj by omega, show c + (dc + 1) = c + 1 + dc by omega]
   simpa [hc] using g
  ·rw [if_neg h2, if_neg h2, if_neg h2]
   generalize hr : execW E 29 p _ _ _ _ = e
   simp -implicitDefEqProofs (maxSteps := 1000000) [Tryz.f29, Code.loopAt, Code.key, h1, hh, h2] at hr
   subst hr
   rfl
theorem roomK_loop {p : Id} {c0 : Nat} {l : List KV} (hl : l.length ≤ maxStr) (hw : ∀ x ∈ l, x.wf) {d : Int} (hd : -1 ≤ d) (hd2 : d ≤ 9223372036854775807)
  (hf : ∀ x ∈ l, ∀ v, (∃ k hs u, x = .mk k hs v u) → ∀ (d r : Int), -1 ≤ d → d ≤ 9223372036854775807 → -1 ≤ r → r ≤ 9223372036854775807 → ∀ q h, callW E q 29 [.agg (encV v), .int .i64 d, .int .i64 r] h = some (.int .i64 (roomV v d r), dropFrom q 0 h)) :
  ∀ (rest : List KV) (r : Int), -1 ≤ r → r ≤ 9223372036854775807 → ∃ dj dc : Nat, ∀ (j c : Nat) (h : Heap), l.drop j = rest → j ≤ l.length → c0 ≤ c →
  iterW E 13 p [0, 1, 2, 7] L_13_4 c0 ((((bot.set 7 (.int .i64 j)).set 2 (.int .i64 r)).set 1 (.int .i64 d)).set 0 (.slice (l.map encK) none)) c h =
   some (.exit 0, (((bot.set 7 (.int .i64 (j + dj : Nat))).set 2 (.int .i64 (roomKs rest d r))).set 1 (.int .i64 d)).set 0 (.slice (l.map encK) none), c + dc, dropFrom p c0 h) := by
 intro rest
 induction rest with
 | nil =>
  intro r hr hr2
  refine ⟨0, 0, fun j c h hj hjl hc => ?_⟩
  rw [rd_13_4]
  have h1 : ¬ (j : Int) < l.length := by
   have := congrArg List.length hj
   simp at this; omega
  generalize hr : execW E 13 p _ _ _ _ = e
  simp -implicitDefEqProofs (maxSteps := 1000000) [Tryz.f13, Code.loopAt, Code.key, h1] at hr
  subst hr
  rw [roomKs]
  rfl
 | cons x xs ih =>
  intro r hr hr2
  rw [roomKs]
  have hrl := room_le.2 x d r hr
  obtain ⟨dj, dc, ih⟩ := ih (roomKV x d r) hrl.1 (by omega)
  refine ⟨if 0 ≤ r then dj + 1 else 0, if 0 ≤ r then dc + 3 else 0, fun j c h hj hjl hc => ?_⟩
  rw [rd_13_4]
  have hlt : j < l.length := by
   rcases Nat.lt_or_ge j l.length with h' | h'
   ·exact h'
   ·rw [List.drop_eq_nil_of_le h'] at hj; cases hj
  have h1 : (j : Int) < l.length := by omega
  have hx : l[j]? = some x := by
   have := congrArg (fun l => l[0]?) hj
   simpa using this
  have hxs : l.drop (j + 1) = xs := by
   rw [← List.drop_drop, hj]; rfl
  have hxm := List.mem_of_getElem? hx
  obtain ⟨k, hs, v, u⟩ := x
  obtain ⟨w1, w2, _⟩ := KV.wf_mk.1 (hw _ hxm)
  rw [roomKV] at ih ⊢
  by_cases h2 : 0 ≤ r
  ·have hw : IntKind.i64.wrap ((j : Int) + 1) = (j : Int) + 1 := by rw [wrap_i64 (by omega) (by unfold maxStr at hl; omega)]
   have ht1 := fun q h => take_ok (room := r) (n := k.length) hr hr2 (by omega) q h
   have hl1 := takeR_le (room := r) (n := k.length) hr (by omega)
   have ht2 := fun q h => take_ok (room := takeR r k.length) (n := u.length) hl1.1 (by omega) (by omega) q h
   have hl2 := takeR_le (room := takeR r k.length) (n := u.length) hl1.1 (by omega)
   have hf' := hf _ hxm v ⟨_, _, _, rfl⟩ d (takeR (takeR r k.length) u.length) (by omega) (by omega) hl2.1 (by omega)
   generalize hr : execW E 13 p _ _ _ _ = e
   simp -implicitDefEqProofs (maxSteps := 1000000) [Tryz.f13, Code.loopAt, Code.key, h1, h2, hx, hw, ht1, ht2, hf'] at hr
   subst hr
   have g := ih (j + 1) (c + 1 + 1 + 1) (dropFrom p c0 h) hxs (by omega) (by omega)
   rw [if_pos h2, if_pos h2, if_pos h2, show j + (dj + 1) = j + 1 + dj by omega, show c + (dc + 3) = c + 1 + 1 + 1 + dc by omega]
   have hc1 : c0 ≤ c + 1 := by omega
   have hc2 : c0 ≤ c + 2 := by omega
   simpa [hc, hc1, hc2] using g
  ·rw [if_neg h2, if_neg h2, if_neg h2]
   generalize hr : execW E 13 p _ _ _ _ = e
   simp -implicitDefEqProofs (maxSteps := 1000000) [Tryz.f13, Code.loopAt, Code.key, h1, h2] at hr
   subst hr
   rfl
theorem roomK_of {l : List KV} (hl : l.length ≤ maxStr) (hw : ∀ x ∈ l, x.wf) {d : Int} (hd : -1 ≤ d) (hd2 : d ≤ 9223372036854775807)
  (hf : ∀ x ∈ l, ∀ v, (∃ k hs u, x = .mk k hs v u) → ∀ (d r : Int), -1 ≤ d → d ≤ 9223372036854775807 → -1 ≤ r → r ≤ 9223372036854775807 → ∀ q h, callW E q 29 [.agg (encV v), .int .i64 d, .int .i64 r] h = some (.int .i64 (roomV v d r), dropFrom q 0 h))
  {r : Int} (hr : -1 ≤ r) (hr2 : r ≤ 9223372036854775807) (p : Id) (h : Heap) : callW E p 13 [.slice (l.map encK) none, .int .i64 d, .int .i64 r] h = some (.int .i64 (roomK l d r), dropFrom p 0 h) := by
 rw [eq_13, roomK_eq]
 by_cases hc : d < 0 ∧ l ≠ []
 ·have h1 : (0 : Int) < l.length := by
   have := List.length_pos_iff.2 hc.2
   omega
  rw [if_pos hc]
  simp -implicitDefEqProofs (maxSteps := 1000000) [Tryz.f13, Code.hide, Code.key, hc.1, hc.2]
 ·obtain ⟨dj, dc, g⟩ := roomK_loop (p := p) (c0 := 0) hl hw hd hd2 hf l r hr hr2
  have g := g 0 0 h rfl (Nat.zero_le _) (Nat.le_refl _)
  rw [if_neg hc]
  rw [nat0] at g
  by_cases hd0 : d < 0
  ·have hl0 : l = [] := by
    rcases Classical.em (l = []) with h | h
    ·exact h
    ·exact absurd ⟨hd0, h⟩ hc
   subst hl0
   simp at g
   simp -implicitDefEqProofs (maxSteps := 1000000) [Tryz.f13, Code.hide, Code.key, hd0, g]
  ·simp -implicitDefEqProofs (maxSteps := 1000000) [Tryz.f13, Code.hide, Code.key, hd0, g]
theorem roomV_ok : (∀ x : Val, x.wf → ∀ (d r : Int), -1 ≤ d → d ≤ 9223372036854775807 → -1 ≤ r → r ≤ 9223372036854775807 → ∀ q h, callW E q 29 [.agg (encV x), .int .i64 d, .int .i64 r] h = some (.int .i64 (roomV x d r), dropFrom q 0 h)) ∧
  ∀ x : KV, x.wf → ∀ v, (∃ k hs u, x = .mk k hs v u) → ∀ (d r : Int), -1 ≤ d → d ≤ 9223372036854775807 → -1 ≤ r → r ≤ 9223372036854775807 → ∀ q h, callW E q 29 [.agg (encV v), .int .i64 d, .int .i64 r] h = some (.int .i64 (roomV v d r), dropFrom q 0 h) := by
 refine Val.ind2 ?_ ?_
 ·intro k s b n l m i u ihl ihm hwf d r hd hd2 hr hr2 p h
  obtain ⟨_, hs, _, hl, hm, hi, hu, hwl, hwm⟩ := Val.wf_mk.1 hwf
  rw [eq_29, roomV]
  by_cases hd0 : d < 0
  ·simp -implicitDefEqProofs (maxSteps := 1000000) [Tryz.f29, Code.hide, Code.key, hd0]
  ·have ht1 := fun q h => take_ok (room := r) (n := s.length) hr hr2 (by omega) q h
   have hl1 := takeR_le (room := r) (n := s.length) hr (by omega)
   have ht2 := fun q h => take_ok (room := takeR r s.length) (n := i.length) hl1.1 (by omega) (by omega) q h
   have hl2 := takeR_le (room := takeR r s.length) (n := i.length) hl1.1 (by omega)
   have ht3 := fun q h => take_ok (room := takeR (takeR r s.length) i.length) (n := u.length) hl2.1 (by omega) (by omega) q h
   have hl3 := takeR_le (room := takeR (takeR r s.length) i.length) (n := u.length) hl2.1 (by omega)
   have hw2 : IntKind.i64.wrap (d - 1) = d - 1 := wrap_i64 (by omega) (by omega)
   have hrl : -1 ≤ roomVs l (d - 1) (takeR (takeR (takeR r s.length) i.length) u.length) ∧ roomVs l (d - 1) (takeR (takeR (takeR r s.length) i.length) u.length) ≤ r := by
    have : ∀ (l : List Val) (r : Int), -1 ≤ r → -1 ≤ roomVs l (d - 1) r ∧ roomVs l (d - 1) r ≤ r := by
     intro l
     induction l with
     | nil => intro r hr; rw [roomVs]; omega
     | cons x xs ih =>
      intro r hr
      rw [roomVs]
      split
      ·have h1 := room_le.1 x (d - 1) r hr
       have h2 := ih _ h1.1
       omega
      ·omega
    have := this l _ hl3.1
    omega
   have hk := fun q h => roomK_of hm hwm (d := d - 1) (by omega) (by omega) (fun x hx v hv d r => ihm x hx (hwm x hx) v hv d r) hrl.1 (by omega) q h
   obtain ⟨dj, dc, g⟩ := roomV_loop (p := p) (c0 := 4) (k := k) (s := s) (b := b) (n := n) (m := m) (i := i) (u := u) hl (by omega) (d := d) (by omega) hd2 (fun x hx d r => ihl x hx (hwl x hx) d r) l _ hl3.1 (by omega)
   have g := fun h => g 0 4 h rfl (Nat.zero_le _) (Nat.le_refl _)
   rw [nat0] at g
   simp -implicitDefEqProofs (maxSteps := 1000000) [Tryz.f29, Code.hide, Code.key, hd0, ht1, ht2, ht3, g, hw2, hk]
 ·intro k hs v u ih hwf v' hv
  obtain ⟨_, _, _, e⟩ := hv
  cases e
  exact ih (KV.wf_mk.1 hwf).2.2
end Go.Ai.T

namespace Go.Ai.T
open Go Go.Proofs
set_option maxRecDepth 100000
set_option maxHeartbeats 4000000
theorem may_all : (∀ x : Val, x.wf → x.sz ≤ 549755813888 → ∀ d : Int, d ≤ 9223372036854775807 → ∀ (p : Id) (h : Heap), callW E p 71 [.agg (encV x), .int .i64 d] h = some (.bool (mayV x d), dropFrom p 0 h)) ∧
  ∀ x : KV, x.wf → x.sz ≤ 549755813888 → ∀ d : Int, d ≤ 9223372036854775807 → ∀ (p : Id) (h : Heap), callW E p 40 [.agg (encK x), .int .i64 d] h = some (.bool (mayK x d), dropFrom p 0 h) := by
 refine Val.ind2 ?_ ?_
 ·intro k s b n l m i u ihl ihm hwf hsz d hd p h
  obtain ⟨hk, hs, hn, hll, hml, hil, hul, hwl, hwm⟩ := Val.wf_mk.1 hwf
  rw [Val.sz_mk] at hsz
  exact may_of hwf (by omega) (by omega) hd (fun h1 x hx q h => ihl x hx (hwl x hx) (by have := Val.szs_mem hx; omega) (d - 2) (by omega) q h) (fun h1 x hx q h => ihm x hx (hwm x hx) (by have := KV.szs_mem hx; omega) (d - 2) (by omega) q h) p h
 ·intro key has v u ih hwf hsz d hd p h
  obtain ⟨hkl, hul, hwv⟩ := KV.wf_mk.1 hwf
  rw [KV.sz_mk] at hsz
  exact mayKey_of hkl hwv (by omega) hd (fun h0 q h => ih hwv (by omega) (d - 1) (by omega) q h) p h
theorem mayV_ok {x : Val} (hw : x.wf) (hs : x.sz ≤ 549755813888) {d : Int} (hd : d ≤ 9223372036854775807) (p : Id) (h : Heap) : callW E p 71 [.agg (encV x), .int .i64 d] h = some (.bool (mayV x d), dropFrom p 0 h) := may_all.1 x hw hs d hd p h
theorem mayK_ok {x : KV} (hw : x.wf) (hs : x.sz ≤ 549755813888) {d : Int} (hd : d ≤ 9223372036854775807) (p : Id) (h : Heap) : callW E p 40 [.agg (encK x), .int .i64 d] h = some (.bool (mayK x d), dropFrom p 0 h) := may_all.2 x hw hs d hd p h
theorem mayKs_ok {l : List KV} (hn : l.length ≤ maxStr) (hw : ∀ x ∈ l, x.wf) (hs : ∀ x ∈ l, x.sz ≤ 549755813888) {d : Int} (hd1 : -9223372036854775808 ≤ d) (hd : d ≤ 9223372036854775807) (p : Id) (h : Heap) : callW E p 114 [.slice (l.map encK) none, .int .i64 d] h = some (.bool (mayKs l d), dropFrom p 0 h) :=
 mayKs_of hn hd1 hd (fun x hx q h => mayK_ok (hw x hx) (hs x hx) hd q h) p h
def marE (ok : Bool) (s : List UInt8) : List UInt8 × Option Err := if ok = true then (s, none) else ([], some (.code 8))
theorem marK_ok {x : KV} (hw : x.wf) (hs : x.sz ≤ 549755813888) {d : Int} (hd : d ≤ 9223372036854775807) (p : Id) (h : Heap) :
  callW E p 18 [.agg (encK x), .int .i64 d] h = some (.tuple [.str (marE (mayK x d) (writeK x)).1, encO (marE (mayK x d) (writeK x)).2], dropFrom p 0 h) := by
 have g := fun q h => mayK_ok hw hs hd q h
 have g2 := fun q h => writeK_ok hw (by have := write_sz.2 x hw hs; omega) q h
 rw [eq_18]
 unfold marE
 cases hm : mayK x d with
 | true =>
  rw [hm] at g
  simp -implicitDefEqProofs (maxSteps := 1000000) [Tryz.f18, Code.key, g, g2]
 | false =>
  rw [hm] at g
  simp -implicitDefEqProofs (maxSteps := 1000000) [Tryz.f18, Code.key, g, encE_code]
--endhas
theorem roomVs_neg {l : List Val} {d r : Int} (h : r < 0) : roomVs l d r = r := by
 cases l with
 | nil => rw [roomVs]
 | cons x xs => rw [roomVs, if_neg (by omega)]
theorem roomKs_neg {l : List KV} {d r : Int} (h : r < 0) : roomKs l d r = r := by
 cases l with
 | nil => rw [roomKs]
 | cons x xs => rw [roomKs, if_neg (by omega)]
theorem roomVs_le {l : List Val} {d : Int} : ∀ {r : Int}, -1 ≤ r → -1 ≤ roomVs l d r ∧ roomVs l d r ≤ r := by
 induction l with
 | nil => intro r hr; rw [roomVs]; omega
 | cons x xs ih =>
  intro r hr
  rw [roomVs]
  split
  ·have h1 := room_le.1 x d r hr
   have h2 := ih h1.1
   omega
  ·omega
theorem roomVs_pos {l : List Val} {d r : Int} (h : 0 ≤ roomVs l d r) : 0 ≤ r := by
 by_cases hn : r < 0
 ·rw [roomVs_neg hn] at h; omega
 ·omega
theorem roomKs_pos {l : List KV} {d r : Int} (h : 0 ≤ roomKs l d r) : 0 ≤ r := by
 by_cases hn : r < 0
 ·rw [roomKs_neg hn] at h; omega
 ·omega
theorem takeR_ge {r n : Int} (h : 0 ≤ takeR r n) : n + 20 ≤ r ∧ takeR r n = r - n - 20 := by
 unfold takeR at *
 split at h
 ·omega
 ·rename_i hc; rw [if_neg hc]; omega
theorem room_sz : (∀ x : Val, ∀ d r : Int, -1 ≤ r → 0 ≤ roomV x d r → (x.sz : Int) ≤ r - roomV x d r) ∧ ∀ x : KV, ∀ d r : Int, -1 ≤ r → 0 ≤ roomKV x d r → (x.sz : Int) ≤ r - roomKV x d r := by
 refine Val.ind2 ?_ ?_
 ·intro k s b n l m i u ihl ihm d r hr h
  have hVs : ∀ (l : List Val), (∀ x ∈ l, ∀ d r : Int, -1 ≤ r → 0 ≤ roomV x d r → (x.sz : Int) ≤ r - roomV x d r) → ∀ d r : Int, -1 ≤ r → 0 ≤ roomVs l d r → (Val.szs l : Int) ≤ r - roomVs l d r := by
   intro l
   induction l with
   | nil => intro _ d r _ h; rw [roomVs, Val.szs]; simp
   | cons x xs ih =>
    intro hx d r hr h
    rw [roomVs] at h ⊢
    split at h
    ·rename_i h0
     rw [if_pos h0, Val.szs]
     have hle := room_le.1 x d r hr
     have i2 := ih (fun y hy => hx y (by simp [hy])) d (roomV x d r) hle.1 h
     have h3 : 0 ≤ roomV x d r := roomVs_pos h
     have i1 := hx x (by simp) d r hr h3
     omega
    ·omega
  have hKs : ∀ (l : List KV), (∀ x ∈ l, ∀ d r : Int, -1 ≤ r → 0 ≤ roomKV x d r → (x.sz : Int) ≤ r - roomKV x d r) → ∀ d r : Int, -1 ≤ r → 0 ≤ roomKs l d r → (KV.szs l : Int) ≤ r - roomKs l d r := by
   intro l
   induction l with
   | nil => intro _ d r _ h; rw [roomKs, KV.szs]; simp
   | cons x xs ih =>
    intro hx d r hr h
    rw [roomKs] at h ⊢
    split at h
    ·rename_i h0
     rw [if_pos h0, KV.szs]
     have hle := room_le.2 x d r hr
     have i2 := ih (fun y hy => hx y (by simp [hy])) d (roomKV x d r) hle.1 h
     have h3 : 0 ≤ roomKV x d r := roomKs_pos h
     have i1 := hx x (by simp) d r hr h3
     omega
    ·omega
  rw [roomV] at h ⊢
  split at h
  ·omega
  ·rename_i hd
   rw [if_neg hd, Val.sz_mk]
   rw [roomK_eq] at h ⊢
   split at h
   ·omega
   ·rename_i hc
    rw [if_neg hc]
    have t1 := takeR_le (room := r) (n := s.length) hr (by omega)
    have t2 := takeR_le (n := i.length) t1.1 (by omega)
    have t3 := takeR_le (n := u.length) t2.1 (by omega)
    have v1 := roomVs_le (l := l) (d := d - 1) t3.1
    have kk := hKs m ihm (d - 1) _ v1.1 h
    have h2 := roomKs_pos h
    have vv := hVs l ihl (d - 1) _ t3.1 h2
    have h3 := roomVs_pos h2
    have e3 := takeR_ge h3
    have e2 := takeR_ge (r := takeR r s.length) (n := i.length) (by omega)
    have e1 := takeR_ge (r := r) (n := s.length) (by omega)
    omega
 ·intro key has v u ih d r hr h
  rw [roomKV] at h ⊢
  rw [KV.sz_mk]
  have t1 := takeR_le (room := r) (n := key.length) hr (by omega)
  have t2 := takeR_le (n := u.length) t1.1 (by omega)
  have i1 := ih d _ t2.1 h
  have hle := room_le.1 v d _ t2.1
  have e2 := takeR_ge (r := takeR r key.length) (n := u.length) (by omega)
  have e1 := takeR_ge (r := r) (n := key.length) (by omega)
  omega
end Go.Ai.T

namespace Go.Ai.T
open Go Go.Proofs
set_option maxRecDepth 100000
set_option maxHeartbeats 4000000
theorem roomK_ok {l : List KV} (hl : l.length ≤ maxStr) (hw : ∀ x ∈ l, x.wf) {d r : Int} (hd : -1 ≤ d) (hd2 : d ≤ 9223372036854775807) (hr : -1 ≤ r) (hr2 : r ≤ 9223372036854775807) (p : Id) (h : Heap) :
  callW E p 13 [.slice (l.map encK) none, .int .i64 d, .int .i64 r] h = some (.int .i64 (roomK l d r), dropFrom p 0 h) :=
 roomK_of hl hw hd hd2 (fun x hx v hv d r => roomV_ok.2 x (hw x hx) v hv d r) hr hr2 p h
theorem fewK_ok {l : List KV} (hl : l.length ≤ maxStr) (hw : ∀ x ∈ l, x.wf) (p : Id) (h : Heap) : callW E p 5 [.slice (l.map encK) none] h = some (.bool (decide (0 ≤ roomK l 60 8000)), dropFrom p 0 h) := by
 have h1 := fun q h => roomK_ok hl hw (d := 60) (r := 8000) (by omega) (by omega) (by omega) (by omega) q h
 rw [eq_5]
 simp -implicitDefEqProofs (maxSteps := 1000000) [Tryz.f5, Code.key, h1]
end Go.Ai.T

namespace Go.Ai.T
open Go Go.Proofs
set_option maxRecDepth 100000
set_option maxHeartbeats 4000000
theorem fields_ok {s : List UInt8} (hb : s.length ≤ 1099511627776) {d : Int} (hd : d ≤ 9223372036854775807) (p : Id) (h : Heap) : callW E p 53 [.str s, .int .i64 d] h = some (encRAll (fieldsE s d), dropFrom p 0 h) := by
 have g := rall_ok hb hd
 rw [eq_53]
 unfold fieldsE
 by_cases h0 : d < 0
 ·rw [if_pos h0]
  simp -implicitDefEqProofs (maxSteps := 1000000) [Tryz.f53, Code.key, h0, encRAll]
 ·rw [if_neg h0]
  cases hv : allE s d 0 with
  | ok rs =>
   rw [hv] at g
   simp only [encRAll] at g
   simp -implicitDefEqProofs (maxSteps := 1000000) [Tryz.f53, Code.key, h0, encRAll, g]
  | error x =>
   rw [hv] at g
   simp only [encRAll] at g
   simp -implicitDefEqProofs (maxSteps := 1000000) [Tryz.f53, Code.key, h0, encRAll, g]
theorem values_ok (p : Id) (h : Heap) : callW E p 55 [] h = some (.slice (intsA [10, 16, 24, 33, 42, 50, 58]) none, dropFrom p 0 h) := by
 rw [eq_55]
 simp -implicitDefEqProofs (maxSteps := 1000000) [Tryz.f55, Code.key, intsA]
theorem rlists_ok (p : Id) (h : Heap) : callW E p 56 [] h = some (.slice (intsA [10]) none, dropFrom p 0 h) := by
 rw [eq_56]
 simp -implicitDefEqProofs (maxSteps := 1000000) [Tryz.f56, Code.key, intsA]
theorem pairs_ok (p : Id) (h : Heap) : callW E p 32 [] h = some (.slice (intsA [10, 18]) none, dropFrom p 0 h) := by
 rw [eq_32]
 simp -implicitDefEqProofs (maxSteps := 1000000) [Tryz.f32, Code.key, intsA]
theorem takesR_loop {tb : List Nat} (hn : tb.length ≤ 1099511627776) (hsm : ∀ n ∈ tb, n ≤ 1099511627776) {r : Rec} : ∀ (rest : List Nat) (i : Nat), tb.drop i = rest → i ≤ tb.length → ∃ i' : Nat, ∀ (p : Id) (kr c0 c : Nat) (h : Heap), kr < c0 → c0 ≤ c → h (103 :: kr :: p) = some (recCells r) →
  iterW E 54 p [0, 3, 4, 5] L_54_2 c0 ((((bot.set 5 (.int .i64 i)).set 4 (.bool false)).set 3 (.ptr (103 :: kr :: p) 0)).set 0 (.slice (intsA tb) none)) c h =
   some (if tabR rest r.num r.kind = true then .ret else .exit 0, ((((bot.set 5 (.int .i64 i')).set 4 (.bool (tabR rest r.num r.kind))).set 3 (.ptr (103 :: kr :: p) 0)).set 0 (.slice (intsA tb) none)), c, dropFrom p c0 h) := by
 intro rest
 induction rest with
 | nil =>
  intro i hj hi
  refine ⟨i, fun p kr c0 c h h1 h2 hx => ?_⟩
  have hlt' : ¬ (i : Int) < tb.length := drop_end hj
  rw [rd_54_2]
  generalize hr : execW E 54 p _ _ _ _ = e
  simp -implicitDefEqProofs (maxSteps := 1000000) [Tryz.f54, Code.loopAt, Code.key, hlt', intsA] at hr
  subst hr
  simp [tabR, intsA]
 | cons n rest ih =>
  intro i hj hi
  obtain ⟨hlt, hbb, hbs⟩ := drop_facts hj
  have hlt' : (i : Int) < tb.length := by omega
  have hw : IntKind.i64.wrap ((i : Int) + 1) = ((i + 1 : Nat) : Int) := by rw [wrap_i64 (by omega) (by omega)]; rfl
  have hrl : (intsA tb).length = tb.length := by simp [intsA]
  have hget? : (intsA tb)[i]? = some [.int .i64 n] := by simp [intsA, hbb]
  have hget : ∀ hl, (intsA tb)[i]'hl = [.int .i64 n] := fun hl => by rw [List.getElem?_eq_getElem hl] at hget?; exact Option.some.inj hget?
  have hns := hsm n (List.mem_of_getElem? hbb)
  have t1 : Int.tdiv (n : Int) 8 = ((n / 8 : Nat) : Int) := rfl
  have t2 : Int.tmod (n : Int) 8 = ((n % 8 : Nat) : Int) := rfl
  have t3 : IntKind.i64.wrap ((n / 8 : Nat) : Int) = ((n / 8 : Nat) : Int) := wrap_i64 (by omega) (by omega)
  have t4 : IntKind.i64.wrap ((n % 8 : Nat) : Int) = ((n % 8 : Nat) : Int) := wrap_i64 (by omega) (by omega)
  by_cases hm : n / 8 = r.num ∧ n % 8 = r.kind
  ·refine ⟨i, fun p kr c0 c h h1 h2 hx => ?_⟩
   obtain ⟨m1, m2⟩ := hm
   have m1' : ((n / 8 : Nat) : Int) = r.num := by omega
   have m2' : ((n % 8 : Nat) : Int) = r.kind := by omega
   have e : tabR (n :: rest) r.num r.kind = true := by simp [tabR, m1, m2]
   rw [e, rd_54_2]
   simp only [recCells] at hx
   generalize hr : execW E 54 p _ _ _ _ = e
   simp -implicitDefEqProofs (maxSteps := 1000000) [-Int.natCast_ediv, -Int.natCast_emod, Tryz.f54, Code.loopAt, Code.key, hx, hlt, hlt', hrl, hget?, hget, t1, t2, t3, t4, eq_true m1', eq_true m2', eq_true m1, eq_true m2] at hr
   subst hr
   simp
   done
  ·obtain ⟨i', gl⟩ := ih (i + 1) hbs (by omega)
   refine ⟨i', fun p kr c0 c h h1 h2 hx => ?_⟩
   obtain ⟨q1, q2, q3, q4, q5, q6⟩ := own_facts (p := p) 103 kr
   have e0 : tabR (n :: rest) r.num r.kind = tabR rest r.num r.kind := by
    have : (n / 8 == r.num && n % 8 == r.kind) = false := by simpa using hm
    simp [tabR, this]
   have e := gl p kr c0 c (dropFrom p c0 h) h1 h2 (by rw [q2 _ _ h1, hx])
   rw [drop_drop_self] at e
   rw [e0]
   simp only [recCells] at hx
   by_cases m1 : n / 8 = r.num
   ·have m2 : ¬ n % 8 = r.kind := fun x => hm ⟨m1, x⟩
    have m1' : ((n / 8 : Nat) : Int) = r.num := by omega
    have m2' : ¬ ((n % 8 : Nat) : Int) = r.kind := by omega
    rw [rd_54_2]
    generalize hr : execW E 54 p _ _ _ _ = ee
    simp -implicitDefEqProofs (maxSteps := 1000000) [-Int.natCast_add, -Int.natCast_ediv, -Int.natCast_emod, Tryz.f54, Code.loopAt, Code.key, hx, hlt, hlt', hrl, hget?, hget, hw, t1, t2, t3, t4, eq_true m1', m2', eq_true m1, m2] at hr
    subst hr
    simpa [-Int.natCast_add] using e
   ·have m1' : ¬ ((n / 8 : Nat) : Int) = r.num := by omega
    rw [rd_54_2]
    generalize hr : execW E 54 p _ _ _ _ = ee
    simp -implicitDefEqProofs (maxSteps := 1000000) [-Int.natCast_add, -Int.natCast_ediv, -Int.natCast_emod, Tryz.f54, Code.loopAt, Code.key, hx, hlt, hlt', hrl, hget?, hget, hw, t1, t2, t3, t4, m1', m1] at hr
    subst hr
    simpa [-Int.natCast_add] using e
theorem takesR_ok {tb : List Nat} (hn : tb.length ≤ 1099511627776) (hsm : ∀ n ∈ tb, n ≤ 1099511627776) (r : Rec) (p : Id) (h : Heap) : callW E p 54 [.slice (intsA tb) none, encRec r] h = some (.bool (tabR tb r.num r.kind), dropFrom p 0 h) := by
 obtain ⟨i', gl⟩ := takesR_loop hn hsm (r := r) tb 0 rfl (Nat.zero_le _)
 have g := fun h => gl p 0 1 1 h (by omega) (Nat.le_refl _)
 simp only [recCells, nat0] at g
 rw [eq_54]
 cases ht : tabR tb r.num r.kind with
 | true =>
  rw [ht] at g
  simp only [if_true] at g
  simp -implicitDefEqProofs (maxSteps := 1000000) [Tryz.f54, Code.hide, Code.key, encRec, g]
 | false =>
  rw [ht] at g
  simp only [Bool.false_eq_true, if_false] at g
  simp -implicitDefEqProofs (maxSteps := 1000000) [Tryz.f54, Code.hide, Code.key, encRec, g]
theorem tabV (num kind : Nat) (h : kind < 8) : tabR [10, 16, 24, 33, 42, 50, 58] num kind = takesV num kind := by
 rcases Nat.lt_or_ge num 8 with h8 | h8
 ·have : ∀ n : Fin 8, ∀ k : Fin 8, tabR [10, 16, 24, 33, 42, 50, 58] n.val k.val = takesV n.val k.val := by decide
  exact this ⟨num, h8⟩ ⟨kind, h⟩
 ·have e1 : takesV num kind = false := by
   unfold takesV
   split <;> first | omega | rfl
  rw [e1]
  simp [tabR]; omega
theorem tabL (num kind : Nat) (h : kind < 8) : tabR [10] num kind = loneT num kind := by
 simp [tabR, loneT]
 rw [Bool.eq_iff_iff]; simp; omega
theorem tabK (num kind : Nat) (h : kind < 8) : tabR [10, 18] num kind = takesK num kind := by
 simp [tabR, takesK]
 rw [Bool.eq_iff_iff]; simp; omega
theorem fieldsE_neg {s : List UInt8} {d : Int} (h : d < 0) : fieldsE s d = .error (.code 6) := by unfold fieldsE; rw [if_pos h]
theorem fieldsE_facts {s : List UInt8} {d : Int} {rs : List Rec} (h : fieldsE s d = .ok rs) : 0 ≤ d ∧ rs.length ≤ s.length ∧ rawLen rs = s.length ∧ strLen rs ≤ s.length ∧ (∀ r ∈ rs, r.kind < 8) ∧ Short s.length rs := by
 unfold fieldsE at h
 split at h
 ·cases h
 ·have h1 := allE_raw 0 (Nat.zero_le _) rs h
  have h2 := allE_short 0 (Nat.zero_le _) rs h
  have h3 := allE_mem 0 (Nat.zero_le _) rs h
  have h4 := allE_str 0 (Nat.zero_le _) rs h
  exact ⟨by omega, by omega, by omega, by omega, fun r hr => (h3 r hr).2.2.1, h2⟩
end Go.Ai.T

namespace Go.Ai.T
open Go Go.Proofs
set_option maxRecDepth 100000
set_option maxHeartbeats 4000000
def runFr (tb : List Nat) (ok : Bool) (rs : List Rec) (i : Nat) : Fr := (((((bot.set 9 (.int .i64 i)).set 8 (.bool ok)).set 7 (.slice (recsA rs) none)).set 6 (.bool false)).set 2 (.slice (intsA tb) none))
theorem run_loop {tb : List Nat} (hn : tb.length ≤ 1099511627776) (hsm : ∀ n ∈ tb, n ≤ 1099511627776) {t : Nat → Nat → Bool} (ht : ∀ num kind, kind < 8 → tabR tb num kind = t num kind) {ok : Bool} {rs : List Rec} (hrn : rs.length ≤ 1099511627776) (hk : ∀ r ∈ rs, r.kind < 8) :
  ∀ (rest : List Rec) (i : Nat), rs.drop i = rest → i ≤ rs.length → ∃ K i', ∀ (p : Id) (c0 c : Nat) (h : Heap), c0 ≤ c →
  iterW E 31 p [2, 6, 7, 8, 9] L_31_3 c0 (runFr tb ok rs i) c h =
   some (if (rest.all fun r => !t r.num r.kind) = true then .exit 0 else .ret, runFr tb ok rs i', c + K, dropFrom p c0 h) := by
 intro rest
 induction rest with
 | nil =>
  intro i hj hi
  have hlen : i = rs.length := by have := drop_end hj; omega
  subst hlen
  refine ⟨0, rs.length, fun p c0 c h h1 => ?_⟩
  have hlt' : ¬ ((rs.length : Nat) : Int) < rs.length := by omega
  have hrl : (recsA rs).length = rs.length := by simp [recsA]
  unfold runFr
  rw [rd_31_3]
  generalize hr : execW E 31 p _ _ _ _ = e
  simp -implicitDefEqProofs (maxSteps := 1000000) [Tryz.f31, Code.loopAt, Code.key, hrl] at hr
  subst hr
  simp
 | cons r rest ih =>
  intro i hj hi
  obtain ⟨hlt, hbb, hbs⟩ := drop_facts hj
  have hlt' : (i : Int) < rs.length := by omega
  have hw : IntKind.i64.wrap ((i : Int) + 1) = ((i + 1 : Nat) : Int) := by rw [wrap_i64 (by omega) (by omega)]; rfl
  have hrl : (recsA rs).length = rs.length := by simp [recsA]
  have hget? : (recsA rs)[i]? = some (recCells r) := by simp [recsA, hbb]
  have hget : ∀ hl, (recsA rs)[i]'hl = recCells r := fun hl => by rw [List.getElem?_eq_getElem hl] at hget?; exact Option.some.inj hget?
  have gt := fun q h => takesR_ok hn hsm r q h
  rw [ht _ _ (hk r (List.mem_of_getElem? hbb))] at gt
  simp only [encRec, recCells] at gt
  cases htr : t r.num r.kind with
  | true =>
   rw [htr] at gt
   refine ⟨1, i, fun p c0 c h h1 => ?_⟩
   have e : ((r :: rest).all fun r => !t r.num r.kind) = false := by simp [htr]
   rw [e]
   unfold runFr
   rw [rd_31_3]
   generalize hr : execW E 31 p _ _ _ _ = ee
   simp -implicitDefEqProofs (maxSteps := 1000000) [-Int.natCast_add, Tryz.f31, Code.loopAt, Code.key, recCells, gt, hlt, hlt', hrl, hget?, hget, hw] at hr
   subst hr
   simp [-Int.natCast_add]
   simp -implicitDefEqProofs (disch := omega) only [own_du, drop_drop_cons, drop_upd, drop_drop, drop_drop_self, upd_upd]
  | false =>
   rw [htr] at gt
   obtain ⟨K, i', gl⟩ := ih (i + 1) hbs (by omega)
   refine ⟨1 + K, i', fun p c0 c h h1 => ?_⟩
   have e : ((r :: rest).all fun r => !t r.num r.kind) = (rest.all fun r => !t r.num r.kind) := by simp [htr]
   rw [e]
   have e := gl p c0 (c + 1) (dropFrom p c0 h) (by omega)
   unfold runFr at e ⊢
   rw [rd_31_3]
   generalize hr : execW E 31 p _ _ _ _ = ee
   simp -implicitDefEqProofs (maxSteps := 1000000) [-Int.natCast_add, Tryz.f31, Code.loopAt, Code.key, recCells, gt, hlt, hlt', hrl, hget?, hget, hw] at hr
   subst hr
   simp [-Int.natCast_add, -List.all_eq_true]
   exact (iterW_congr rfl rfl (by omega) (by simp -implicitDefEqProofs (disch := omega) only [own_du, drop_drop_cons, drop_upd, drop_drop, drop_drop_self, upd_upd])).trans (e.trans (some5 rfl (by omega) (by simp -implicitDefEqProofs (disch := omega) only [own_du, drop_drop_cons, drop_upd, drop_drop, drop_drop_self, upd_upd])))
theorem runknown_ok {tb : List Nat} (hn : tb.length ≤ 1099511627776) (hsm : ∀ n ∈ tb, n ≤ 1099511627776) {t : Nat → Nat → Bool} (ht : ∀ num kind, kind < 8 → tabR tb num kind = t num kind) {s : List UInt8} (hb : s.length ≤ 1099511627776) {d : Int} (hd : d ≤ 9223372036854775807) (p : Id) (h : Heap) :
  callW E p 31 [.str s, .int .i64 d, .slice (intsA tb) none] h = some (.bool (decide (0 ≤ d) && restE t s d), dropFrom p 0 h) := by
 have gf := fun q h => fields_ok hb hd q h
 rw [eq_31]
 cases hv : fieldsE s d with
 | error x =>
  have e : (decide (0 ≤ d) && restE t s d) = false := by
   unfold fieldsE at hv
   split at hv
   ·simp; omega
   ·unfold restE; rw [hv]; simp
  rw [hv] at gf
  obtain ⟨K, i', gl⟩ := run_loop hn hsm ht (ok := false) (rs := []) (by simp) (by simp) [] 0 rfl (Nat.zero_le _)
  have g := fun h => gl p 1 1 h (Nat.le_refl _)
  simp only [encRAll, runFr, nat0, recsA, List.map_nil] at gf g
  rw [e]
  simp -implicitDefEqProofs (maxSteps := 1000000) [Tryz.f31, Code.hide, Code.key, gf, g]
 | ok rs =>
  obtain ⟨hd0, f1, f2, f3, f4, f5⟩ := fieldsE_facts hv
  have hall : allE s d 0 = .ok rs := by
   unfold fieldsE at hv
   rwa [if_neg (by omega)] at hv
  have e : (decide (0 ≤ d) && restE t s d) = rs.all fun r => !t r.num r.kind := by
   unfold restE; rw [hall]; simp [hd0]
  rw [hv] at gf
  obtain ⟨K, i', gl⟩ := run_loop hn hsm ht (ok := true) (rs := rs) (by omega) f4 rs 0 rfl (Nat.zero_le _)
  have g := fun h => gl p 1 1 h (Nat.le_refl _)
  simp only [encRAll, runFr, nat0] at gf g
  rw [e]
  cases hx : rs.all fun r => !t r.num r.kind with
  | true =>
   rw [hx] at g
   simp only [if_true] at g
   simp -implicitDefEqProofs (maxSteps := 1000000) [Tryz.f31, Code.hide, Code.key, gf, g]
  | false =>
   rw [hx] at g
   simp only [Bool.false_eq_true, if_false] at g
   simp -implicitDefEqProofs (maxSteps := 1000000) [Tryz.f31, Code.hide, Code.key, gf, g]
def rmkFr (d : Int) (l : List KV) (i : Nat) : Fr := ((((bot.set 5 (.int .i64 i)).set 4 (.bool false)).set 1 (.int .i64 d)).set 0 (.slice (l.map encK) none))
def rmvFr (p : Id) (d : Int) (_ : List Val) (i : Nat) : Fr := ((((bot.set 6 (.int .i64 i)).set 4 (.bool false)).set 2 (.ptr (36 :: 0 :: p) 0)).set 1 (.int .i64 d))
theorem rmayKs_loop {d : Int} {l : List KV} {k0 s0 b0 n0 m0 i0 u0 : A} (hn : l.length ≤ maxStr) (hd1 : -9223372036854775808 ≤ d) (hd2 : d ≤ 9223372036854775807) (hr : ∀ x ∈ l, ∀ (q : Id) (h : Heap), callW E q 14 [.agg (encK x), .int .i64 d] h = some (.bool (mayK x d), dropFrom q 0 h)) :
  ∀ (t : List KV) (i : Nat), l.drop i = t → i ≤ l.length → ∃ K i', ∀ (p : Id) (c0 c : Nat) (h : Heap), 0 < c0 ∨ 6 = 6 → c0 ≤ c → True →
  iterW E 6 p [0, 1, 4, 5] L_6_2 c0 (rmkFr d l i) c h = some (if (t.all fun x => mayK x d) = true then .exit 0 else .ret, rmkFr d l i', c + K, dropFrom p c0 h) := by
 intro t
 induction t with
 | nil =>
  intro i hj hi
  have hlen : i = l.length := by have := drop_end hj; omega
  subst hlen
  refine ⟨0, l.length, fun p c0 c h hc0 h1 hh => ?_⟩
  have hlt' : ¬ ((l.length : Nat) : Int) < l.length := by omega
  unfold rmkFr
  rw [rd_6_2]
  generalize hr : execW E 6 p _ _ _ _ = e
  simp -implicitDefEqProofs (maxSteps := 1000000) [Tryz.f6, Code.loopAt, Code.key, hh] at hr
  subst hr
  simp
 | cons x t ih =>
  intro i hj hi
  obtain ⟨hlt, hbb, hbs⟩ := drop_facts hj
  have hlt' : (i : Int) < l.length := by omega
  have hw1 : IntKind.i64.wrap ((i : Int) + 1) = ((i + 1 : Nat) : Int) := by rw [wrap_succ hlt hn]; rfl
  have hwe : IntKind.i64.wrap d = d := wrap_i64 hd1 hd2
  have hget? : (l.map encK)[i]? = some (encK x) := by simp [hbb]
  have hget : ∀ hl, (l.map encK)[i]'hl = encK x := fun hl => by rw [List.getElem?_eq_getElem hl] at hget?; exact Option.some.inj hget?
  have hgetl : ∀ hl, l[i]'hl = x := fun hl => by rw [List.getElem?_eq_getElem hl] at hbb; exact Option.some.inj hbb
  have g := hr x (List.mem_of_getElem? hbb)
  cases hv : mayK x d with
  | false =>
   refine ⟨1, i, fun p c0 c h hc0 h1 hh => ?_⟩
   obtain ⟨o1, o2, o3, o4, o5, o6⟩ := own_facts (p := p) 36 0
   have e : ((x :: t).all fun x => mayK x d) = false := by simp [hv]
   rw [e]
   rw [hv] at g
   unfold rmkFr
   rw [rd_6_2]
   generalize hr : execW E 6 p _ _ _ _ = ee
   simp -implicitDefEqProofs (maxSteps := 1000000) [-Int.natCast_add, Tryz.f6, Code.loopAt, Code.key, hlt, hlt', hget?, hget, hgetl, hbb, hw1, hwe, g, hh] at hr
   subst hr
   simp [-Int.natCast_add]
   simp -implicitDefEqProofs (disch := omega) only [own_du, drop_drop_cons, drop_upd, drop_drop, drop_drop_self, upd_upd]
  | true =>
   obtain ⟨K, i', gl⟩ := ih (i + 1) hbs (by omega)
   refine ⟨1 + K, i', fun p c0 c h hc0 h1 hh => ?_⟩
   obtain ⟨o1, o2, o3, o4, o5, o6⟩ := own_facts (p := p) 36 0
   have e : ((x :: t).all fun x => mayK x d) = (t.all fun x => mayK x d) := by simp [hv]
   rw [e]
   rw [hv] at g
   have e := gl p c0 (c + 1) (dropFrom p c0 h) hc0 (by omega) trivial
   unfold rmkFr at e ⊢
   rw [rd_6_2]
   generalize hr : execW E 6 p _ _ _ _ = ee
   simp -implicitDefEqProofs (maxSteps := 1000000) [-Int.natCast_add, Tryz.f6, Code.loopAt, Code.key, hlt, hlt', hget?, hget, hgetl, hbb, hw1, hwe, g, hh] at hr
   subst hr
   simp [-Int.natCast_add, -List.all_eq_true]
   exact (iterW_congr rfl rfl (by omega) (by simp -implicitDefEqProofs (disch := omega) only [own_du, drop_drop_cons, drop_upd, drop_drop, drop_drop_self, upd_upd])).trans (e.trans (some5 rfl (by omega) (by simp -implicitDefEqProofs (disch := omega) only [own_du, drop_drop_cons, drop_upd, drop_drop, drop_drop_self, upd_upd])))
theorem rmayVs_loop {d : Int} {l : List Val} {k0 s0 b0 n0 m0 i0 u0 : A} (hn : l.length ≤ maxStr) (hd1 : -9223372036854775808 ≤ (d - 2)) (hd2 : (d - 2) ≤ 9223372036854775807) (hr : ∀ x ∈ l, ∀ (q : Id) (h : Heap), callW E q 33 [.agg (encV x), .int .i64 (d - 2)] h = some (.bool (mayV x (d - 2)), dropFrom q 0 h)) :
  ∀ (t : List Val) (i : Nat), l.drop i = t → i ≤ l.length → ∃ K i', ∀ (p : Id) (c0 c : Nat) (h : Heap), 0 < c0 ∨ 33 = 6 → c0 ≤ c → h (36 :: 0 :: p) = some [k0, s0, b0, n0, .slice (l.map encV) none, m0, i0, u0] →
  iterW E 33 p [1, 2, 4, 6] L_33_9 c0 (rmvFr p d l i) c h = some (if (t.all fun x => mayV x (d - 2)) = true then .exit 0 else .ret, rmvFr p d l i', c + K, dropFrom p c0 h) := by
 intro t
 induction t with
 | nil =>
  intro i hj hi
  have hlen : i = l.length := by have := drop_end hj; omega
  subst hlen
  refine ⟨0, l.length, fun p c0 c h hc0 h1 hh => ?_⟩
  have hlt' : ¬ ((l.length : Nat) : Int) < l.length := by omega
  unfold rmvFr
  rw [rd_33_9]
  generalize hr : execW E 33 p _ _ _ _ = e
  simp -implicitDefEqProofs (maxSteps := 1000000) [Tryz.f33, Code.loopAt, Code.key, hh] at hr
  subst hr
  simp
 | cons x t ih =>
  intro i hj hi
  obtain ⟨hlt, hbb, hbs⟩ := drop_facts hj
  have hlt' : (i : Int) < l.length := by omega
  have hw1 : IntKind.i64.wrap ((i : Int) + 1) = ((i + 1 : Nat) : Int) := by rw [wrap_succ hlt hn]; rfl
  have hwe : IntKind.i64.wrap (d - 2) = (d - 2) := wrap_i64 hd1 hd2
  have hget? : (l.map encV)[i]? = some (encV x) := by simp [hbb]
  have hget : ∀ hl, (l.map encV)[i]'hl = encV x := fun hl => by rw [List.getElem?_eq_getElem hl] at hget?; exact Option.some.inj hget?
  have hgetl : ∀ hl, l[i]'hl = x := fun hl => by rw [List.getElem?_eq_getElem hl] at hbb; exact Option.some.inj hbb
  have g := hr x (List.mem_of_getElem? hbb)
  cases hv : mayV x (d - 2) with
  | false =>
   refine ⟨1, i, fun p c0 c h hc0 h1 hh => ?_⟩
   obtain ⟨o1, o2, o3, o4, o5, o6⟩ := own_facts (p := p) 36 0
   have e : ((x :: t).all fun x => mayV x (d - 2)) = false := by simp [hv]
   rw [e]
   rw [hv] at g
   unfold rmvFr
   rw [rd_33_9]
   generalize hr : execW E 33 p _ _ _ _ = ee
   simp -implicitDefEqProofs (maxSteps := 1000000) [-Int.natCast_add, Tryz.f33, Code.loopAt, Code.key, hlt, hlt', hget?, hget, hgetl, hbb, hw1, hwe, g, hh] at hr
   subst hr
   simp [-Int.natCast_add]
   simp -implicitDefEqProofs (disch := omega) only [own_du, drop_drop_cons, drop_upd, drop_drop, drop_drop_self, upd_upd]
  | true =>
   obtain ⟨K, i', gl⟩ := ih (i + 1) hbs (by omega)
   refine ⟨1 + K, i', fun p c0 c h hc0 h1 hh => ?_⟩
   obtain ⟨o1, o2, o3, o4, o5, o6⟩ := own_facts (p := p) 36 0
   have e : ((x :: t).all fun x => mayV x (d - 2)) = (t.all fun x => mayV x (d - 2)) := by simp [hv]
   rw [e]
   rw [hv] at g
   have e := gl p c0 (c + 1) (dropFrom p c0 h) hc0 (by omega) (by rw [o2 _ _ (by omega), hh])
   unfold rmvFr at e ⊢
   rw [rd_33_9]
   generalize hr : execW E 33 p _ _ _ _ = ee
   simp -implicitDefEqProofs (maxSteps := 1000000) [-Int.natCast_add, Tryz.f33, Code.loopAt, Code.key, hlt, hlt', hget?, hget, hgetl, hbb, hw1, hwe, g, hh] at hr
   subst hr
   simp [-Int.natCast_add, -List.all_eq_true]
   exact (iterW_congr rfl rfl (by omega) (by simp -implicitDefEqProofs (disch := omega) only [own_du, drop_drop_cons, drop_upd, drop_drop, drop_drop_self, upd_upd])).trans (e.trans (some5 rfl (by omega) (by simp -implicitDefEqProofs (disch := omega) only [own_du, drop_drop_cons, drop_upd, drop_drop, drop_drop_self, upd_upd])))
theorem rmayKs_of {d : Int} {l : List KV} (hn : l.length ≤ maxStr) (hd1 : -9223372036854775808 ≤ d) (hd2 : d ≤ 9223372036854775807) (hr : ∀ x ∈ l, ∀ (q : Id) (h : Heap), callW E q 14 [.agg (encK x), .int .i64 d] h = some (.bool (mayK x d), dropFrom q 0 h)) (p : Id) (h : Heap) :
  callW E p 6 [.slice (l.map encK) none, .int .i64 d] h = some (.bool (mayKs l d), dropFrom p 0 h) := by
 obtain ⟨K, i', gl⟩ := rmayKs_loop (k0 := .top) (s0 := .top) (b0 := .top) (n0 := .top) (m0 := .top) (i0 := .top) (u0 := .top) hn hd1 hd2 hr l 0 rfl (Nat.zero_le _)
 have g := fun h => gl p 0 0 h (.inr rfl) (Nat.le_refl _) trivial
 rw [mayKs_all]
 rw [eq_6]
 simp only [rmkFr, nat0] at g
 cases hx : l.all fun x => mayK x d with
 | true =>
  rw [hx] at g
  simp only [if_true] at g
  simp -implicitDefEqProofs (maxSteps := 1000000) [Tryz.f6, Code.hide, Code.key, g]
 | false =>
  rw [hx] at g
  simp only [Bool.false_eq_true, if_false] at g
  simp -implicitDefEqProofs (maxSteps := 1000000) [Tryz.f6, Code.hide, Code.key, g]
theorem rmay_of {k : Int} {s : List UInt8} {b : Bool} {n : Nat} {l : List Val} {m : List KV} {i u : List UInt8} (hwf : (Val.mk k s b n l m i u).wf) (hs : s.length ≤ 1099511627776) (hu : u.length ≤ 1099511627776) (hi : i.length ≤ 1099511627776) {d : Int} (hd2 : d ≤ 9223372036854775807)
  (hV : 1 ≤ d → ∀ x ∈ l, ∀ (q : Id) (h : Heap), callW E q 33 [.agg (encV x), .int .i64 (d - 2)] h = some (.bool (mayV x (d - 2)), dropFrom q 0 h))
  (hK : 1 ≤ d → ∀ x ∈ m, ∀ (q : Id) (h : Heap), callW E q 14 [.agg (encK x), .int .i64 (d - 2)] h = some (.bool (mayK x (d - 2)), dropFrom q 0 h)) (p : Id) (h : Heap) :
  callW E p 33 [.agg (encV (.mk k s b n l m i u)), .int .i64 d] h = some (.bool (mayV (.mk k s b n l m i u) d), dropFrom p 0 h) := by
 obtain ⟨hk, _, hn, hll, hml, hil, hul, hwl, hwm⟩ := Val.wf_mk.1 hwf
 have g1 := fun q h => rtext_ok hs q h
 change ∀ q h, callW E q 30 [.str s] h = some (.bool (textOk s), dropFrom q 0 h) at g1
 have g2 := fun q h => runknown_ok (tb := [10, 16, 24, 33, 42, 50, 58]) (by simp) (by simp) tabV hu hd2 q h
 rw [mayV]
 simp only [encV_mk]
 rw [eq_33]
 by_cases h0 : d < 0
 ·have e : decide (0 ≤ d) = false := by simp; omega
  rw [e]
  simp -implicitDefEqProofs (maxSteps := 1000000) [Tryz.f33, Code.hide, Code.key, h0]
 have e0 : decide (0 ≤ d) = true := by simp; omega
 rw [e0] at g2 ⊢
 have hwd : IntKind.i64.wrap (d - 1) = d - 1 := wrap_i64 (by omega) (by omega)
 have hwd2 : IntKind.i64.wrap (d - 2) = d - 2 := wrap_i64 (by omega) (by omega)
 by_cases kn : k < 0
 ·have eb : bareV (.mk k s b n l m i u) = false := by
   have k0 : ¬ k = 0 := by omega
   have k1 : ¬ k = 1 := by omega
   have k2 : ¬ k = 2 := by omega
   have k34 : ¬ (k = 3 ∨ k = 4) := by omega
   have k5 : ¬ k = 5 := by omega
   have k6 : ¬ k = 6 := by omega
   have k7 : ¬ k = 7 := by omega
   simp only [bareV, k0, k1, k2, k34, k5, k6, k7, if_false]
  rw [eb]
  simp -implicitDefEqProofs (maxSteps := 1000000) [Tryz.f33, Code.hide, Code.key, h0, kn]
 by_cases kp : 7 < k
 ·have eb : bareV (.mk k s b n l m i u) = false := by
   have k0 : ¬ k = 0 := by omega
   have k1 : ¬ k = 1 := by omega
   have k2 : ¬ k = 2 := by omega
   have k34 : ¬ (k = 3 ∨ k = 4) := by omega
   have k5 : ¬ k = 5 := by omega
   have k6 : ¬ k = 6 := by omega
   have k7 : ¬ k = 7 := by omega
   simp only [bareV, k0, k1, k2, k34, k5, k6, k7, if_false]
  rw [eb]
  simp -implicitDefEqProofs (maxSteps := 1000000) [Tryz.f33, Code.hide, Code.key, h0, kn, kp]
 cases hx : restE takesV u d with
 | false =>
  rw [hx] at g2
  simp -implicitDefEqProofs (maxSteps := 1000000) [Tryz.f33, Code.hide, Code.key, h0, kn, kp, g2, values_ok]
 | true =>
  rw [hx] at g2
  by_cases k0 : k = 0
  ·subst k0
   cases s with
   | cons x xs =>
    simp -implicitDefEqProofs (maxSteps := 1000000) [Tryz.f33, Code.hide, Code.key, h0, g2, values_ok, bareV]
   | nil =>
    cases b with
    | true =>
     simp -implicitDefEqProofs (maxSteps := 1000000) [Tryz.f33, Code.hide, Code.key, h0, g2, values_ok, bareV]
    | false =>
     by_cases hn0 : n = 0
     case neg =>
      have hn' : ¬ (n : Int) = 0 := by omega
      simp -implicitDefEqProofs (maxSteps := 1000000) [Tryz.f33, Code.hide, Code.key, h0, g2, values_ok, bareV, hn0, hn']
     subst hn0
     simp only [nat0]
     cases l with
     | cons y ys =>
      have e3 : 0 < ((y :: ys).map encV).length := by simp
      have e3' : ¬ ((y :: ys).map encV) = [] := by simp
      generalize (y :: ys).map encV = L at *
      simp -implicitDefEqProofs (maxSteps := 1000000) [Tryz.f33, Code.hide, Code.key, h0, g2, values_ok, bareV, e3, e3']
     | nil =>
      cases m with
      | cons y ys =>
       have e3 : 0 < ((y :: ys).map encK).length := by simp
       have e3' : ¬ ((y :: ys).map encK) = [] := by simp
       generalize (y :: ys).map encK = L at *
       simp -implicitDefEqProofs (maxSteps := 1000000) [Tryz.f33, Code.hide, Code.key, h0, g2, values_ok, bareV, e3, e3']
      | nil =>
       cases i with
       | cons x xs =>
        simp -implicitDefEqProofs (maxSteps := 1000000) [Tryz.f33, Code.hide, Code.key, h0, g2, values_ok, bareV]
       | nil =>
        obtain ⟨K, i', gl⟩ := rmayVs_loop (k0 := .int .i64 0) (s0 := .str []) (b0 := .bool false) (n0 := .int .u64 0) (m0 := .slice [] none) (i0 := .str []) (u0 := .str u) (d := d) (l := []) (by simp) (by omega) (by omega) (by simp) [] 0 rfl (Nat.zero_le _)
        have g := fun c h hh => gl p (c + 1) (c + 1) h (.inl (by omega)) (Nat.le_refl _) hh
        have g4 := fun q h => rmayKs_of (d := d - 2) (l := []) (by simp) (by omega) (by omega) (by simp) q h
        simp only [rmvFr, nat0, List.map_nil, List.all_nil, if_true, mayKs] at g g4
        simp -implicitDefEqProofs (maxSteps := 1000000) [Tryz.f33, Code.hide, Code.key, h0, g1, g2, values_ok, bareV, g, g4, hwd2]
  by_cases k1 : k = 1
  ·subst k1
   cases b with
   | true =>
    simp -implicitDefEqProofs (maxSteps := 1000000) [Tryz.f33, Code.hide, Code.key, h0, g2, values_ok, bareV]
   | false =>
    by_cases hn0 : n = 0
    case neg =>
     have hn' : ¬ (n : Int) = 0 := by omega
     simp -implicitDefEqProofs (maxSteps := 1000000) [Tryz.f33, Code.hide, Code.key, h0, g2, values_ok, bareV, hn0, hn']
    subst hn0
    simp only [nat0]
    cases l with
    | cons y ys =>
     have e3 : 0 < ((y :: ys).map encV).length := by simp
     have e3' : ¬ ((y :: ys).map encV) = [] := by simp
     generalize (y :: ys).map encV = L at *
     simp -implicitDefEqProofs (maxSteps := 1000000) [Tryz.f33, Code.hide, Code.key, h0, g2, values_ok, bareV, e3, e3']
    | nil =>
     cases m with
     | cons y ys =>
      have e3 : 0 < ((y :: ys).map encK).length := by simp
      have e3' : ¬ ((y :: ys).map encK) = [] := by simp
      generalize (y :: ys).map encK = L at *
      simp -implicitDefEqProofs (maxSteps := 1000000) [Tryz.f33, Code.hide, Code.key, h0, g2, values_ok, bareV, e3, e3']
     | nil =>
      cases i with
      | cons x xs =>
       simp -implicitDefEqProofs (maxSteps := 1000000) [Tryz.f33, Code.hide, Code.key, h0, g2, values_ok, bareV]
      | nil =>
       cases ht : textOk s with
       | false =>
        rw [ht] at g1
        simp -implicitDefEqProofs (maxSteps := 1000000) [Tryz.f33, Code.hide, Code.key, h0, g1, g2, values_ok, bareV, ht]
       | true =>
        rw [ht] at g1
        obtain ⟨K, i', gl⟩ := rmayVs_loop (k0 := .int .i64 1) (s0 := .str s) (b0 := .bool false) (n0 := .int .u64 0) (m0 := .slice [] none) (i0 := .str []) (u0 := .str u) (d := d) (l := []) (by simp) (by omega) (by omega) (by simp) [] 0 rfl (Nat.zero_le _)
        have g := fun c h hh => gl p (c + 1) (c + 1) h (.inl (by omega)) (Nat.le_refl _) hh
        have g4 := fun q h => rmayKs_of (d := d - 2) (l := []) (by simp) (by omega) (by omega) (by simp) q h
        simp only [rmvFr, nat0, List.map_nil, List.all_nil, if_true, mayKs] at g g4
        simp -implicitDefEqProofs (maxSteps := 1000000) [Tryz.f33, Code.hide, Code.key, h0, g1, g2, values_ok, bareV, g, g4, hwd2, ht]
  by_cases k2 : k = 2
  ·subst k2
   cases s with
   | cons x xs =>
    simp -implicitDefEqProofs (maxSteps := 1000000) [Tryz.f33, Code.hide, Code.key, h0, g2, values_ok, bareV]
   | nil =>
    by_cases hn0 : n = 0
    case neg =>
     have hn' : ¬ (n : Int) = 0 := by omega
     simp -implicitDefEqProofs (maxSteps := 1000000) [Tryz.f33, Code.hide, Code.key, h0, g2, values_ok, bareV, hn0, hn']
    subst hn0
    simp only [nat0]
    cases l with
    | cons y ys =>
     have e3 : 0 < ((y :: ys).map encV).length := by simp
     have e3' : ¬ ((y :: ys).map encV) = [] := by simp
     generalize (y :: ys).map encV = L at *
     simp -implicitDefEqProofs (maxSteps := 1000000) [Tryz.f33, Code.hide, Code.key, h0, g2, values_ok, bareV, e3, e3']
    | nil =>
     cases m with
     | cons y ys =>
      have e3 : 0 < ((y :: ys).map encK).length := by simp
      have e3' : ¬ ((y :: ys).map encK) = [] := by simp
      generalize (y :: ys).map encK = L at *
      simp -implicitDefEqProofs (maxSteps := 1000000) [Tryz.f33, Code.hide, Code.key, h0, g2, values_ok, bareV, e3, e3']
     | nil =>
      cases i with
      | cons x xs =>
       simp -implicitDefEqProofs (maxSteps := 1000000) [Tryz.f33, Code.hide, Code.key, h0, g2, values_ok, bareV]
      | nil =>
       obtain ⟨K, i', gl⟩ := rmayVs_loop (k0 := .int .i64 2) (s0 := .str []) (b0 := .bool b) (n0 := .int .u64 0) (m0 := .slice [] none) (i0 := .str []) (u0 := .str u) (d := d) (l := []) (by simp) (by omega) (by omega) (by simp) [] 0 rfl (Nat.zero_le _)
       have g := fun c h hh => gl p (c + 1) (c + 1) h (.inl (by omega)) (Nat.le_refl _) hh
       have g4 := fun q h => rmayKs_of (d := d - 2) (l := []) (by simp) (by omega) (by omega) (by simp) q h
       simp only [rmvFr, nat0, List.map_nil, List.all_nil, if_true, mayKs] at g g4
       simp -implicitDefEqProofs (maxSteps := 1000000) [Tryz.f33, Code.hide, Code.key, h0, g1, g2, values_ok, bareV, g, g4, hwd2]
  by_cases k3 : k = 3
  ·subst k3
   cases s with
   | cons x xs =>
    simp -implicitDefEqProofs (maxSteps := 1000000) [Tryz.f33, Code.hide, Code.key, h0, g2, values_ok, bareV]
   | nil =>
    cases b with
    | true =>
     simp -implicitDefEqProofs (maxSteps := 1000000) [Tryz.f33, Code.hide, Code.key, h0, g2, values_ok, bareV]
    | false =>
     cases l with
     | cons y ys =>
      have e3 : 0 < ((y :: ys).map encV).length := by simp
      have e3' : ¬ ((y :: ys).map encV) = [] := by simp
      generalize (y :: ys).map encV = L at *
      simp -implicitDefEqProofs (maxSteps := 1000000) [Tryz.f33, Code.hide, Code.key, h0, g2, values_ok, bareV, e3, e3']
     | nil =>
      cases m with
      | cons y ys =>
       have e3 : 0 < ((y :: ys).map encK).length := by simp
       have e3' : ¬ ((y :: ys).map encK) = [] := by simp
       generalize (y :: ys).map encK = L at *
       simp -implicitDefEqProofs (maxSteps := 1000000) [Tryz.f33, Code.hide, Code.key, h0, g2, values_ok, bareV, e3, e3']
      | nil =>
       cases i with
       | cons x xs =>
        simp -implicitDefEqProofs (maxSteps := 1000000) [Tryz.f33, Code.hide, Code.key, h0, g2, values_ok, bareV]
       | nil =>
        obtain ⟨K, i', gl⟩ := rmayVs_loop (k0 := .int .i64 3) (s0 := .str []) (b0 := .bool false) (n0 := .int .u64 n) (m0 := .slice [] none) (i0 := .str []) (u0 := .str u) (d := d) (l := []) (by simp) (by omega) (by omega) (by simp) [] 0 rfl (Nat.zero_le _)
        have g := fun c h hh => gl p (c + 1) (c + 1) h (.inl (by omega)) (Nat.le_refl _) hh
        have g4 := fun q h => rmayKs_of (d := d - 2) (l := []) (by simp) (by omega) (by omega) (by simp) q h
        simp only [rmvFr, nat0, List.map_nil, List.all_nil, if_true, mayKs] at g g4
        simp -implicitDefEqProofs (maxSteps := 1000000) [Tryz.f33, Code.hide, Code.key, h0, g1, g2, values_ok, bareV, g, g4, hwd2]
  by_cases k4 : k = 4
  ·subst k4
   cases s with
   | cons x xs =>
    simp -implicitDefEqProofs (maxSteps := 1000000) [Tryz.f33, Code.hide, Code.key, h0, g2, values_ok, bareV]
   | nil =>
    cases b with
    | true =>
     simp -implicitDefEqProofs (maxSteps := 1000000) [Tryz.f33, Code.hide, Code.key, h0, g2, values_ok, bareV]
    | false =>
     cases l with
     | cons y ys =>
      have e3 : 0 < ((y :: ys).map encV).length := by simp
      have e3' : ¬ ((y :: ys).map encV) = [] := by simp
      generalize (y :: ys).map encV = L at *
      simp -implicitDefEqProofs (maxSteps := 1000000) [Tryz.f33, Code.hide, Code.key, h0, g2, values_ok, bareV, e3, e3']
     | nil =>
      cases m with
      | cons y ys =>
       have e3 : 0 < ((y :: ys).map encK).length := by simp
       have e3' : ¬ ((y :: ys).map encK) = [] := by simp
       generalize (y :: ys).map encK = L at *
       simp -implicitDefEqProofs (maxSteps := 1000000) [Tryz.f33, Code.hide, Code.key, h0, g2, values_ok, bareV, e3, e3']
      | nil =>
       cases i with
       | cons x xs =>
        simp -implicitDefEqProofs (maxSteps := 1000000) [Tryz.f33, Code.hide, Code.key, h0, g2, values_ok, bareV]
       | nil =>
        obtain ⟨K, i', gl⟩ := rmayVs_loop (k0 := .int .i64 4) (s0 := .str []) (b0 := .bool false) (n0 := .int .u64 n) (m0 := .slice [] none) (i0 := .str []) (u0 := .str u) (d := d) (l := []) (by simp) (by omega) (by omega) (by simp) [] 0 rfl (Nat.zero_le _)
        have g := fun c h hh => gl p (c + 1) (c + 1) h (.inl (by omega)) (Nat.le_refl _) hh
        have g4 := fun q h => rmayKs_of (d := d - 2) (l := []) (by simp) (by omega) (by omega) (by simp) q h
        simp only [rmvFr, nat0, List.map_nil, List.all_nil, if_true, mayKs] at g g4
        simp -implicitDefEqProofs (maxSteps := 1000000) [Tryz.f33, Code.hide, Code.key, h0, g1, g2, values_ok, bareV, g, g4, hwd2]
  by_cases k5 : k = 5
  ·subst k5
   cases s with
   | cons x xs =>
    simp -implicitDefEqProofs (maxSteps := 1000000) [Tryz.f33, Code.hide, Code.key, h0, g2, values_ok, bareV]
   | nil =>
    cases b with
    | true =>
     simp -implicitDefEqProofs (maxSteps := 1000000) [Tryz.f33, Code.hide, Code.key, h0, g2, values_ok, bareV]
    | false =>
     by_cases hn0 : n = 0
     case neg =>
      have hn' : ¬ (n : Int) = 0 := by omega
      simp -implicitDefEqProofs (maxSteps := 1000000) [Tryz.f33, Code.hide, Code.key, h0, g2, values_ok, bareV, hn0, hn']
     subst hn0
     simp only [nat0]
     cases m with
     | cons y ys =>
      have e3 : 0 < ((y :: ys).map encK).length := by simp
      have e3' : ¬ ((y :: ys).map encK) = [] := by simp
      generalize (y :: ys).map encK = L at *
      simp -implicitDefEqProofs (maxSteps := 1000000) [Tryz.f33, Code.hide, Code.key, h0, g2, values_ok, bareV, e3, e3']
     | nil =>
      have g3 := fun q h => runknown_ok (tb := [10]) (by simp) (by simp) tabL hi (d := d - 1) (by omega) q h
      by_cases h1 : d < 1
      ·have e1 : decide (1 ≤ d) = false := by simp; omega
       have e2 : decide (0 ≤ d - 1) = false := by simp; omega
       rw [e2] at g3
       rw [e1]
       simp -implicitDefEqProofs (maxSteps := 1000000) [Tryz.f33, Code.hide, Code.key, h0, g2, g3, values_ok, rlists_ok, hwd, bareV]
      have e1 : decide (1 ≤ d) = true := by simp; omega
      have e2 : decide (0 ≤ d - 1) = true := by simp; omega
      rw [e2] at g3
      rw [e1]
      cases hy : restE loneT i (d - 1) with
      | false =>
       rw [hy] at g3
       simp -implicitDefEqProofs (maxSteps := 1000000) [Tryz.f33, Code.hide, Code.key, h0, g2, g3, values_ok, rlists_ok, hwd, bareV]
      | true =>
       rw [hy] at g3
       obtain ⟨K, i', gl⟩ := rmayVs_loop (k0 := .int .i64 5) (s0 := .str []) (b0 := .bool false) (n0 := .int .u64 0) (m0 := .slice ([]) none) (i0 := .str i) (u0 := .str u) (d := d) hll (by omega) (by omega) (hV (by omega)) l 0 rfl (Nat.zero_le _)
       have g := fun c h hh => gl p (c + 1) (c + 1) h (.inl (by omega)) (Nat.le_refl _) hh
       have g4 := fun q h => rmayKs_of (d := d - 2) (l := []) hml (by omega) (by omega) (hK (by omega)) q h
       rw [mayVs_all]
       simp only [rmvFr, nat0, List.map_nil] at g g4
       cases hz : l.all fun x => mayV x (d - 2) with
       | false =>
        rw [hz] at g
        simp only [Bool.false_eq_true, if_false] at g
        simp -implicitDefEqProofs (maxSteps := 1000000) [Tryz.f33, Code.hide, Code.key, h0, g2, g3, values_ok, rlists_ok, hwd, hwd2, bareV, g, g4]
       | true =>
        rw [hz] at g
        simp only [if_true] at g
        simp -implicitDefEqProofs (maxSteps := 1000000) [Tryz.f33, Code.hide, Code.key, h0, g2, g3, values_ok, rlists_ok, hwd, hwd2, bareV, g, g4]
  by_cases k6 : k = 6
  ·subst k6
   cases s with
   | cons x xs =>
    simp -implicitDefEqProofs (maxSteps := 1000000) [Tryz.f33, Code.hide, Code.key, h0, g2, values_ok, bareV]
   | nil =>
    cases b with
    | true =>
     simp -implicitDefEqProofs (maxSteps := 1000000) [Tryz.f33, Code.hide, Code.key, h0, g2, values_ok, bareV]
    | false =>
     by_cases hn0 : n = 0
     case neg =>
      have hn' : ¬ (n : Int) = 0 := by omega
      simp -implicitDefEqProofs (maxSteps := 1000000) [Tryz.f33, Code.hide, Code.key, h0, g2, values_ok, bareV, hn0, hn']
     subst hn0
     simp only [nat0]
     cases l with
     | cons y ys =>
      have e3 : 0 < ((y :: ys).map encV).length := by simp
      have e3' : ¬ ((y :: ys).map encV) = [] := by simp
      generalize (y :: ys).map encV = L at *
      simp -implicitDefEqProofs (maxSteps := 1000000) [Tryz.f33, Code.hide, Code.key, h0, g2, values_ok, bareV, e3, e3']
     | nil =>
      have g3 := fun q h => runknown_ok (tb := [10]) (by simp) (by simp) tabL hi (d := d - 1) (by omega) q h
      by_cases h1 : d < 1
      ·have e1 : decide (1 ≤ d) = false := by simp; omega
       have e2 : decide (0 ≤ d - 1) = false := by simp; omega
       rw [e2] at g3
       rw [e1]
       simp -implicitDefEqProofs (maxSteps := 1000000) [Tryz.f33, Code.hide, Code.key, h0, g2, g3, values_ok, rlists_ok, hwd, bareV]
      have e1 : decide (1 ≤ d) = true := by simp; omega
      have e2 : decide (0 ≤ d - 1) = true := by simp; omega
      rw [e2] at g3
      rw [e1]
      cases hy : restE loneT i (d - 1) with
      | false =>
       rw [hy] at g3
       simp -implicitDefEqProofs (maxSteps := 1000000) [Tryz.f33, Code.hide, Code.key, h0, g2, g3, values_ok, rlists_ok, hwd, bareV]
      | true =>
       rw [hy] at g3
       obtain ⟨K, i', gl⟩ := rmayVs_loop (k0 := .int .i64 6) (s0 := .str []) (b0 := .bool false) (n0 := .int .u64 0) (m0 := .slice (m.map encK) none) (i0 := .str i) (u0 := .str u) (d := d) hll (by omega) (by omega) (hV (by omega)) [] 0 rfl (Nat.zero_le _)
       have g := fun c h hh => gl p (c + 1) (c + 1) h (.inl (by omega)) (Nat.le_refl _) hh
       have g4 := fun q h => rmayKs_of (d := d - 2) (l := m) hml (by omega) (by omega) (hK (by omega)) q h
       rw [mayVs_all]
       simp only [rmvFr, nat0, List.map_nil] at g g4
       simp only [List.all_nil, if_true] at g
       simp -implicitDefEqProofs (maxSteps := 1000000) [Tryz.f33, Code.hide, Code.key, h0, g2, g3, values_ok, rlists_ok, hwd, hwd2, bareV, g, g4]
  by_cases k7 : k = 7
  ·subst k7
   cases b with
   | true =>
    simp -implicitDefEqProofs (maxSteps := 1000000) [Tryz.f33, Code.hide, Code.key, h0, g2, values_ok, bareV]
   | false =>
    by_cases hn0 : n = 0
    case neg =>
     have hn' : ¬ (n : Int) = 0 := by omega
     simp -implicitDefEqProofs (maxSteps := 1000000) [Tryz.f33, Code.hide, Code.key, h0, g2, values_ok, bareV, hn0, hn']
    subst hn0
    simp only [nat0]
    cases l with
    | cons y ys =>
     have e3 : 0 < ((y :: ys).map encV).length := by simp
     have e3' : ¬ ((y :: ys).map encV) = [] := by simp
     generalize (y :: ys).map encV = L at *
     simp -implicitDefEqProofs (maxSteps := 1000000) [Tryz.f33, Code.hide, Code.key, h0, g2, values_ok, bareV, e3, e3']
    | nil =>
     cases m with
     | cons y ys =>
      have e3 : 0 < ((y :: ys).map encK).length := by simp
      have e3' : ¬ ((y :: ys).map encK) = [] := by simp
      generalize (y :: ys).map encK = L at *
      simp -implicitDefEqProofs (maxSteps := 1000000) [Tryz.f33, Code.hide, Code.key, h0, g2, values_ok, bareV, e3, e3']
     | nil =>
      cases i with
      | cons x xs =>
       simp -implicitDefEqProofs (maxSteps := 1000000) [Tryz.f33, Code.hide, Code.key, h0, g2, values_ok, bareV]
      | nil =>
       obtain ⟨K, i', gl⟩ := rmayVs_loop (k0 := .int .i64 7) (s0 := .str s) (b0 := .bool false) (n0 := .int .u64 0) (m0 := .slice [] none) (i0 := .str []) (u0 := .str u) (d := d) (l := []) (by simp) (by omega) (by omega) (by simp) [] 0 rfl (Nat.zero_le _)
       have g := fun c h hh => gl p (c + 1) (c + 1) h (.inl (by omega)) (Nat.le_refl _) hh
       have g4 := fun q h => rmayKs_of (d := d - 2) (l := []) (by simp) (by omega) (by omega) (by simp) q h
       simp only [rmvFr, nat0, List.map_nil, List.all_nil, if_true, mayKs] at g g4
       simp -implicitDefEqProofs (maxSteps := 1000000) [Tryz.f33, Code.hide, Code.key, h0, g1, g2, values_ok, bareV, g, g4, hwd2]
  omega
theorem rmayKey_of {key : List UInt8} {has : Bool} {v : Val} {u : List UInt8} (hkl : key.length ≤ 1099511627776) (hvw : v.wf) (hu : u.length ≤ 1099511627776) {d : Int} (hd2 : d ≤ 9223372036854775807)
  (hV : ∀ e : Int, e ≤ d → (0 ≤ d → e = 0 ∨ e = d - 1) → 0 ≤ d → ∀ (q : Id) (h : Heap), callW E q 33 [.agg (encV v), .int .i64 e] h = some (.bool (mayV v e), dropFrom q 0 h)) (p : Id) (h : Heap) :
  callW E p 14 [.agg (encK (.mk key has v u)), .int .i64 d] h = some (.bool (mayK (.mk key has v u) d), dropFrom p 0 h) := by
 have g1 := fun q h => rtext_ok hkl q h
 change ∀ q h, callW E q 30 [.str key] h = some (.bool (textOk key), dropFrom q 0 h) at g1
 have g2 := fun q h => runknown_ok (tb := [10, 18]) (by simp) (by simp) tabK hu hd2 q h
 rw [mayK]
 rw [eq_14]
 by_cases h0 : d < 0
 ·have e : decide (0 ≤ d) = false := by simp; omega
  rw [e]
  obtain ⟨cs, hcs, hsh⟩ := flatV v
  simp only [encK_mk, hcs]
  obtain ⟨k0, s0, b0, n0, l0, m0, i0, u0, rfl⟩ := hsh
  simp -implicitDefEqProofs (maxSteps := 1000000) [Tryz.f14, Code.key, h0]
 have e0 : decide (0 ≤ d) = true := by simp; omega
 have hwd : IntKind.i64.wrap (d - 1) = d - 1 := wrap_i64 (by omega) (by omega)
 have gV := hV (d - 1) (by omega) (fun _ => .inr rfl) (by omega)
 have gZ := hV 0 (by omega) (fun _ => .inl rfl) (by omega)
 rw [e0] at g2 ⊢
 have hz : v.isZero = (mayV v 0 && v.kind == 0 && v.unk.isEmpty) := by
  rw [Bool.eq_iff_iff, Val.isZero_iff]
  constructor
  ·rintro rfl; simp [val0, mayV, bareV, restE_nil, Val.kind, Val.unk]
  ·intro hh
   obtain ⟨k, s, b, n, l, m, i, u'⟩ := v
   simp [Val.kind, Val.unk] at hh
   obtain ⟨⟨hm, rfl⟩, rfl⟩ := hh
   rw [mayV] at hm
   simp [bareV] at hm
   obtain ⟨⟨⟨⟨rfl, rfl⟩, rfl⟩, ⟨rfl, rfl⟩, rfl⟩, _⟩ := hm
   rfl
 cases ht : textOk key with
 | false =>
  rw [ht] at g1
  obtain ⟨cs, hcs, hsh⟩ := flatV v
  simp only [encK_mk, hcs]
  obtain ⟨k0, s0, b0, n0, l0, m0, i0, u0, rfl⟩ := hsh
  simp -implicitDefEqProofs (maxSteps := 1000000) [Tryz.f14, Code.key, h0, g1]
 | true =>
  rw [ht] at g1
  cases hx : restE takesK u d with
  | false =>
   rw [hx] at g2
   obtain ⟨cs, hcs, hsh⟩ := flatV v
   simp only [encK_mk, hcs]
   obtain ⟨k0, s0, b0, n0, l0, m0, i0, u0, rfl⟩ := hsh
   simp -implicitDefEqProofs (maxSteps := 1000000) [Tryz.f14, Code.key, h0, g1, g2, pairs_ok]
  | true =>
   rw [hx] at g2
   cases has with
   | true =>
    obtain ⟨cs, hcs, hsh⟩ := flatV v
    simp only [encK_mk, hcs] at gV ⊢
    obtain ⟨k0, s0, b0, n0, l0, m0, i0, u0, rfl⟩ := hsh
    simp -implicitDefEqProofs (maxSteps := 1000000) [Tryz.f14, Code.key, h0, g1, g2, pairs_ok, gV, hwd]
   | false =>
    rw [hz]
    obtain ⟨k, s, b, n, l, m, i, u'⟩ := v
    simp only [encV_mk, encK_mk, Val.kind, Val.unk] at gZ ⊢
    cases hm0 : mayV (.mk k s b n l m i u') 0 with
    | false =>
     rw [hm0] at gZ
     simp -implicitDefEqProofs (maxSteps := 1000000) [Tryz.f14, Code.key, h0, g1, g2, pairs_ok, gZ]
    | true =>
     rw [hm0] at gZ
     by_cases hk0 : k = 0
     ·subst hk0
      cases u' with
      | nil => simp -implicitDefEqProofs (maxSteps := 1000000) [Tryz.f14, Code.key, h0, g1, g2, pairs_ok, gZ]
      | cons x xs => simp -implicitDefEqProofs (maxSteps := 1000000) [Tryz.f14, Code.key, h0, g1, g2, pairs_ok, gZ]
     ·simp -implicitDefEqProofs (maxSteps := 1000000) [Tryz.f14, Code.key, h0, g1, g2, pairs_ok, gZ, hk0]
theorem rmay_all : (∀ x : Val, x.wf → x.sz ≤ 549755813888 → ∀ d : Int, d ≤ 9223372036854775807 → ∀ (p : Id) (h : Heap), callW E p 33 [.agg (encV x), .int .i64 d] h = some (.bool (mayV x d), dropFrom p 0 h)) ∧
  ∀ x : KV, x.wf → x.sz ≤ 549755813888 → ∀ d : Int, d ≤ 9223372036854775807 → ∀ (p : Id) (h : Heap), callW E p 14 [.agg (encK x), .int .i64 d] h = some (.bool (mayK x d), dropFrom p 0 h) := by
 refine Val.ind2 ?_ ?_
 ·intro k s b n l m i u ihl ihm hwf hsz d hd p h
  obtain ⟨hk, hs, hn, hll, hml, hil, hul, hwl, hwm⟩ := Val.wf_mk.1 hwf
  rw [Val.sz_mk] at hsz
  exact rmay_of hwf (by omega) (by omega) (by omega) hd (fun h1 x hx q h => ihl x hx (hwl x hx) (by have := Val.szs_mem hx; omega) (d - 2) (by omega) q h) (fun h1 x hx q h => ihm x hx (hwm x hx) (by have := KV.szs_mem hx; omega) (d - 2) (by omega) q h) p h
 ·intro key has v u ih hwf hsz d hd p h
  obtain ⟨hkl, hul, hwv⟩ := KV.wf_mk.1 hwf
  rw [KV.sz_mk] at hsz
  exact rmayKey_of (by omega) hwv (by omega) hd (fun e he _ h0 q h => ih hwv (by omega) e (by omega) q h) p h
theorem rmayV_ok {x : Val} (hw : x.wf) (hs : x.sz ≤ 549755813888) {d : Int} (hd : d ≤ 9223372036854775807) (p : Id) (h : Heap) : callW E p 33 [.agg (encV x), .int .i64 d] h = some (.bool (mayV x d), dropFrom p 0 h) := rmay_all.1 x hw hs d hd p h
theorem rmayK_ok {x : KV} (hw : x.wf) (hs : x.sz ≤ 549755813888) {d : Int} (hd : d ≤ 9223372036854775807) (p : Id) (h : Heap) : callW E p 14 [.agg (encK x), .int .i64 d] h = some (.bool (mayK x d), dropFrom p 0 h) := rmay_all.2 x hw hs d hd p h
end Go.Ai.T

namespace Go.Ai.T
open Go Go.Proofs
set_option maxRecDepth 100000
set_option maxHeartbeats 4000000
open Classical in
theorem rKeys_loop {p : Id} {c0 : Nat} {l m : List KV} (hl : l.length ≤ maxStr)
  (hf : ∀ x ∈ l, ∀ y, ∀ q h, callW E q 22 [.agg (encK x), .agg (encK y)] h = some (.bool (decide (x = y)), dropFrom q 0 h)) :
  ∀ (ra rb : List KV), ra.length = rb.length → ∃ dj dc : Nat, ∀ (j c : Nat) (h : Heap), l.drop j = ra → m.drop j = rb → c0 ≤ c →
  iterW E 9 p [0, 1, 4, 5] L_9_4 c0 ((((bot.set 5 (.int .i64 j)).set 4 (.bool false)).set 1 (.slice (m.map encK) none)).set 0 (.slice (l.map encK) none)) c h =
   some (if ra = rb then .exit 0 else .ret, (((bot.set 5 (.int .i64 (j + dj : Nat))).set 4 (.bool false)).set 1 (.slice (m.map encK) none)).set 0 (.slice (l.map encK) none), c + dc, dropFrom p c0 h) := by
 intro ra
 induction ra with
 | nil =>
  intro rb hrb
  obtain rfl : rb = [] := List.eq_nil_of_length_eq_zero hrb.symm
  refine ⟨0, 0, fun j c h hj hj2 hc => ?_⟩
  rw [rd_9_4]
  have h1 := drop_end hj
  generalize hr : execW E 9 p _ _ _ _ = e
  simp -implicitDefEqProofs (maxSteps := 1000000) [Tryz.f9, Code.loopAt, Code.key, h1] at hr
  subst hr
  rfl
 | cons x xs ih =>
  intro rb hrb
  cases rb with
  | nil => cases hrb
  | cons y ys =>
   obtain ⟨dj, dc, ih⟩ := ih ys (by simpa using hrb)
   refine ⟨if x = y then dj + 1 else 0, if x = y then dc + 1 else 1, fun j c h hj hj2 hc => ?_⟩
   rw [rd_9_4]
   obtain ⟨hlt, hx, hxs⟩ := drop_facts hj
   obtain ⟨_, hy, hys⟩ := drop_facts hj2
   have h1 := drop_lt hj
   have hw := wrap_succ hlt hl
   have hf' := hf x (List.mem_of_getElem? hx) y
   generalize hr : execW E 9 p _ _ _ _ = e
   by_cases hxy : x = y
   ·subst hxy
    simp -implicitDefEqProofs (maxSteps := 1000000) [Tryz.f9, Code.loopAt, Code.key, h1, hx, hy, hw, hf'] at hr
    subst hr
    have g := ih (j + 1) (c + 1) (dropFrom p c0 h) hxs hys (by omega)
    rw [if_pos rfl, if_pos rfl, show j + (dj + 1) = j + 1 + dj by omega, show c + (dc + 1) = c + 1 + dc by omega]
    simpa [hc] using g
   ·simp -implicitDefEqProofs (maxSteps := 1000000) [Tryz.f9, Code.loopAt, Code.key, h1, hx, hy, hw, hf', hxy] at hr
    subst hr
    simp [hxy, hc]
open Classical in
theorem rKeys_of {l m : List KV} (hl : l.length ≤ maxStr)
  (hf : ∀ x ∈ l, ∀ y, ∀ q h, callW E q 22 [.agg (encK x), .agg (encK y)] h = some (.bool (decide (x = y)), dropFrom q 0 h)) (p : Id) (h : Heap) :
  callW E p 9 [.slice (l.map encK) none, .slice (m.map encK) none] h = some (.bool (decide (l = m)), dropFrom p 0 h) := by
 rw [eq_9]
 by_cases hlm : l.length = m.length
 ·obtain ⟨dj, dc, g⟩ := rKeys_loop (p := p) (c0 := 0) hl hf l m hlm
  have g := fun h => g 0 0 h rfl rfl (Nat.le_refl _)
  rw [nat0] at g
  by_cases he : l = m
  ·subst he
   simp -implicitDefEqProofs (maxSteps := 1000000) [Tryz.f9, Code.hide, Code.key, g]
  ·have hl' : ((l.length : Nat) : Int) = m.length := by omega
   simp -implicitDefEqProofs (maxSteps := 1000000) [Tryz.f9, Code.hide, Code.key, g, he, hl']
 ·have h1 : ¬ ((l.length : Nat) : Int) = m.length := by omega
  have he : ¬ l = m := fun e => hlm (by rw [e])
  simp -implicitDefEqProofs (maxSteps := 1000000) [Tryz.f9, Code.hide, Code.key, h1, he]
open Classical in
theorem rValue_loop {p : Id} {c0 : Nat} {k k' : Int} {s s' : List UInt8} {b b' : Bool} {n n' : Nat} {l l' : List Val} {m m' : List KV} {i i' u u' : List UInt8} (hl : l.length ≤ maxStr) (h0 : 2 ≤ c0)
  (hf : ∀ x ∈ l, ∀ y, ∀ q h, callW E q 45 [.agg (encV x), .agg (encV y)] h = some (.bool (decide (x = y)), dropFrom q 0 h)) :
  ∀ (ra rb : List Val), ra.length = rb.length → ∃ dj dc : Nat, ∀ (j c : Nat) (h : Heap), l.drop j = ra → l'.drop j = rb → c0 ≤ c →
   h (36 :: 0 :: p) = some [.int .i64 k, .str s, .bool b, .int .u64 n, .slice (l.map encV) none, .slice (m.map encK) none, .str i, .str u] →
   h (36 :: 1 :: p) = some [.int .i64 k', .str s', .bool b', .int .u64 n', .slice (l'.map encV) none, .slice (m'.map encK) none, .str i', .str u'] →
  iterW E 45 p [2, 3, 4, 5] L_45_4 c0 ((((bot.set 5 (.int .i64 j)).set 4 (.bool false)).set 3 (.ptr (36 :: 1 :: p) 0)).set 2 (.ptr (36 :: 0 :: p) 0)) c h =
   some (if ra = rb then .exit 0 else .ret, (((bot.set 5 (.int .i64 (j + dj : Nat))).set 4 (.bool false)).set 3 (.ptr (36 :: 1 :: p) 0)).set 2 (.ptr (36 :: 0 :: p) 0), c + dc, dropFrom p c0 h) := by
 intro ra
 have hc0 : ¬ c0 = 0 := by omega
 have hc1 : ¬ c0 ≤ 1 := by omega
 induction ra with
 | nil =>
  intro rb hrb
  obtain rfl : rb = [] := List.eq_nil_of_length_eq_zero hrb.symm
  refine ⟨0, 0, fun j c h hj hj2 hc hh1 hh2 => ?_⟩
  rw [rd_45_4]
  have h1 := drop_end hj
  generalize hr : execW E 45 p _ _ _ _ = e
  simp -implicitDefEqProofs (maxSteps := 1000000) [Tryz.f45, Code.loopAt, Code.key, h1, hh1, hh2] at hr
  subst hr
  rfl
 | cons x xs ih =>
  intro rb hrb
  cases rb with
  | nil => cases hrb
  | cons y ys =>
   obtain ⟨dj, dc, ih⟩ := ih ys (by simpa using hrb)
   refine ⟨if x = y then dj + 1 else 0, if x = y then dc + 1 else 1, fun j c h hj hj2 hc hh1 hh2 => ?_⟩
   rw [rd_45_4]
   obtain ⟨hlt, hx, hxs⟩ := drop_facts hj
   obtain ⟨_, hy, hys⟩ := drop_facts hj2
   have h1 := drop_lt hj
   have hw := wrap_succ hlt hl
   have hf' := hf x (List.mem_of_getElem? hx) y
   generalize hr : execW E 45 p _ _ _ _ = e
   by_cases hxy : x = y
   ·subst hxy
    simp -implicitDefEqProofs (maxSteps := 1000000) [Tryz.f45, Code.loopAt, Code.key, h1, hx, hy, hw, hf', hh1, hh2] at hr
    subst hr
    have g := ih (j + 1) (c + 1) (dropFrom p c0 h) hxs hys (by omega) (by simp [hc0, hh1]) (by simp [hc1, hh2])
    rw [if_pos rfl, if_pos rfl, show j + (dj + 1) = j + 1 + dj by omega, show c + (dc + 1) = c + 1 + dc by omega]
    simpa [hc] using g
   ·simp -implicitDefEqProofs (maxSteps := 1000000) [Tryz.f45, Code.loopAt, Code.key, h1, hx, hy, hw, hf', hxy, hh1, hh2] at hr
    subst hr
    simp [hxy, hc]
open Classical in
theorem rsame_ok : (∀ a : Val, a.wf → ∀ (b : Val) (p : Id) (h : Heap), callW E p 45 [.agg (encV a), .agg (encV b)] h = some (.bool (decide (a = b)), dropFrom p 0 h)) ∧
  ∀ a : KV, a.wf → ∀ (b : KV) (p : Id) (h : Heap), callW E p 22 [.agg (encK a), .agg (encK b)] h = some (.bool (decide (a = b)), dropFrom p 0 h) := by
 refine Val.ind2 ?_ ?_
 ·intro k s bb n l m i u ihl ihm hwf b p h
  obtain ⟨k', s', b', n', l', m', i', u'⟩ := b
  obtain ⟨_, _, _, hl, hm, _, _, hwl, hwm⟩ := Val.wf_mk.1 hwf
  have hek := fun q h => rKeys_of (l := m) (m := m') hm (fun x hx y q h => ihm x hx (hwm x hx) y q h) q h
  rw [eq_45]
  by_cases hk : k = k'
  ·subst hk
   by_cases hs : s = s'
   ·subst hs
    by_cases hb : bb = b'
    ·subst hb
     by_cases hn : n = n'
     ·subst hn
      by_cases hi : i = i'
      ·subst hi
       by_cases hu : u = u'
       ·subst hu
        by_cases hll : l.length = l'.length
        ·by_cases hmm : m = m'
         ·subst hmm
          obtain ⟨dj, dc, g⟩ := rValue_loop (p := p) (c0 := 3) (k := k) (k' := k) (s := s) (s' := s) (b := bb) (b' := bb) (n := n) (n' := n) (m := m) (m' := m) (i := i) (i' := i) (u := u) (u' := u) hl (by omega) (fun x hx y q h => ihl x hx (hwl x hx) y q h) l l' hll
          have g := fun h => g 0 3 h rfl rfl (Nat.le_refl _)
          rw [nat0] at g
          by_cases hlm : l = l'
          ·subst hlm
           simp -implicitDefEqProofs (maxSteps := 1000000) [Tryz.f45, Code.key, Code.hide, hek, g]
          ·have hl' : ((l.length : Nat) : Int) = l'.length := by omega
           simp -implicitDefEqProofs (maxSteps := 1000000) [Tryz.f45, Code.key, Code.hide, hek, g, hlm, hl']
         ·have hl' : ((l.length : Nat) : Int) = l'.length := by omega
          simp -implicitDefEqProofs (maxSteps := 1000000) [Tryz.f45, Code.key, Code.hide, hek, hmm, hl']
        ·have hl' : ¬ ((l.length : Nat) : Int) = l'.length := by omega
         have hlm : ¬ l = l' := fun e => hll (by rw [e])
         simp -implicitDefEqProofs (maxSteps := 1000000) [Tryz.f45, Code.key, Code.hide, hl', hlm]
       ·simp -implicitDefEqProofs (maxSteps := 1000000) [Tryz.f45, Code.key, Code.hide, hu]
      ·simp -implicitDefEqProofs (maxSteps := 1000000) [Tryz.f45, Code.key, Code.hide, hi]
     ·have hn' : ¬ ((n : Int) = n') := by omega
      simp -implicitDefEqProofs (maxSteps := 1000000) [Tryz.f45, Code.key, Code.hide, hn', hn]
    ·simp -implicitDefEqProofs (maxSteps := 1000000) [Tryz.f45, Code.key, Code.hide, hb]
   ·simp -implicitDefEqProofs (maxSteps := 1000000) [Tryz.f45, Code.key, Code.hide, hs]
  ·simp -implicitDefEqProofs (maxSteps := 1000000) [Tryz.f45, Code.key, Code.hide, hk]
 ·intro k has v u ih hwf b p h
  obtain ⟨k', has', v', u'⟩ := b
  obtain ⟨_, _, hwv⟩ := KV.wf_mk.1 hwf
  have hv := ih hwv
  rw [eq_22]
  by_cases hk : k = k'
  ·subst hk
   by_cases hh : has = has'
   ·subst hh
    by_cases hu : u = u'
    ·subst hu
     simp -implicitDefEqProofs (maxSteps := 1000000) [Tryz.f22, Code.key, hv]
    ·simp -implicitDefEqProofs (maxSteps := 1000000) [Tryz.f22, Code.key, hu]
   ·simp -implicitDefEqProofs (maxSteps := 1000000) [Tryz.f22, Code.key, hh]
  ·simp -implicitDefEqProofs (maxSteps := 1000000) [Tryz.f22, Code.key, hk]
open Classical in
theorem rKeys_ok {l m : List KV} (hl : l.length ≤ maxStr) (hw : ∀ x ∈ l, x.wf) (p : Id) (h : Heap) : callW E p 9 [.slice (l.map encK) none, .slice (m.map encK) none] h = some (.bool (decide (l = m)), dropFrom p 0 h) :=
 rKeys_of hl (fun x hx y q h => rsame_ok.2 x (hw x hx) y q h) p h
end Go.Ai.T

