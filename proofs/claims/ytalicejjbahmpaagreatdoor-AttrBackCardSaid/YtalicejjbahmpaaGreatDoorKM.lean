/- Part KM of the proof that a law of this program answers yes at every input: no conditions beyond the given statement. -/
import Derived.Test.YtalicejjbahmpaaGreatDoorKD
import Derived.Test.YtalicejjbahmpaaGreatDoorKC
set_option linter.unusedSimpArgs false
set_option linter.unusedVariables false
set_option linter.all false
namespace Go.Ai
inductive Err where
 | code (c : Int)
 | at_ (n : Int) (e : Err)
 | fld (n : Int) (e : Err)
 deriving DecidableEq
def encErr (tc tw tf : Nat) : Err → A
 | .code c => .iface tc (.int .i64 c)
 | .at_ n e => .iface tw (.ref [.int .i64 n, encErr tc tw tf e] 0)
 | .fld n e => .iface tf (.ref [.int .i64 n, encErr tc tw tf e] 0)
def Err.codeOf : Err → Int
 | .code c => c
 | .at_ _ e => e.codeOf
 | .fld _ e => e.codeOf
def Err.place : Err → Option Int
 | .code _ => none
 | .at_ n _ => some n
 | .fld _ e => e.place
theorem andNot128 (m : Nat) (h : m < 256) : bitsA .andNot .u8 (m : Int) 128 = ((m % 128 : Nat) : Int) := by
 have : ∀ m : Fin 256, bitsA .andNot .u8 (m.val : Int) 128 = ((m.val % 128 : Nat) : Int) := by decide +kernel
 exact this ⟨m, h⟩
theorem bitsA_or_u64 (a b : Nat) (ha : a < 18446744073709551616) (hb : b < 18446744073709551616) : bitsA .or .u64 (a : Int) (b : Int) = ((a ||| b : Nat) : Int) := by
 have h : a ||| b < 18446744073709551616 := Nat.or_lt_two_pow (n := 64) (by simpa using ha) (by simpa using hb)
 have e : ∀ x : Nat, x < 18446744073709551616 → (BitVec.ofInt 64 (x : Int)).toNat = x := by
  intro x hx
  simp only [BitVec.toNat_ofInt]
  omega
 show IntKind.u64.wrap (((BitVec.ofInt 64 (a : Int)) ||| (BitVec.ofInt 64 (b : Int))).toNat : Int) = _
 rw [BitVec.toNat_or, e a ha, e b hb]
 exact wrap_u64 (by omega) (by omega)
theorem or_shift (a y k : Nat) (h : a < 2 ^ k) : a ||| (y * 2 ^ k) = a + y * 2 ^ k := by
 have := Nat.shiftLeft_add_eq_or_of_lt h y
 rw [Nat.shiftLeft_eq] at this
 rw [Nat.or_comm, ← this, Nat.add_comm]
def putInit (n : Nat) : List UInt8 := if n < 128 then [] else UInt8.ofNat (n % 128 + 128) :: putInit (n / 128)
 termination_by n
 decreasing_by omega
def putLast (n : Nat) : Nat := if n < 128 then n else putLast (n / 128)
 termination_by n
 decreasing_by omega
def putV (n : Nat) : List UInt8 := putInit n ++ [UInt8.ofNat (putLast n)]
theorem putInit_len (n : Nat) : ∀ k, n < 128 ^ (k + 1) → (putInit n).length ≤ k := by
 induction n using Nat.strongRecOn with
 | ind n ih =>
  intro k hk
  rw [putInit]
  split
  ·simp
  ·cases k with
   | zero => omega
   | succ k =>
    simp only [List.length_cons]
    have := ih (n / 128) (by omega) k (by rw [Nat.pow_succ] at hk; omega)
    omega
theorem putLast_lt (n : Nat) : putLast n < 128 := by
 induction n using Nat.strongRecOn with
 | ind n ih =>
  rw [putLast]
  split
  ·assumption
  ·exact ih _ (by omega)
theorem putV_len {n : Nat} (h : n < 18446744073709551616) : 1 ≤ (putV n).length ∧ (putV n).length ≤ 10 := by
 have := putInit_len n 9 (by omega)
 simp [putV]; omega
theorem putV_small {n : Nat} (h : n < 128) : putV n = [UInt8.ofNat n] := by
 rw [putV, putInit, if_pos h, putLast, if_pos h]; rfl
theorem putV_big {n : Nat} (h : ¬ n < 128) : putV n = UInt8.ofNat (n % 128 + 128) :: putV (n / 128) := by
 rw [putV, putInit, if_neg h, putLast, if_neg h]; rfl
def vgo : Nat → Nat → List UInt8 → Except Int (Nat × Nat)
 | _, _, [] => .error 1
 | i, acc, c :: cs => if i = 9 ∧ 1 < c.toNat then .error 4
  else if c.toNat < 128 then .ok (acc + c.toNat % 128 * 2 ^ (7 * i), i + 1) else vgo (i + 1) (acc + c.toNat % 128 * 2 ^ (7 * i)) cs
def vread (s : List UInt8) : Except Int (Nat × Nat) := vgo 0 0 s
theorem vgo_lt : ∀ (s : List UInt8) (i acc : Nat), i ≤ 9 → acc < 2 ^ (7 * i) → ∀ n k, vgo i acc s = .ok (n, k) → n < 18446744073709551616 ∧ i < k ∧ k ≤ i + s.length ∧ k ≤ 10
 | [], i, acc, _, _, n, k, h => by simp [vgo] at h
 | c :: cs, i, acc, hi, ha, n, k, h => by
  rw [vgo] at h
  split at h
  ·cases h
  ·rename_i h9
   have hc : c.toNat < 256 := c.toNat_lt
   have hp : 2 ^ (7 * (i + 1)) = 128 * 2 ^ (7 * i) := by rw [show 7 * (i + 1) = 7 * i + 7 by omega, Nat.pow_add]; omega
   have hm : c.toNat % 128 * 2 ^ (7 * i) ≤ 127 * 2 ^ (7 * i) := Nat.mul_le_mul_right _ (by omega)
   split at h
   ·simp only [Except.ok.injEq, Prod.mk.injEq] at h
    obtain ⟨rfl, rfl⟩ := h
    refine ⟨?_, by omega, by simp, by omega⟩
    rcases Nat.lt_or_ge i 9 with h8 | h8
    ·have : 2 ^ (7 * i) ≤ 2 ^ 56 := Nat.pow_le_pow_right (by omega) (by omega)
     omega
    ·have : i = 9 := by omega
     subst this
     have : c.toNat ≤ 1 := by
      rcases Nat.lt_or_ge 1 c.toNat with h1 | h1
      ·exact absurd ⟨rfl, h1⟩ h9
      ·exact h1
     have hm' : c.toNat % 128 * 2 ^ (7 * 9) ≤ 1 * 2 ^ (7 * 9) := Nat.mul_le_mul_right _ (by omega)
     omega
   ·have h8 : i < 9 := by
     rcases Nat.lt_or_ge i 9 with h8 | h8
     ·exact h8
     ·exact absurd ⟨by omega, by omega⟩ h9
    obtain ⟨g1, g2, g3, g4⟩ := vgo_lt cs (i + 1) _ (by omega) (by omega) n k h
    exact ⟨g1, by omega, by simp; omega, g4⟩
theorem vread_lt {s : List UInt8} {n k : Nat} (h : vread s = .ok (n, k)) : n < 18446744073709551616 ∧ 0 < k ∧ k ≤ s.length ∧ k ≤ 10 := by
 have := vgo_lt s 0 0 (by omega) (by omega) n k h
 omega
theorem vgo_err : ∀ (s : List UInt8) (i acc : Nat) (c : Int), vgo i acc s = .error c → c = 1 ∨ c = 4
 | [], i, acc, c, h => by simp [vgo] at h; omega
 | x :: xs, i, acc, c, h => by
  rw [vgo] at h
  split at h
  ·cases h; omega
  ·split at h
   ·cases h
   ·exact vgo_err xs _ _ c h
end Go.Ai

namespace Go.Ai
def Apart (p id : Id) : Prop := underB p 0 id = false
theorem Apart.sub {p id : Id} (a : Apart p id) (k : Nat) : Apart (k :: p) id := by
 unfold Apart at *
 cases h : underB (k :: p) 0 id with
 | false => rfl
 | true => rw [underB_mono (Nat.zero_le k) (underB_of_cons h)] at a; cases a
theorem Apart.at_ {p id : Id} (a : Apart p id) (c : Nat) : underB p c id = false := by
 unfold Apart at a
 cases h : underB p c id with
 | false => rfl
 | true => rw [underB_mono (Nat.zero_le c) h] at a; cases a
theorem Apart.ne {p id : Id} (a : Apart p id) (t k : Nat) : id ≠ t :: k :: p := by
 rintro rfl
 unfold Apart at a
 rw [underB_of_suffix (Nat.zero_le k) (List.suffix_cons _ _)] at a
 cases a
theorem Apart.own {p : Id} {t j k : Nat} (h : j ≠ k) : Apart (k :: p) (t :: j :: p) := by
 unfold Apart; simp [h]
theorem drop_upd_other {p id : Id} {c : Nat} {h : Heap} {cs : List A} (hu : underB p c id = false) : dropFrom p c (upd h id cs) = upd (dropFrom p c h) id cs := by
 funext i
 simp only [dropFrom, upd]
 by_cases e : i = id
 ·subst e; simp [hu]
 ·simp [e]
theorem Apart.facts {p id : Id} (a : Apart p id) : (∀ (c : Nat) (h : Heap) (cs : List A), dropFrom p c (upd h id cs) = upd (dropFrom p c h) id cs) ∧ (∀ (c : Nat) (h : Heap), dropFrom p c h id = h id) ∧
  (∀ (k : Nat) (h : Heap) (cs : List A), dropFrom (k :: p) 0 (upd h id cs) = upd (dropFrom (k :: p) 0 h) id cs) ∧ (∀ (k : Nat) (h : Heap), dropFrom (k :: p) 0 h id = h id) ∧
  (∀ (h : Heap) (t k : Nat) (cs : List A), upd h (t :: k :: p) cs id = h id) ∧ (∀ (h : Heap) (t k : Nat) (cs : List A), upd h id cs (t :: k :: p) = h (t :: k :: p)) :=
 ⟨fun c _ _ => drop_upd_other (a.at_ c), fun c _ => drop_other (a.at_ c), fun k _ _ => drop_upd_other (a.sub k), fun k _ => drop_other (a.sub k), fun _ t k _ => by simp [upd, a.ne t k], fun _ t k _ => by simp [upd, (a.ne t k).symm]⟩
def vgetE (s : List UInt8) (p : Nat) : Except Err (Nat × Nat) := match vread (s.drop p) with
 | .ok (n, k) => .ok (n, p + k)
 | .error c => .error (.at_ p (.code c))
theorem vgetE_lt {s : List UInt8} {p n q : Nat} (h : vgetE s p = .ok (n, q)) (hp : p ≤ s.length) : n < 18446744073709551616 ∧ p < q ∧ q ≤ s.length ∧ q ≤ p + 10 := by
 unfold vgetE at h
 split at h
 ·rename_i n' k hr
  simp only [Except.ok.injEq, Prod.mk.injEq] at h
  obtain ⟨rfl, rfl⟩ := h
  have := vread_lt hr
  simp at this
  omega
 ·cases h
theorem vgetE_in {s : List UInt8} {p n q : Nat} (h : vgetE s p = .ok (n, q)) : p < s.length := by
 unfold vgetE at h
 split at h
 ·rename_i n' k hr
  have := vread_lt hr
  simp at this
  omega
 ·cases h
def leN : List UInt8 → Nat
 | [] => 0
 | b :: bs => b.toNat + 256 * leN bs
theorem leN_lt : ∀ l : List UInt8, leN l < 256 ^ l.length
 | [] => by simp [leN]
 | b :: bs => by
  have h1 := leN_lt bs
  have h2 : b.toNat < 256 := b.toNat_lt
  simp only [leN, List.length_cons, Nat.pow_succ]
  omega
def takeE (s : List UInt8) (p n : Nat) : Except Err (List UInt8 × Nat) := if s.length - p < n then .error (.at_ p (.code 1)) else .ok ((s.drop p).take n, p + n)
theorem takeE_lt {s : List UInt8} {p n q : Nat} {t : List UInt8} (h : takeE s p n = .ok (t, q)) (hp : p ≤ s.length) : q = p + n ∧ q ≤ s.length ∧ t.length = n ∧ t = (s.drop p).take n := by
 unfold takeE at h
 split at h
 ·cases h
 ·simp only [Except.ok.injEq, Prod.mk.injEq] at h
  obtain ⟨rfl, rfl⟩ := h
  refine ⟨rfl, by omega, ?_, rfl⟩
  simp; omega
def tagE (s : List UInt8) (p : Nat) : Except Err (Nat × Nat × Nat) := match vgetE s p with
 | .error e => .error e
 | .ok (n, q) => if n / 8 < 1 ∨ 536870911 < n / 8 then .error (.at_ p (.code 3)) else .ok (n / 8, n % 8, q)
theorem tagE_lt {s : List UInt8} {p num kind q : Nat} (h : tagE s p = .ok (num, kind, q)) : p < q ∧ q ≤ s.length ∧ p < s.length ∧ 1 ≤ num ∧ num ≤ 536870911 ∧ kind < 8 := by
 unfold tagE at h
 split at h
 ·cases h
 ·rename_i n q' hg
  split at h
  ·cases h
  ·simp only [Except.ok.injEq, Prod.mk.injEq] at h
   obtain ⟨rfl, rfl, rfl⟩ := h
   have h1 := vgetE_in hg
   have h2 := vgetE_lt hg (by omega)
   omega
mutual
def bodyE (s : List UInt8) (d : Int) (num kind t q : Nat) : Except Err (Nat × List UInt8 × Nat) :=
 if kind = 0 then (vgetE s q).map fun r => (r.1, [], r.2)
 else if kind = 1 then (takeE s q 8).map fun r => (leN r.1, [], r.2)
 else if kind = 5 then (takeE s q 4).map fun r => (leN r.1, [], r.2)
 else if kind = 2 then match vgetE s q with
  | .error e => .error e
  | .ok (n, e) => (takeE s e n).map fun r => (0, r.1, r.2)
 else if kind = 3 then (groupE s d num q).map fun r => (0, [], r)
 else .error (.at_ t (.code 3))
termination_by (s.length + 1 - q, 2)
def groupE (s : List UInt8) (d : Int) (num q : Nat) : Except Err Nat := if d < 1 then .error (.at_ q (.code 6)) else loopE s (d - 1) num q
termination_by (s.length + 1 - q, 1)
def loopE (s : List UInt8) (d : Int) (num p : Nat) : Except Err Nat := match h : tagE s p with
 | .error e => .error e
 | .ok (n, kind, q) =>
  if kind = 4 then (if n = num then .ok q else .error (.at_ p (.code 3)))
  else match bodyE s d n kind p q with
   | .error e => .error e
   | .ok (_, _, q') => if p < q' then loopE s d num q' else .error (.code 0)
termination_by (s.length + 1 - p, 0)
decreasing_by
 ·have := tagE_lt h; apply Prod.Lex.left; omega
 ·have := tagE_lt h; apply Prod.Lex.left; omega
end
structure Rec where
 num : Nat
 kind : Nat
 n : Nat
 s : List UInt8
 raw : List UInt8
def recE (s : List UInt8) (d : Int) (p : Nat) : Except Err (Rec × Nat) := match tagE s p with
 | .error e => .error e
 | .ok (num, kind, q) => (bodyE s d num kind p q).map fun r => (⟨num, kind, r.1, r.2.1, (s.drop p).take (r.2.2 - p)⟩, r.2.2)
end Go.Ai
namespace Go.Ai
theorem map_ok {α β ε : Type} {f : α → β} {x : Except ε α} {b : β} (h : x.map f = .ok b) : ∃ a, x = .ok a ∧ f a = b := by
 cases x with
 | error e => cases h
 | ok a => exact ⟨a, rfl, by simpa [Except.map] using h⟩
theorem map_err {α β ε : Type} {f : α → β} {x : Except ε α} {e : ε} (h : x.map f = .error e) : x = .error e := by
 cases x with
 | error e' => simpa [Except.map] using h
 | ok a => cases h
theorem loopE_ok {s : List UInt8} {d : Int} {num p n kind q : Nat} (h : tagE s p = .ok (n, kind, q)) : loopE s d num p = (if kind = 4 then (if n = num then .ok q else .error (.at_ p (.code 3)))
  else match bodyE s d n kind p q with
   | .error e => .error e
   | .ok (_, _, q') => if p < q' then loopE s d num q' else .error (.code 0)) := by
 rw [loopE]
 split
 ·rename_i e h'; rw [h] at h'; cases h'
 ·rename_i n' k' q' h'
  rw [h] at h'
  simp only [Except.ok.injEq, Prod.mk.injEq] at h'
  obtain ⟨rfl, rfl, rfl⟩ := h'
  rfl
theorem loopE_err {s : List UInt8} {d : Int} {num p : Nat} {e : Err} (h : tagE s p = .error e) : loopE s d num p = .error e := by
 rw [loopE]
 split
 ·rename_i e' h'; rw [h] at h'; cases h'; rfl
 ·rename_i n' k' q' h'; rw [h] at h'; cases h'
theorem ends (s : List UInt8) : ∀ m q, s.length + 1 - q ≤ m → q ≤ s.length → ∀ d num,
  (∀ e, loopE s d num q = .ok e → q < e ∧ e ≤ s.length) ∧ (∀ kind t n bs e, bodyE s d num kind t q = .ok (n, bs, e) → q ≤ e ∧ e ≤ s.length ∧ n < 18446744073709551616) := by
 intro m
 induction m with
 | zero => intro q hm hq; omega
 | succ m ih =>
  intro q hm hq
  have hl : ∀ d num e, loopE s d num q = .ok e → q < e ∧ e ≤ s.length := by
   intro d num e h
   cases ht : tagE s q with
   | error x => rw [loopE_err ht] at h; cases h
   | ok r =>
    obtain ⟨n, kind, q1⟩ := r
    have h1 := tagE_lt ht
    rw [loopE_ok ht] at h
    split at h
    ·split at h
     ·simp only [Except.ok.injEq] at h; omega
     ·cases h
    ·split at h
     ·cases h
     ·rename_i n2 b2 q2 hb
      have h2 := (ih q1 (by omega) (by omega) d n).2 _ _ _ _ _ hb
      split at h
      ·have h3 := (ih q2 (by omega) (by omega) d num).1 e h
       omega
      ·cases h
  intro d num
  refine ⟨hl d num, ?_⟩
  intro kind t n bs e h
  rw [bodyE] at h
  split at h
  ·obtain ⟨⟨n', e'⟩, h1, h2⟩ := map_ok h
   have := vgetE_lt h1 hq
   simp only [Prod.mk.injEq] at h2
   omega
  ·split at h
   ·obtain ⟨⟨n', e'⟩, h1, h2⟩ := map_ok h
    have h3 := takeE_lt h1 hq
    have h4 := leN_lt n'
    rw [h3.2.2.1] at h4
    simp only [Prod.mk.injEq] at h2
    omega
   ·split at h
    ·obtain ⟨⟨n', e'⟩, h1, h2⟩ := map_ok h
     have h3 := takeE_lt h1 hq
     have h4 := leN_lt n'
     rw [h3.2.2.1] at h4
     simp only [Prod.mk.injEq] at h2
     omega
    ·split at h
     ·split at h
      ·cases h
      ·rename_i n1 e1 hg
       have h3 := vgetE_lt hg hq
       obtain ⟨⟨n', e'⟩, h1, h2⟩ := map_ok h
       have h4 := takeE_lt h1 (by omega)
       simp only [Prod.mk.injEq] at h2
       omega
     ·split at h
      ·obtain ⟨e', h1, h2⟩ := map_ok h
       rw [groupE] at h1
       split at h1
       ·cases h1
       ·have := hl _ _ _ h1
        simp only [Prod.mk.injEq] at h2
        omega
      ·cases h
theorem bodyE_lt {s : List UInt8} {d : Int} {num kind t q n e : Nat} {bs : List UInt8} (h : bodyE s d num kind t q = .ok (n, bs, e)) (hq : q ≤ s.length) : q ≤ e ∧ e ≤ s.length ∧ n < 18446744073709551616 :=
 (ends s _ q (Nat.le_refl _) hq d num).2 _ _ _ _ _ h
theorem loopE_lt {s : List UInt8} {d : Int} {num q e : Nat} (h : loopE s d num q = .ok e) (hq : q ≤ s.length) : q < e ∧ e ≤ s.length :=
 (ends s _ q (Nat.le_refl _) hq d num).1 _ h
end Go.Ai
namespace Go.Ai
theorem recE_lt {s : List UInt8} {d : Int} {p e : Nat} {r : Rec} (h : recE s d p = .ok (r, e)) : p < e ∧ e ≤ s.length ∧ p < s.length ∧ 1 ≤ r.num ∧ r.num ≤ 536870911 ∧ r.kind < 8 ∧ r.n < 18446744073709551616 := by
 unfold recE at h
 split at h
 ·cases h
 ·rename_i num kind q1 ht
  have b1 := tagE_lt ht
  obtain ⟨⟨n, bs, e'⟩, hb, h2⟩ := map_ok h
  simp only [Prod.mk.injEq] at h2
  obtain ⟨rfl, rfl⟩ := h2
  have b2 := bodyE_lt hb b1.2.1
  exact ⟨by omega, b2.2.1, b1.2.2.1, b1.2.2.2.1, b1.2.2.2.2.1, b1.2.2.2.2.2, b2.2.2⟩
def allE (s : List UInt8) (d : Int) (p : Nat) : Except Err (List Rec) :=
 if p < s.length then match h : recE s d p with
  | .error e => .error e
  | .ok (r, e) => (allE s d e).map (r :: ·)
 else .ok []
termination_by s.length - p
decreasing_by
 have := recE_lt h; omega
theorem allE_end {s : List UInt8} {d : Int} {p : Nat} (h : ¬ p < s.length) : allE s d p = .ok [] := by rw [allE, if_neg h]
theorem allE_ok {s : List UInt8} {d : Int} {p e : Nat} {r : Rec} (h : recE s d p = .ok (r, e)) : allE s d p = (allE s d e).map (r :: ·) := by
 rw [allE, if_pos (recE_lt h).2.2.1]
 split
 ·rename_i e' h'; rw [h] at h'; cases h'
 ·rename_i r' e' h'
  rw [h] at h'
  simp only [Except.ok.injEq, Prod.mk.injEq] at h'
  obtain ⟨rfl, rfl⟩ := h'
  rfl
theorem allE_err {s : List UInt8} {d : Int} {p : Nat} {x : Err} (hp : p < s.length) (h : recE s d p = .error x) : allE s d p = .error x := by
 rw [allE, if_pos hp]
 split
 ·rename_i e' h'; rw [h] at h'; cases h'; rfl
 ·rename_i r' e' h'; rw [h] at h'; cases h'
theorem rec_ind {s : List UInt8} {P : Nat → Prop} (h : ∀ p, p ≤ s.length → (∀ q, p < q → q ≤ s.length → P q) → P p) : ∀ p, p ≤ s.length → P p := by
 have : ∀ m p, s.length - p ≤ m → p ≤ s.length → P p := by
  intro m
  induction m with
  | zero => intro p hm hp; exact h p hp fun q h1 h2 => by omega
  | succ m ih => intro p hm hp; exact h p hp fun q h1 h2 => ih q (by omega) h2
 exact fun p hp => this _ p (Nat.le_refl _) hp
end Go.Ai

namespace Go.Ai
def uSize (c : Nat) : Nat := if c < 128 then 1 else if c < 194 then 0 else if c < 224 then 2 else if c < 240 then 3 else if c < 245 then 4 else 0
def uLo (c : Nat) : Nat := if c = 224 then 160 else if c = 240 then 144 else 128
def uHi (c : Nat) : Nat := if c = 237 then 159 else if c = 244 then 143 else 191
def uFol (c : Nat) : Bool := decide (128 ≤ c ∧ c ≤ 191)
def uSec (f c : Nat) : Bool := decide (uLo f ≤ c ∧ c ≤ uHi f)
def uSign : List UInt8 → Nat
 | [] => 0
 | c :: cs => if uSize c.toNat ≤ 1 then uSize c.toNat
  else match cs with
   | [] => 0
   | c1 :: cs => if uSec c.toNat c1.toNat = false then 0
    else if uSize c.toNat = 2 then 2
    else match cs with
     | [] => 0
     | c2 :: cs => if uFol c2.toNat = false then 0
      else if uSize c.toNat = 3 then 3
      else match cs with
       | [] => 0
       | c3 :: _ => if uFol c3.toNat = false then 0 else 4
theorem uSize_le (c : Nat) : uSize c ≤ 4 := by unfold uSize; (repeat' split) <;> omega
theorem uSign_le : ∀ s : List UInt8, uSign s ≤ s.length
 | [] => by simp [uSign]
 | [c] => by
  rw [uSign]; split
  ·simpa using by assumption
  ·simp
 | [c, c1] => by
  rw [uSign]; split
  ·simp; omega
  ·(repeat' split) <;> simp
 | [c, c1, c2] => by
  rw [uSign]; split
  ·simp; omega
  ·(repeat' split) <;> simp
 | c :: c1 :: c2 :: c3 :: cs => by
  rw [uSign]; split
  ·simp; omega
  ·(repeat' split) <;> simp
def uF (b : UInt8) : Bool := uFol b.toNat
theorem uSize_cases (c : Nat) : uSize c = 0 ∨ uSize c = 1 ∨ uSize c = 2 ∨ uSize c = 3 ∨ uSize c = 4 := by have := uSize_le c; omega
theorem uSign_eq (c : UInt8) (cs : List UInt8) : uSign (c :: cs) = if cs.length + 1 < uSize c.toNat then 0 else if 1 < uSize c.toNat ∧ (cs.head?.any fun x => uSec c.toNat x.toNat) = false then 0
  else if (((c :: cs).take (uSize c.toNat)).drop 2).all uF = true then uSize c.toNat else 0 := by
 rw [uSign.eq_def]
 dsimp only
 rcases uSize_cases c.toNat with h | h | h | h | h <;> simp only [h]
 ·simp
 ·simp
 ·cases cs with
  | nil => simp
  | cons c1 cs => by_cases h1 : uSec c.toNat c1.toNat = true <;> simp [h1]
 ·cases cs with
  | nil => simp
  | cons c1 cs => cases cs with
   | nil => by_cases h1 : uSec c.toNat c1.toNat = true <;> simp [h1]
   | cons c2 cs => by_cases h1 : uSec c.toNat c1.toNat = true <;> by_cases h2 : uFol c2.toNat = true <;> simp [h1, h2, uF]
 ·cases cs with
  | nil => simp
  | cons c1 cs => cases cs with
   | nil => by_cases h1 : uSec c.toNat c1.toNat = true <;> simp [h1]
   | cons c2 cs => cases cs with
    | nil => by_cases h1 : uSec c.toNat c1.toNat = true <;> by_cases h2 : uFol c2.toNat = true <;> simp [h1, h2, uF]
    | cons c3 cs => by_cases h1 : uSec c.toNat c1.toNat = true <;> by_cases h2 : uFol c2.toNat = true <;> by_cases h3 : uFol c3.toNat = true <;> simp [h1, h2, h3, uF]
def uWhole (s : List UInt8) (p : Nat) : Nat := if h : p < s.length ∧ uSign (s.drop p) ≠ 0 then uWhole s (p + uSign (s.drop p)) else p
termination_by s.length - p
decreasing_by omega
theorem uWhole_le {s : List UInt8} : ∀ p, p ≤ s.length → p ≤ uWhole s p ∧ uWhole s p ≤ s.length := by
 refine rec_ind fun p hp ih => ?_
 rw [uWhole]
 split
 ·rename_i h
  have h1 := uSign_le (s.drop p)
  simp at h1
  have := ih (p + uSign (s.drop p)) (by omega) (by omega)
  omega
 ·omega
def uBad (s : List UInt8) : Option Nat := if uWhole s 0 = s.length then none else some (uWhole s 0)
end Go.Ai
namespace Go.Ai
def okRest : Nat → List UInt8 → Nat → Nat → Bool
 | 0, _, _, _ => true
 | _ + 1, [], _, _ => false
 | m + 1, b :: bs, lo, hi => decide (lo ≤ b.toNat ∧ b.toNat ≤ hi) && okRest m bs 128 191
theorem uSign_ref (c : UInt8) (cs : List UInt8) : uSign (c :: cs) = if uSize c.toNat ≤ 1 then uSize c.toNat else if okRest (uSize c.toNat - 1) cs (uLo c.toNat) (uHi c.toNat) = true then uSize c.toNat else 0 := by
 rw [uSign.eq_def]
 dsimp only
 rcases uSize_cases c.toNat with h | h | h | h | h <;> simp only [h]
 ·simp
 ·simp
 ·cases cs with
  | nil => simp [okRest]
  | cons c1 cs => by_cases h1 : uLo c.toNat ≤ c1.toNat ∧ c1.toNat ≤ uHi c.toNat <;> simp [okRest, uSec, h1]
 ·cases cs with
  | nil => simp [okRest]
  | cons c1 cs => cases cs with
   | nil => simp [okRest]
   | cons c2 cs =>
    simp only [okRest, uSec, uFol]
    by_cases h1 : uLo c.toNat ≤ c1.toNat ∧ c1.toNat ≤ uHi c.toNat <;> by_cases h2 : 128 ≤ c2.toNat ∧ c2.toNat ≤ 191 <;> simp [h1, h2]
 ·cases cs with
  | nil => simp [okRest]
  | cons c1 cs => cases cs with
   | nil => simp [okRest]
   | cons c2 cs => cases cs with
    | nil => simp [okRest]
    | cons c3 cs =>
     simp only [okRest, uSec, uFol]
     by_cases h1 : uLo c.toNat ≤ c1.toNat ∧ c1.toNat ≤ uHi c.toNat <;> by_cases h2 : 128 ≤ c2.toNat ∧ c2.toNat ≤ 191 <;> by_cases h3 : 128 ≤ c3.toNat ∧ c3.toNat ≤ 191 <;> simp [h1, h2, h3]
end Go.Ai

namespace Go.Ai
theorem callW_prim {E : Env} {p : Id} {f : Nat} {args : List A} {h : Heap} {g : Id → List A → Heap → Option (A × Heap)} (hg : E.prim f = some g) : callW E p f args h = g p args h := opt_ext fun r => by
 rw [callW_some]
 constructor
 ·rintro ⟨n, hn⟩
  cases n with
  | zero => simp [call] at hn
  | succ n => simpa [call, hg] using hn
 ·intro hr
  exact ⟨1, by simpa [call, hg] using hr⟩
def Err.first : Err → Option (Int × Err)
 | .code _ => none
 | .at_ n e => some (n, e)
 | .fld _ e => e.first
theorem place_first (e : Err) : e.place = e.first.map (·.1) := by
 induction e with
 | code c => rfl
 | at_ n e ih => rfl
 | fld n e ih => exact ih
theorem encErr_depth (tc tw tf : Nat) (e : Err) : ∃ d, (encErr tc tw tf e).depth = d + 1 ∧ (∀ n x, e = .at_ n x ∨ e = .fld n x → d = (encErr tc tw tf x).depth) := by
 cases e with
 | code c => exact ⟨0, rfl, by rintro n x (h | h) <;> cases h⟩
 | at_ n e => exact ⟨_, Nat.add_comm 1 _, by rintro n x (h | h) <;> cases h; rfl⟩
 | fld n e => exact ⟨_, Nat.add_comm 1 _, by rintro n x (h | h) <;> cases h; rfl⟩
theorem chain_code {tc tw tf : Nat} (h1 : tw ≠ tc) (h2 : tf ≠ tc) (e : Err) : ∀ n, (encErr tc tw tf e).depth ≤ n → chainA tc tw tf tc n (encErr tc tw tf e) = some (some (.int .i64 e.codeOf)) := by
 induction e with
 | code c => intro n hn; cases n with
  | zero => simp [encErr, A.depth] at hn
  | succ n => simp [encErr, chainA, Err.codeOf]
 | at_ k e ih => intro n hn; cases n with
  | zero => simp [encErr, A.depth] at hn
  | succ n =>
   simp only [encErr, A.depth] at hn
   simp [encErr, chainA, Err.codeOf, h1, ih n (by omega)]
 | fld k e ih => intro n hn; cases n with
  | zero => simp [encErr, A.depth] at hn
  | succ n =>
   simp only [encErr, A.depth] at hn
   simp [encErr, chainA, Err.codeOf, h2, ih n (by omega)]
theorem chain_place {tc tw tf : Nat} (h1 : tw ≠ tc) (h2 : tf ≠ tw) (h3 : tf ≠ tc) (e : Err) : ∀ n, (encErr tc tw tf e).depth ≤ n → chainA tc tw tf tw n (encErr tc tw tf e) = some (e.first.map fun r => .ref [.int .i64 r.1, encErr tc tw tf r.2] 0) := by
 induction e with
 | code c => intro n hn; cases n with
  | zero => simp [encErr, A.depth] at hn
  | succ n => simp [encErr, chainA, Err.first, h1.symm]
 | at_ k e ih => intro n hn; cases n with
  | zero => simp [encErr, A.depth] at hn
  | succ n => simp [encErr, chainA, Err.first, h1]
 | fld k e ih => intro n hn; cases n with
  | zero => simp [encErr, A.depth] at hn
  | succ n =>
   simp only [encErr, A.depth] at hn
   simp [encErr, chainA, Err.first, h2, h3, ih n (by omega)]
end Go.Ai

namespace Go.Ai
def takenR (t : Nat → Nat → Bool) (rs : List Rec) : List Rec := rs.filter fun r => t r.num r.kind
def restO (t : Nat → Nat → Bool) : Option (List UInt8) → List Rec → Option (List UInt8)
 | o, [] => o
 | o, r :: rs => if t r.num r.kind = true then restO t o rs else restO t (some (o.getD [] ++ r.raw)) rs
def unkR (t : Nat → Nat → Bool) (rs : List Rec) : List UInt8 := ((rs.filter fun r => !t r.num r.kind).map (·.raw)).flatten
theorem restO_eq (t : Nat → Nat → Bool) : ∀ (rs : List Rec) (o : Option (List UInt8)), (restO t o rs).getD [] = o.getD [] ++ unkR t rs
 | [], o => by simp [restO, unkR]
 | r :: rs, o => by
  rw [restO]
  cases h : t r.num r.kind with
  | true => simp [restO_eq t rs o, unkR, h]
  | false => simp [restO_eq t rs, unkR, h]
def rawLen (rs : List Rec) : Nat := (rs.map fun r => r.raw.length).sum
theorem rawLen_cons (r : Rec) (rs : List Rec) : rawLen (r :: rs) = r.raw.length + rawLen rs := by simp [rawLen]
theorem unkR_len (t : Nat → Nat → Bool) : ∀ rs, (unkR t rs).length ≤ rawLen rs
 | [] => by simp [unkR, rawLen]
 | r :: rs => by
  have := unkR_len t rs
  rw [rawLen_cons]
  cases h : t r.num r.kind <;> simp [unkR, h] at * <;> omega
theorem recE_raw {s : List UInt8} {d : Int} {p e : Nat} {r : Rec} (h : recE s d p = .ok (r, e)) : r.raw = (s.drop p).take (e - p) ∧ r.raw.length = e - p := by
 have b := recE_lt h
 unfold recE at h
 split at h
 ·cases h
 ·obtain ⟨⟨n, bs, e'⟩, hb, h2⟩ := map_ok h
  simp only [Prod.mk.injEq] at h2
  obtain ⟨rfl, rfl⟩ := h2
  refine ⟨rfl, ?_⟩
  simp; omega
theorem allE_raw {s : List UInt8} {d : Int} : ∀ p, p ≤ s.length → ∀ out, allE s d p = .ok out → rawLen out = s.length - p ∧ out.length ≤ s.length - p := by
 refine rec_ind fun p hp ih out h => ?_
 by_cases hlt : p < s.length
 ·cases hr : recE s d p with
  | error x => rw [allE_err hlt hr] at h; cases h
  | ok re =>
   obtain ⟨r, e⟩ := re
   rw [allE_ok hr] at h
   obtain ⟨out', h', rfl⟩ := map_ok h
   have b := recE_lt hr
   have b2 := (recE_raw hr).2
   have := ih e b.1 b.2.1 out' h'
   rw [rawLen_cons]
   simp; omega
 ·rw [allE_end hlt] at h
  cases h
  simp [rawLen]; omega
end Go.Ai
namespace Go.Ai
theorem bodyE_str {s : List UInt8} {d : Int} {num kind t q n e : Nat} {bs : List UInt8} (h : bodyE s d num kind t q = .ok (n, bs, e)) : bs.length ≤ s.length := by
 rw [bodyE] at h
 split at h
 ·obtain ⟨⟨n', e'⟩, h1, h2⟩ := map_ok h; cases h2; simp
 ·split at h
  ·obtain ⟨⟨n', e'⟩, h1, h2⟩ := map_ok h; cases h2; simp
  ·split at h
   ·obtain ⟨⟨n', e'⟩, h1, h2⟩ := map_ok h; cases h2; simp
   ·split at h
    ·split at h
     ·cases h
     ·obtain ⟨⟨tt, e'⟩, h1, h2⟩ := map_ok h
      cases h2
      unfold takeE at h1
      split at h1
      ·cases h1
      ·cases h1; simp; omega
    ·split at h
     ·obtain ⟨e', h1, h2⟩ := map_ok h; cases h2; simp
     ·cases h
theorem recE_str {s : List UInt8} {d : Int} {p e : Nat} {r : Rec} (h : recE s d p = .ok (r, e)) : r.s.length ≤ s.length := by
 unfold recE at h
 split at h
 ·cases h
 ·obtain ⟨⟨n, bs, e'⟩, hb, h2⟩ := map_ok h
  cases h2
  exact bodyE_str hb
def Short (n : Nat) (rs : List Rec) : Prop := ∀ r ∈ rs, r.s.length ≤ n
theorem allE_short {s : List UInt8} {d : Int} : ∀ p, p ≤ s.length → ∀ out, allE s d p = .ok out → Short s.length out := by
 refine rec_ind fun p hp ih out h => ?_
 by_cases hlt : p < s.length
 ·cases hr : recE s d p with
  | error x => rw [allE_err hlt hr] at h; cases h
  | ok re =>
   obtain ⟨r, e⟩ := re
   rw [allE_ok hr] at h
   obtain ⟨out', h', rfl⟩ := map_ok h
   have b := recE_lt hr
   intro x hx
   rcases List.mem_cons.1 hx with rfl | hx
   ·exact recE_str hr
   ·exact ih e b.1 b.2.1 out' h' x hx
 ·rw [allE_end hlt] at h
  cases h
  intro x hx; cases hx
def failE (en : Nat) (num : Int) (e : Err) : Err := .at_ (min (max (e.place.getD 0) 0) en) (.fld num e)
def failO (en : Nat) (num : Int) : Option Err → Option Err → Option Err
 | none, some e => some (failE en num e)
 | e0, _ => e0
def uErr (s : List UInt8) : Option Err := (uBad s).map fun n => .at_ n (.code 5)
def checkO (en num : Nat) : Option Err → List Rec → Option Err
 | e, [] => e
 | e, r :: rs => checkO en num (if r.num = num then failO en num e (uErr r.s) else e) rs
def lastR (num : Nat) (rs : List Rec) : Rec := ((rs.reverse.find? fun r => r.num == num)).getD ⟨0, 0, 0, [], []⟩
end Go.Ai
namespace Go.Ai
def idxI (v : Nat) : List Nat → Nat → Int
 | [], _ => -1
 | n :: ns, i => if v = n then i else idxI v ns (i + 1)
theorem idxI_nonneg (v : Nat) : ∀ (ns : List Nat) (i : Nat), decide (0 ≤ idxI v ns i) = ns.contains v
 | [], i => by simp [idxI]
 | n :: ns, i => by
  rw [idxI]
  by_cases h : v = n
  ·subst h; simp
  ·have := idxI_nonneg v ns (i + 1)
   rw [if_neg h, this]
   simp [h]
def intsA (ns : List Nat) : List (List A) := ns.map fun (n : Nat) => [A.int .i64 n]
structure OneR where
 num : Nat
 n : Nat
 s : List UInt8
 all : List (List UInt8)
def stepOne (nums : List Nat) (o : OneR) (r : Rec) : OneR := if nums.contains r.num = true then ⟨r.num, r.n, r.s, (if r.num = o.num then o.all else []) ++ [r.s]⟩ else o
def oneR (nums : List Nat) (rs : List Rec) : OneR := rs.foldl (stepOne nums) ⟨0, 0, [], []⟩
def strsA (ss : List (List UInt8)) : List (List A) := ss.map fun s => [.str s]
end Go.Ai
namespace Go.Ai
def listR {α : Type} (rd : List UInt8 → α × Option Err) (en num : Nat) : Option Err → List Rec → List α × Option Err
 | e, [] => ([], e)
 | e, r :: rs => if r.num = num then ((rd r.s).1 :: (listR rd en num (failO en num e (rd r.s).2) rs).1, (listR rd en num (failO en num e (rd r.s).2) rs).2) else listR rd en num e rs
theorem listR_len {α : Type} (rd : List UInt8 → α × Option Err) (en num : Nat) : ∀ (rs : List Rec) (e : Option Err), (listR rd en num e rs).1.length ≤ rs.length
 | [], e => by simp [listR]
 | r :: rs, e => by
  rw [listR]
  split
  ·have := listR_len rd en num rs (failO en num e (rd r.s).2); simp; omega
  ·have := listR_len rd en num rs e; simp; omega
end Go.Ai

namespace Go.Ai
structure Msg where
 err : Option Err
 unk : List UInt8
 recs : List Rec
def readE (s : List UInt8) (d : Int) (t : Nat → Nat → Bool) : Msg :=
 if d < 0 then ⟨some (.at_ 0 (.fld 0 (.code 6))), [], []⟩
 else match allE s d 0 with
  | .error e => ⟨some e, [], []⟩
  | .ok rs => ⟨none, unkR t rs, takenR t rs⟩
def takesV (num kind : Nat) : Bool := match num with
 | 1 | 5 | 6 | 7 => kind == 2
 | 2 | 3 => kind == 0
 | 4 => kind == 1
 | _ => false
def loneT (num kind : Nat) : Bool := num == 1 && kind == 2
def takesK (num kind : Nat) : Bool := (num == 1 || num == 2) && kind == 2
def someR {α : Type} (rd : List UInt8 → α × Option Err) (s : List UInt8) (d : Int) : (List α × List UInt8) × Option Err :=
 (((listR rd s.length 1 (readE s d loneT).err (readE s d loneT).recs).1, (readE s d loneT).unk), (listR rd s.length 1 (readE s d loneT).err (readE s d loneT).recs).2)
def val0 : Val := .mk 0 [] false 0 [] [] [] []
def kv0 : KV := .mk [] false val0 []
def orNone {α : Type} (z : α) (r : α × Option Err) : α × Option Err := if r.2.isSome = true then (z, r.2) else r
def joinR (num : Nat) (rs : List Rec) : List UInt8 := ((rs.filter fun r => r.num == num).map (·.s)).flatten
mutual
def readV (s : List UInt8) (d : Int) : Val × Option Err :=
 if d < 0 then (val0, (readE s d takesV).err)
 else
  let m := readE s d takesV
  let e1 := checkO s.length 1 m.err m.recs
  let o := oneR [1, 2, 3, 4, 5, 6, 7] m.recs
  orNone val0 (if o.num = 1 ∨ o.num = 7 then (.mk o.num o.s false 0 [] [] [] m.unk, e1)
   else if o.num = 2 then (.mk 2 [] (decide (0 < o.n)) 0 [] [] [] m.unk, e1)
   else if o.num = 3 ∨ o.num = 4 then (.mk o.num [] false o.n [] [] [] m.unk, e1)
   else if o.num = 5 then
    let y := someR (fun t => readV t (d - 2)) o.all.flatten (d - 1)
    (.mk 5 [] false 0 y.1.1 [] y.1.2 m.unk, failO s.length 5 e1 y.2)
   else if o.num = 6 then
    let y := someR (fun t => readK t (d - 2)) o.all.flatten (d - 1)
    (.mk 6 [] false 0 [] y.1.1 y.1.2 m.unk, failO s.length 6 e1 y.2)
   else (.mk o.num [] false 0 [] [] [] m.unk, e1))
termination_by (d + 1).toNat
decreasing_by all_goals omega
def readK (s : List UInt8) (d : Int) : KV × Option Err :=
 if d < 0 then (kv0, (readE s d takesK).err)
 else
  let m := readE s d takesK
  let e1 := checkO s.length 1 m.err m.recs
  let has := m.recs.any fun r => r.num == 2
  let y : Val × Option Err := if has = true then readV (joinR 2 m.recs) (d - 1) else (val0, none)
  orNone kv0 (.mk (lastR 1 m.recs).s has y.1 m.unk, failO s.length 2 e1 y.2)
termination_by (d + 1).toNat
decreasing_by all_goals omega
end
end Go.Ai

namespace Go.Ai
theorem bodyE_str2 {s : List UInt8} {d : Int} {num kind t q n e : Nat} {bs : List UInt8} (hq : q ≤ s.length) (h : bodyE s d num kind t q = .ok (n, bs, e)) : bs.length ≤ e - q := by
 rw [bodyE] at h
 split at h
 ·obtain ⟨⟨n', e'⟩, h1, h2⟩ := map_ok h; cases h2; simp
 ·split at h
  ·obtain ⟨⟨n', e'⟩, h1, h2⟩ := map_ok h; cases h2; simp
  ·split at h
   ·obtain ⟨⟨n', e'⟩, h1, h2⟩ := map_ok h; cases h2; simp
   ·split at h
    ·split at h
     ·cases h
     ·rename_i n1 e1 hg
      have h3 := vgetE_lt hg hq
      obtain ⟨⟨tt, e'⟩, h1, h2⟩ := map_ok h
      cases h2
      have h4 := takeE_lt h1 (by omega)
      dsimp only
      omega
    ·split at h
     ·obtain ⟨e', h1, h2⟩ := map_ok h; cases h2; simp
     ·cases h
theorem recE_str2 {s : List UInt8} {d : Int} {p e : Nat} {r : Rec} (h : recE s d p = .ok (r, e)) : r.s.length ≤ e - p := by
 unfold recE at h
 split at h
 ·cases h
 ·rename_i num kind q1 ht
  have b1 := tagE_lt ht
  obtain ⟨⟨n, bs, e'⟩, hb, h2⟩ := map_ok h
  cases h2
  have := bodyE_str2 b1.2.1 hb
  dsimp only
  omega
def strLen (rs : List Rec) : Nat := (rs.map fun r => r.s.length).sum
theorem strLen_cons (r : Rec) (rs : List Rec) : strLen (r :: rs) = r.s.length + strLen rs := by simp [strLen]
theorem allE_str {s : List UInt8} {d : Int} : ∀ p, p ≤ s.length → ∀ out, allE s d p = .ok out → strLen out ≤ s.length - p := by
 refine rec_ind fun p hp ih out h => ?_
 by_cases hlt : p < s.length
 ·cases hr : recE s d p with
  | error x => rw [allE_err hlt hr] at h; cases h
  | ok re =>
   obtain ⟨r, e⟩ := re
   rw [allE_ok hr] at h
   obtain ⟨out', h', rfl⟩ := map_ok h
   have b := recE_lt hr
   have b2 := recE_str2 hr
   have := ih e b.1 b.2.1 out' h'
   rw [strLen_cons]
   omega
 ·rw [allE_end hlt] at h
  cases h
  simp [strLen]
theorem strLen_filter (f : Rec → Bool) : ∀ rs, strLen (rs.filter f) ≤ strLen rs
 | [] => by simp [strLen]
 | r :: rs => by
  have := strLen_filter f rs
  rw [List.filter_cons, strLen_cons]
  split
  ·rw [strLen_cons]; omega
  ·omega
theorem readE_str {s : List UInt8} {d : Int} {t : Nat → Nat → Bool} : strLen (readE s d t).recs ≤ s.length := by
 unfold readE
 split
 ·simp [strLen]
 ·cases hv : allE s d 0 with
  | error e => simp [strLen]
  | ok rs =>
   have h1 := allE_str 0 (Nat.zero_le _) rs hv
   have h2 := strLen_filter (fun r => t r.num r.kind) rs
   dsimp only [takenR]; omega
theorem stepOne_all (nums : List Nat) (o : OneR) (r : Rec) : (stepOne nums o r).all.flatten.length ≤ o.all.flatten.length + r.s.length ∧ (stepOne nums o r).all.length ≤ o.all.length + 1 := by
 unfold stepOne
 (repeat' split) <;> simp <;> omega
theorem oneR_all (nums : List Nat) : ∀ (rs : List Rec) (o : OneR), (rs.foldl (stepOne nums) o).all.flatten.length ≤ o.all.flatten.length + strLen rs ∧ (rs.foldl (stepOne nums) o).all.length ≤ o.all.length + rs.length
 | [], o => by simp [strLen]
 | r :: rs, o => by
  have h1 := oneR_all nums rs (stepOne nums o r)
  have h2 := stepOne_all nums o r
  rw [strLen_cons]
  simp only [List.foldl_cons, List.length_cons]
  omega
theorem joinR_len (num : Nat) (rs : List Rec) : (joinR num rs).length ≤ strLen rs := by
 have h1 := strLen_filter (fun r => r.num == num) rs
 have h2 : (joinR num rs).length = strLen (rs.filter fun r => r.num == num) := by
  unfold joinR strLen
  rw [List.length_flatten, List.map_map]; rfl
 omega
theorem oneR_some {nums : List Nat} {rs : List Rec} (h : (oneR nums rs).num ≠ 0) : rs ≠ [] := by
 rintro rfl; exact h rfl
def zV : List A := [.int .i64 0, .str [], .bool false, .int .u64 0, .nils, .nils, .str [], .str []]
def zK : List A := .str [] :: .bool false :: (zV ++ [.str []])
end Go.Ai

namespace Go.Ai
def textOk (s : List UInt8) : Bool := (uBad s).isNone
def fieldsE (s : List UInt8) (d : Int) : Except Err (List Rec) := if d < 0 then .error (.code 6) else allE s d 0
def tabR (tb : List Nat) (num kind : Nat) : Bool := tb.any fun n => n / 8 == num && n % 8 == kind
structure RV where
 kind : Nat
 s : List UInt8
 b : Bool
 n : Nat
 unk : List UInt8
 part : List UInt8
def rv0 : RV := ⟨0, [], false, 0, [], []⟩
def rvPart (st : RV) (r : Rec) : List UInt8 := if r.num ≠ st.kind ∨ r.num < 5 ∨ 6 < r.num then [] else st.part
def rvStep (st : RV) (r : Rec) : Option RV :=
 if takesV r.num r.kind = false then some ⟨st.kind, st.s, st.b, st.n, st.unk ++ r.raw, st.part⟩
 else if r.num = 1 then (if textOk r.s = true then some ⟨1, r.s, false, 0, st.unk, rvPart st r⟩ else none)
 else if r.num = 2 then some ⟨2, [], decide (r.n ≠ 0), 0, st.unk, rvPart st r⟩
 else if r.num = 3 ∨ r.num = 4 then some ⟨r.num, [], false, r.n, st.unk, rvPart st r⟩
 else if r.num = 5 ∨ r.num = 6 then some ⟨r.num, [], false, 0, st.unk, rvPart st r ++ r.s⟩
 else some ⟨r.num, r.s, false, 0, st.unk, rvPart st r⟩
def rvLoop : RV → List Rec → Option RV
 | st, [] => some st
 | st, r :: rs => (rvStep st r).bind fun st => rvLoop st rs
def rlLoop {α : Type} (rd : List UInt8 → Option α) : List α → List UInt8 → List Rec → Option (List α × List UInt8)
 | xs, u, [] => some (xs, u)
 | xs, u, r :: rs => if loneT r.num r.kind = true then (rd r.s).bind fun v => rlLoop rd (xs ++ [v]) u rs else rlLoop rd xs (u ++ r.raw) rs
def rlE {α : Type} (rd : List UInt8 → Option α) (s : List UInt8) (d : Int) : Option (List α × List UInt8) := match fieldsE s d with
 | .error _ => none
 | .ok rs => rlLoop rd [] [] rs
structure RK where
 key : List UInt8
 has : Bool
 unk : List UInt8
 part : List UInt8
 ok : Bool
def rk0 : RK := ⟨[], false, [], [], true⟩
def rkStep (st : RK) (r : Rec) : RK :=
 if takesK r.num r.kind = false then ⟨st.key, st.has, st.unk ++ r.raw, st.part, st.ok⟩
 else if r.num = 1 then ⟨r.s, st.has, st.unk, st.part, st.ok && textOk r.s⟩
 else ⟨st.key, true, st.unk, st.part ++ r.s, st.ok⟩
def rvE (s : List UInt8) (d : Int) : Option RV := match fieldsE s d with
 | .error _ => none
 | .ok rs => rvLoop rv0 rs
def rkE (s : List UInt8) (d : Int) : Option RK := match fieldsE s d with
 | .error _ => none
 | .ok rs => if (rs.foldl rkStep rk0).ok = true then some (rs.foldl rkStep rk0) else none
mutual
def refV (s : List UInt8) (d : Int) : Option Val :=
 if d < 0 then none
 else match rvE s d with
  | none => none
  | some st => if st.kind = 5 then (rlE (fun t => refV t (d - 2)) st.part (d - 1)).map fun r => .mk 5 [] false 0 r.1 [] r.2 st.unk
   else if st.kind = 6 then (rlE (fun t => refK t (d - 2)) st.part (d - 1)).map fun r => .mk 6 [] false 0 [] r.1 r.2 st.unk
   else some (.mk st.kind st.s st.b st.n [] [] [] st.unk)
termination_by (d + 1).toNat
decreasing_by all_goals omega
def refK (s : List UInt8) (d : Int) : Option KV :=
 if d < 0 then none
 else match rkE s d with
  | none => none
  | some st => if st.has = true then (refV st.part (d - 1)).map fun v => .mk st.key true v st.unk
   else some (.mk st.key false val0 st.unk)
termination_by (d + 1).toNat
decreasing_by all_goals omega
end
def okO {α : Type} (r : α × Option Err) : Option α := if r.2.isNone = true then some r.1 else none
def rvOf (o : OneR) (u : List UInt8) : RV := ⟨o.num, if o.num = 1 ∨ o.num = 7 then o.s else [], if o.num = 2 then decide (0 < o.n) else false, if o.num = 3 ∨ o.num = 4 then o.n else 0, u, if o.num = 5 ∨ o.num = 6 then o.all.flatten else []⟩
def txts (num : Nat) (rs : List Rec) : Bool := rs.all fun r => !(r.num == num) || textOk r.s
theorem takesV_num {num kind : Nat} (h : takesV num kind = true) : num = 1 ∨ num = 2 ∨ num = 3 ∨ num = 4 ∨ num = 5 ∨ num = 6 ∨ num = 7 := by
 unfold takesV at h
 split at h <;> first | omega | cases h
theorem rvLoop_eq : ∀ (rs : List Rec) (o : OneR) (u : List UInt8), rvLoop (rvOf o u) rs =
  if txts 1 (takenR takesV rs) = true then some (rvOf ((takenR takesV rs).foldl (stepOne [1, 2, 3, 4, 5, 6, 7]) o) (u ++ unkR takesV rs)) else none
 | [], o, u => by simp [rvLoop, takenR, txts, unkR]
 | r :: rs, o, u => by
  cases ht : takesV r.num r.kind with
  | false =>
   have e1 : takenR takesV (r :: rs) = takenR takesV rs := by simp [takenR, ht]
   have e2 : unkR takesV (r :: rs) = r.raw ++ unkR takesV rs := by simp [unkR, ht]
   have e3 : rvStep (rvOf o u) r = some (rvOf o (u ++ r.raw)) := by simp [rvStep, ht, rvOf]
   rw [rvLoop, e3, Option.bind_some, rvLoop_eq rs, e1, e2, List.append_assoc]
  | true =>
   have hn := takesV_num ht
   have e1 : takenR takesV (r :: rs) = r :: takenR takesV rs := by simp [takenR, ht]
   have e2 : unkR takesV (r :: rs) = unkR takesV rs := by simp [unkR, ht]
   have e4 : txts 1 (r :: takenR takesV rs) = ((!(r.num == 1) || textOk r.s) && txts 1 (takenR takesV rs)) := by simp [txts]
   have e5 : stepOne [1, 2, 3, 4, 5, 6, 7] o r = ⟨r.num, r.n, r.s, (if r.num = o.num then o.all else []) ++ [r.s]⟩ := by
    have : [1, 2, 3, 4, 5, 6, 7].contains r.num = true := by rcases hn with h | h | h | h | h | h | h <;> rw [h] <;> rfl
    rw [stepOne, if_pos this]
   rw [rvLoop, e1, e2, e4, List.foldl_cons, e5]
   have key : (r.num = 1 → textOk r.s = true) → rvStep (rvOf o u) r = some (rvOf ⟨r.num, r.n, r.s, (if r.num = o.num then o.all else []) ++ [r.s]⟩ u) := by
    intro hx
    have ht' : ¬ takesV r.num r.kind = false := by simp [ht]
    unfold rvStep
    rw [if_neg ht']
    by_cases h1 : r.num = 1
    ·rw [if_pos h1, if_pos (hx h1)]; simp [rvOf, rvPart, h1]
    rw [if_neg h1]
    by_cases h2 : r.num = 2
    ·rw [if_pos h2]; simp [rvOf, rvPart, h2, Nat.pos_iff_ne_zero]
    rw [if_neg h2]
    by_cases h3 : r.num = 3 ∨ r.num = 4
    ·rw [if_pos h3]
     rcases h3 with h3 | h3 <;> simp [rvOf, rvPart, h3]
    rw [if_neg h3]
    by_cases h5 : r.num = 5 ∨ r.num = 6
    ·rw [if_pos h5]
     rcases h5 with h5 | h5
     ·by_cases e : o.num = 5
      ·simp [rvOf, rvPart, h5, e]
      ·have e' : ¬ 5 = o.num := fun h => e h.symm
       simp [rvOf, rvPart, h5, e']
     ·by_cases e : o.num = 6
      ·simp [rvOf, rvPart, h5, e]
      ·have e' : ¬ 6 = o.num := fun h => e h.symm
       simp [rvOf, rvPart, h5, e']
    rw [if_neg h5]
    have h7 : r.num = 7 := by omega
    simp [rvOf, rvPart, h7]
   by_cases h1 : r.num = 1
   ·cases hx : textOk r.s with
    | true => rw [key (fun _ => hx), Option.bind_some, rvLoop_eq rs]; simp
    | false =>
     have : rvStep (rvOf o u) r = none := by rw [rvStep, if_neg (by simp [ht]), if_pos h1, if_neg (by simp [hx])]
     rw [this]; simp [h1]
   ·rw [key (fun h => absurd h h1), Option.bind_some, rvLoop_eq rs]; simp [h1]
theorem checkO_some (en num : Nat) (e : Err) : ∀ rs, checkO en num (some e) rs = some e
 | [] => rfl
 | r :: rs => by
  rw [checkO]
  have : (if r.num = num then failO en num (some e) (uErr r.s) else some e) = some e := by split <;> simp [failO]
  rw [this, checkO_some en num e rs]
theorem checkO_none (en num : Nat) : ∀ rs, (checkO en num none rs).isNone = txts num rs
 | [] => rfl
 | r :: rs => by
  rw [checkO]
  by_cases h : r.num = num
  ·rw [if_pos h]
   cases hb : uBad r.s with
   | none => simp [uErr, hb, failO, checkO_none en num rs, txts, textOk, h]
   | some k => simp [uErr, hb, failO, checkO_some, txts, textOk, h]
  ·rw [if_neg h, checkO_none en num rs]
   simp [txts, h]
theorem failO_none (en : Nat) (num : Int) (e0 e : Option Err) : (failO en num e0 e).isNone = (e0.isNone && e.isNone) := by
 cases e0 <;> cases e <;> rfl
theorem listR_some {α : Type} (rd : List UInt8 → α × Option Err) (en num : Nat) (e : Err) : ∀ rs, (listR rd en num (some e) rs).2 = some e
 | [] => rfl
 | r :: rs => by
  rw [listR]
  split
  ·have : failO en num (some e) (rd r.s).2 = some e := by simp [failO]
   rw [this]; exact listR_some rd en num e rs
  ·exact listR_some rd en num e rs
theorem rlLoop_eq {α : Type} (rd : List UInt8 → α × Option Err) (en : Nat) : ∀ (rs : List Rec) (xs : List α) (u : List UInt8),
  rlLoop (fun t => okO (rd t)) xs u rs = if (listR rd en 1 none (takenR loneT rs)).2.isNone = true then some (xs ++ (listR rd en 1 none (takenR loneT rs)).1, u ++ unkR loneT rs) else none
 | [], xs, u => by simp [rlLoop, takenR, listR, unkR]
 | r :: rs, xs, u => by
  cases ht : loneT r.num r.kind with
  | false =>
   have e1 : takenR loneT (r :: rs) = takenR loneT rs := by simp [takenR, ht]
   have e2 : unkR loneT (r :: rs) = r.raw ++ unkR loneT rs := by simp [unkR, ht]
   rw [rlLoop, if_neg (by simp [ht]), rlLoop_eq rd en rs, e1, e2, List.append_assoc]
  | true =>
   have hn : r.num = 1 := by simp [loneT] at ht; exact ht.1
   have e1 : takenR loneT (r :: rs) = r :: takenR loneT rs := by simp [takenR, ht]
   have e2 : unkR loneT (r :: rs) = unkR loneT rs := by simp [unkR, ht]
   rw [rlLoop, if_pos ht, e1, e2, listR, if_pos hn]
   cases hr : (rd r.s).2 with
   | none =>
    have : okO (rd r.s) = some (rd r.s).1 := by simp [okO, hr]
    rw [this, Option.bind_some, rlLoop_eq rd en rs]
    simp [failO]
   | some e =>
    have : okO (rd r.s) = none := by simp [okO, hr]
    rw [this, Option.bind_none]
    simp [failO, listR_some]
theorem rlE_eq {α : Type} (rd : List UInt8 → α × Option Err) (s : List UInt8) (d : Int) : rlE (fun t => okO (rd t)) s d = okO (someR rd s d) := by
 unfold rlE fieldsE someR readE
 by_cases h0 : d < 0
 ·rw [if_pos h0, if_pos h0]; simp [okO, listR]
 ·rw [if_neg h0, if_neg h0]
  cases allE s d 0 with
  | error e => simp [okO, listR]
  | ok rs =>
   dsimp only
   rw [rlLoop_eq rd s.length]
   simp [okO]
theorem takesK_num {num kind : Nat} (h : takesK num kind = true) : num = 1 ∨ num = 2 := by
 simp [takesK] at h; exact h.1
theorem rkFold_eq : ∀ (rs : List Rec) (st : RK), rs.foldl rkStep st =
  ⟨(((takenR takesK rs).reverse.find? fun r => r.num == 1).map (·.s)).getD st.key, st.has || ((takenR takesK rs).any fun r => r.num == 2), st.unk ++ unkR takesK rs, st.part ++ joinR 2 (takenR takesK rs), st.ok && txts 1 (takenR takesK rs)⟩
 | [], st => by simp [takenR, unkR, joinR, txts]
 | r :: rs, st => by
  rw [List.foldl_cons, rkFold_eq rs]
  cases ht : takesK r.num r.kind with
  | false =>
   have e1 : takenR takesK (r :: rs) = takenR takesK rs := by simp [takenR, ht]
   have e2 : unkR takesK (r :: rs) = r.raw ++ unkR takesK rs := by simp [unkR, ht]
   simp [rkStep, ht, e1, e2]
  | true =>
   have e1 : takenR takesK (r :: rs) = r :: takenR takesK rs := by simp [takenR, ht]
   have e2 : unkR takesK (r :: rs) = unkR takesK rs := by simp [unkR, ht]
   rw [e1, e2]
   rcases takesK_num ht with h | h
   ·have e3 : rkStep st r = ⟨r.s, st.has, st.unk, st.part, st.ok && textOk r.s⟩ := by rw [rkStep, if_neg (by simp [ht]), if_pos h]
    rw [e3]
    cases hf : (takenR takesK rs).reverse.find? (fun r => r.num == 1) <;> simp [h, txts, joinR, hf, Bool.and_assoc, List.find?_append]
   ·have e3 : rkStep st r = ⟨st.key, true, st.unk, st.part ++ r.s, st.ok⟩ := by rw [rkStep, if_neg (by simp [ht]), if_neg (by omega)]
    rw [e3]
    cases hf : (takenR takesK rs).reverse.find? (fun r => r.num == 1) <;> simp [h, txts, joinR, hf, List.find?_append]
theorem rvE_eq (s : List UInt8) (d : Int) : rvE s d = if (checkO s.length 1 (readE s d takesV).err (readE s d takesV).recs).isNone = true then some (rvOf (oneR [1, 2, 3, 4, 5, 6, 7] (readE s d takesV).recs) (readE s d takesV).unk) else none := by
 unfold rvE fieldsE readE
 by_cases h0 : d < 0
 ·rw [if_pos h0, if_pos h0]; simp [checkO]
 ·rw [if_neg h0, if_neg h0]
  cases allE s d 0 with
  | error e => simp [checkO]
  | ok rs =>
   dsimp only
   rw [checkO_none]
   have := rvLoop_eq rs ⟨0, 0, [], []⟩ []
   rw [List.nil_append] at this
   exact this
theorem rkE_eq (s : List UInt8) (d : Int) : rkE s d = if (checkO s.length 1 (readE s d takesK).err (readE s d takesK).recs).isNone = true then
  some ⟨(lastR 1 (readE s d takesK).recs).s, (readE s d takesK).recs.any fun r => r.num == 2, (readE s d takesK).unk, joinR 2 (readE s d takesK).recs, true⟩ else none := by
 unfold rkE fieldsE readE
 by_cases h0 : d < 0
 ·rw [if_pos h0, if_pos h0]; simp [checkO]
 ·rw [if_neg h0, if_neg h0]
  cases allE s d 0 with
  | error e => simp [checkO]
  | ok rs =>
   dsimp only
   rw [checkO_none, rkFold_eq]
   have e : (((takenR takesK rs).reverse.find? fun r => r.num == 1).map (·.s)).getD [] = (lastR 1 (takenR takesK rs)).s := by
    unfold lastR
    cases (takenR takesK rs).reverse.find? fun r => r.num == 1 <;> rfl
   cases ht : txts 1 (takenR takesK rs) <;> simp [rk0, e]
theorem okO_orNone {α : Type} (z : α) (r : α × Option Err) : okO (orNone z r) = okO r := by
 cases h : r.2 <;> simp [okO, orNone, h]
theorem ref_eq : ∀ (m : Nat) (d : Int), (d + 1).toNat ≤ m → (∀ s, refV s d = okO (readV s d)) ∧ ∀ s, refK s d = okO (readK s d) := by
 intro m
 induction m with
 | zero =>
  intro d hm
  have h0 : d < 0 := by omega
  refine ⟨fun s => ?_, fun s => ?_⟩
  ·rw [refV, readV, if_pos h0, if_pos h0]; simp [okO, readE, h0]
  ·rw [refK, readK, if_pos h0, if_pos h0]; simp [okO, readE, h0]
 | succ m ih =>
  intro d hm
  by_cases h0 : d < 0
  ·refine ⟨fun s => ?_, fun s => ?_⟩
   ·rw [refV, readV, if_pos h0, if_pos h0]; simp [okO, readE, h0]
   ·rw [refK, readK, if_pos h0, if_pos h0]; simp [okO, readE, h0]
  ·have i1 := ih (d - 1) (by omega)
   have i2 := ih (d - 2) (by omega)
   refine ⟨fun s => ?_, fun s => ?_⟩
   ·rw [refV, readV, if_neg h0, if_neg h0, okO_orNone, rvE_eq]
    dsimp only
    generalize oneR [1, 2, 3, 4, 5, 6, 7] (readE s d takesV).recs = o
    cases checkO s.length 1 (readE s d takesV).err (readE s d takesV).recs with
    | some e =>
     rw [if_neg (by simp)]
     dsimp only
     have e0 : ∀ {α : Type} (x : α) (e' : Option Err), okO (x, failO s.length 5 (some e) e') = none := fun x e' => rfl
     have e6 : ∀ {α : Type} (x : α) (e' : Option Err), okO (x, failO s.length 6 (some e) e') = none := fun x e' => rfl
     have e1 : ∀ {α : Type} (x : α), okO (x, some e) = none := fun x => rfl
     by_cases c1 : o.num = 1 ∨ o.num = 7
     ·rw [if_pos c1, e1]
     rw [if_neg c1]
     by_cases c2 : o.num = 2
     ·rw [if_pos c2, e1]
     rw [if_neg c2]
     by_cases c3 : o.num = 3 ∨ o.num = 4
     ·rw [if_pos c3, e1]
     rw [if_neg c3]
     by_cases c5 : o.num = 5
     ·rw [if_pos c5, e0]
     rw [if_neg c5]
     by_cases c6 : o.num = 6
     ·rw [if_pos c6, e6]
     ·rw [if_neg c6, e1]
    | none =>
     rw [if_pos (show (none : Option Err).isNone = true from rfl)]
     simp only [rvOf]
     by_cases h5 : o.num = 5
     ·have e1 : (fun t => refV t (d - 2)) = fun t => okO (readV t (d - 2)) := funext i2.1
      have ep : (if o.num = 5 ∨ o.num = 6 then o.all.flatten else []) = o.all.flatten := if_pos (Or.inl h5)
      simp only [ep, e1, rlE_eq]
      simp only [h5]
      generalize someR (fun t => readV t (d - 2)) o.all.flatten (d - 1) = y
      cases hy : y.2 <;> simp [okO, failO, hy]
     ·by_cases h6 : o.num = 6
      ·have e1 : (fun t => refK t (d - 2)) = fun t => okO (readK t (d - 2)) := funext i2.2
       have ep : (if o.num = 5 ∨ o.num = 6 then o.all.flatten else []) = o.all.flatten := if_pos (Or.inr h6)
       simp only [ep, e1, rlE_eq]
       simp only [h6]
       generalize someR (fun t => readK t (d - 2)) o.all.flatten (d - 1) = y
       cases hy : y.2 <;> simp [okO, failO, hy]
      ·rw [if_neg h5, if_neg h6]
       by_cases a1 : o.num = 1 ∨ o.num = 7
       ·have b2 : ¬ o.num = 2 := by omega
        have b3 : ¬ (o.num = 3 ∨ o.num = 4) := by omega
        simp [a1, b2, b3, okO, h5, h6]
       ·by_cases a2 : o.num = 2
        ·simp [a2, okO]
        ·by_cases a3 : o.num = 3 ∨ o.num = 4
         ·simp [a1, a2, a3, okO, h5, h6]
         ·simp [a1, a2, a3, h5, h6, okO]
   ·rw [refK, readK, if_neg h0, if_neg h0, okO_orNone, rkE_eq]
    cases checkO s.length 1 (readE s d takesK).err (readE s d takesK).recs with
    | some e =>
     rw [if_neg (by simp)]
     simp [okO, failO]
    | none =>
     rw [if_pos (show (none : Option Err).isNone = true from rfl)]
     dsimp only
     cases hh : (readE s d takesK).recs.any fun r => r.num == 2 with
     | false => simp [okO, failO]
     | true =>
      rw [if_pos rfl, i1.1]
      generalize readV (joinR 2 (readE s d takesK).recs) (d - 1) = y
      cases hy : y.2 <;> simp [okO, failO, hy]
theorem refV_eq (s : List UInt8) (d : Int) : refV s d = okO (readV s d) := (ref_eq _ d (Nat.le_refl _)).1 s
theorem refK_eq (s : List UInt8) (d : Int) : refK s d = okO (readK s d) := (ref_eq _ d (Nat.le_refl _)).2 s
end Go.Ai

namespace Go.Ai
def codeOkB (c : Int) : Bool := c == 1 || c == 3 || c == 4 || c == 5 || c == 6
def Err.fine (e : Err) (n : Nat) : Prop := codeOkB e.codeOf = true ∧ ∃ k : Int, e.place = some k ∧ 0 ≤ k ∧ k ≤ n
theorem fine_at {p n : Nat} {c : Int} (hp : p ≤ n) (hc : codeOkB c = true) : (Err.at_ p (.code c)).fine n := ⟨hc, p, rfl, by omega, by omega⟩
theorem vgetE_fine {s : List UInt8} {p : Nat} {e : Err} (h : vgetE s p = .error e) (hp : p ≤ s.length) : e.fine s.length := by
 unfold vgetE at h
 split at h
 ·cases h
 ·rename_i c hc
  cases h
  rcases vgo_err _ _ _ _ hc with rfl | rfl <;> exact fine_at hp rfl
theorem takeE_fine {s : List UInt8} {p n : Nat} {e : Err} (h : takeE s p n = .error e) (hp : p ≤ s.length) : e.fine s.length := by
 unfold takeE at h
 split at h
 ·cases h; exact fine_at hp rfl
 ·cases h
theorem tagE_fine {s : List UInt8} {p : Nat} {e : Err} (h : tagE s p = .error e) (hp : p ≤ s.length) : e.fine s.length := by
 unfold tagE at h
 split at h
 ·rename_i e' hg; cases h; exact vgetE_fine hg hp
 ·split at h
  ·cases h; exact fine_at hp rfl
  ·cases h
theorem endsF (s : List UInt8) : ∀ m q, s.length + 1 - q ≤ m → q ≤ s.length → ∀ d num,
  (∀ e, loopE s d num q = .error e → e.fine s.length) ∧ (∀ kind t e, t < q → bodyE s d num kind t q = .error e → e.fine s.length) := by
 intro m
 induction m with
 | zero => intro q hm hq; omega
 | succ m ih =>
  intro q hm hq
  have hl : ∀ d num e, loopE s d num q = .error e → e.fine s.length := by
   intro d num e h
   cases ht : tagE s q with
   | error x => rw [loopE_err ht] at h; cases h; exact tagE_fine ht hq
   | ok r =>
    obtain ⟨n, kind, q1⟩ := r
    have h1 := tagE_lt ht
    rw [loopE_ok ht] at h
    split at h
    ·split at h
     ·cases h
     ·cases h; exact fine_at hq rfl
    ·split at h
     ·rename_i x hb
      cases h
      exact (ih q1 (by omega) (by omega) d n).2 _ _ _ h1.1 hb
     ·rename_i n2 b2 q2 hb
      have h2 := bodyE_lt hb h1.2.1
      rw [if_pos (by omega)] at h
      exact (ih q2 (by omega) (by omega) d num).1 e h
  intro d num
  refine ⟨hl d num, ?_⟩
  intro kind t e ht h
  rw [bodyE] at h
  split at h
  ·exact vgetE_fine (map_err h) hq
  ·split at h
   ·exact takeE_fine (map_err h) hq
   ·split at h
    ·exact takeE_fine (map_err h) hq
    ·split at h
     ·split at h
      ·rename_i x hg; cases h; exact vgetE_fine hg hq
      ·rename_i n1 e1 hg
       exact takeE_fine (map_err h) (vgetE_lt hg hq).2.2.1
     ·split at h
      ·have h1 := map_err h
       rw [groupE] at h1
       split at h1
       ·cases h1; exact fine_at hq rfl
       ·exact hl _ _ _ h1
      ·cases h; exact fine_at (by omega) rfl
theorem recE_fine {s : List UInt8} {d : Int} {p : Nat} {e : Err} (h : recE s d p = .error e) (hp : p ≤ s.length) : e.fine s.length := by
 unfold recE at h
 split at h
 ·rename_i x ht; cases h; exact tagE_fine ht hp
 ·rename_i num kind q ht
  have b := tagE_lt ht
  exact (endsF s _ q (Nat.le_refl _) b.2.1 d num).2 _ _ _ b.1 (map_err h)
theorem allE_fine {s : List UInt8} {d : Int} : ∀ p, p ≤ s.length → ∀ e, allE s d p = .error e → e.fine s.length := by
 refine rec_ind fun p hp ih e h => ?_
 by_cases hlt : p < s.length
 ·cases hr : recE s d p with
  | error x => rw [allE_err hlt hr] at h; cases h; exact recE_fine hr hp
  | ok re =>
   obtain ⟨r, q⟩ := re
   rw [allE_ok hr] at h
   have b := recE_lt hr
   exact ih q b.1 b.2.1 e (map_err h)
 ·rw [allE_end hlt] at h; cases h
theorem failE_fine {en : Nat} {num : Int} {e : Err} (h : codeOkB e.codeOf = true) : (failE en num e).fine en :=
 ⟨h, min (max (e.place.getD 0) 0) en, rfl, by omega, by omega⟩
def fineO (n : Nat) (e : Option Err) : Prop := ∀ x, e = some x → x.fine n
theorem failO_fine {en : Nat} {num : Int} {e0 e : Option Err} (h0 : fineO en e0) (h : ∀ x, e = some x → codeOkB x.codeOf = true) : fineO en (failO en num e0 e) := by
 intro x hx
 cases e0 with
 | some y => simp only [failO] at hx; exact h0 x hx
 | none =>
  cases e with
  | none => simp [failO] at hx
  | some y => simp only [failO, Option.some.injEq] at hx; subst hx; exact failE_fine (h y rfl)
theorem readE_fine {s : List UInt8} {d : Int} {t : Nat → Nat → Bool} : fineO s.length (readE s d t).err := by
 intro x hx
 unfold readE at hx
 split at hx
 ·simp only [Option.some.injEq] at hx; subst hx; exact ⟨rfl, 0, rfl, by omega, by omega⟩
 ·split at hx
  ·rename_i e he
   simp only [Option.some.injEq] at hx; subst hx
   exact allE_fine 0 (Nat.zero_le _) _ he
  ·simp at hx
theorem uErr_code {s : List UInt8} {x : Err} (h : uErr s = some x) : codeOkB x.codeOf = true := by
 unfold uErr at h
 cases hb : uBad s with
 | none => rw [hb] at h; cases h
 | some n => rw [hb] at h; cases h; rfl
theorem checkO_fine (en num : Nat) : ∀ (rs : List Rec) (e : Option Err), fineO en e → fineO en (checkO en num e rs)
 | [], e, h => h
 | r :: rs, e, h => by
  rw [checkO]
  refine checkO_fine en num rs _ ?_
  split
  ·exact failO_fine h fun x hx => uErr_code hx
  ·exact h
theorem listR_fine {α : Type} (rd : List UInt8 → α × Option Err) (en num : Nat) (hrd : ∀ t x, (rd t).2 = some x → codeOkB x.codeOf = true) : ∀ (rs : List Rec) (e : Option Err), fineO en e → fineO en (listR rd en num e rs).2
 | [], e, h => h
 | r :: rs, e, h => by
  rw [listR]
  split
  ·exact listR_fine rd en num hrd rs _ (failO_fine h fun x hx => hrd _ x hx)
  ·exact listR_fine rd en num hrd rs _ h
theorem orNone_err {α : Type} (z : α) (r : α × Option Err) : (orNone z r).2 = r.2 := by
 unfold orNone; split <;> rfl
theorem orNone_bad {α : Type} (z : α) (r : α × Option Err) {e : Err} (h : (orNone z r).2 = some e) : (orNone z r).1 = z := by
 rw [orNone_err] at h
 unfold orNone; rw [if_pos (by rw [h]; rfl)]
theorem someR_fine {α : Type} (rd : List UInt8 → α × Option Err) (hrd : ∀ t x, (rd t).2 = some x → codeOkB x.codeOf = true) (s : List UInt8) (d : Int) : fineO s.length (someR rd s d).2 :=
 listR_fine rd s.length 1 hrd _ _ readE_fine
theorem read_fine : ∀ (m : Nat) (d : Int), (d + 1).toNat ≤ m → ∀ s, fineO s.length (readV s d).2 ∧ fineO s.length (readK s d).2 := by
 intro m
 induction m with
 | zero =>
  intro d hm s
  have h0 : d < 0 := by omega
  rw [readV, readK, if_pos h0, if_pos h0]
  exact ⟨readE_fine, readE_fine⟩
 | succ m ih =>
  intro d hm s
  by_cases h0 : d < 0
  ·rw [readV, readK, if_pos h0, if_pos h0]
   exact ⟨readE_fine, readE_fine⟩
  ·have i1 := ih (d - 1) (by omega)
   have i2 := ih (d - 2) (by omega)
   rw [readV, readK, if_neg h0, if_neg h0]
   dsimp only
   simp only [orNone_err]
   have c1 := checkO_fine s.length 1 (readE s d takesV).recs _ (readE_fine (s := s) (d := d) (t := takesV))
   have c2 := checkO_fine s.length 1 (readE s d takesK).recs _ (readE_fine (s := s) (d := d) (t := takesK))
   refine ⟨?_, ?_⟩
   ·(repeat' split) <;> first | exact c1 | skip
    ·exact failO_fine c1 fun x hx => (someR_fine _ (fun t x hx => ((i2 t).1 x hx).1) _ _ x hx).1
    ·exact failO_fine c1 fun x hx => (someR_fine _ (fun t x hx => ((i2 t).2 x hx).1) _ _ x hx).1
   ·refine failO_fine c2 fun x hx => ?_
    split at hx
    ·exact ((i1 _).1 x hx).1
    ·cases hx
theorem readV_fine (s : List UInt8) (d : Int) : fineO s.length (readV s d).2 := (read_fine _ d (Nat.le_refl _) s).1
theorem readK_fine (s : List UInt8) (d : Int) : fineO s.length (readK s d).2 := (read_fine _ d (Nat.le_refl _) s).2
theorem readV_bad {s : List UInt8} {d : Int} {e : Err} (h : (readV s d).2 = some e) : (readV s d).1 = val0 := by
 rw [readV] at h ⊢
 split at h
 ·rename_i h0; rw [if_pos h0]
 ·rename_i h0; rw [if_neg h0]; exact orNone_bad _ _ h
theorem readK_bad {s : List UInt8} {d : Int} {e : Err} (h : (readK s d).2 = some e) : (readK s d).1 = kv0 := by
 rw [readK] at h ⊢
 split at h
 ·rename_i h0; rw [if_pos h0]
 ·rename_i h0; rw [if_neg h0]; exact orNone_bad _ _ h
theorem allE_mem {s : List UInt8} {d : Int} : ∀ p, p ≤ s.length → ∀ out, allE s d p = .ok out → ∀ r ∈ out, 1 ≤ r.num ∧ r.num ≤ 536870911 ∧ r.kind < 8 ∧ r.n < 18446744073709551616 := by
 refine rec_ind fun p hp ih out h => ?_
 by_cases hlt : p < s.length
 ·cases hr : recE s d p with
  | error x => rw [allE_err hlt hr] at h; cases h
  | ok re =>
   obtain ⟨r, e⟩ := re
   rw [allE_ok hr] at h
   obtain ⟨out', h', rfl⟩ := map_ok h
   have b := recE_lt hr
   intro x hx
   rcases List.mem_cons.1 hx with rfl | hx
   ·exact b.2.2.2
   ·exact ih e b.1 b.2.1 out' h' x hx
 ·rw [allE_end hlt] at h
  cases h
  intro x hx; cases hx
theorem readE_mem {s : List UInt8} {d : Int} {t : Nat → Nat → Bool} : ∀ r ∈ (readE s d t).recs, 1 ≤ r.num ∧ r.num ≤ 536870911 ∧ r.kind < 8 ∧ r.n < 18446744073709551616 ∧ t r.num r.kind = true ∧ r.s.length ≤ s.length := by
 intro r hr
 unfold readE at hr
 split at hr
 ·cases hr
 ·split at hr
  ·cases hr
  ·rename_i rs hv
   dsimp only [takenR] at hr
   obtain ⟨h1, h2⟩ := List.mem_filter.1 hr
   have b := allE_mem 0 (Nat.zero_le _) rs hv r h1
   exact ⟨b.1, b.2.1, b.2.2.1, b.2.2.2, h2, allE_short 0 (Nat.zero_le _) rs hv r h1⟩
theorem readE_lens {s : List UInt8} {d : Int} {t : Nat → Nat → Bool} : (readE s d t).recs.length ≤ s.length ∧ (readE s d t).unk.length ≤ s.length := by
 unfold readE
 split
 ·simp
 ·split
  ·simp
  ·rename_i rs hv
   have h1 := allE_raw 0 (Nat.zero_le _) rs hv
   have h3 : (takenR t rs).length ≤ rs.length := List.length_filter_le _ _
   have h4 := unkR_len t rs
   dsimp only; omega
theorem oneR_mem (nums : List Nat) : ∀ (rs : List Rec) (o : OneR), (rs.foldl (stepOne nums) o).num = o.num ∧ (rs.foldl (stepOne nums) o).n = o.n ∧ (rs.foldl (stepOne nums) o).s = o.s ∨ ∃ r ∈ rs, (rs.foldl (stepOne nums) o).num = r.num ∧ (rs.foldl (stepOne nums) o).n = r.n ∧ (rs.foldl (stepOne nums) o).s = r.s
 | [], o => .inl ⟨rfl, rfl, rfl⟩
 | r :: rs, o => by
  rw [List.foldl_cons]
  rcases oneR_mem nums rs (stepOne nums o r) with h | ⟨x, hx, h⟩
  ·rw [h.1, h.2.1, h.2.2]
   by_cases hc : nums.contains r.num = true
   ·refine .inr ⟨r, by simp, ?_⟩
    rw [stepOne, if_pos hc]; exact ⟨rfl, rfl, rfl⟩
   ·rw [stepOne, if_neg hc]; exact .inl ⟨rfl, rfl, rfl⟩
  ·exact .inr ⟨x, by simp [hx], h⟩
theorem listR_all {α : Type} (rd : List UInt8 → α × Option Err) (en num : Nat) {q : α → Prop} : ∀ (rs : List Rec) (e : Option Err), (∀ r ∈ rs, q (rd r.s).1) → ∀ x ∈ (listR rd en num e rs).1, q x
 | [], e, _ => by simp [listR]
 | r :: rs, e, h => by
  rw [listR]
  split
  ·exact List.forall_mem_cons.2 ⟨h r (by simp), listR_all rd en num rs _ fun x hx => h x (by simp [hx])⟩
  ·exact listR_all rd en num rs _ fun x hx => h x (by simp [hx])
theorem val0_wf : val0.wf := by simp [val0, Val.wf, Val.wfs, KV.wfs]
theorem kv0_wf : kv0.wf := by simp [kv0, KV.wf, val0_wf]
theorem lastR_len (num : Nat) {n : Nat} {rs : List Rec} (h : ∀ r ∈ rs, r.s.length ≤ n) : (lastR num rs).s.length ≤ n := by
 unfold lastR
 cases hf : rs.reverse.find? fun r => r.num == num with
 | none => simp
 | some r => exact h r (List.mem_reverse.1 (List.mem_of_find?_eq_some hf))
theorem orNone_of {α : Type} {z : α} {r : α × Option Err} {q : α → Prop} (h1 : q z) (h2 : q r.1) : q (orNone z r).1 := by
 unfold orNone; split
 ·exact h1
 ·exact h2
theorem read_wf : ∀ (m : Nat) (d : Int), (d + 1).toNat ≤ m → ∀ s : List UInt8, s.length ≤ 549755813888 → (readV s d).1.wf ∧ (readK s d).1.wf := by
 intro m
 induction m with
 | zero =>
  intro d hm s hb
  have h0 : d < 0 := by omega
  rw [readV, readK, if_pos h0, if_pos h0]
  exact ⟨val0_wf, kv0_wf⟩
 | succ m ih =>
  intro d hm s hb
  by_cases h0 : d < 0
  ·rw [readV, readK, if_pos h0, if_pos h0]
   exact ⟨val0_wf, kv0_wf⟩
  ·have i1 := ih (d - 1) (by omega)
   have i2 := ih (d - 2) (by omega)
   rw [readV, readK, if_neg h0, if_neg h0]
   dsimp only
   refine ⟨orNone_of val0_wf ?_, orNone_of kv0_wf ?_⟩
   ·have hl := readE_lens (s := s) (d := d) (t := takesV)
    have hm := readE_mem (s := s) (d := d) (t := takesV)
    have hst := readE_str (s := s) (d := d) (t := takesV)
    have ho := oneR_mem [1, 2, 3, 4, 5, 6, 7] (readE s d takesV).recs ⟨0, 0, [], []⟩
    have ha := (oneR_all [1, 2, 3, 4, 5, 6, 7] (readE s d takesV).recs ⟨0, 0, [], []⟩).1
    change (oneR [1, 2, 3, 4, 5, 6, 7] (readE s d takesV).recs).num = _ ∧ _ ∨ _ at ho
    change (oneR [1, 2, 3, 4, 5, 6, 7] (readE s d takesV).recs).all.flatten.length ≤ _ at ha
    have hob : (oneR [1, 2, 3, 4, 5, 6, 7] (readE s d takesV).recs).num ≤ 536870911 ∧ (oneR [1, 2, 3, 4, 5, 6, 7] (readE s d takesV).recs).n < 18446744073709551616 ∧ (oneR [1, 2, 3, 4, 5, 6, 7] (readE s d takesV).recs).s.length ≤ s.length := by
     rcases ho with ⟨h1, h2, h3⟩ | ⟨r, hr, h1, h2, h3⟩
     ·refine ⟨by rw [h1]; simp, by rw [show (oneR [1, 2, 3, 4, 5, 6, 7] (readE s d takesV).recs).n = 0 from h2]; simp, by rw [show (oneR [1, 2, 3, 4, 5, 6, 7] (readE s d takesV).recs).s = [] from h3]; simp⟩
     ·have := hm r hr
      refine ⟨by rw [show (oneR [1, 2, 3, 4, 5, 6, 7] (readE s d takesV).recs).num = r.num from h1]; omega, ?_, ?_⟩
      ·rw [show (oneR [1, 2, 3, 4, 5, 6, 7] (readE s d takesV).recs).n = r.n from h2]; omega
      ·rw [show (oneR [1, 2, 3, 4, 5, 6, 7] (readE s d takesV).recs).s = r.s from h3]; omega
    generalize oneR [1, 2, 3, 4, 5, 6, 7] (readE s d takesV).recs = o at hob ha
    simp only [List.flatten_nil, List.length_nil, Nat.zero_add] at ha
    have hmx : ∀ n : Nat, n ≤ 549755813888 → n ≤ maxStr := fun n h => by unfold maxStr; omega
    have w : ∀ (k : Nat) (ss : List UInt8) (b : Bool) (n : Nat), k ≤ 536870911 → ss.length ≤ s.length → n < 18446744073709551616 → (Val.mk k ss b n [] [] [] (readE s d takesV).unk).wf := fun k ss b n hk hs hn =>
     Val.wf_mk.2 ⟨by omega, hmx _ (by omega), hn, by simp [maxStr], by simp [maxStr], by simp [maxStr], hmx _ (by omega), by simp, by simp⟩
    split
    ·exact w _ _ _ _ hob.1 hob.2.2 (by omega)
    ·split
     ·exact w 2 _ _ _ (by omega) (by simp) (by omega)
     ·split
      ·exact w _ _ _ _ hob.1 (by simp) hob.2.1
      ·split
       ·have hl2 := readE_lens (s := o.all.flatten) (d := d - 1) (t := loneT)
        have hm2 := readE_mem (s := o.all.flatten) (d := d - 1) (t := loneT)
        have hL := listR_len (fun t => readV t (d - 2)) o.all.flatten.length 1 (readE o.all.flatten (d - 1) loneT).recs (readE o.all.flatten (d - 1) loneT).err
        refine Val.wf_mk.2 ⟨by omega, by simp [maxStr], by omega, hmx _ ?_, by simp [maxStr], hmx _ ?_, hmx _ (by omega), ?_, by simp⟩
        ·simp only [someR]; omega
        ·simp only [someR]; omega
        ·exact listR_all _ _ _ (q := Val.wf) _ _ fun r hr => (i2 r.s (by have := (hm2 r hr).2.2.2.2.2; omega)).1
       ·split
        ·have hl2 := readE_lens (s := o.all.flatten) (d := d - 1) (t := loneT)
         have hm2 := readE_mem (s := o.all.flatten) (d := d - 1) (t := loneT)
         have hL := listR_len (fun t => readK t (d - 2)) o.all.flatten.length 1 (readE o.all.flatten (d - 1) loneT).recs (readE o.all.flatten (d - 1) loneT).err
         refine Val.wf_mk.2 ⟨by omega, by simp [maxStr], by omega, by simp [maxStr], hmx _ ?_, hmx _ ?_, hmx _ (by omega), by simp, ?_⟩
         ·simp only [someR]; omega
         ·simp only [someR]; omega
         ·exact listR_all _ _ _ (q := KV.wf) _ _ fun r hr => (i2 r.s (by have := (hm2 r hr).2.2.2.2.2; omega)).2
        ·exact w _ _ _ _ hob.1 (by simp) (by omega)
   ·have hl := readE_lens (s := s) (d := d) (t := takesK)
    have hm := readE_mem (s := s) (d := d) (t := takesK)
    have hst := readE_str (s := s) (d := d) (t := takesK)
    have hk := lastR_len 1 (rs := (readE s d takesK).recs) (n := s.length) fun r hr => (hm r hr).2.2.2.2.2
    have hj := joinR_len 2 (readE s d takesK).recs
    refine KV.wf_mk.2 ⟨by unfold maxStr; omega, by unfold maxStr; omega, ?_⟩
    split
    ·exact (i1 _ (by omega)).1
    ·exact val0_wf
theorem readV_wf {s : List UInt8} (hb : s.length ≤ 549755813888) (d : Int) : (readV s d).1.wf := (read_wf _ d (Nat.le_refl _) s hb).1
theorem readK_wf {s : List UInt8} (hb : s.length ≤ 549755813888) (d : Int) : (readK s d).1.wf := (read_wf _ d (Nat.le_refl _) s hb).2
end Go.Ai

namespace Go.Ai
structure Seg (s : List UInt8) (p : Nat) (s' : List UInt8) (p' n : Nat) : Prop where
 eq : (s.drop p).take n = (s'.drop p').take n
 l : p + n ≤ s.length
 l' : p' + n ≤ s'.length
theorem Seg.sub {s s' : List UInt8} {p p' n k m : Nat} (h : Seg s p s' p' n) (hk : k + m ≤ n) : Seg s (p + k) s' (p' + k) m := by
 refine ⟨?_, by have := h.l; omega, by have := h.l'; omega⟩
 have e := congrArg (fun l : List UInt8 => (l.drop k).take m) h.eq
 simp only [List.drop_take, List.drop_drop, List.take_take] at e
 rwa [show min m (n - k) = m by omega] at e
theorem Seg.pre {s s' : List UInt8} {p p' n m : Nat} (h : Seg s p s' p' n) (hk : m ≤ n) : Seg s p s' p' m := h.sub (k := 0) (by omega)
theorem vgo_seg : ∀ (s s' : List UInt8) (i acc n k : Nat), vgo i acc s = .ok (n, i + k) → s.take k = s'.take k → vgo i acc s' = .ok (n, i + k)
 | [], s', i, acc, n, k, h, _ => by simp [vgo] at h
 | c :: cs, s', i, acc, n, k, h, he => by
  have hk : 0 < k := by
   rw [vgo] at h
   split at h
   ·cases h
   ·split at h
    ·simp only [Except.ok.injEq, Prod.mk.injEq] at h; omega
    ·have := vgo_lt' cs _ _ _ _ h; omega
  obtain ⟨k, rfl⟩ : ∃ k', k = k' + 1 := ⟨k - 1, by omega⟩
  cases s' with
  | nil => simp at he
  | cons c' cs' =>
   simp only [List.take_succ_cons, List.cons.injEq] at he
   obtain ⟨rfl, he⟩ := he
   rw [vgo] at h ⊢
   split
   ·rename_i h9; rw [if_pos h9] at h; cases h
   ·rename_i h9
    rw [if_neg h9] at h
    split
    ·rename_i h8; rw [if_pos h8] at h; exact h
    ·rename_i h8
     rw [if_neg h8] at h
     rw [show i + (k + 1) = (i + 1) + k by omega] at h ⊢
     exact vgo_seg cs cs' _ _ _ _ h he
where
 vgo_lt' : ∀ (s : List UInt8) (i acc n e : Nat), vgo i acc s = .ok (n, e) → i < e
 | [], i, acc, n, e, h => by simp [vgo] at h
 | c :: cs, i, acc, n, e, h => by
  rw [vgo] at h
  split at h
  ·cases h
  ·split at h
   ·simp only [Except.ok.injEq, Prod.mk.injEq] at h; omega
   ·have := vgo_lt' cs _ _ _ _ h; omega
theorem vgetE_seg {s s' : List UInt8} {p p' n k : Nat} (h : vgetE s p = .ok (n, p + k)) (g : Seg s p s' p' k) : vgetE s' p' = .ok (n, p' + k) := by
 unfold vgetE at h ⊢
 cases hv : vread (s.drop p) with
 | error c => rw [hv] at h; cases h
 | ok r =>
  obtain ⟨n', k'⟩ := r
  rw [hv] at h
  simp only [Except.ok.injEq, Prod.mk.injEq] at h
  obtain ⟨rfl, hk⟩ := h
  have hk' : k' = k := by omega
  subst hk'
  have := vgo_seg (s.drop p) (s'.drop p') 0 0 n' k' (by rw [Nat.zero_add]; exact hv) g.eq
  rw [Nat.zero_add] at this
  rw [show vread (s'.drop p') = .ok (n', k') from this]
theorem takeE_seg {s s' : List UInt8} {p p' n : Nat} {t : List UInt8} {q : Nat} (h : takeE s p n = .ok (t, q)) (g : Seg s p s' p' n) : q = p + n ∧ takeE s' p' n = .ok (t, p' + n) := by
 unfold takeE at h ⊢
 split at h
 ·cases h
 ·simp only [Except.ok.injEq, Prod.mk.injEq] at h
  obtain ⟨rfl, rfl⟩ := h
  refine ⟨rfl, ?_⟩
  rw [if_neg (by have := g.l'; omega), g.eq]
theorem tagE_seg {s s' : List UInt8} {p p' num kind k : Nat} (h : tagE s p = .ok (num, kind, p + k)) (g : Seg s p s' p' k) : tagE s' p' = .ok (num, kind, p' + k) := by
 unfold tagE at h ⊢
 cases hv : vgetE s p with
 | error c => rw [hv] at h; cases h
 | ok r =>
  obtain ⟨n', q'⟩ := r
  rw [hv] at h
  dsimp only at h
  split at h
  ·cases h
  ·rename_i hn
   simp only [Except.ok.injEq, Prod.mk.injEq] at h
   obtain ⟨rfl, rfl, rfl⟩ := h
   rw [vgetE_seg hv g]
   dsimp only
   rw [if_neg hn]
theorem segs (s : List UInt8) : ∀ m q, s.length + 1 - q ≤ m → q ≤ s.length → ∀ (d d' : Int) (num : Nat) (s' : List UInt8) (q' : Nat), d ≤ d' →
  (∀ k, loopE s d num q = .ok (q + k) → Seg s q s' q' k → loopE s' d' num q' = .ok (q' + k)) ∧
  (∀ kind t t' n bs k, bodyE s d num kind t q = .ok (n, bs, q + k) → Seg s q s' q' k → bodyE s' d' num kind t' q' = .ok (n, bs, q' + k)) := by
 intro m
 induction m with
 | zero => intro q hm hq; omega
 | succ m ih =>
  intro q hm hq
  have hl : ∀ (d d' : Int) (num : Nat) (s' : List UInt8) (q' : Nat), d ≤ d' → ∀ k, loopE s d num q = .ok (q + k) → Seg s q s' q' k → loopE s' d' num q' = .ok (q' + k) := by
   intro d d' num s' q' hd k h g
   cases ht : tagE s q with
   | error x => rw [loopE_err ht] at h; cases h
   | ok r =>
    obtain ⟨n, kind, q1⟩ := r
    have h1 := tagE_lt ht
    obtain ⟨k1, rfl⟩ : ∃ k1, q1 = q + k1 := ⟨q1 - q, by omega⟩
    rw [loopE_ok ht] at h
    by_cases h4 : kind = 4
    ·rw [if_pos h4] at h
     split at h
     ·rename_i hn
      simp only [Except.ok.injEq] at h
      have : k1 = k := by omega
      subst this
      rw [loopE_ok (tagE_seg ht g), if_pos h4, if_pos hn]
     ·cases h
    ·rw [if_neg h4] at h
     split at h
     ·cases h
     ·rename_i n2 b2 q2 hb
      have h2 := bodyE_lt hb h1.2.1
      rw [if_pos (by omega)] at h
      have h3 := loopE_lt h h2.2.1
      obtain ⟨k2, rfl⟩ : ∃ k2, q2 = q + k1 + k2 := ⟨q2 - (q + k1), by omega⟩
      have gb := (ih (q + k1) (by omega) h1.2.1 d d' n s' (q' + k1) hd).2 kind q q' n2 b2 k2 hb (g.sub (by omega))
      rw [loopE_ok (tagE_seg ht (g.pre (by omega))), if_neg h4, gb]
      dsimp only
      rw [if_pos (by omega)]
      have := (ih (q + k1 + k2) (by omega) h2.2.1 d d' num s' (q' + k1 + k2) hd).1 (k - (k1 + k2)) (by rw [h]; congr 1; omega) (by
       have := g.sub (k := k1 + k2) (m := k - (k1 + k2)) (by omega)
       rwa [← Nat.add_assoc, ← Nat.add_assoc] at this)
      rw [this]
      congr 1; omega
  intro d d' num s' q' hd
  refine ⟨hl d d' num s' q' hd, ?_⟩
  intro kind t t' n bs k h g
  rw [bodyE] at h ⊢
  split
  ·rename_i hk
   rw [if_pos hk] at h
   obtain ⟨⟨n', e'⟩, h1, h2⟩ := map_ok h
   simp only [Prod.mk.injEq] at h2
   obtain ⟨rfl, rfl, rfl⟩ := h2
   rw [vgetE_seg h1 g]; rfl
  ·rename_i hk
   rw [if_neg hk] at h
   split
   ·rename_i hk1
    rw [if_pos hk1] at h
    obtain ⟨⟨n', e'⟩, h1, h2⟩ := map_ok h
    simp only [Prod.mk.injEq] at h2
    obtain ⟨rfl, rfl, rfl⟩ := h2
    have hk8 := (takeE_lt h1 hq).1
    have := (takeE_seg h1 (g.pre (by omega))).2
    rw [this]
    simp only [Except.map, Except.ok.injEq, Prod.mk.injEq, true_and]; omega
   ·rename_i hk1
    rw [if_neg hk1] at h
    split
    ·rename_i hk5
     rw [if_pos hk5] at h
     obtain ⟨⟨n', e'⟩, h1, h2⟩ := map_ok h
     simp only [Prod.mk.injEq] at h2
     obtain ⟨rfl, rfl, rfl⟩ := h2
     have hk8 := (takeE_lt h1 hq).1
     have := (takeE_seg h1 (g.pre (by omega))).2
     rw [this]
     simp only [Except.map, Except.ok.injEq, Prod.mk.injEq, true_and]; omega
    ·rename_i hk5
     rw [if_neg hk5] at h
     split
     ·rename_i hk2
      rw [if_pos hk2] at h
      split at h
      ·cases h
      ·rename_i n1 e1 hg
       have b1 := vgetE_lt hg hq
       obtain ⟨k1, rfl⟩ : ∃ k1, e1 = q + k1 := ⟨e1 - q, by omega⟩
       obtain ⟨⟨n', e'⟩, h1, h2⟩ := map_ok h
       simp only [Prod.mk.injEq] at h2
       obtain ⟨rfl, rfl, rfl⟩ := h2
       have b2 := takeE_lt h1 (by omega)
       have g2 := g.sub (k := k1) (m := n1) (by omega)
       rw [vgetE_seg hg (g.pre (by omega))]
       dsimp only
       rw [(takeE_seg h1 g2).2]
       simp only [Except.map, Except.ok.injEq, Prod.mk.injEq, true_and]; omega
     ·rename_i hk2
      rw [if_neg hk2] at h
      split
      ·rename_i hk3
       rw [if_pos hk3] at h
       obtain ⟨e', h1, h2⟩ := map_ok h
       simp only [Prod.mk.injEq] at h2
       obtain ⟨rfl, rfl, rfl⟩ := h2
       rw [groupE] at h1 ⊢
       split at h1
       ·cases h1
       ·rename_i hd1
        rw [if_neg (by omega), hl (d - 1) (d' - 1) num s' q' (by omega) k h1 g]
        rfl
      ·rename_i hk3
       rw [if_neg hk3] at h
       cases h
theorem recE_seg {s s' : List UInt8} {d d' : Int} {p p' k : Nat} {r : Rec} (h : recE s d p = .ok (r, p + k)) (g : Seg s p s' p' k) (hd : d ≤ d') : recE s' d' p' = .ok (r, p' + k) := by
 have b := recE_lt h
 unfold recE at h ⊢
 cases ht : tagE s p with
 | error x => rw [ht] at h; cases h
 | ok x =>
  obtain ⟨num, kind, q⟩ := x
  rw [ht] at h
  dsimp only at h
  have h1 := tagE_lt ht
  obtain ⟨⟨n, bs, e'⟩, hb, h2⟩ := map_ok h
  simp only [Prod.mk.injEq] at h2
  obtain ⟨rfl, rfl⟩ := h2
  have h3 := bodyE_lt hb h1.2.1
  obtain ⟨k1, rfl⟩ : ∃ k1, q = p + k1 := ⟨q - p, by omega⟩
  rw [tagE_seg ht (g.pre (by omega))]
  dsimp only
  have gb := (segs s _ (p + k1) (Nat.le_refl _) h1.2.1 d d' num s' (p' + k1) hd).2 kind p p' n bs (k - k1) (by rw [hb]; congr 3; omega) (g.sub (by omega))
  rw [gb]
  simp only [Except.map, Except.ok.injEq, Prod.mk.injEq, Rec.mk.injEq, true_and]
  refine ⟨?_, by omega⟩
  rw [show p + k - p = k by omega, show p' + k1 + (k - k1) - p' = k by omega, g.eq]
def RecOK (d : Int) (r : Rec) : Prop := recE r.raw d 0 = .ok (r, r.raw.length)
def rawsR (rs : List Rec) : List UInt8 := (rs.map (·.raw)).flatten
@[simp] theorem rawsR_nil : rawsR [] = [] := rfl
@[simp] theorem rawsR_cons (r : Rec) (rs : List Rec) : rawsR (r :: rs) = r.raw ++ rawsR rs := rfl
theorem rawsR_append (a b : List Rec) : rawsR (a ++ b) = rawsR a ++ rawsR b := by simp [rawsR]
theorem rawsR_len (rs : List Rec) : (rawsR rs).length = rawLen rs := by simp [rawsR, rawLen, List.length_flatten, Function.comp_def]
theorem RecOK.mono {d d' : Int} {r : Rec} (h : RecOK d r) (hd : d ≤ d') : RecOK d' r := by
 unfold RecOK at *
 have b := recE_lt h
 have := recE_seg (s := r.raw) (s' := r.raw) (p := 0) (p' := 0) (k := r.raw.length) (by rw [Nat.zero_add]; exact h) ⟨rfl, by omega, by omega⟩ hd
 rwa [Nat.zero_add] at this
theorem recE_recOK {s : List UInt8} {d : Int} {p e : Nat} {r : Rec} (h : recE s d p = .ok (r, e)) : RecOK d r := by
 have b := recE_lt h
 have hr := recE_raw h
 obtain ⟨k, rfl⟩ : ∃ k, e = p + k := ⟨e - p, by omega⟩
 have hk : r.raw.length = k := by omega
 have e1 := hr.1
 rw [show p + k - p = k by omega] at e1
 have := recE_seg (s' := r.raw) (p' := 0) h ⟨by rw [List.drop_zero, e1, List.take_take, Nat.min_self], by omega, by omega⟩ (Int.le_refl d)
 rw [Nat.zero_add] at this
 unfold RecOK
 rw [this, hk]
theorem allE_recs {s : List UInt8} {d : Int} : ∀ p, p ≤ s.length → ∀ rs, allE s d p = .ok rs → (∀ r ∈ rs, RecOK d r) ∧ s.drop p = rawsR rs := by
 refine rec_ind fun p hp ih rs h => ?_
 by_cases hlt : p < s.length
 ·cases hr : recE s d p with
  | error x => rw [allE_err hlt hr] at h; cases h
  | ok re =>
   obtain ⟨r, e⟩ := re
   rw [allE_ok hr] at h
   obtain ⟨rs', h', rfl⟩ := map_ok h
   have b := recE_lt hr
   obtain ⟨i1, i2⟩ := ih e b.1 b.2.1 rs' h'
   refine ⟨List.forall_mem_cons.2 ⟨recE_recOK hr, i1⟩, ?_⟩
   rw [rawsR_cons, ← i2, (recE_raw hr).1]
   conv => lhs; rw [← List.take_append_drop (e - p) (s.drop p)]
   rw [List.drop_drop, show p + (e - p) = e by omega]
 ·rw [allE_end hlt] at h
  cases h
  refine ⟨by simp, ?_⟩
  rw [List.drop_eq_nil_of_le (by omega)]; rfl
theorem allE_of {d : Int} : ∀ (rs : List Rec), (∀ r ∈ rs, RecOK d r) → ∀ pre : List UInt8, allE (pre ++ rawsR rs) d pre.length = .ok rs
 | [], _, pre => by rw [allE_end (by simp)]
 | r :: rs, h, pre => by
  have hr := h r (by simp)
  have b := recE_lt hr
  have g : recE (pre ++ rawsR (r :: rs)) d pre.length = .ok (r, pre.length + r.raw.length) :=
   recE_seg (s := r.raw) (p := 0) (k := r.raw.length) (by rw [Nat.zero_add]; exact hr) ⟨by simp, by omega, by simp⟩ (Int.le_refl d)
  rw [allE_ok g]
  have i := allE_of rs (fun x hx => h x (by simp [hx])) (pre ++ r.raw)
  rw [List.length_append, List.append_assoc] at i
  rw [rawsR_cons, i]; rfl
theorem allE_iff {s : List UInt8} {d : Int} {rs : List Rec} : allE s d 0 = .ok rs ↔ (∀ r ∈ rs, RecOK d r) ∧ s = rawsR rs := by
 constructor
 ·intro h
  have := allE_recs 0 (Nat.zero_le _) rs h
  exact ⟨this.1, by simpa using this.2⟩
 ·rintro ⟨h1, rfl⟩
  exact allE_of rs h1 []
theorem allE_mono {s : List UInt8} {d d' : Int} {rs : List Rec} (h : allE s d 0 = .ok rs) (hd : d ≤ d') : allE s d' 0 = .ok rs := by
 rw [allE_iff] at h ⊢
 exact ⟨fun r hr => (h.1 r hr).mono hd, h.2⟩
theorem vgo_put (n : Nat) : ∀ (i acc : Nat) (t : List UInt8), n * 2 ^ (7 * i) < 18446744073709551616 → vgo i acc (putV n ++ t) = .ok (acc + n * 2 ^ (7 * i), i + (putV n).length) := by
 induction n using Nat.strongRecOn with
 | ind n ih =>
  intro i acc t hb
  by_cases hn : n < 128
  ·rw [putV_small hn]
   simp only [List.cons_append, List.nil_append, List.length_cons, List.length_nil]
   have hc : (UInt8.ofNat n).toNat = n := by simp [UInt8.toNat_ofNat']; omega
   rw [vgo, hc, if_neg, if_pos hn, Nat.mod_eq_of_lt hn]
   rintro ⟨rfl, h1⟩
   have : 2 * 2 ^ (7 * 9) ≤ n * 2 ^ (7 * 9) := Nat.mul_le_mul_right _ h1
   omega
  ·rw [putV_big hn]
   have hc : (UInt8.ofNat (n % 128 + 128)).toNat = n % 128 + 128 := by simp [UInt8.toNat_ofNat']; omega
   rw [List.cons_append, vgo, hc, if_neg, if_neg (by omega)]
   ·have hp : 2 ^ (7 * (i + 1)) = 128 * 2 ^ (7 * i) := by rw [show 7 * (i + 1) = 7 * i + 7 by omega, Nat.pow_add]; omega
    have hdm : n / 128 * (128 * 2 ^ (7 * i)) + n % 128 * 2 ^ (7 * i) = n * 2 ^ (7 * i) := by
     rw [← Nat.mul_assoc, ← Nat.add_mul]; congr 1; omega
    rw [ih (n / 128) (by omega) (i + 1) _ t (by rw [hp]; omega), hp]
    simp only [Except.ok.injEq, Prod.mk.injEq, List.length_cons]
    refine ⟨?_, by omega⟩
    rw [show (n % 128 + 128) % 128 = n % 128 by omega]
    omega
   ·rintro ⟨rfl, h1⟩
    have : 2 * 2 ^ (7 * 9) ≤ n * 2 ^ (7 * 9) := Nat.mul_le_mul_right _ (by omega)
    omega
theorem vread_put {n : Nat} (h : n < 18446744073709551616) (t : List UInt8) : vread (putV n ++ t) = .ok (n, (putV n).length) := by
 have := vgo_put n 0 0 t (by simpa using h)
 unfold vread
 simpa using this
theorem vgo_bound : ∀ (s : List UInt8) (i acc n e : Nat), acc < 2 ^ (7 * i) → vgo i acc s = .ok (n, e) → n < 2 ^ (7 * e)
 | [], i, acc, n, e, _, h => by simp [vgo] at h
 | c :: cs, i, acc, n, e, ha, h => by
  have hp : 2 ^ (7 * (i + 1)) = 128 * 2 ^ (7 * i) := by rw [show 7 * (i + 1) = 7 * i + 7 by omega, Nat.pow_add]; omega
  have hm : c.toNat % 128 * 2 ^ (7 * i) ≤ 127 * 2 ^ (7 * i) := Nat.mul_le_mul_right _ (by omega)
  rw [vgo] at h
  split at h
  ·cases h
  ·split at h
   ·simp only [Except.ok.injEq, Prod.mk.injEq] at h
    obtain ⟨rfl, rfl⟩ := h
    omega
   ·exact vgo_bound cs _ _ _ _ (by omega) h
theorem vread_least {s : List UInt8} {n k : Nat} (h : vread s = .ok (n, k)) : (putV n).length ≤ k := by
 have hb := vgo_bound s 0 0 n k (by simp) h
 have hk := (vread_lt h).2.1
 have : n < 128 ^ ((k - 1) + 1) := by
  rw [show k - 1 + 1 = k by omega]
  calc n < 2 ^ (7 * k) := hb
   _ = 128 ^ k := by rw [Nat.pow_mul]
 have := putInit_len n (k - 1) this
 simp only [putV, List.length_append, List.length_cons, List.length_nil]; omega
def leB : Nat → Nat → List UInt8
 | 0, _ => []
 | k + 1, n => UInt8.ofNat (n % 256) :: leB k (n / 256)
@[simp] theorem leB_len : ∀ k n, (leB k n).length = k
 | 0, _ => rfl
 | k + 1, n => by simp [leB, leB_len k]
theorem leN_leB : ∀ k n, leN (leB k n) = n % 256 ^ k
 | 0, n => by simp [leB, leN, Nat.mod_one]
 | k + 1, n => by
  have hc : (UInt8.ofNat (n % 256)).toNat = n % 256 := by simp [UInt8.toNat_ofNat']
  rw [leB, leN, hc, leN_leB k, Nat.pow_succ, Nat.mul_comm (256 ^ k) 256, Nat.mod_mul]
def tagB (num kind : Nat) : List UInt8 := putV (num * 8 + kind)
def bytesB (num : Nat) (s : List UInt8) : List UInt8 := tagB num 2 ++ (putV s.length ++ s)
def numB (num n : Nat) : List UInt8 := tagB num 0 ++ putV n
def fixB (num n : Nat) : List UInt8 := tagB num 1 ++ leB 8 n
def bytesR (num : Nat) (s : List UInt8) : Rec := ⟨num, 2, 0, s, bytesB num s⟩
def numR (num n : Nat) : Rec := ⟨num, 0, n, [], numB num n⟩
def fixR (num n : Nat) : Rec := ⟨num, 1, n, [], fixB num n⟩
theorem vgetE_put {n : Nat} (h : n < 18446744073709551616) (pre t : List UInt8) : vgetE (pre ++ (putV n ++ t)) pre.length = .ok (n, pre.length + (putV n).length) := by
 unfold vgetE
 rw [List.drop_left, vread_put h]
theorem tagE_put {num kind : Nat} (h1 : 1 ≤ num) (h2 : num ≤ 536870911) (h3 : kind < 8) (t : List UInt8) : tagE (tagB num kind ++ t) 0 = .ok (num, kind, (tagB num kind).length) := by
 unfold tagE tagB
 have := vgetE_put (n := num * 8 + kind) (by omega) [] t
 simp only [List.nil_append, List.length_nil, Nat.zero_add] at this
 rw [this]
 dsimp only
 rw [show (num * 8 + kind) / 8 = num by omega, show (num * 8 + kind) % 8 = kind by omega, if_neg (by omega)]
theorem takeE_put (pre s t : List UInt8) : takeE (pre ++ (s ++ t)) pre.length s.length = .ok (s, pre.length + s.length) := by
 unfold takeE
 rw [if_neg (by simp), List.drop_left, List.take_left]
theorem numR_ok {d : Int} {num n : Nat} (h1 : 1 ≤ num) (h2 : num ≤ 536870911) (hn : n < 18446744073709551616) : RecOK d (numR num n) := by
 unfold RecOK recE
 simp only [numR, numB]
 rw [tagE_put h1 h2 (by omega)]
 dsimp only
 have := vgetE_put hn (tagB num 0) []
 rw [List.append_nil] at this
 rw [bodyE, if_pos rfl, this]
 simp [Except.map, List.take_of_length_le]
theorem fixR_ok {d : Int} {num n : Nat} (h1 : 1 ≤ num) (h2 : num ≤ 536870911) (hn : n < 18446744073709551616) : RecOK d (fixR num n) := by
 unfold RecOK recE
 simp only [fixR, fixB]
 rw [tagE_put h1 h2 (by omega)]
 dsimp only
 have := takeE_put (tagB num 1) (leB 8 n) []
 rw [List.append_nil, leB_len] at this
 rw [bodyE, if_neg (by omega), if_pos rfl, this]
 have e : leN (leB 8 n) = n := by rw [leN_leB]; omega
 simp [Except.map, List.take_of_length_le, e]
theorem bytesR_ok {d : Int} {num : Nat} {s : List UInt8} (h1 : 1 ≤ num) (h2 : num ≤ 536870911) (hn : s.length < 18446744073709551616) : RecOK d (bytesR num s) := by
 unfold RecOK recE
 simp only [bytesR, bytesB]
 rw [tagE_put h1 h2 (by omega)]
 dsimp only
 have e1 := vgetE_put hn (tagB num 2) s
 have e2 := takeE_put (tagB num 2 ++ putV s.length) s []
 rw [List.append_nil, List.append_assoc, List.length_append] at e2
 rw [bodyE, if_neg (by omega), if_neg (by omega), if_neg (by omega), if_pos rfl, e1]
 dsimp only
 rw [e2]
 have e3 : (tagB num 2 ++ (putV s.length ++ s)).take ((tagB num 2).length + (putV s.length).length + s.length) = tagB num 2 ++ (putV s.length ++ s) := List.take_of_length_le (by simp; omega)
 rw [Nat.add_assoc] at e3
 simp only [Except.map, List.drop_zero, Nat.sub_zero, List.length_append, Nat.add_assoc, e3]
def restE (t : Nat → Nat → Bool) (s : List UInt8) (d : Int) : Bool := match allE s d 0 with
 | .ok rs => rs.all fun r => !t r.num r.kind
 | .error _ => false
theorem restE_iff {t : Nat → Nat → Bool} {s : List UInt8} {d : Int} : restE t s d = true ↔ ∃ us, (∀ r ∈ us, RecOK d r ∧ t r.num r.kind = false) ∧ s = rawsR us := by
 unfold restE
 constructor
 ·intro h
  split at h
  ·rename_i rs hv
   obtain ⟨h1, h2⟩ := allE_iff.1 hv
   exact ⟨rs, fun r hr => ⟨h1 r hr, by simpa using List.all_eq_true.1 h r hr⟩, h2⟩
  ·cases h
 ·rintro ⟨us, h1, h2⟩
  rw [allE_iff.2 ⟨fun r hr => (h1 r hr).1, h2⟩]
  exact List.all_eq_true.2 fun r hr => by simp [(h1 r hr).2]
theorem restE_mono {t : Nat → Nat → Bool} {s : List UInt8} {d d' : Int} (h : restE t s d = true) (hd : d ≤ d') : restE t s d' = true := by
 rw [restE_iff] at h ⊢
 obtain ⟨us, h1, h2⟩ := h
 exact ⟨us, fun r hr => ⟨(h1 r hr).1.mono hd, (h1 r hr).2⟩, h2⟩
theorem restE_nil {t : Nat → Nat → Bool} {d : Int} : restE t [] d = true := restE_iff.2 ⟨[], by simp, rfl⟩
theorem takenR_append (t : Nat → Nat → Bool) (a b : List Rec) : takenR t (a ++ b) = takenR t a ++ takenR t b := by simp [takenR]
theorem unkR_append (t : Nat → Nat → Bool) (a b : List Rec) : unkR t (a ++ b) = unkR t a ++ unkR t b := by simp [unkR]
theorem takenR_all {t : Nat → Nat → Bool} {rs : List Rec} (h : ∀ r ∈ rs, t r.num r.kind = true) : takenR t rs = rs ∧ unkR t rs = [] := by
 refine ⟨List.filter_eq_self.2 h, ?_⟩
 unfold unkR
 rw [List.filter_eq_nil_iff.2 fun r hr => by simp [h r hr]]; rfl
theorem takenR_none {t : Nat → Nat → Bool} {rs : List Rec} (h : ∀ r ∈ rs, t r.num r.kind = false) : takenR t rs = [] ∧ unkR t rs = rawsR rs := by
 refine ⟨List.filter_eq_nil_iff.2 fun r hr => by simp [h r hr], ?_⟩
 unfold unkR rawsR
 rw [List.filter_eq_self.2 fun r hr => by simp [h r hr]]
theorem readE_of {t : Nat → Nat → Bool} {d : Int} (hd : 0 ≤ d) {ks : List Rec} {u : List UInt8} (hk : ∀ r ∈ ks, RecOK d r ∧ t r.num r.kind = true) (hu : restE t u d = true) : readE (rawsR ks ++ u) d t = ⟨none, u, ks⟩ := by
 obtain ⟨us, h1, rfl⟩ := restE_iff.1 hu
 have h : allE (rawsR ks ++ rawsR us) d 0 = .ok (ks ++ us) := allE_iff.2 ⟨fun r hr => (List.mem_append.1 hr).elim (fun h => (hk r h).1) (fun h => (h1 r h).1), (rawsR_append ks us).symm⟩
 unfold readE
 rw [if_neg (by omega), h]
 dsimp only
 have e1 := takenR_all (t := t) (rs := ks) fun r hr => (hk r hr).2
 have e2 := takenR_none (t := t) (rs := us) fun r hr => (h1 r hr).2
 rw [takenR_append, unkR_append, e1.1, e1.2, e2.1, e2.2]
 simp
theorem raw_split (t : Nat → Nat → Bool) : ∀ rs, rawLen (takenR t rs) + (unkR t rs).length = rawLen rs
 | [] => by simp [takenR, unkR, rawLen]
 | r :: rs => by
  have := raw_split t rs
  cases h : t r.num r.kind <;> simp [takenR, unkR, rawLen, h] at * <;> omega
theorem unkR_rest {t : Nat → Nat → Bool} {d : Int} {rs : List Rec} (h : ∀ r ∈ rs, RecOK d r) : restE t (unkR t rs) d = true :=
 restE_iff.2 ⟨rs.filter fun r => !t r.num r.kind, fun r hr => ⟨h r (List.mem_filter.1 hr).1, by simpa using (List.mem_filter.1 hr).2⟩, rfl⟩
theorem readE_ok {t : Nat → Nat → Bool} {s : List UInt8} {d : Int} (h : (readE s d t).err = none) : 0 ≤ d ∧ restE t (readE s d t).unk d = true ∧ (∀ r ∈ (readE s d t).recs, RecOK d r ∧ t r.num r.kind = true) ∧ rawLen (readE s d t).recs + (readE s d t).unk.length = s.length := by
 unfold readE at h ⊢
 split
 ·rename_i h0; rw [if_pos h0] at h; cases h
 ·rename_i h0
  rw [if_neg h0] at h
  cases hv : allE s d 0 with
  | error e => rw [hv] at h; cases h
  | ok rs =>
   dsimp only
   obtain ⟨h1, h2⟩ := allE_iff.1 hv
   refine ⟨by omega, unkR_rest h1, fun r hr => ⟨h1 r (List.mem_filter.1 hr).1, (List.mem_filter.1 hr).2⟩, ?_⟩
   rw [raw_split, h2, rawsR_len]
theorem readE_mono {t : Nat → Nat → Bool} {s : List UInt8} {d d' : Int} (h : (readE s d t).err = none) (hd : d ≤ d') : readE s d' t = readE s d t := by
 unfold readE at h ⊢
 split at h
 ·cases h
 ·rename_i h0
  rw [if_neg (by omega), if_neg h0]
  split at h
  ·cases h
  ·rename_i rs hv
   rw [allE_mono hv hd]
end Go.Ai

namespace Go.Ai
def textB (num : Nat) (s : List UInt8) : List UInt8 := if s = [] then [] else bytesB num s
mutual
def writeV : Val → List UInt8
 | .mk k s b n l m i u => (if k = 1 then bytesB 1 s else if k = 2 then numB 2 (if b = true then 1 else n) else if k = 3 then numB 3 n else if k = 4 then fixB 4 n
   else if k = 5 then bytesB 5 (partsV l ++ i) else if k = 6 then bytesB 6 (partsK m ++ i) else if k = 7 then bytesB 7 s else []) ++ u
def partsV : List Val → List UInt8
 | [] => []
 | x :: xs => bytesB 1 (writeV x) ++ partsV xs
def writeK : KV → List UInt8
 | .mk k h v u => textB 1 k ++ ((if h = true then bytesB 2 (writeV v) else []) ++ u)
def partsK : List KV → List UInt8
 | [] => []
 | x :: xs => bytesB 1 (writeK x) ++ partsK xs
end
theorem partsV_eq : ∀ l, partsV l = rawsR (l.map fun x => bytesR 1 (writeV x))
 | [] => by rw [partsV]; rfl
 | x :: xs => by rw [partsV, partsV_eq xs]; rfl
theorem partsK_eq : ∀ l, partsK l = rawsR (l.map fun x => bytesR 1 (writeK x))
 | [] => by rw [partsK]; rfl
 | x :: xs => by rw [partsK, partsK_eq xs]; rfl
def bareV : Val → Bool
 | .mk k s b n l m i _ =>
  if k = 1 then textOk s && (n == 0 && !b && (l.isEmpty && m.isEmpty && i.isEmpty))
  else if k = 7 then n == 0 && !b && (l.isEmpty && m.isEmpty && i.isEmpty)
  else if k = 2 then s.isEmpty && n == 0 && (l.isEmpty && m.isEmpty && i.isEmpty)
  else if k = 3 ∨ k = 4 then s.isEmpty && !b && (l.isEmpty && m.isEmpty && i.isEmpty)
  else if k = 0 then s.isEmpty && n == 0 && !b && (l.isEmpty && m.isEmpty && i.isEmpty)
  else if k = 5 then s.isEmpty && n == 0 && !b && m.isEmpty
  else if k = 6 then s.isEmpty && n == 0 && !b && l.isEmpty
  else false
def Val.kind : Val → Int | .mk k _ _ _ _ _ _ _ => k
def Val.inner : Val → List UInt8 | .mk _ _ _ _ _ _ i _ => i
def Val.unk : Val → List UInt8 | .mk _ _ _ _ _ _ _ u => u
def Val.isZero : Val → Bool
 | .mk k s b n l m i u => k == 0 && s.isEmpty && !b && n == 0 && l.isEmpty && m.isEmpty && i.isEmpty && u.isEmpty
theorem Val.isZero_iff (x : Val) : x.isZero = true ↔ x = val0 := by
 obtain ⟨k, s, b, n, l, m, i, u⟩ := x
 simp [Val.isZero, val0, List.isEmpty_iff, and_assoc]
mutual
def mayV : Val → Int → Bool
 | .mk k s b n l m i u, d => decide (0 ≤ d) && bareV (.mk k s b n l m i u) && restE takesV u d &&
   (if k = 5 ∨ k = 6 then decide (1 ≤ d) && restE loneT i (d - 1) && mayVs l (d - 2) && mayKs m (d - 2) else true)
def mayVs : List Val → Int → Bool
 | [], _ => true
 | x :: xs, d => mayV x d && mayVs xs d
def mayK : KV → Int → Bool
 | .mk k h v u, d => decide (0 ≤ d) && textOk k && restE takesK u d && (if h = true then mayV v (d - 1) else v.isZero)
def mayKs : List KV → Int → Bool
 | [], _ => true
 | x :: xs, d => mayK x d && mayKs xs d
end
theorem mayVs_all {d : Int} : ∀ l, mayVs l d = l.all fun x => mayV x d
 | [] => by rw [mayVs]; rfl
 | x :: xs => by rw [mayVs, mayVs_all xs]; rfl
theorem mayKs_all {d : Int} : ∀ l, mayKs l d = l.all fun x => mayK x d
 | [] => by rw [mayKs]; rfl
 | x :: xs => by rw [mayKs, mayKs_all xs]; rfl
theorem listR_ok {α : Type} {rd : List UInt8 → α × Option Err} {wr : α → List UInt8} (en : Nat) : ∀ (l : List α), (∀ x ∈ l, rd (wr x) = (x, none)) → listR rd en 1 none (l.map fun x => bytesR 1 (wr x)) = (l, none)
 | [], _ => rfl
 | x :: xs, h => by
  have hx := h x (by simp)
  rw [List.map_cons, listR, if_pos (show (bytesR 1 (wr x)).num = 1 from rfl)]
  have e : (bytesR 1 (wr x)).s = wr x := rfl
  rw [e, hx]
  have hn : failO en 1 none none = none := rfl
  simp only
  have ih := listR_ok (rd := rd) en xs fun y hy => h y (by simp [hy])
  rw [show failO en ((1 : Nat) : Int) none none = none from rfl, ih]
theorem someR_ok {α : Type} {rd : List UInt8 → α × Option Err} {wr : α → List UInt8} {l : List α} {i : List UInt8} {d : Int} (hd : 0 ≤ d) (hl : ∀ x ∈ l, rd (wr x) = (x, none)) (hw : ∀ x ∈ l, (wr x).length < 18446744073709551616) (hi : restE loneT i d = true) :
  someR rd (rawsR (l.map fun x => bytesR 1 (wr x)) ++ i) d = ((l, i), none) := by
 have hr := readE_of (t := loneT) hd (ks := l.map fun x => bytesR 1 (wr x)) (u := i) (by
  intro r hr
  obtain ⟨x, hx, rfl⟩ := List.mem_map.1 hr
  exact ⟨bytesR_ok (by omega) (by omega) (hw x hx), rfl⟩) hi
 unfold someR
 rw [hr]
 dsimp only
 rw [listR_ok _ l hl]
theorem parts_len {α : Type} {wr : α → List UInt8} : ∀ {l : List α}, ∀ x ∈ l, (wr x).length ≤ (rawsR (l.map fun x => bytesR 1 (wr x))).length
 | y :: ys, x, hx => by
  rw [List.map_cons, rawsR_cons, List.length_append]
  rcases List.mem_cons.1 hx with rfl | hx
  ·have : (bytesR 1 (wr x)).raw = bytesB 1 (wr x) := rfl
   rw [this]
   simp only [bytesB, List.length_append]; omega
  ·have := parts_len (wr := wr) x hx; omega
theorem bytesB_len (num : Nat) (s : List UInt8) : s.length < (bytesB num s).length := by
 have : 1 ≤ (putV s.length).length := by simp [putV]
 simp only [bytesB, List.length_append]; omega
theorem back : (∀ x : Val, ∀ d : Int, mayV x d = true → (writeV x).length < 18446744073709551616 → x.wf → readV (writeV x) d = (x, none)) ∧
  ∀ x : KV, ∀ d : Int, mayK x d = true → (writeK x).length < 18446744073709551616 → x.wf → readK (writeK x) d = (x, none) := by
 refine Val.ind2 ?_ ?_
 ·intro k s b n l m i u ihl ihm d hm hlen hwf
  obtain ⟨hk, hs, hn, hll, hml, hil, hul, hwl, hwm⟩ := Val.wf_mk.1 hwf
  rw [mayV] at hm
  simp only [Bool.and_eq_true, decide_eq_true_eq] at hm
  obtain ⟨⟨⟨h0, hb⟩, hu⟩, hi⟩ := hm
  rw [writeV] at hlen ⊢
  rw [List.length_append] at hlen
  have flat : ∀ ks : List Rec, (∀ r ∈ ks, RecOK d r ∧ takesV r.num r.kind = true) → readE (rawsR ks ++ u) d takesV = ⟨none, u, ks⟩ := fun ks hks => readE_of h0 hks hu
  rw [readV, if_neg (by omega)]
  unfold bareV at hb
  by_cases k1 : k = 1
  ·subst k1
   simp at hb
   obtain ⟨hb1, ⟨rfl, rfl⟩, ⟨rfl, rfl⟩, rfl⟩ := hb
   have e := flat [bytesR 1 s] (by simp only [List.mem_singleton, forall_eq]; exact ⟨bytesR_ok (by omega) (by omega) (by unfold maxStr at hs; omega), rfl⟩)
   have e0 : rawsR [bytesR 1 s] = bytesB 1 s := by simp [bytesR]
   rw [e0] at e
   simp only [if_true]
   rw [e]
   have c : ∀ en, checkO en 1 none [bytesR 1 s] = none := fun en => by
    have := checkO_none en 1 [bytesR 1 s]
    simp [txts, bytesR, hb1] at this
    exact this
   simp only [c]
   simp [oneR, stepOne, bytesR, orNone]
  by_cases k7 : k = 7
  ·subst k7
   simp at hb
   obtain ⟨⟨rfl, rfl⟩, ⟨rfl, rfl⟩, rfl⟩ := hb
   have e := flat [bytesR 7 s] (by simp only [List.mem_singleton, forall_eq]; exact ⟨bytesR_ok (by omega) (by omega) (by unfold maxStr at hs; omega), rfl⟩)
   have e0 : rawsR [bytesR 7 s] = bytesB 7 s := by simp [bytesR]
   rw [e0] at e
   simp
   rw [e]
   simp [checkO, oneR, stepOne, bytesR, orNone]
  by_cases k2 : k = 2
  ·subst k2
   simp at hb
   obtain ⟨⟨rfl, rfl⟩, ⟨rfl, rfl⟩, rfl⟩ := hb
   have e := flat [numR 2 (if b = true then 1 else 0)] (by simp only [List.mem_singleton, forall_eq]; exact ⟨numR_ok (by omega) (by omega) (by split <;> omega), rfl⟩)
   have e0 : rawsR [numR 2 (if b = true then 1 else 0)] = numB 2 (if b = true then 1 else 0) := by simp [numR]
   rw [e0] at e
   simp
   rw [e]
   cases b <;> simp [checkO, oneR, stepOne, numR, orNone]
  by_cases k3 : k = 3
  ·subst k3
   simp at hb
   obtain ⟨⟨rfl, rfl⟩, ⟨rfl, rfl⟩, rfl⟩ := hb
   have e := flat [numR 3 n] (by simp only [List.mem_singleton, forall_eq]; exact ⟨numR_ok (by omega) (by omega) hn, rfl⟩)
   have e0 : rawsR [numR 3 n] = numB 3 n := by simp [numR]
   rw [e0] at e
   simp
   rw [e]
   simp [checkO, oneR, stepOne, numR, orNone]
  by_cases k4 : k = 4
  ·subst k4
   simp at hb
   obtain ⟨⟨rfl, rfl⟩, ⟨rfl, rfl⟩, rfl⟩ := hb
   have e := flat [fixR 4 n] (by simp only [List.mem_singleton, forall_eq]; exact ⟨fixR_ok (by omega) (by omega) hn, rfl⟩)
   have e0 : rawsR [fixR 4 n] = fixB 4 n := by simp [fixR]
   rw [e0] at e
   simp
   rw [e]
   simp [checkO, oneR, stepOne, fixR, orNone]
  by_cases k0 : k = 0
  ·subst k0
   simp at hb
   obtain ⟨⟨⟨rfl, rfl⟩, rfl⟩, ⟨rfl, rfl⟩, rfl⟩ := hb
   have e := flat [] (by simp)
   simp at e ⊢
   rw [e]
   simp [checkO, oneR, orNone]
  by_cases k5 : k = 5
  ·subst k5
   simp at hb
   obtain ⟨⟨⟨rfl, rfl⟩, rfl⟩, rfl⟩ := hb
   simp only [true_or, if_true, Bool.and_eq_true, decide_eq_true_eq] at hi
   obtain ⟨⟨⟨h1, hi⟩, hvs⟩, _⟩ := hi
   rw [mayVs_all, List.all_eq_true] at hvs
   simp at hlen ⊢
   rw [partsV_eq] at hlen ⊢
   have hpl := bytesB_len 5 (rawsR (l.map fun x => bytesR 1 (writeV x)) ++ i)
   have hpl2 : (rawsR (l.map fun x => bytesR 1 (writeV x)) ++ i).length < 18446744073709551616 := by omega
   have hpl3 := hpl2
   rw [List.length_append] at hpl3
   have e := flat [bytesR 5 (rawsR (l.map fun x => bytesR 1 (writeV x)) ++ i)] (by simp only [List.mem_singleton, forall_eq]; exact ⟨bytesR_ok (by omega) (by omega) hpl2, rfl⟩)
   have e0 : rawsR [bytesR 5 (rawsR (l.map fun x => bytesR 1 (writeV x)) ++ i)] = bytesB 5 (rawsR (l.map fun x => bytesR 1 (writeV x)) ++ i) := by simp [bytesR]
   rw [e0] at e
   rw [e]
   have hw : ∀ x ∈ l, (writeV x).length < 18446744073709551616 := fun x hx => by have := parts_len (wr := writeV) x hx; omega
   have es := someR_ok (rd := fun t => readV t (d - 2)) (wr := writeV) (l := l) (i := i) (d := d - 1) (by omega) (fun x hx => ihl x hx (d - 2) (hvs x hx) (hw x hx) (hwl x hx)) hw hi
   simp [checkO, oneR, stepOne, bytesR] at es ⊢
   rw [es]
   simp [failO, orNone]
  by_cases k6 : k = 6
  ·subst k6
   simp at hb
   obtain ⟨⟨⟨rfl, rfl⟩, rfl⟩, rfl⟩ := hb
   simp only [or_true, if_true, Bool.and_eq_true, decide_eq_true_eq] at hi
   obtain ⟨⟨⟨h1, hi⟩, _⟩, hks⟩ := hi
   rw [mayKs_all, List.all_eq_true] at hks
   simp at hlen ⊢
   rw [partsK_eq] at hlen ⊢
   have hpl := bytesB_len 6 (rawsR (m.map fun x => bytesR 1 (writeK x)) ++ i)
   have hpl2 : (rawsR (m.map fun x => bytesR 1 (writeK x)) ++ i).length < 18446744073709551616 := by omega
   have hpl3 := hpl2
   rw [List.length_append] at hpl3
   have e := flat [bytesR 6 (rawsR (m.map fun x => bytesR 1 (writeK x)) ++ i)] (by simp only [List.mem_singleton, forall_eq]; exact ⟨bytesR_ok (by omega) (by omega) hpl2, rfl⟩)
   have e0 : rawsR [bytesR 6 (rawsR (m.map fun x => bytesR 1 (writeK x)) ++ i)] = bytesB 6 (rawsR (m.map fun x => bytesR 1 (writeK x)) ++ i) := by simp [bytesR]
   rw [e0] at e
   rw [e]
   have hw : ∀ x ∈ m, (writeK x).length < 18446744073709551616 := fun x hx => by have := parts_len (wr := writeK) x hx; omega
   have es := someR_ok (rd := fun t => readK t (d - 2)) (wr := writeK) (l := m) (i := i) (d := d - 1) (by omega) (fun x hx => ihm x hx (d - 2) (hks x hx) (hw x hx) (hwm x hx)) hw hi
   simp [checkO, oneR, stepOne, bytesR] at es ⊢
   rw [es]
   simp [failO, orNone]
  ·simp [k1, k2, k3, k4, k5, k6, k7, k0] at hb
 ·intro key has v u ih d hm hlen hwf
  obtain ⟨hkl, hul, hwv⟩ := KV.wf_mk.1 hwf
  rw [mayK] at hm
  simp only [Bool.and_eq_true, decide_eq_true_eq] at hm
  obtain ⟨⟨⟨h0, hk⟩, hu⟩, hv⟩ := hm
  rw [writeK] at hlen ⊢
  rw [List.length_append, List.length_append] at hlen
  have hks : ∀ d : Int, ∀ r ∈ (if key = [] then [] else [bytesR 1 key]) ++ (if has = true then [bytesR 2 (writeV v)] else []), RecOK d r ∧ takesK r.num r.kind = true := by
   intro d r hr
   rcases List.mem_append.1 hr with hr | hr
   ·split at hr
    ·cases hr
    ·simp only [List.mem_singleton] at hr; subst hr
     exact ⟨bytesR_ok (by omega) (by omega) (by unfold maxStr at hkl; omega), rfl⟩
   ·split at hr
    ·rename_i hh
     rw [if_pos hh] at hlen
     have := bytesB_len 2 (writeV v)
     simp only [List.mem_singleton] at hr; subst hr
     exact ⟨bytesR_ok (by omega) (by omega) (by omega), rfl⟩
    ·cases hr
  have e := readE_of (t := takesK) h0 (hks d) hu
  have e0 : rawsR ((if key = [] then [] else [bytesR 1 key]) ++ (if has = true then [bytesR 2 (writeV v)] else [])) ++ u = textB 1 key ++ ((if has = true then bytesB 2 (writeV v) else []) ++ u) := by
   rw [rawsR_append, List.append_assoc]
   unfold textB
   by_cases h1 : key = [] <;> cases has <;> simp [h1, bytesR]
  rw [e0] at e
  rw [readK, if_neg (by omega), e]
  dsimp only
  have hn2 : ∀ s : List UInt8, (bytesR 2 s).num = 2 := fun _ => rfl
  have hn1 : ∀ s : List UInt8, (bytesR 1 s).num = 1 := fun _ => rfl
  have hs1 : ∀ n (s : List UInt8), (bytesR n s).s = s := fun _ _ => rfl
  have hck : ∀ en, checkO en 1 none ((if key = [] then [] else [bytesR 1 key]) ++ (if has = true then [bytesR 2 (writeV v)] else [])) = none := fun en => by
   have := checkO_none en 1 ((if key = [] then [] else [bytesR 1 key]) ++ (if has = true then [bytesR 2 (writeV v)] else []))
   have h2 : txts 1 ((if key = [] then [] else [bytesR 1 key]) ++ (if has = true then [bytesR 2 (writeV v)] else [])) = true := by
    by_cases h1 : key = [] <;> cases has <;> simp [txts, h1, hn1, hn2, hs1, hk]
   rw [h2] at this
   simpa using this
  rw [hck]
  have hla : (lastR 1 ((if key = [] then [] else [bytesR 1 key]) ++ (if has = true then [bytesR 2 (writeV v)] else []))).s = key := by
   by_cases h1 : key = [] <;> cases has <;> simp [lastR, h1, hn1, hn2, hs1]
  rw [hla]
  cases has with
  | false =>
   have : v = val0 := (Val.isZero_iff v).1 (by simpa using hv)
   subst this
   by_cases h1 : key = [] <;> simp [h1, hn1, failO, orNone]
  | true =>
   simp only [if_true] at hv hlen
   have := bytesB_len 2 (writeV v)
   have hr := ih (d - 1) hv (by omega) hwv
   have hj : joinR 2 ((if key = [] then [] else [bytesR 1 key]) ++ (if true = true then [bytesR 2 (writeV v)] else [])) = writeV v := by
    by_cases h1 : key = [] <;> simp [joinR, h1, hn1, hn2, hs1]
   have ha : (((if key = [] then [] else [bytesR 1 key]) ++ (if true = true then [bytesR 2 (writeV v)] else [])).any fun r => r.num == 2) = true := by
    by_cases h1 : key = [] <;> simp [h1, hn1, hn2]
   rw [hj, ha, if_pos rfl, hr]
   simp [failO, orNone]
theorem readV_writeV {x : Val} {d : Int} (hm : mayV x d = true) (hl : (writeV x).length < 18446744073709551616) (hw : x.wf) : readV (writeV x) d = (x, none) := back.1 x d hm hl hw
theorem readK_writeK {x : KV} {d : Int} (hm : mayK x d = true) (hl : (writeK x).length < 18446744073709551616) (hw : x.wf) : readK (writeK x) d = (x, none) := back.2 x d hm hl hw
end Go.Ai

namespace Go.Ai
theorem putV_pos (n : Nat) : 1 ≤ (putV n).length := by simp [putV]
theorem putV_pow : ∀ n : Nat, n < 128 ^ (putV n).length := by
 intro n
 induction n using Nat.strongRecOn with
 | ind n ih =>
  by_cases h : n < 128
  ·rw [putV_small h]; simpa using h
  ·rw [putV_big h, List.length_cons, Nat.pow_succ]
   have := ih (n / 128) (by omega)
   omega
theorem putV_le {n k : Nat} (hk : 1 ≤ k) (h : n < 128 ^ k) : (putV n).length ≤ k := by
 have := putInit_len n (k - 1) (by rwa [show k - 1 + 1 = k by omega])
 simp only [putV, List.length_append, List.length_cons, List.length_nil]; omega
theorem putV_mono {a b : Nat} (h : a ≤ b) : (putV a).length ≤ (putV b).length := putV_le (putV_pos b) (Nat.lt_of_le_of_lt h (putV_pow b))
theorem putV_add (a b : Nat) : (putV (a + b)).length ≤ (putV a).length + (putV b).length := by
 refine putV_le (by have := putV_pos a; omega) ?_
 have ha := putV_pow a
 have hb := putV_pow b
 have h1 : 2 ≤ 128 ^ (putV a).length := Nat.le_trans (by omega) (Nat.pow_le_pow_right (by omega) (putV_pos a))
 have h2 : 2 ≤ 128 ^ (putV b).length := Nat.le_trans (by omega) (Nat.pow_le_pow_right (by omega) (putV_pos b))
 rw [Nat.pow_add]
 generalize 128 ^ (putV a).length = x at *
 generalize 128 ^ (putV b).length = y at *
 have : x + y ≤ x * y := by
  obtain ⟨x', rfl⟩ : ∃ x', x = x' + 2 := ⟨x - 2, by omega⟩
  obtain ⟨y', rfl⟩ : ∃ y', y = y' + 2 := ⟨y - 2, by omega⟩
  have : (x' + 2) * (y' + 2) = x' * y' + 2 * x' + 2 * y' + 4 := by rw [Nat.add_mul, Nat.mul_add, Nat.mul_add]; omega
  omega
 omega
theorem bytesB_length (num : Nat) (s : List UInt8) : (bytesB num s).length = (tagB num 2).length + (putV s.length).length + s.length := by
 simp only [bytesB, List.length_append]; omega
theorem tagB_len {num k k' : Nat} (h : k < 8) (h' : k' < 8) : (tagB num k).length = (tagB num k').length := by
 have key : ∀ k k' : Nat, k < 8 → k' < 8 → (tagB num k).length ≤ (tagB num k').length := by
  intro k k' h h'
  unfold tagB
  refine putV_le (putV_pos _) ?_
  have := putV_pow (num * 8 + k')
  have hp := putV_pos (num * 8 + k')
  obtain ⟨j, hj⟩ : ∃ j, (putV (num * 8 + k')).length = j + 1 := ⟨_, (Nat.sub_add_cancel hp).symm⟩
  rw [hj, Nat.pow_succ] at this ⊢
  omega
 exact Nat.le_antisymm (key k k' h h') (key k' k h' h)
theorem bytesB_mono {num : Nat} {s t : List UInt8} (h : s.length ≤ t.length) : (bytesB num s).length ≤ (bytesB num t).length := by
 rw [bytesB_length, bytesB_length]
 have := putV_mono h
 omega
theorem bytesB_add (num : Nat) (s t : List UInt8) : (bytesB num (s ++ t)).length + 1 ≤ (bytesB num s).length + (bytesB num t).length := by
 rw [bytesB_length, bytesB_length, bytesB_length, List.length_append]
 have h1 := putV_add s.length t.length
 have h2 := putV_pos (num * 8 + 2)
 unfold tagB; omega
theorem recOK_least {d : Int} {r : Rec} (h : RecOK d r) : (r.kind = 0 → (numB r.num r.n).length ≤ r.raw.length ∧ r.s = []) ∧ (r.kind = 1 → (fixB r.num r.n).length ≤ r.raw.length ∧ r.s = []) ∧ (r.kind = 2 → (bytesB r.num r.s).length ≤ r.raw.length) := by
 have b := recE_lt h
 unfold RecOK recE at h
 split at h
 ·cases h
 ·rename_i num kind q ht
  obtain ⟨⟨n, bs, e⟩, hb, h2⟩ := map_ok h
  simp only [Prod.mk.injEq] at h2
  obtain ⟨h2, rfl⟩ := h2
  have hnum : r.num = num := by rw [← h2]
  have hkind : r.kind = kind := by rw [← h2]
  have hn : r.n = n := by rw [← h2]
  have hs : r.s = bs := by rw [← h2]
  have h1 := tagE_lt ht
  have htag : (tagB num kind).length ≤ q := by
   unfold tagE at ht
   split at ht
   ·cases ht
   ·rename_i m q' hg
    split at ht
    ·cases ht
    ·simp only [Except.ok.injEq, Prod.mk.injEq] at ht
     obtain ⟨e1, e2, rfl⟩ := ht
     unfold vgetE at hg
     split at hg
     ·rename_i m' k' hr
      simp only [Except.ok.injEq, Prod.mk.injEq] at hg
      obtain ⟨rfl, e3⟩ := hg
      have := vread_least hr
      unfold tagB
      rw [show num * 8 + kind = m' by omega]; omega
     ·cases hg
  rw [hnum, hkind, hn, hs]
  clear h2
  rw [bodyE] at hb
  refine ⟨fun k0 => ?_, fun k1 => ?_, fun k2 => ?_⟩
  ·rw [if_pos k0] at hb
   obtain ⟨⟨n', e'⟩, g1, g2⟩ := map_ok hb
   simp only [Prod.mk.injEq] at g2
   obtain ⟨rfl, rfl, rfl⟩ := g2
   unfold vgetE at g1
   split at g1
   ·rename_i m' k' hr
    simp only [Except.ok.injEq, Prod.mk.injEq] at g1
    obtain ⟨rfl, e3⟩ := g1
    have := vread_least hr
    rw [k0] at htag
    refine ⟨?_, rfl⟩
    simp only [numB, List.length_append]; omega
   ·cases g1
  ·rw [if_neg (by omega), if_pos k1] at hb
   obtain ⟨⟨n', e'⟩, g1, g2⟩ := map_ok hb
   simp only [Prod.mk.injEq] at g2
   obtain ⟨rfl, rfl, rfl⟩ := g2
   have := takeE_lt g1 h1.2.1
   rw [k1] at htag
   refine ⟨?_, rfl⟩
   simp only [fixB, List.length_append, leB_len]; omega
  ·rw [if_neg (by omega), if_neg (by omega), if_neg (by omega), if_pos k2] at hb
   split at hb
   ·cases hb
   ·rename_i n1 e1 hg
    obtain ⟨⟨n', e'⟩, g1, g2⟩ := map_ok hb
    simp only [Prod.mk.injEq] at g2
    obtain ⟨rfl, rfl, rfl⟩ := g2
    have hv := vgetE_lt hg h1.2.1
    have ht := takeE_lt g1 hv.2.2.1
    unfold vgetE at hg
    split at hg
    ·rename_i m' k' hr
     simp only [Except.ok.injEq, Prod.mk.injEq] at hg
     obtain ⟨rfl, e3⟩ := hg
     have := vread_least hr
     rw [k2] at htag
     rw [bytesB_length, ht.2.2.1]; omega
    ·cases hg
theorem recOK_bytes {d : Int} {r : Rec} (h : RecOK d r) (hk : r.kind = 0 ∨ r.kind = 1 ∨ r.kind = 2) : (bytesB r.num r.s).length ≤ r.raw.length := by
 have l := recOK_least h
 rcases hk with hk | hk | hk
 ·have := l.1 hk
  rw [this.2]
  have h1 := this.1
  have h2 := tagB_len (num := r.num) (k := 2) (k' := 0) (by omega) (by omega)
  have h3 := putV_pos r.n
  have h4 : (putV ([] : List UInt8).length).length = 1 := by rw [putV_small (by simp)]; rfl
  rw [bytesB_length, h4]
  simp only [numB, List.length_append, List.length_nil] at h1 ⊢; omega
 ·have := l.2.1 hk
  rw [this.2]
  have h1 := this.1
  have h2 := tagB_len (num := r.num) (k := 2) (k' := 1) (by omega) (by omega)
  have h4 : (putV ([] : List UInt8).length).length = 1 := by rw [putV_small (by simp)]; rfl
  rw [bytesB_length, h4]
  simp only [fixB, List.length_append, List.length_nil, leB_len] at h1 ⊢; omega
 ·exact l.2.2 hk
theorem rawLen_mem {rs : List Rec} {r : Rec} (h : r ∈ rs) : r.raw.length ≤ rawLen rs := by
 induction rs with
 | nil => cases h
 | cons x xs ih =>
  rw [rawLen_cons]
  rcases List.mem_cons.1 h with rfl | h
  ·omega
  ·have := ih h; omega
theorem takesV_kind {num kind : Nat} (h : takesV num kind = true) : (num = 1 ∨ num = 5 ∨ num = 6 ∨ num = 7) ∧ kind = 2 ∨ (num = 2 ∨ num = 3) ∧ kind = 0 ∨ num = 4 ∧ kind = 1 := by
 unfold takesV at h
 split at h <;> simp at h <;> omega
theorem oneR_cost : ∀ (rs : List Rec) (o : OneR) (d : Int), (∀ r ∈ rs, RecOK d r ∧ takesV r.num r.kind = true) → (o.num ≠ 0 → o.all ≠ []) →
  let o' := rs.foldl (stepOne [1, 2, 3, 4, 5, 6, 7]) o
  (o'.num ≠ 0 → o'.all ≠ []) ∧ (o'.num ≠ 0 → (bytesB o'.num o'.all.flatten).length ≤ (if o.num = 0 then 0 else (bytesB o.num o.all.flatten).length) + rawLen rs)
 | [], o, d, _, h0 => by
  refine ⟨h0, fun h => ?_⟩
  dsimp only [List.foldl_nil] at h ⊢
  rw [if_neg h]; omega
 | r :: rs, o, d, hr, h0 => by
  have hx := hr r (by simp)
  have hk := takesV_kind hx.2
  have hc : [1, 2, 3, 4, 5, 6, 7].contains r.num = true := by
   rcases hk with ⟨h | h | h | h, _⟩ | ⟨h | h, _⟩ | ⟨h, _⟩ <;> rw [h] <;> rfl
  have hstep : stepOne [1, 2, 3, 4, 5, 6, 7] o r = ⟨r.num, r.n, r.s, (if r.num = o.num then o.all else []) ++ [r.s]⟩ := by rw [stepOne, if_pos hc]
  have hb := recOK_bytes hx.1 (by omega)
  have ih := oneR_cost rs (stepOne [1, 2, 3, 4, 5, 6, 7] o r) d (fun x hx => hr x (by simp [hx])) (by rw [hstep]; simp)
  rw [List.foldl_cons]
  refine ⟨ih.1, fun h => ?_⟩
  have i2 := ih.2 h
  refine Nat.le_trans i2 ?_
  rw [hstep, rawLen_cons]
  dsimp only
  have hn0 : r.num ≠ 0 := by omega
  rw [if_neg hn0]
  by_cases he : r.num = o.num
  ·rw [if_pos he]
   have ho : o.num ≠ 0 := by omega
   rw [if_neg ho]
   have := bytesB_add r.num o.all.flatten r.s
   rw [show (o.all ++ [r.s]).flatten = o.all.flatten ++ r.s by simp, ← he]
   omega
  ·rw [if_neg he]
   simp only [List.nil_append, List.flatten_cons, List.flatten_nil, List.append_nil]
   omega
theorem oneR_cost0 {rs : List Rec} {d : Int} (h : ∀ r ∈ rs, RecOK d r ∧ takesV r.num r.kind = true) (hn : (oneR [1, 2, 3, 4, 5, 6, 7] rs).num ≠ 0) : (bytesB (oneR [1, 2, 3, 4, 5, 6, 7] rs).num (oneR [1, 2, 3, 4, 5, 6, 7] rs).all.flatten).length ≤ rawLen rs := by
 have := (oneR_cost rs ⟨0, 0, [], []⟩ d h (by simp)).2 hn
 rw [if_pos rfl, Nat.zero_add] at this
 exact this
theorem listR_none {α : Type} (rd : List UInt8 → α × Option Err) (en : Nat) : ∀ (rs : List Rec) (e : Option Err), (listR rd en 1 e rs).2 = none → e = none ∧ ∀ r ∈ rs, r.num = 1 → (rd r.s).2 = none
 | [], e, h => ⟨h, by simp⟩
 | r :: rs, e, h => by
  rw [listR] at h
  split at h
  ·have ih := listR_none rd en rs _ h
   have h1 := ih.1
   cases e with
   | some x => simp [failO] at h1
   | none =>
    refine ⟨rfl, List.forall_mem_cons.2 ⟨fun _ => ?_, ih.2⟩⟩
    cases hr : (rd r.s).2 with
    | none => rfl
    | some x => rw [hr] at h1; simp [failO] at h1
  ·rename_i hn
   have ih := listR_none rd en rs _ h
   exact ⟨ih.1, List.forall_mem_cons.2 ⟨fun h => absurd h hn, ih.2⟩⟩
theorem listR_map {α : Type} (rd : List UInt8 → α × Option Err) (en : Nat) : ∀ (rs : List Rec) (e : Option Err), (∀ r ∈ rs, r.num = 1) → (listR rd en 1 e rs).1 = rs.map fun r => (rd r.s).1
 | [], e, _ => rfl
 | r :: rs, e, h => by
  rw [listR, if_pos (h r (by simp))]
  simp only [List.map_cons]
  rw [listR_map rd en rs _ fun x hx => h x (by simp [hx])]
theorem loneT_num {num kind : Nat} (h : loneT num kind = true) : num = 1 ∧ kind = 2 := by simpa [loneT] using h
theorem someR_parts {α : Type} {rd : List UInt8 → α × Option Err} {wr : α → List UInt8} {q : α → Prop} {s : List UInt8} {d : Int} (h : (someR rd s d).2 = none) (hq : ∀ t, (rd t).2 = none → q (rd t).1 ∧ (wr (rd t).1).length ≤ t.length) :
  0 ≤ d ∧ restE loneT (someR rd s d).1.2 d = true ∧ (∀ x ∈ (someR rd s d).1.1, q x) ∧ (rawsR ((someR rd s d).1.1.map fun x => bytesR 1 (wr x)) ++ (someR rd s d).1.2).length ≤ s.length := by
 unfold someR at h ⊢
 dsimp only at h ⊢
 have hl := listR_none rd s.length _ _ h
 obtain ⟨h0, h1, h2, h3⟩ := readE_ok hl.1
 have hnum : ∀ r ∈ (readE s d loneT).recs, r.num = 1 := fun r hr => (loneT_num (h2 r hr).2).1
 rw [listR_map rd _ _ _ hnum]
 refine ⟨h0, h1, ?_, ?_⟩
 ·intro x hx
  obtain ⟨r, hr, rfl⟩ := List.mem_map.1 hx
  exact (hq r.s (hl.2 r hr (hnum r hr))).1
 ·have key : ∀ rs : List Rec, (∀ r ∈ rs, RecOK d r ∧ loneT r.num r.kind = true ∧ (rd r.s).2 = none) → (rawsR ((rs.map fun r => (rd r.s).1).map fun x => bytesR 1 (wr x))).length ≤ rawLen rs := by
   intro rs
   induction rs with
   | nil => intro _; simp [rawLen]
   | cons r rs ih =>
    intro hr
    have hx := hr r (by simp)
    have := ih fun x hx => hr x (by simp [hx])
    rw [List.map_cons, List.map_cons, rawsR_cons, rawLen_cons, List.length_append]
    have e : (bytesR 1 (wr (rd r.s).1)).raw = bytesB 1 (wr (rd r.s).1) := rfl
    rw [e]
    have hn := loneT_num hx.2.1
    have b1 := (recOK_least hx.1).2.2 hn.2
    rw [hn.1] at b1
    have b2 := bytesB_mono (num := 1) (hq r.s hx.2.2).2
    omega
  have := key _ fun r hr => ⟨(h2 r hr).1, (h2 r hr).2, hl.2 r hr (hnum r hr)⟩
  rw [List.length_append]; omega
theorem txts_mem {num : Nat} {rs : List Rec} (h : txts num rs = true) {r : Rec} (hr : r ∈ rs) (hn : r.num = num) : textOk r.s = true := by
 have := List.all_eq_true.1 h r hr
 simpa [hn] using this
theorem checkO_none2 {en num : Nat} {e : Option Err} {rs : List Rec} (h : checkO en num e rs = none) : e = none ∧ txts num rs = true := by
 cases e with
 | some x => rw [checkO_some] at h; cases h
 | none =>
  have := checkO_none en num rs
  rw [h] at this
  exact ⟨rfl, this.symm⟩
theorem textOk_nil : textOk [] = true := by
 unfold textOk uBad
 have : uWhole [] 0 = 0 := by rw [uWhole]; simp
 simp [this]
theorem numB_two (num n : Nat) (hn : n ≤ 1) (m : Nat) : (numB num n).length ≤ (numB num m).length := by
 simp only [numB, List.length_append]
 have h1 := putV_pos m
 have h2 : (putV n).length = 1 := by rw [putV_small (by omega)]; rfl
 omega
theorem filter_raw (f g : Rec → Bool) (hfg : ∀ r, f r = true → g r = true → False) : ∀ rs, rawLen (rs.filter f) + rawLen (rs.filter g) ≤ rawLen rs
 | [] => by simp [rawLen]
 | r :: rs => by
  have := filter_raw f g hfg rs
  rw [List.filter_cons, List.filter_cons, rawLen_cons]
  cases hf : f r <;> cases hg : g r
  ·simp; omega
  ·simp [rawLen_cons]; omega
  ·simp [rawLen_cons]; omega
  ·exact (hfg r hf hg).elim
theorem join_cost {d : Int} (num : Nat) : ∀ rs : List Rec, rs ≠ [] → (∀ r ∈ rs, RecOK d r ∧ r.num = num ∧ r.kind = 2) → (bytesB num (rs.map (·.s)).flatten).length ≤ rawLen rs
 | [], h, _ => absurd rfl h
 | r :: rs, _, h => by
  have hx := h r (by simp)
  have b := (recOK_least hx.1).2.2 hx.2.2
  rw [hx.2.1] at b
  rw [rawLen_cons, List.map_cons, List.flatten_cons]
  cases rs with
  | nil => simp; omega
  | cons y ys =>
   have := join_cost num (y :: ys) (by simp) fun x hx => h x (List.mem_cons_of_mem _ hx)
   have := bytesB_add num r.s ((y :: ys).map (·.s)).flatten
   omega
theorem twice : ∀ (m : Nat) (d : Int), (d + 1).toNat ≤ m → (∀ s, (readV s d).2 = none → mayV (readV s d).1 d = true ∧ (writeV (readV s d).1).length ≤ s.length) ∧ ∀ s, (readK s d).2 = none → mayK (readK s d).1 d = true ∧ (writeK (readK s d).1).length ≤ s.length := by
 intro m
 induction m with
 | zero =>
  intro d hm
  have h0 : d < 0 := by omega
  refine ⟨fun s h => ?_, fun s h => ?_⟩
  ·rw [readV, if_pos h0] at h; simp [readE, h0] at h
  ·rw [readK, if_pos h0] at h; simp [readE, h0] at h
 | succ m ih =>
  intro d hm
  by_cases h0 : d < 0
  ·refine ⟨fun s h => ?_, fun s h => ?_⟩
   ·rw [readV, if_pos h0] at h; simp [readE, h0] at h
   ·rw [readK, if_pos h0] at h; simp [readE, h0] at h
  have i1 := ih (d - 1) (by omega)
  have i2 := ih (d - 2) (by omega)
  refine ⟨fun s h => ?_, fun s h => ?_⟩
  ·rw [readV, if_neg h0] at h ⊢
   dsimp only at h ⊢
   rw [orNone_err] at h
   have hkeep : ∀ r : Val × Option Err, r.2 = none → (orNone val0 r).1 = r.1 := fun r hr => by unfold orNone; rw [hr]; rfl
   rw [hkeep _ h]
   have hm : (readE s d takesV).err = none ∧ txts 1 (readE s d takesV).recs = true := by
    refine checkO_none2 (en := s.length) ?_
    (repeat' split at h) <;> first | exact h | skip
    ·cases hc : checkO s.length 1 (readE s d takesV).err (readE s d takesV).recs with
     | none => rfl
     | some x => rw [hc] at h; cases h
    ·cases hc : checkO s.length 1 (readE s d takesV).err (readE s d takesV).recs with
     | none => rfl
     | some x => rw [hc] at h; cases h
   obtain ⟨hd0, hu, hrs, hlen⟩ := readE_ok hm.1
   have hc : checkO s.length 1 (readE s d takesV).err (readE s d takesV).recs = none := by
    have := checkO_none s.length 1 (readE s d takesV).recs
    rw [hm.1, ← Option.isNone_iff_eq_none, this, hm.2]
   rw [hc] at h ⊢
   have hmem := oneR_mem [1, 2, 3, 4, 5, 6, 7] (readE s d takesV).recs ⟨0, 0, [], []⟩
   change (oneR [1, 2, 3, 4, 5, 6, 7] (readE s d takesV).recs).num = 0 ∧ (oneR [1, 2, 3, 4, 5, 6, 7] (readE s d takesV).recs).n = 0 ∧ (oneR [1, 2, 3, 4, 5, 6, 7] (readE s d takesV).recs).s = [] ∨ ∃ r ∈ (readE s d takesV).recs, (oneR [1, 2, 3, 4, 5, 6, 7] (readE s d takesV).recs).num = r.num ∧ (oneR [1, 2, 3, 4, 5, 6, 7] (readE s d takesV).recs).n = r.n ∧ (oneR [1, 2, 3, 4, 5, 6, 7] (readE s d takesV).recs).s = r.s at hmem
   have hcost := oneR_cost0 hrs
   generalize oneR [1, 2, 3, 4, 5, 6, 7] (readE s d takesV).recs = o at *
   generalize (readE s d takesV).unk = u at *
   have hmay : ∀ (k : Int) (ss : List UInt8) (b : Bool) (n : Nat), k ≠ 5 → k ≠ 6 → bareV (.mk k ss b n [] [] [] u) = true → mayV (.mk k ss b n [] [] [] u) d = true := by
    intro k ss b n h5 h6 hb
    rw [mayV, hb, hu]
    simp [h5, h6, hd0]
   rcases hmem with ⟨e1, e2, e3⟩ | ⟨r, hr, e1, e2, e3⟩
   ·simp only [e1, e2, e3]
    simp
    refine ⟨hmay 0 [] false 0 (by omega) (by omega) rfl, ?_⟩
    rw [writeV]; simp; omega
   ·have hx := hrs r hr
    have hk := takesV_kind hx.2
    have hl := recOK_least hx.1
    have hraw := rawLen_mem hr
    have ho0 : o.num ≠ 0 := by omega
    have hcost := hcost ho0
    rw [e1] at hcost h ⊢
    rw [e2, e3]
    by_cases k1 : r.num = 1
    ·have ht := txts_mem hm.2 hr k1
     have hb := hl.2.2 (by omega)
     rw [k1] at hb ⊢
     simp
     refine ⟨hmay 1 r.s false 0 (by omega) (by omega) (by simp [bareV, ht]), ?_⟩
     rw [writeV]; simp; omega
    by_cases k7 : r.num = 7
    ·have hb := hl.2.2 (by omega)
     rw [k7] at hb ⊢
     simp
     refine ⟨hmay 7 r.s false 0 (by omega) (by omega) (by simp [bareV]), ?_⟩
     rw [writeV]; simp; omega
    by_cases k2 : r.num = 2
    ·have hb := (hl.1 (by omega)).1
     rw [k2] at hb ⊢
     simp
     refine ⟨hmay 2 [] _ 0 (by omega) (by omega) (by simp [bareV]), ?_⟩
     have hb2 := numB_two 2 (if 0 < r.n then 1 else 0) (by split <;> omega) r.n
     rw [writeV]; simp; omega
    by_cases k3 : r.num = 3
    ·have hb := (hl.1 (by omega)).1
     rw [k3] at hb ⊢
     simp
     refine ⟨hmay 3 [] false r.n (by omega) (by omega) (by simp [bareV]), ?_⟩
     rw [writeV]; simp; omega
    by_cases k4 : r.num = 4
    ·have hb := (hl.2.1 (by omega)).1
     rw [k4] at hb ⊢
     simp
     refine ⟨hmay 4 [] false r.n (by omega) (by omega) (by simp [bareV]), ?_⟩
     rw [writeV]; simp; omega
    by_cases k5 : r.num = 5
    ·rw [k5] at hcost h ⊢
     simp at h ⊢
     have hy : (someR (fun t => readV t (d - 2)) o.all.flatten (d - 1)).2 = none := by
      cases hy : (someR (fun t => readV t (d - 2)) o.all.flatten (d - 1)).2 with
      | none => rfl
      | some x => rw [hy] at h; simp [failO] at h
     obtain ⟨p1, p2, p3, p4⟩ := someR_parts (wr := writeV) (q := fun x => mayV x (d - 2) = true) hy fun t ht => i2.1 t ht
     generalize someR (fun t => readV t (d - 2)) o.all.flatten (d - 1) = y at *
     refine ⟨?_, ?_⟩
     ·rw [mayV, mayVs_all, mayKs_all]
      simp only [hu, p2, Bool.and_eq_true, decide_eq_true_eq, List.all_eq_true, true_or, if_true, and_true]
      exact ⟨⟨hd0, by simp [bareV]⟩, ⟨by omega, p3⟩, by simp⟩
     ·rw [writeV, partsV_eq]
      simp
      have := bytesB_mono (num := 5) p4
      omega
    by_cases k6 : r.num = 6
    ·rw [k6] at hcost h ⊢
     simp at h ⊢
     have hy : (someR (fun t => readK t (d - 2)) o.all.flatten (d - 1)).2 = none := by
      cases hy : (someR (fun t => readK t (d - 2)) o.all.flatten (d - 1)).2 with
      | none => rfl
      | some x => rw [hy] at h; simp [failO] at h
     obtain ⟨p1, p2, p3, p4⟩ := someR_parts (wr := writeK) (q := fun x => mayK x (d - 2) = true) hy fun t ht => i2.2 t ht
     generalize someR (fun t => readK t (d - 2)) o.all.flatten (d - 1) = y at *
     refine ⟨?_, ?_⟩
     ·rw [mayV, mayVs_all, mayKs_all]
      simp only [hu, p2, Bool.and_eq_true, decide_eq_true_eq, List.all_eq_true, or_true, if_true, and_true]
      exact ⟨⟨hd0, by simp [bareV]⟩, ⟨by omega, by simp⟩, p3⟩
     ·rw [writeV, partsK_eq]
      simp
      have := bytesB_mono (num := 6) p4
      omega
    ·omega
  ·rw [readK, if_neg h0] at h ⊢
   dsimp only at h ⊢
   rw [orNone_err] at h
   have hkeep : ∀ r : KV × Option Err, r.2 = none → (orNone kv0 r).1 = r.1 := fun r hr => by unfold orNone; rw [hr]; rfl
   rw [hkeep _ h]
   dsimp only at h ⊢
   have hcn : checkO s.length 1 (readE s d takesK).err (readE s d takesK).recs = none := by
    cases hc : checkO s.length 1 (readE s d takesK).err (readE s d takesK).recs with
    | none => rfl
    | some x => rw [hc] at h; cases h
   have hm := checkO_none2 hcn
   obtain ⟨hd0, hu, hrs, hlen⟩ := readE_ok hm.1
   rw [hcn] at h
   have hkind : ∀ r ∈ (readE s d takesK).recs, r.kind = 2 := fun r hr => by have := (hrs r hr).2; simp [takesK] at this; exact this.2
   have hf := filter_raw (fun r => r.num == 1) (fun r => r.num == 2) (fun r a b => by simp at a b; omega) (readE s d takesK).recs
   have hkey : textOk (lastR 1 (readE s d takesK).recs).s = true ∧ (textB 1 (lastR 1 (readE s d takesK).recs).s).length ≤ rawLen ((readE s d takesK).recs.filter fun r => r.num == 1) := by
    unfold lastR
    cases hfi : (readE s d takesK).recs.reverse.find? fun r => r.num == 1 with
    | none => simp [textOk_nil, textB]
    | some r =>
     have hr : r ∈ (readE s d takesK).recs := List.mem_reverse.1 (List.mem_of_find?_eq_some hfi)
     have hn : r.num = 1 := by simpa using List.find?_some hfi
     refine ⟨txts_mem hm.2 hr hn, ?_⟩
     have hb := (recOK_least (hrs r hr).1).2.2 (hkind r hr)
     rw [hn] at hb
     have := rawLen_mem (rs := (readE s d takesK).recs.filter fun r => r.num == 1) (r := r) (List.mem_filter.2 ⟨hr, by simp [hn]⟩)
     simp only [Option.getD_some, textB]
     split
     ·simp
     ·omega
   cases hh : (readE s d takesK).recs.any fun r => r.num == 2 with
   | false =>
    refine ⟨?_, ?_⟩
    ·rw [mayK, hkey.1, hu]
     simp [hd0, Val.isZero, val0]
    ·rw [writeK]; simp; omega
   | true =>
    rw [hh] at h
    simp only [if_true] at h ⊢
    have hy : (readV (joinR 2 (readE s d takesK).recs) (d - 1)).2 = none := by
     cases hy : (readV (joinR 2 (readE s d takesK).recs) (d - 1)).2 with
     | none => rfl
     | some x => rw [hy] at h; simp [failO] at h
    have iv := i1.1 _ hy
    refine ⟨?_, ?_⟩
    ·rw [mayK, hkey.1, hu]
     simp [hd0, iv.1]
    ·have hne : ((readE s d takesK).recs.filter fun r => r.num == 2) ≠ [] := by
      obtain ⟨r, hr, hn⟩ := List.any_eq_true.1 hh
      exact List.ne_nil_of_mem (List.mem_filter.2 ⟨hr, hn⟩)
     have hj := join_cost (d := d) 2 _ hne fun r hr => by
      obtain ⟨h1, h2⟩ := List.mem_filter.1 hr
      exact ⟨(hrs r h1).1, by simpa using h2, hkind r h1⟩
     have hj2 := bytesB_mono (num := 2) iv.2
     change (bytesB 2 (joinR 2 (readE s d takesK).recs)).length ≤ _ at hj
     rw [writeK]; simp; omega
theorem readV_may {s : List UInt8} {d : Int} (h : (readV s d).2 = none) : mayV (readV s d).1 d = true ∧ (writeV (readV s d).1).length ≤ s.length := (twice _ d (Nat.le_refl _)).1 s h
theorem readK_may {s : List UInt8} {d : Int} (h : (readK s d).2 = none) : mayK (readK s d).1 d = true ∧ (writeK (readK s d).1).length ≤ s.length := (twice _ d (Nat.le_refl _)).2 s h
end Go.Ai

namespace Go.Ai
theorem listR_congr {α : Type} {rd rd' : List UInt8 → α × Option Err} (en : Nat) : ∀ (rs : List Rec) (e : Option Err), (∀ r ∈ rs, r.num = 1 → rd' r.s = rd r.s) → listR rd' en 1 e rs = listR rd en 1 e rs
 | [], e, _ => rfl
 | r :: rs, e, h => by
  rw [listR, listR]
  by_cases hn : r.num = 1
  ·rw [if_pos hn, if_pos hn, h r (by simp) hn, listR_congr en rs _ fun x hx => h x (by simp [hx])]
  ·rw [if_neg hn, if_neg hn, listR_congr en rs _ fun x hx => h x (by simp [hx])]
theorem someR_mono {α : Type} {rd rd' : List UInt8 → α × Option Err} {s : List UInt8} {d d' : Int} (h : (someR rd s d).2 = none) (hd : d ≤ d') (hrd : ∀ t, (rd t).2 = none → rd' t = rd t) : someR rd' s d' = someR rd s d := by
 unfold someR at h ⊢
 dsimp only at h
 have hl := listR_none rd s.length _ _ h
 rw [readE_mono hl.1 hd, listR_congr s.length _ _ fun r hr hn => hrd r.s (hl.2 r hr hn)]
theorem deeper : ∀ (m : Nat) (d d' : Int), (d + 1).toNat ≤ m → d ≤ d' → (∀ s, (readV s d).2 = none → readV s d' = readV s d) ∧ ∀ s, (readK s d).2 = none → readK s d' = readK s d := by
 intro m
 induction m with
 | zero =>
  intro d d' hm hd
  have h0 : d < 0 := by omega
  refine ⟨fun s h => ?_, fun s h => ?_⟩
  ·rw [readV, if_pos h0] at h; simp [readE, h0] at h
  ·rw [readK, if_pos h0] at h; simp [readE, h0] at h
 | succ m ih =>
  intro d d' hm hd
  by_cases h0 : d < 0
  ·refine ⟨fun s h => ?_, fun s h => ?_⟩
   ·rw [readV, if_pos h0] at h; simp [readE, h0] at h
   ·rw [readK, if_pos h0] at h; simp [readE, h0] at h
  have i1 := ih (d - 1) (d' - 1) (by omega) (by omega)
  have i2 := ih (d - 2) (d' - 2) (by omega) (by omega)
  refine ⟨fun s h => ?_, fun s h => ?_⟩
  ·rw [readV, if_neg h0] at h
   conv => lhs; rw [readV, if_neg (show ¬ d' < 0 by omega)]
   conv => rhs; rw [readV, if_neg h0]
   dsimp only at h ⊢
   rw [orNone_err] at h
   have hm : checkO s.length 1 (readE s d takesV).err (readE s d takesV).recs = none := by
    (repeat' split at h) <;> first | exact h | skip
    ·cases hc : checkO s.length 1 (readE s d takesV).err (readE s d takesV).recs with
     | none => rfl
     | some x => rw [hc] at h; cases h
    ·cases hc : checkO s.length 1 (readE s d takesV).err (readE s d takesV).recs with
     | none => rfl
     | some x => rw [hc] at h; cases h
   rw [readE_mono (checkO_none2 hm).1 hd]
   rw [hm] at h ⊢
   generalize oneR [1, 2, 3, 4, 5, 6, 7] (readE s d takesV).recs = o at *
   by_cases k5 : o.num = 5
   ·simp only [k5] at h ⊢
    simp at h ⊢
    have hy : (someR (fun t => readV t (d - 2)) o.all.flatten (d - 1)).2 = none := by
     cases hy : (someR (fun t => readV t (d - 2)) o.all.flatten (d - 1)).2 with
     | none => rfl
     | some x => rw [hy] at h; simp [failO] at h
    rw [someR_mono (rd' := fun t => readV t (d' - 2)) hy (by omega) fun t ht => i2.1 t ht]
   ·by_cases k6 : o.num = 6
    ·simp only [k6] at h ⊢
     simp at h ⊢
     have hy : (someR (fun t => readK t (d - 2)) o.all.flatten (d - 1)).2 = none := by
      cases hy : (someR (fun t => readK t (d - 2)) o.all.flatten (d - 1)).2 with
      | none => rfl
      | some x => rw [hy] at h; simp [failO] at h
     rw [someR_mono (rd' := fun t => readK t (d' - 2)) hy (by omega) fun t ht => i2.2 t ht]
    ·simp only [if_neg k5, if_neg k6]
  ·rw [readK, if_neg h0] at h
   conv => lhs; rw [readK, if_neg (show ¬ d' < 0 by omega)]
   conv => rhs; rw [readK, if_neg h0]
   dsimp only at h ⊢
   rw [orNone_err] at h
   dsimp only at h
   have hcn : checkO s.length 1 (readE s d takesK).err (readE s d takesK).recs = none := by
    cases hc : checkO s.length 1 (readE s d takesK).err (readE s d takesK).recs with
    | none => rfl
    | some x => rw [hc] at h; cases h
   rw [readE_mono (checkO_none2 hcn).1 hd]
   rw [hcn] at h ⊢
   cases hh : (readE s d takesK).recs.any fun r => r.num == 2 with
   | false => rfl
   | true =>
    rw [hh] at h
    simp only [if_true] at h ⊢
    have hy : (readV (joinR 2 (readE s d takesK).recs) (d - 1)).2 = none := by
     cases hy : (readV (joinR 2 (readE s d takesK).recs) (d - 1)).2 with
     | none => rfl
     | some x => rw [hy] at h; simp [failO] at h
    rw [i1.1 _ hy]
theorem readV_deeper {s : List UInt8} {d d' : Int} (h : (readV s d).2 = none) (hd : d ≤ d') : readV s d' = readV s d := (deeper _ d d' (Nat.le_refl _) hd).1 s h
theorem readK_deeper {s : List UInt8} {d d' : Int} (h : (readK s d).2 = none) (hd : d ≤ d') : readK s d' = readK s d := (deeper _ d d' (Nat.le_refl _) hd).2 s h
theorem readV_less {x : Val} {d d' : Int} (hm : mayV x d = true) (hl : (writeV x).length < 18446744073709551616) (hw : x.wf) (hd : d' ≤ d) :
  ((readV (writeV x) d').2.isNone = mayV x d') ∧ ((readV (writeV x) d').2 = none → (readV (writeV x) d').1 = x) := by
 have key : (readV (writeV x) d').2 = none → (readV (writeV x) d').1 = x := fun h => by
  have e := readV_deeper h hd
  rw [readV_writeV hm hl hw] at e
  rw [← e]
 refine ⟨?_, key⟩
 cases h : mayV x d' with
 | true => rw [readV_writeV h hl hw]; rfl
 | false =>
  cases hr : (readV (writeV x) d').2 with
  | some e => rfl
  | none =>
   have h2 := (readV_may hr).1
   rw [key hr, h] at h2
   cases h2
end Go.Ai

namespace Go.Ai
mutual
def Val.sz : Val → Nat
 | .mk _ s _ _ l m i u => 30 + s.length + i.length + u.length + Val.szs l + KV.szs m
def Val.szs : List Val → Nat
 | [] => 0
 | x :: xs => x.sz + Val.szs xs
def KV.sz : KV → Nat
 | .mk k _ v u => 30 + k.length + u.length + v.sz
def KV.szs : List KV → Nat
 | [] => 0
 | x :: xs => x.sz + KV.szs xs
end
theorem Val.sz_mk {k s b n l m i u} : (Val.mk k s b n l m i u).sz = 30 + s.length + i.length + u.length + Val.szs l + KV.szs m := by rw [Val.sz]
theorem KV.sz_mk {k h v u} : (KV.mk k h v u).sz = 30 + k.length + u.length + v.sz := by rw [KV.sz]
theorem Val.szs_mem {l : List Val} {x : Val} (h : x ∈ l) : x.sz ≤ Val.szs l := by
 induction l with
 | nil => cases h
 | cons y ys ih =>
  rw [Val.szs]
  rcases List.mem_cons.1 h with rfl | h
  ·omega
  ·have := ih h; omega
theorem KV.szs_mem {l : List KV} {x : KV} (h : x ∈ l) : x.sz ≤ KV.szs l := by
 induction l with
 | nil => cases h
 | cons y ys ih =>
  rw [KV.szs]
  rcases List.mem_cons.1 h with rfl | h
  ·omega
  ·have := ih h; omega
theorem bytesB_le {num : Nat} (hn : num < 16) {s : List UInt8} (hs : s.length < 18446744073709551616) : (bytesB num s).length ≤ 11 + s.length := by
 rw [bytesB_length]
 have h1 : (tagB num 2).length = 1 := by unfold tagB; rw [putV_small (by omega)]; rfl
 have h2 := (putV_len hs).2
 omega
theorem numB_le {num : Nat} (hn : num < 16) {n : Nat} (hs : n < 18446744073709551616) : (numB num n).length ≤ 11 := by
 simp only [numB, List.length_append]
 have h1 : (tagB num 0).length = 1 := by unfold tagB; rw [putV_small (by omega)]; rfl
 have h2 := (putV_len hs).2
 omega
theorem fixB_le {num : Nat} (hn : num < 15) {n : Nat} : (fixB num n).length ≤ 11 := by
 simp only [fixB, List.length_append, leB_len]
 have h1 : (tagB num 1).length = 1 := by unfold tagB; rw [putV_small (by omega)]; rfl
 omega
theorem write_sz : (∀ x : Val, x.wf → x.sz ≤ 549755813888 → (writeV x).length + 11 ≤ x.sz) ∧ ∀ x : KV, x.wf → x.sz ≤ 549755813888 → (writeK x).length + 11 ≤ x.sz := by
 refine Val.ind2 ?_ ?_
 ·intro k s b n l m i u ihl ihm hwf hsz
  obtain ⟨hk, hs, hn, hll, hml, hil, hul, hwl, hwm⟩ := Val.wf_mk.1 hwf
  rw [Val.sz_mk] at hsz ⊢
  have hpl : (partsV l).length ≤ Val.szs l := by
   have : ∀ l : List Val, (∀ x ∈ l, (writeV x).length + 11 ≤ x.sz) → Val.szs l ≤ 549755813888 → (partsV l).length ≤ Val.szs l := by
    intro l
    induction l with
    | nil => intro _ _; rw [partsV]; simp
    | cons y ys ih =>
     intro h hb
     rw [Val.szs] at hb
     rw [partsV, Val.szs, List.length_append]
     have h1 := h y (by simp)
     have h2 := ih (fun x hx => h x (by simp [hx])) (by omega)
     have h3 := bytesB_le (num := 1) (by omega) (s := writeV y) (by omega)
     omega
   exact this l (fun x hx => ihl x hx (hwl x hx) (by have := Val.szs_mem hx; omega)) (by omega)
  have hpm : (partsK m).length ≤ KV.szs m := by
   have : ∀ l : List KV, (∀ x ∈ l, (writeK x).length + 11 ≤ x.sz) → KV.szs l ≤ 549755813888 → (partsK l).length ≤ KV.szs l := by
    intro l
    induction l with
    | nil => intro _ _; rw [partsK]; simp
    | cons y ys ih =>
     intro h hb
     rw [KV.szs] at hb
     rw [partsK, KV.szs, List.length_append]
     have h1 := h y (by simp)
     have h2 := ih (fun x hx => h x (by simp [hx])) (by omega)
     have h3 := bytesB_le (num := 1) (by omega) (s := writeK y) (by omega)
     omega
   exact this m (fun x hx => ihm x hx (hwm x hx) (by have := KV.szs_mem hx; omega)) (by omega)
  rw [writeV, List.length_append]
  have h1 := bytesB_le (num := 1) (by omega) (s := s) (by omega)
  have h7 := bytesB_le (num := 7) (by omega) (s := s) (by omega)
  have h5 := bytesB_le (num := 5) (by omega) (s := partsV l ++ i) (by rw [List.length_append]; omega)
  have h6 := bytesB_le (num := 6) (by omega) (s := partsK m ++ i) (by rw [List.length_append]; omega)
  have h2 := numB_le (num := 2) (by omega) (n := if b = true then 1 else n) (by split <;> omega)
  have h3 := numB_le (num := 3) (by omega) hn
  have h4 := fixB_le (num := 4) (by omega) (n := n)
  rw [List.length_append] at h5 h6
  generalize (if b = true then 1 else n) = nb at *
  (repeat' split) <;> first | omega | (simp only [List.length_nil]; omega)
 ·intro key has v u ih hwf hsz
  obtain ⟨hkl, hul, hwv⟩ := KV.wf_mk.1 hwf
  rw [KV.sz_mk] at hsz ⊢
  have hv := ih hwv (by omega)
  rw [writeK, List.length_append, List.length_append]
  have h1 := bytesB_le (num := 1) (by omega) (s := key) (by omega)
  have h2 := bytesB_le (num := 2) (by omega) (s := writeV v) (by omega)
  have ht : (textB 1 key).length ≤ 11 + key.length := by
   unfold textB
   split
   ·simp
   ·omega
  split
  ·omega
  ·simp only [List.length_nil]; omega
theorem bytesB_ge (num : Nat) (s : List UInt8) : 2 + s.length ≤ (bytesB num s).length := by
 rw [bytesB_length]
 have h1 := putV_pos (num * 8 + 2)
 have h2 := putV_pos s.length
 unfold tagB; omega
theorem may_sz : (∀ x : Val, ∀ d : Int, mayV x d = true → x.sz ≤ 30 + 30 * (writeV x).length) ∧ ∀ x : KV, ∀ d : Int, mayK x d = true → x.sz ≤ 60 + 30 * (writeK x).length := by
 refine Val.ind2 ?_ ?_
 ·intro k s b n l m i u ihl ihm d hm
  rw [mayV] at hm
  simp only [Bool.and_eq_true, decide_eq_true_eq] at hm
  obtain ⟨⟨⟨h0, hb⟩, hu⟩, hi⟩ := hm
  have e0 : Val.szs [] = 0 := by rw [Val.szs]
  have e1 : KV.szs [] = 0 := by rw [KV.szs]
  rw [Val.sz_mk, writeV, List.length_append]
  unfold bareV at hb
  by_cases k1 : k = 1
  ·subst k1
   simp at hb
   obtain ⟨_, ⟨_, _⟩, ⟨rfl, rfl⟩, rfl⟩ := hb
   have := bytesB_ge 1 s
   simp only [if_true, e0, e1, List.length_nil]; omega
  by_cases k7 : k = 7
  ·subst k7
   simp at hb
   obtain ⟨⟨_, _⟩, ⟨rfl, rfl⟩, rfl⟩ := hb
   have := bytesB_ge 7 s
   simp [e0, e1]; omega
  by_cases k2 : k = 2
  ·subst k2
   simp at hb
   obtain ⟨⟨rfl, _⟩, ⟨rfl, rfl⟩, rfl⟩ := hb
   simp [e0, e1]; omega
  by_cases k3 : k = 3
  ·subst k3
   simp at hb
   obtain ⟨⟨rfl, _⟩, ⟨rfl, rfl⟩, rfl⟩ := hb
   simp [e0, e1]; omega
  by_cases k4 : k = 4
  ·subst k4
   simp at hb
   obtain ⟨⟨rfl, _⟩, ⟨rfl, rfl⟩, rfl⟩ := hb
   simp [e0, e1]; omega
  by_cases k0 : k = 0
  ·subst k0
   simp at hb
   obtain ⟨⟨⟨rfl, _⟩, _⟩, ⟨rfl, rfl⟩, rfl⟩ := hb
   simp [e0, e1]; omega
  by_cases k5 : k = 5
  ·subst k5
   simp at hb
   obtain ⟨⟨⟨rfl, _⟩, _⟩, rfl⟩ := hb
   simp only [true_or, if_true, Bool.and_eq_true, decide_eq_true_eq] at hi
   obtain ⟨⟨⟨h1, hi⟩, hvs⟩, _⟩ := hi
   rw [mayVs_all, List.all_eq_true] at hvs
   have key : ∀ l : List Val, (∀ x ∈ l, x.sz ≤ 30 + 30 * (writeV x).length) → Val.szs l ≤ 30 * (partsV l).length := by
    intro l
    induction l with
    | nil => intro _; rw [e0]; omega
    | cons y ys ih =>
     intro h
     rw [Val.szs, partsV, List.length_append]
     have h1 := h y (by simp)
     have h2 := ih fun x hx => h x (by simp [hx])
     have h3 := bytesB_ge 1 (writeV y)
     omega
   have := key l fun x hx => ihl x hx _ (hvs x hx)
   have h3 := bytesB_ge 5 (partsV l ++ i)
   simp [e1] at h3 ⊢; omega
  by_cases k6 : k = 6
  ·subst k6
   simp at hb
   obtain ⟨⟨⟨rfl, _⟩, _⟩, rfl⟩ := hb
   simp only [or_true, if_true, Bool.and_eq_true, decide_eq_true_eq] at hi
   obtain ⟨⟨⟨h1, hi⟩, _⟩, hks⟩ := hi
   rw [mayKs_all, List.all_eq_true] at hks
   have key : ∀ l : List KV, (∀ x ∈ l, x.sz ≤ 60 + 30 * (writeK x).length) → KV.szs l ≤ 30 * (partsK l).length := by
    intro l
    induction l with
    | nil => intro _; rw [e1]; omega
    | cons y ys ih =>
     intro h
     rw [KV.szs, partsK, List.length_append]
     have h1 := h y (by simp)
     have h2 := ih fun x hx => h x (by simp [hx])
     have h3 := bytesB_ge 1 (writeK y)
     omega
   have := key m fun x hx => ihm x hx _ (hks x hx)
   have h3 := bytesB_ge 6 (partsK m ++ i)
   simp [e0] at h3 ⊢; omega
  ·simp [k1, k2, k3, k4, k5, k6, k7, k0] at hb
 ·intro key has v u ih d hm
  rw [mayK] at hm
  simp only [Bool.and_eq_true, decide_eq_true_eq] at hm
  obtain ⟨⟨⟨h0, hk⟩, hu⟩, hv⟩ := hm
  rw [KV.sz_mk, writeK, List.length_append, List.length_append]
  have ht : key.length ≤ (textB 1 key).length := by
   unfold textB
   split
   ·rename_i h; simp [h]
   ·have := bytesB_ge 1 key; omega
  cases has with
  | false =>
   have : v = val0 := (Val.isZero_iff v).1 (by simpa using hv)
   subst this
   have : val0.sz = 30 := by rw [val0, Val.sz_mk, Val.szs, KV.szs]; simp
   simp; omega
  | true =>
   simp only [if_true] at hv ⊢
   have h1 := ih _ hv
   have h2 := bytesB_ge 2 (writeV v)
   omega
end Go.Ai

namespace Go.Ai
theorem own_du {p : Id} {t k c : Nat} {h : Heap} {cs : List A} (hk : k < c) : dropFrom p c (upd h (t :: k :: p) cs) = upd (dropFrom p c h) (t :: k :: p) cs := drop_upd_other (by simp; omega)
theorem own_dg {p : Id} {t k c : Nat} {h : Heap} (hk : k < c) : dropFrom p c h (t :: k :: p) = h (t :: k :: p) := by rw [drop_own, if_neg (by omega)]
theorem sib_du {p : Id} {t k j : Nat} {h : Heap} {cs : List A} (hk : k ≠ j) : dropFrom (j :: p) 0 (upd h (t :: k :: p) cs) = upd (dropFrom (j :: p) 0 h) (t :: k :: p) cs := drop_upd_other (by simp [hk])
theorem sib_dg {p : Id} {t k j : Nat} {h : Heap} (hk : k ≠ j) : dropFrom (j :: p) 0 h (t :: k :: p) = h (t :: k :: p) := by rw [drop_sib, if_neg hk]
theorem upd_own_ne {p : Id} {t t' k j : Nat} {h : Heap} {cs : List A} (hk : k ≠ j) : upd h (t' :: j :: p) cs (t :: k :: p) = h (t :: k :: p) := by simp [upd, hk]
theorem some5 {e : Ex} {fr fr' : Fr} {c c' : Nat} {h h' : Heap} (hf : fr = fr') (hc : c = c') (hh : h = h') : (some (e, fr, c, h) : Option (Ex × Fr × Nat × Heap)) = some (e, fr', c', h') := by rw [hf, hc, hh]
end Go.Ai

namespace Go.Ai
def takesL (num kind : Nat) : Bool := num == 1 && kind == 2
def unpL (rd : List UInt8 → KV × Option Err) : List Rec → Nat → List KV → List KV × Option Err
 | [], _, acc => (acc, none)
 | r :: rs, k, acc => if takesL r.num r.kind = false then ([], some (.at_ k (.code 3)))
  else if (rd r.s).2.isSome = true then ([], (rd r.s).2.map fun e => .at_ k e) else unpL rd rs (k + r.raw.length) (acc ++ [(rd r.s).1])
def unpE (s : List UInt8) (d : Int) : List KV × Option Err := match allE s d 0 with
 | .error e => ([], some e)
 | .ok rs => unpL (fun t => readK t d) rs 0 []
def refUL (rd : List UInt8 → Option KV) : List Rec → List KV → Option (List KV)
 | [], acc => some acc
 | r :: rs, acc => if (takesL r.num r.kind && (rd r.s).isSome) = true then refUL rd rs (acc ++ [(rd r.s).getD kv0]) else none
def refU (s : List UInt8) (d : Int) : Option (List KV) := match allE s d 0 with
 | .error _ => none
 | .ok rs => refUL (fun t => refK t d) rs []
theorem unpL_bad (rd : List UInt8 → KV × Option Err) : ∀ (rs : List Rec) (k : Nat) (acc : List KV) (e : Err), (unpL rd rs k acc).2 = some e → (unpL rd rs k acc).1 = []
 | [], _, acc, e, h => by simp [unpL] at h
 | r :: rs, k, acc, e, h => by
  rw [unpL] at h ⊢
  split
  ·rfl
  ·rename_i h1
   rw [if_neg h1] at h
   split
   ·rfl
   ·rename_i h2
    rw [if_neg h2] at h
    exact unpL_bad rd rs _ _ e h
theorem refUL_eq (rd : List UInt8 → KV × Option Err) : ∀ (rs : List Rec) (k : Nat) (acc : List KV), refUL (fun t => okO (rd t)) rs acc = okO (unpL rd rs k acc)
 | [], _, acc => by simp [refUL, unpL, okO]
 | r :: rs, k, acc => by
  rw [refUL, unpL]
  cases ht : takesL r.num r.kind with
  | false => simp [okO]
  | true =>
   cases hr : (rd r.s).2 with
   | none =>
    have e : okO (rd r.s) = some (rd r.s).1 := by simp [okO, hr]
    simp only [e, Option.isSome_some, Bool.and_true, if_true, Option.getD_some, Bool.true_eq_false, if_false, Option.isSome_none, Bool.false_eq_true]
    exact refUL_eq rd rs _ _
   | some x =>
    have e : okO (rd r.s) = none := by simp [okO, hr]
    rw [if_neg (by rw [e]; simp), if_neg (by simp), if_pos (by rfl)]
    rfl
theorem refU_eq (s : List UInt8) (d : Int) : refU s d = okO (unpE s d) := by
 unfold refU unpE
 cases allE s d 0 with
 | error e => simp [okO]
 | ok rs =>
  have e : (fun t => refK t d) = fun t => okO (readK t d) := funext fun t => refK_eq t d
  dsimp only
  rw [e, refUL_eq _ rs 0 []]
theorem unpE_bad {s : List UInt8} {d : Int} {e : Err} (h : (unpE s d).2 = some e) : (unpE s d).1 = [] := by
 unfold unpE at h ⊢
 cases ha : allE s d 0 with
 | error x => rfl
 | ok rs => rw [ha] at h; exact unpL_bad _ rs 0 [] e h
theorem unpL_len (rd : List UInt8 → KV × Option Err) : ∀ (rs : List Rec) (k : Nat) (acc : List KV), (unpL rd rs k acc).1.length ≤ acc.length + rs.length
 | [], _, acc => by simp [unpL]
 | r :: rs, k, acc => by
  rw [unpL]
  split
  ·simp
  ·split
   ·simp
   ·have := unpL_len rd rs (k + r.raw.length) (acc ++ [(rd r.s).1])
    simp at this ⊢; omega
theorem unpL_all {rd : List UInt8 → KV × Option Err} {P : KV → Prop} : ∀ (rs : List Rec) (k : Nat) (acc : List KV), (∀ r ∈ rs, P (rd r.s).1) → (∀ x ∈ acc, P x) → ∀ x ∈ (unpL rd rs k acc).1, P x
 | [], _, acc, _, h => h
 | r :: rs, k, acc, hr, h => by
  rw [unpL]
  split
  ·simp
  ·split
   ·simp
   ·exact unpL_all rs _ _ (fun y hy => hr y (by simp [hy])) fun x hx => by
     rcases List.mem_append.1 hx with hx | hx
     ·exact h x hx
     ·rw [List.mem_singleton] at hx; subst hx; exact hr r (by simp)
theorem unpE_len {s : List UInt8} {d : Int} (hb : s.length ≤ 549755813888) : (unpE s d).1.length ≤ maxStr := by
 unfold unpE
 cases ha : allE s d 0 with
 | error e => simp
 | ok rs =>
  have h1 := allE_raw 0 (Nat.zero_le _) rs ha
  have := unpL_len (fun t => readK t d) rs 0 []
  simp only [List.length_nil, Nat.zero_add] at this
  dsimp only
  unfold maxStr; omega
theorem unpE_wf {s : List UInt8} {d : Int} (hb : s.length ≤ 549755813888) : ∀ x ∈ (unpE s d).1, x.wf := by
 unfold unpE
 cases ha : allE s d 0 with
 | error e => simp
 | ok rs =>
  have h2 := allE_short 0 (Nat.zero_le _) rs ha
  exact unpL_all rs 0 [] (fun r hr => readK_wf (by have := h2 r hr; omega) d) (by simp)
end Go.Ai

namespace Go.Ai
section
variable {α : Type} (le : α → α → Bool)
theorem merge_split : ∀ (A1 B1 A2 B2 : List α), (∀ x ∈ A1, ∀ y ∈ B2, le x y = true) → (∀ y ∈ B1, ∀ x ∈ A2, le x y = false) →
  List.merge (A1 ++ A2) (B1 ++ B2) le = List.merge A1 B1 le ++ List.merge A2 B2 le
 | [], [], A2, B2, _, _ => by simp
 | [], y :: B1, A2, B2, h1, h2 => by
  have ih := merge_split [] B1 A2 B2 (by simp) (fun z hz => h2 z (by simp [hz]))
  cases A2 with
  | nil => simp
  | cons x A2 =>
   simp only [List.nil_append, List.cons_append, List.nil_merge] at ih ⊢
   rw [List.cons_merge_cons, h2 y (by simp) x (by simp)]
   simp only [Bool.false_eq_true, if_false]
   rw [ih]
 | x :: A1, [], A2, B2, h1, h2 => by
  have ih := merge_split A1 [] A2 B2 (fun z hz => h1 z (by simp [hz])) (by simp)
  cases B2 with
  | nil => simp
  | cons y B2 =>
   simp only [List.nil_append, List.cons_append, List.merge_right] at ih ⊢
   rw [List.cons_merge_cons, h1 x (by simp) y (by simp)]
   simp only [if_true]
   rw [ih]
 | x :: A1, y :: B1, A2, B2, h1, h2 => by
  simp only [List.cons_append]
  rw [List.cons_merge_cons, List.cons_merge_cons]
  split
  ·have ih := merge_split A1 (y :: B1) A2 B2 (fun z hz => h1 z (by simp [hz])) h2
   simp only [List.cons_append] at ih
   rw [ih, List.cons_append]
  ·have ih := merge_split (x :: A1) B1 A2 B2 h1 (fun z hz => h2 z (by simp [hz]))
   simp only [List.cons_append] at ih
   rw [ih, List.cons_append]
def bisect (f : Nat → Bool) (lo hi : Nat) : Nat :=
 if lo < hi then (if f ((lo + hi) / 2) = true then bisect f ((lo + hi) / 2 + 1) hi else bisect f lo ((lo + hi) / 2)) else lo
termination_by hi - lo
decreasing_by all_goals omega
theorem bisect_spec (f : Nat → Bool) (lo hi : Nat) (hl : lo ≤ hi) (hm : ∀ i j, lo ≤ i → i ≤ j → j < hi → f j = true → f i = true) :
  lo ≤ bisect f lo hi ∧ bisect f lo hi ≤ hi ∧ (∀ c, lo ≤ c → c < bisect f lo hi → f c = true) ∧ ∀ c, bisect f lo hi ≤ c → c < hi → f c = false := by
 rw [bisect]
 split
 ·rename_i h
  split
  ·rename_i hf
   have ih := bisect_spec f ((lo + hi) / 2 + 1) hi (by omega) (fun i j h1 h2 h3 => hm i j (by omega) h2 h3)
   refine ⟨by omega, ih.2.1, fun c h1 h2 => ?_, ih.2.2.2⟩
   by_cases hc : c ≤ (lo + hi) / 2
   ·exact hm c _ h1 hc (by omega) hf
   ·exact ih.2.2.1 c (by omega) h2
  ·rename_i hf
   have ih := bisect_spec f lo ((lo + hi) / 2) (by omega) (fun i j h1 h2 h3 => hm i j h1 h2 (by omega))
   refine ⟨ih.1, by omega, ih.2.2.1, fun c h1 h2 => ?_⟩
   by_cases hc : c < (lo + hi) / 2
   ·exact ih.2.2.2 c h1 hc
   ·rw [Bool.eq_false_iff]
    intro h3
    exact hf (hm _ c (by omega) (by omega) h2 h3)
 ·exact ⟨Nat.le_refl _, hl, fun c h1 h2 => by omega, fun c h1 h2 => by omega⟩
termination_by hi - lo
decreasing_by all_goals omega
def leAt (A B : List α) (i j : Nat) : Bool := match A[i]?, B[j]? with
 | some x, some y => le x y
 | _, _ => false
theorem leAt_true {A B : List α} {i j : Nat} (h : leAt le A B i j = true) : ∃ x y, A[i]? = some x ∧ B[j]? = some y ∧ le x y = true := by
 unfold leAt at h
 split at h
 ·rename_i x y h1 h2; exact ⟨x, y, h1, h2, h⟩
 ·cases h
def symCut (A B : List α) : Nat :=
 let mid := (A.length + B.length) / 2
 if A.length > mid then bisect (fun c => leAt le A B c (mid - 1 - c)) (mid + A.length - (A.length + B.length)) mid
 else bisect (fun c => leAt le A B c (mid - 1 - c)) 0 A.length
theorem sorted_get {A : List α} (hs : A.Pairwise fun x y => le x y = true) {i j : Nat} {x y : α} (hij : i < j) (hx : A[i]? = some x) (hy : A[j]? = some y) : le x y = true := by
 obtain ⟨h1, e1⟩ := List.getElem?_eq_some_iff.1 hx
 obtain ⟨h2, e2⟩ := List.getElem?_eq_some_iff.1 hy
 have := List.pairwise_iff_getElem.1 hs i j h1 h2 hij
 rwa [e1, e2] at this
theorem mem_take_get {A : List α} {n : Nat} {x : α} (h : x ∈ A.take n) : ∃ i, i < n ∧ A[i]? = some x := by
 obtain ⟨i, hi⟩ := List.getElem?_of_mem h
 rw [List.getElem?_take] at hi
 split at hi
 ·exact ⟨i, by assumption, hi⟩
 ·cases hi
theorem mem_drop_get {A : List α} {n : Nat} {x : α} (h : x ∈ A.drop n) : ∃ i, n ≤ i ∧ A[i]? = some x := by
 obtain ⟨i, hi⟩ := List.getElem?_of_mem h
 rw [List.getElem?_drop] at hi
 exact ⟨n + i, by omega, hi⟩
section
variable (refl : ∀ x, le x x = true) (trans : ∀ x y z, le x y = true → le y z = true → le x z = true)
include refl trans
theorem sorted_le {A : List α} (hs : A.Pairwise fun x y => le x y = true) {i j : Nat} {x y : α} (hij : i ≤ j) (hx : A[i]? = some x) (hy : A[j]? = some y) : le x y = true := by
 rcases Nat.lt_or_eq_of_le hij with h | h
 ·exact sorted_get le hs h hx hy
 ·subst h; rw [hx] at hy; cases hy; exact refl x
theorem symCut_spec {A B : List α} (hA : A.Pairwise fun x y => le x y = true) (hB : B.Pairwise fun x y => le x y = true) :
  let mid := (A.length + B.length) / 2
  let s := symCut le A B
  s ≤ A.length ∧ s ≤ mid ∧ mid - s ≤ B.length ∧ (∀ x ∈ A.take s, ∀ y ∈ B.drop (mid - s), le x y = true) ∧ ∀ y ∈ B.take (mid - s), ∀ x ∈ A.drop s, le x y = false := by
 intro mid s
 have hmid : mid = (A.length + B.length) / 2 := rfl
 -- the bounds of the search
 obtain ⟨lo, hi, hlh, hsd, hlo, hhi, hhm⟩ : ∃ lo hi, lo ≤ hi ∧ s = bisect (fun c => leAt le A B c (mid - 1 - c)) lo hi ∧ (lo = 0 ∨ (mid - lo = B.length ∧ lo ≤ mid)) ∧ (hi = mid ∨ hi = A.length) ∧ hi ≤ A.length ∧ hi ≤ mid ∧ mid - lo ≤ B.length := by
  by_cases h : A.length > mid
  ·exact ⟨mid + A.length - (A.length + B.length), mid, by omega, by simp only [s, symCut]; rw [if_pos h], by omega, .inl rfl, by omega, by omega, by omega⟩
  ·exact ⟨0, A.length, by omega, by simp only [s, symCut]; rw [if_neg h], .inl rfl, .inr rfl, by omega, by omega, by omega⟩
 have hmono : ∀ i j, lo ≤ i → i ≤ j → j < hi → leAt le A B j (mid - 1 - j) = true → leAt le A B i (mid - 1 - i) = true := by
  intro i j h1 h2 h3 h
  obtain ⟨x, y, hx, hy, hxy⟩ := leAt_true le h
  have hi1 : i < A.length := by omega
  have hj1 : mid - 1 - i < B.length := by omega
  unfold leAt
  rw [List.getElem?_eq_getElem hi1, List.getElem?_eq_getElem hj1]
  exact trans _ _ _ (sorted_le le refl trans hA h2 (List.getElem?_eq_getElem hi1) hx) (trans _ _ _ hxy (sorted_le le refl trans hB (by omega) hy (List.getElem?_eq_getElem hj1)))
 obtain ⟨b1, b2, b3, b4⟩ := bisect_spec (fun c => leAt le A B c (mid - 1 - c)) lo hi hlh hmono
 rw [← hsd] at b1 b2 b3 b4
 refine ⟨by omega, by omega, by omega, fun x hx y hy => ?_, fun y hy x hx => ?_⟩
 ·obtain ⟨i, hi1, hxi⟩ := mem_take_get hx
  obtain ⟨j, hj1, hyj⟩ := mem_drop_get hy
  have hjl := (List.getElem?_eq_some_iff.1 hyj).1
  have hslo : lo < s := by omega
  obtain ⟨u, v, hu, hv, huv⟩ := leAt_true le (b3 (s - 1) (by omega) (by omega))
  exact trans _ _ _ (sorted_le le refl trans hA (by omega) hxi hu) (trans _ _ _ huv (sorted_le le refl trans hB (by omega) hv hyj))
 ·obtain ⟨j, hj1, hyj⟩ := mem_take_get hy
  obtain ⟨i, hi1, hxi⟩ := mem_drop_get hx
  have hil := (List.getElem?_eq_some_iff.1 hxi).1
  have hshi : s < hi := by omega
  have hf := b4 s (Nat.le_refl _) hshi
  rw [Bool.eq_false_iff]
  intro hxy
  have hs1 : s < A.length := by omega
  have ht1 : mid - 1 - s < B.length := by omega
  unfold leAt at hf
  simp only [List.getElem?_eq_getElem hs1, List.getElem?_eq_getElem ht1] at hf
  have := trans _ _ _ (sorted_le le refl trans hA hi1 (List.getElem?_eq_getElem hs1) hxi) (trans _ _ _ hxy (sorted_le le refl trans hB (by omega) hyj (List.getElem?_eq_getElem ht1)))
  rw [this] at hf
  cases hf
end
def sm (A B : List α) : List α :=
 if A.length = 0 ∨ B.length = 0 then A ++ B
 else if A.length = 1 then B.take (bisect (fun h => !leAt le A B 0 h) 0 B.length) ++ A ++ B.drop (bisect (fun h => !leAt le A B 0 h) 0 B.length)
 else if B.length = 1 then A.take (bisect (fun h => leAt le A B h 0) 0 A.length) ++ B ++ A.drop (bisect (fun h => leAt le A B h 0) 0 A.length)
 else sm (A.take (symCut le A B)) (B.take ((A.length + B.length) / 2 - symCut le A B)) ++ sm (A.drop (symCut le A B)) (B.drop ((A.length + B.length) / 2 - symCut le A B))
termination_by A.length + B.length
decreasing_by
 all_goals simp only [List.length_take, List.length_drop]
 ·omega
 ·omega
theorem sm_merge (refl : ∀ x, le x x = true) (trans : ∀ x y z, le x y = true → le y z = true → le x z = true) (A B : List α) (hA : A.Pairwise fun x y => le x y = true) (hB : B.Pairwise fun x y => le x y = true) : sm le A B = List.merge A B le := by
 rw [sm]
 split
 ·rename_i h
  rcases h with h | h
  ·rw [List.eq_nil_of_length_eq_zero h]; simp
  ·rw [List.eq_nil_of_length_eq_zero h]; simp
 rename_i h0
 split
 ·rename_i h1
  obtain ⟨x, rfl⟩ := List.length_eq_one_iff.1 h1
  have hm : ∀ i j, 0 ≤ i → i ≤ j → j < B.length → (!leAt le [x] B 0 j) = true → (!leAt le [x] B 0 i) = true := by
   intro i j _ hij hj hf
   have hi : i < B.length := by omega
   unfold leAt at hf ⊢
   simp only [List.getElem?_cons_zero, List.getElem?_eq_getElem hi, List.getElem?_eq_getElem hj, Bool.not_eq_true'] at hf ⊢
   rw [Bool.eq_false_iff] at hf ⊢
   intro h2
   exact hf (trans _ _ _ h2 (sorted_le le refl trans hB hij (List.getElem?_eq_getElem hi) (List.getElem?_eq_getElem hj)))
  obtain ⟨b1, b2, b3, b4⟩ := bisect_spec (fun h => !leAt le [x] B 0 h) 0 B.length (Nat.zero_le _) hm
  generalize bisect (fun h => !leAt le [x] B 0 h) 0 B.length = k at *
  have e := merge_split le [] (B.take k) [x] (B.drop k) (by simp) (by
   intro y hy z hz
   rw [List.mem_singleton] at hz; subst hz
   obtain ⟨j, hj, hyj⟩ := mem_take_get hy
   have := b3 j (Nat.zero_le _) hj
   simp only [leAt, List.getElem?_cons_zero, hyj, Bool.not_eq_true'] at this
   exact this)
  rw [List.take_append_drop, List.nil_append, List.nil_merge] at e
  rw [e, List.append_assoc]
  congr 1
  cases hd : B.drop k with
  | nil => simp
  | cons y t =>
   have hk : k < B.length := by
    rcases Nat.lt_or_ge k B.length with h | h
    ·exact h
    ·rw [List.drop_eq_nil_of_le h] at hd; cases hd
   have hy : B[k]? = some y := by
    have := congrArg (·[0]?) hd
    simpa using this
   have := b4 k (Nat.le_refl _) hk
   simp only [leAt, List.getElem?_cons_zero, hy, Bool.not_eq_false'] at this
   rw [List.cons_merge_cons, this]
   simp
 rename_i h1
 split
 ·rename_i h2
  obtain ⟨y, rfl⟩ := List.length_eq_one_iff.1 h2
  have hm : ∀ i j, 0 ≤ i → i ≤ j → j < A.length → leAt le A [y] j 0 = true → leAt le A [y] i 0 = true := by
   intro i j _ hij hj hf
   have hi : i < A.length := by omega
   unfold leAt at hf ⊢
   simp only [List.getElem?_cons_zero, List.getElem?_eq_getElem hi, List.getElem?_eq_getElem hj] at hf ⊢
   exact trans _ _ _ (sorted_le le refl trans hA hij (List.getElem?_eq_getElem hi) (List.getElem?_eq_getElem hj)) hf
  obtain ⟨b1, b2, b3, b4⟩ := bisect_spec (fun h => leAt le A [y] h 0) 0 A.length (Nat.zero_le _) hm
  generalize bisect (fun h => leAt le A [y] h 0) 0 A.length = k at *
  have e := merge_split le (A.take k) [] (A.drop k) [y] (by
   intro x hx z hz
   rw [List.mem_singleton] at hz; subst hz
   obtain ⟨j, hj, hxj⟩ := mem_take_get hx
   have := b3 j (Nat.zero_le _) hj
   simp only [leAt, List.getElem?_cons_zero, hxj] at this
   exact this) (by simp)
  rw [List.take_append_drop, List.nil_append, List.merge_right] at e
  rw [e, List.append_assoc]
  congr 1
  cases hd : A.drop k with
  | nil => simp
  | cons x t =>
   have hk : k < A.length := by
    rcases Nat.lt_or_ge k A.length with h | h
    ·exact h
    ·rw [List.drop_eq_nil_of_le h] at hd; cases hd
   have hx : A[k]? = some x := by
    have := congrArg (·[0]?) hd
    simpa using this
   have := b4 k (Nat.le_refl _) hk
   simp only [leAt, List.getElem?_cons_zero, hx] at this
   rw [List.cons_merge_cons, this]
   simp
 ·obtain ⟨c1, c2, c3, c4, c5⟩ := symCut_spec le refl trans hA hB
  have i1 := sm_merge refl trans (A.take (symCut le A B)) (B.take ((A.length + B.length) / 2 - symCut le A B)) (hA.sublist (List.take_sublist _ _)) (hB.sublist (List.take_sublist _ _))
  have i2 := sm_merge refl trans (A.drop (symCut le A B)) (B.drop ((A.length + B.length) / 2 - symCut le A B)) (hA.sublist (List.drop_sublist _ _)) (hB.sublist (List.drop_sublist _ _))
  have e := merge_split le (A.take (symCut le A B)) (B.take ((A.length + B.length) / 2 - symCut le A B)) (A.drop (symCut le A B)) (B.drop ((A.length + B.length) / 2 - symCut le A B)) c4 c5
  rw [List.take_append_drop, List.take_append_drop] at e
  rw [i1, i2, e]
termination_by A.length + B.length
decreasing_by
 all_goals simp only [List.length_take, List.length_drop]
 ·omega
 ·omega
end
end Go.Ai

namespace Go.Ai
section
variable {α : Type} (le : α → α → Bool)
def insB (l : List α) : List α := l.foldl (fun acc x => List.merge acc [x] le) []
def blocks (k : Nat) (l : List α) : List α := if k = 0 ∨ l.length < k then insB le l else insB le (l.take k) ++ blocks k (l.drop k)
termination_by l.length
decreasing_by simp only [List.length_drop]; omega
def pass (k : Nat) (l : List α) : List α :=
 if k = 0 ∨ l.length < 2 * k then (if l.length ≤ k then l else sm le (l.take k) (l.drop k))
 else sm le (l.take k) ((l.drop k).take k) ++ pass k (l.drop (2 * k))
termination_by l.length
decreasing_by simp only [List.length_drop]; omega
def passes : Nat → Nat → List α → List α
 | 0, _, l => l
 | f + 1, k, l => if l.length ≤ k then l else passes f (2 * k) (pass le k l)
def ssort (l : List α) : List α := passes le l.length 20 (blocks le 20 l)
abbrev Srt (l : List α) : Prop := l.Pairwise fun x y => le x y = true
def runs (k : Nat) (l : List α) : Prop := if k = 0 ∨ l.length ≤ k then Srt le l else Srt le (l.take k) ∧ runs k (l.drop k)
termination_by l.length
decreasing_by simp only [List.length_drop]; omega
theorem insB_all (trans : ∀ x y z, le x y = true → le y z = true → le x z = true) (total : ∀ x y, (le x y || le y x) = true) : ∀ (l acc : List α), Srt le acc →
  Srt le (l.foldl (fun acc x => List.merge acc [x] le) acc) ∧ (l.foldl (fun acc x => List.merge acc [x] le) acc).Perm (acc ++ l) ∧ (Srt le (acc ++ l) → l.foldl (fun acc x => List.merge acc [x] le) acc = acc ++ l)
 | [], acc, h => ⟨h, by simp, by simp⟩
 | x :: l, acc, h => by
  have h1 : Srt le (List.merge acc [x] le) := List.pairwise_merge trans total _ _ h (by simp)
  obtain ⟨i1, i2, i3⟩ := insB_all trans total l _ h1
  refine ⟨i1, ?_, fun hs => ?_⟩
  ·refine i2.trans ?_
   have := (List.merge_perm_append le (xs := acc) (ys := [x])).append_right l
   simpa using this
  ·have e : List.merge acc [x] le = acc ++ [x] := List.merge_of_le fun a b ha hb => by
    rw [List.mem_singleton] at hb; subst hb
    exact (List.pairwise_append.1 hs).2.2 a ha b (by simp)
   rw [List.foldl_cons, e]
   rw [e] at i3
   have := i3 (by simpa using hs)
   simpa using this
theorem insB_spec (trans : ∀ x y z, le x y = true → le y z = true → le x z = true) (total : ∀ x y, (le x y || le y x) = true) (l : List α) : Srt le (insB le l) ∧ (insB le l).Perm l ∧ (Srt le l → insB le l = l) := by
 have := insB_all le trans total l [] List.Pairwise.nil
 simpa [insB] using this
theorem srt_take {l : List α} (h : Srt le l) (k : Nat) : Srt le (l.take k) := h.sublist (List.take_sublist _ _)
theorem srt_drop {l : List α} (h : Srt le l) (k : Nat) : Srt le (l.drop k) := h.sublist (List.drop_sublist _ _)
theorem runs_cons {k : Nat} (hk : 0 < k) {a l : List α} (ha : a.length = k) (h1 : Srt le a) (h2 : runs le k l) : runs le k (a ++ l) := by
 rw [runs]
 split
 ·rename_i h
  rcases h with h | h
  ·omega
  ·rw [List.length_append] at h
   rw [List.eq_nil_of_length_eq_zero (l := l) (by omega)]
   simpa using h1
 ·rw [List.take_left' ha, List.drop_left' ha]
  exact ⟨h1, h2⟩
theorem blocks_spec (trans : ∀ x y z, le x y = true → le y z = true → le x z = true) (total : ∀ x y, (le x y || le y x) = true) {k : Nat} (hk : 0 < k) (l : List α) :
  runs le k (blocks le k l) ∧ (blocks le k l).Perm l ∧ (Srt le l → blocks le k l = l) := by
 rw [blocks]
 split
 ·rename_i h
  obtain ⟨i1, i2, i3⟩ := insB_spec le trans total l
  have hl := i2.length_eq
  refine ⟨?_, i2, i3⟩
  rw [runs, if_pos (by omega)]
  exact i1
 ·rename_i h
  obtain ⟨i1, i2, i3⟩ := insB_spec le trans total (l.take k)
  obtain ⟨j1, j2, j3⟩ := blocks_spec trans total hk (l.drop k)
  have hl := i2.length_eq
  rw [List.length_take] at hl
  refine ⟨runs_cons le hk (by omega) i1 j1, ?_, fun hs => ?_⟩
  ·have := i2.append j2
   rwa [List.take_append_drop] at this
  ·rw [i3 (srt_take le hs k), j3 (srt_drop le hs k), List.take_append_drop]
termination_by l.length
decreasing_by simp only [List.length_drop]; omega
theorem sm_all (trans : ∀ x y z, le x y = true → le y z = true → le x z = true) (total : ∀ x y, (le x y || le y x) = true) {A B : List α} (hA : Srt le A) (hB : Srt le B) :
  Srt le (sm le A B) ∧ (sm le A B).Perm (A ++ B) ∧ (Srt le (A ++ B) → sm le A B = A ++ B) := by
 have refl : ∀ x, le x x = true := fun x => by simpa using total x x
 rw [sm_merge le refl trans A B hA hB]
 exact ⟨List.pairwise_merge trans total _ _ hA hB, List.merge_perm_append le, fun hs => List.merge_of_le fun a b ha hb => (List.pairwise_append.1 hs).2.2 a ha b hb⟩
theorem runs_small {k : Nat} {l : List α} (h : runs le k l) (hl : l.length ≤ k) : Srt le l := by
 rw [runs, if_pos (.inr hl)] at h
 exact h
theorem runs_head {k : Nat} {l : List α} (hk : 0 < k) (h : runs le k l) : Srt le (l.take k) ∧ runs le k (l.drop k) := by
 rw [runs] at h
 split at h
 ·rename_i h1
  rw [List.take_of_length_le (by omega), List.drop_eq_nil_of_le (by omega)]
  refine ⟨h, ?_⟩
  rw [runs, if_pos (by simp)]
  exact List.Pairwise.nil
 ·exact h
theorem pass_spec (trans : ∀ x y z, le x y = true → le y z = true → le x z = true) (total : ∀ x y, (le x y || le y x) = true) {k : Nat} (hk : 0 < k) (l : List α) (hr : runs le k l) :
  runs le (2 * k) (pass le k l) ∧ (pass le k l).Perm l ∧ (Srt le l → pass le k l = l) := by
 obtain ⟨r1, r2⟩ := runs_head le hk hr
 obtain ⟨r3, r4⟩ := runs_head le hk r2
 rw [pass]
 split
 ·rename_i h
  split
  ·rename_i h2
   refine ⟨?_, List.Perm.refl _, fun _ => rfl⟩
   rw [runs, if_pos (by omega)]
   exact runs_small le hr h2
  ·have hd : Srt le (l.drop k) := runs_small le r2 (by rw [List.length_drop]; omega)
   obtain ⟨i1, i2, i3⟩ := sm_all le trans total r1 hd
   rw [List.take_append_drop] at i2 i3
   have hl := i2.length_eq
   refine ⟨?_, i2, i3⟩
   rw [runs, if_pos (by omega)]
   exact i1
 ·rename_i h
  obtain ⟨i1, i2, i3⟩ := sm_all le trans total r1 r3
  have hdd : l.drop (2 * k) = (l.drop k).drop k := by rw [List.drop_drop]; congr 1; omega
  obtain ⟨j1, j2, j3⟩ := pass_spec trans total hk (l.drop (2 * k)) (by rw [hdd]; exact r4)
  have hl := i2.length_eq
  rw [List.length_append, List.length_take, List.length_take, List.length_drop] at hl
  have hsplit : (l.take k ++ (l.drop k).take k) ++ l.drop (2 * k) = l := by rw [hdd, List.append_assoc, List.take_append_drop, List.take_append_drop]
  refine ⟨runs_cons le (by omega) (by omega) i1 j1, ?_, fun hs => ?_⟩
  ·have := i2.append j2
   rwa [hsplit] at this
  ·have h1 : Srt le (l.take k ++ (l.drop k).take k) := by
    rw [← hsplit] at hs
    exact (List.pairwise_append.1 hs).1
   rw [i3 h1, j3 (srt_drop le hs _), hsplit]
termination_by l.length
decreasing_by simp only [List.length_drop]; omega
theorem passes_spec (trans : ∀ x y z, le x y = true → le y z = true → le x z = true) (total : ∀ x y, (le x y || le y x) = true) : ∀ (f k : Nat) (l : List α), 0 < k → l.length ≤ f + k → runs le k l →
  Srt le (passes le f k l) ∧ (passes le f k l).Perm l ∧ (Srt le l → passes le f k l = l)
 | 0, k, l, _, hl, hr => by
  rw [passes]
  exact ⟨runs_small le hr (by omega), List.Perm.refl _, fun _ => rfl⟩
 | f + 1, k, l, hk, hl, hr => by
  rw [passes]
  split
  ·rename_i h
   exact ⟨runs_small le hr h, List.Perm.refl _, fun _ => rfl⟩
  ·obtain ⟨i1, i2, i3⟩ := pass_spec le trans total hk l hr
   have hll := i2.length_eq
   obtain ⟨j1, j2, j3⟩ := passes_spec trans total f (2 * k) (pass le k l) (by omega) (by omega) i1
   refine ⟨j1, j2.trans i2, fun hs => ?_⟩
   rw [i3 hs] at j3 ⊢
   exact j3 hs
theorem ssort_spec (trans : ∀ x y z, le x y = true → le y z = true → le x z = true) (total : ∀ x y, (le x y || le y x) = true) (l : List α) : Srt le (ssort le l) ∧ (ssort le l).Perm l ∧ (Srt le l → ssort le l = l) := by
 obtain ⟨i1, i2, i3⟩ := blocks_spec le trans total (k := 20) (by omega) l
 have hl := i2.length_eq
 obtain ⟨j1, j2, j3⟩ := passes_spec le trans total l.length 20 (blocks le 20 l) (by omega) (by omega) i1
 refine ⟨j1, j2.trans i2, fun hs => ?_⟩
 unfold ssort
 rw [i3 hs] at j3 ⊢
 exact j3 hs
end
end Go.Ai

namespace Go.Ai
def cellsK (l : List KV) : List A := (l.map encK).flatten
theorem cellsK_len (l : List KV) : (cellsK l).length = l.length * 11 := by
 induction l with
 | nil => rfl
 | cons x l ih => simp only [cellsK, List.map_cons, List.flatten_cons, List.length_append, encK_len, List.length_cons] at ih ⊢; omega
theorem cellsK_append (a b : List KV) : cellsK (a ++ b) = cellsK a ++ cellsK b := by simp [cellsK]
end Go.Ai

namespace Go.Ai
theorem unpL_back {l : List KV} {d : Int} : ∀ (l : List KV), (∀ x ∈ l, readK (writeK x) d = (x, none)) → ∀ (k : Nat) (acc : List KV), unpL (fun t => readK t d) (l.map fun x => bytesR 1 (writeK x)) k acc = (acc ++ l, none)
 | [], _, k, acc => by simp [unpL]
 | x :: l, h, k, acc => by
  rw [List.map_cons, unpL, if_neg (by simp [takesL, bytesR])]
  have hx : readK (bytesR 1 (writeK x)).s d = (x, none) := h x (by simp)
  rw [if_neg (by rw [hx]; simp), unpL_back (l := l) l (fun y hy => h y (by simp [hy])), hx]
  simp
theorem unpE_parts {l : List KV} {d : Int} (hm : ∀ x ∈ l, mayK x d = true) (hw : ∀ x ∈ l, x.wf) (hl : ∀ x ∈ l, (writeK x).length < 18446744073709551616) : unpE (partsK l) d = (l, none) := by
 have ha : allE (partsK l) d 0 = .ok (l.map fun x => bytesR 1 (writeK x)) := by
  refine allE_iff.2 ⟨?_, partsK_eq l⟩
  intro r hr
  obtain ⟨x, hx, rfl⟩ := List.mem_map.1 hr
  exact bytesR_ok (by omega) (by omega) (hl x hx)
 unfold unpE
 rw [ha]
 dsimp only
 rw [unpL_back (l := l) l (fun x hx => readK_writeK (hm x hx) (hl x hx) (hw x hx))]
 rfl
theorem partsK_append (a b : List KV) : partsK (a ++ b) = partsK a ++ partsK b := by
 rw [partsK_eq, partsK_eq, partsK_eq, List.map_append, rawsR_append]
theorem partsK_perm {a b : List KV} (h : a.Perm b) : (partsK a).length = (partsK b).length := by
 induction h with
 | nil => rfl
 | cons x _ ih => simp only [partsK, List.length_append, ih]
 | swap x y l => simp only [partsK, List.length_append]; omega
 | trans _ _ h1 h2 => exact h1.trans h2
def turned (l : List KV) (k : Nat) : List KV := l.drop k ++ l.take k
theorem turned_perm (l : List KV) (k : Nat) : (turned l k).Perm l := by
 unfold turned
 exact List.perm_append_comm.trans (List.Perm.of_eq (List.take_append_drop k l))
theorem turned_get {l : List KV} {k i : Nat} (hk : k < l.length) (hi : i < l.length) : (turned l k)[i]? = l[(i + k) % l.length]? := by
 unfold turned
 by_cases h : i < l.length - k
 ·rw [List.getElem?_append_left (by simp; omega), List.getElem?_drop, Nat.mod_eq_of_lt (by omega), Nat.add_comm]
 ·have e : (i + k) % l.length = i + k - l.length := by
   rw [Nat.mod_eq_sub_mod (by omega), Nat.mod_eq_of_lt (by omega)]
  rw [List.getElem?_append_right (by simp; omega), List.length_drop, List.getElem?_take_of_lt (by omega), e]
  congr 1; omega
end Go.Ai

