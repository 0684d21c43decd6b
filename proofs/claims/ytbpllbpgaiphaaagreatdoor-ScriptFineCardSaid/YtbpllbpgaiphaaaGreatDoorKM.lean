/- Part KM of the proof that a law of this program answers yes at every input: no conditions beyond the given statement. -/
import Derived.Test.YtbpllbpgaiphaaaGreatDoorKD
import Derived.Test.YtbpllbpgaiphaaaGreatDoorKC
set_option linter.unusedSimpArgs false
set_option linter.unusedVariables false
set_option linter.all false
/- Errors, numbers in few bytes: what the functions answer. -/
namespace Go.Ai

/-- errors that say where -/
inductive Err where
  | code (c : Int)
  | at_ (n : Int) (e : Err)
  | fld (n : Int) (e : Err)
  deriving DecidableEq
def encErr (tc tw tf : Nat) : Err → A
  | .code c => .iface tc (.int .i64 c)
  | .at_ n e => .iface tw (.ref [.int .i64 n, encErr tc tw tf e] 0)
  | .fld n e => .iface tf (.ref [.int .i64 n, encErr tc tw tf e] 0)
def Err.codeOf : Err → Int
  | .code c => c
  | .at_ _ e => e.codeOf
  | .fld _ e => e.codeOf
/-- the first place -/
def Err.place : Err → Option Int
  | .code _ => none
  | .at_ n _ => some n
  | .fld _ e => e.place

/-! ### Bits -/
theorem andNot128 (m : Nat) (h : m < 256) : bitsA .andNot .u8 (m : Int) 128 = ((m % 128 : Nat) : Int) := by
  have : ∀ m : Fin 256, bitsA .andNot .u8 (m.val : Int) 128 = ((m.val % 128 : Nat) : Int) := by decide +kernel
  exact this ⟨m, h⟩
theorem bitsA_or_u64 (a b : Nat) (ha : a < 18446744073709551616) (hb : b < 18446744073709551616) : bitsA .or .u64 (a : Int) (b : Int) = ((a ||| b : Nat) : Int) := by
  have h : a ||| b < 18446744073709551616 := Nat.or_lt_two_pow (n := 64) (by simpa using ha) (by simpa using hb)
  have e : ∀ x : Nat, x < 18446744073709551616 → (BitVec.ofInt 64 (x : Int)).toNat = x := by
    intro x hx
    simp only [BitVec.toNat_ofInt]
    omega
  show IntKind.u64.wrap (((BitVec.ofInt 64 (a : Int)) ||| (BitVec.ofInt 64 (b : Int))).toNat : Int) = _
  rw [BitVec.toNat_or, e a ha, e b hb]
  exact wrap_u64 (by omega) (by omega)
theorem or_shift (a y k : Nat) (h : a < 2 ^ k) : a ||| (y * 2 ^ k) = a + y * 2 ^ k := by
  have := Nat.shiftLeft_add_eq_or_of_lt h y
  rw [Nat.shiftLeft_eq] at this
  rw [Nat.or_comm, ← this, Nat.add_comm]

/-! ### Numbers in few bytes -/
def putInit (n : Nat) : List UInt8 := if n < 128 then [] else UInt8.ofNat (n % 128 + 128) :: putInit (n / 128)
  termination_by n
  decreasing_by omega
def putLast (n : Nat) : Nat := if n < 128 then n else putLast (n / 128)
  termination_by n
  decreasing_by omega
def putV (n : Nat) : List UInt8 := putInit n ++ [UInt8.ofNat (putLast n)]
theorem putInit_len (n : Nat) : ∀ k, n < 128 ^ (k + 1) → (putInit n).length ≤ k := by
  induction n using Nat.strongRecOn with
  | ind n ih =>
    intro k hk
    rw [putInit]
    split
    · simp
    · cases k with
      | zero => omega
      | succ k =>
        simp only [List.length_cons]
        have := ih (n / 128) (by omega) k (by rw [Nat.pow_succ] at hk; omega)
        omega
theorem putLast_lt (n : Nat) : putLast n < 128 := by
  induction n using Nat.strongRecOn with
  | ind n ih =>
    rw [putLast]
    split
    · assumption
    · exact ih _ (by omega)
theorem putV_len {n : Nat} (h : n < 18446744073709551616) : 1 ≤ (putV n).length ∧ (putV n).length ≤ 10 := by
  have := putInit_len n 9 (by omega)
  simp [putV]; omega
theorem putV_small {n : Nat} (h : n < 128) : putV n = [UInt8.ofNat n] := by
  rw [putV, putInit, if_pos h, putLast, if_pos h]; rfl
theorem putV_big {n : Nat} (h : ¬ n < 128) : putV n = UInt8.ofNat (n % 128 + 128) :: putV (n / 128) := by
  rw [putV, putInit, if_neg h, putLast, if_neg h]; rfl

/-- reading: from the i-th byte on -/
def vgo : Nat → Nat → List UInt8 → Except Int (Nat × Nat)
  | _, _, [] => .error 1
  | i, acc, c :: cs => if i = 9 ∧ 1 < c.toNat then .error 4
    else if c.toNat < 128 then .ok (acc + c.toNat % 128 * 2 ^ (7 * i), i + 1) else vgo (i + 1) (acc + c.toNat % 128 * 2 ^ (7 * i)) cs
/-- varint.read: the number, how many bytes -/
def vread (s : List UInt8) : Except Int (Nat × Nat) := vgo 0 0 s

theorem vgo_lt : ∀ (s : List UInt8) (i acc : Nat), i ≤ 9 → acc < 2 ^ (7 * i) → ∀ n k, vgo i acc s = .ok (n, k) → n < 18446744073709551616 ∧ i < k ∧ k ≤ i + s.length ∧ k ≤ 10
  | [], i, acc, _, _, n, k, h => by simp [vgo] at h
  | c :: cs, i, acc, hi, ha, n, k, h => by
    rw [vgo] at h
    split at h
    · cases h
    · rename_i h9
      have hc : c.toNat < 256 := c.toNat_lt
      have hp : 2 ^ (7 * (i + 1)) = 128 * 2 ^ (7 * i) := by rw [show 7 * (i + 1) = 7 * i + 7 by omega, Nat.pow_add]; omega
      have hm : c.toNat % 128 * 2 ^ (7 * i) ≤ 127 * 2 ^ (7 * i) := Nat.mul_le_mul_right _ (by omega)
      split at h
      · simp only [Except.ok.injEq, Prod.mk.injEq] at h
        obtain ⟨rfl, rfl⟩ := h
        refine ⟨?_, by omega, by simp, by omega⟩
        rcases Nat.lt_or_ge i 9 with h8 | h8
        · have : 2 ^ (7 * i) ≤ 2 ^ 56 := Nat.pow_le_pow_right (by omega) (by omega)
          omega
        · have : i = 9 := by omega
          subst this
          have : c.toNat ≤ 1 := by
            rcases Nat.lt_or_ge 1 c.toNat with h1 | h1
            · exact absurd ⟨rfl, h1⟩ h9
            · exact h1
          have hm' : c.toNat % 128 * 2 ^ (7 * 9) ≤ 1 * 2 ^ (7 * 9) := Nat.mul_le_mul_right _ (by omega)
          omega
      · have h8 : i < 9 := by
          rcases Nat.lt_or_ge i 9 with h8 | h8
          · exact h8
          · exact absurd ⟨by omega, by omega⟩ h9
        obtain ⟨g1, g2, g3, g4⟩ := vgo_lt cs (i + 1) _ (by omega) (by omega) n k h
        exact ⟨g1, by omega, by simp; omega, g4⟩
theorem vread_lt {s : List UInt8} {n k : Nat} (h : vread s = .ok (n, k)) : n < 18446744073709551616 ∧ 0 < k ∧ k ≤ s.length ∧ k ≤ 10 := by
  have := vgo_lt s 0 0 (by omega) (by omega) n k h
  omega
theorem vgo_err : ∀ (s : List UInt8) (i acc : Nat) (c : Int), vgo i acc s = .error c → c = 1 ∨ c = 4
  | [], i, acc, c, h => by simp [vgo] at h; omega
  | x :: xs, i, acc, c, h => by
    rw [vgo] at h
    split at h
    · cases h; omega
    · split at h
      · cases h
      · exact vgo_err xs _ _ c h
end Go.Ai

/- Records: what reading them comes to. -/
namespace Go.Ai

/-- an object that lies outside of a frame: how writes to it and the frame's own objects pass each other -/
def Apart (p id : Id) : Prop := underB p 0 id = false
theorem Apart.sub {p id : Id} (a : Apart p id) (k : Nat) : Apart (k :: p) id := by
  unfold Apart at *
  cases h : underB (k :: p) 0 id with
  | false => rfl
  | true => rw [underB_mono (Nat.zero_le k) (underB_of_cons h)] at a; cases a
theorem Apart.at_ {p id : Id} (a : Apart p id) (c : Nat) : underB p c id = false := by
  unfold Apart at a
  cases h : underB p c id with
  | false => rfl
  | true => rw [underB_mono (Nat.zero_le c) h] at a; cases a
theorem Apart.ne {p id : Id} (a : Apart p id) (t k : Nat) : id ≠ t :: k :: p := by
  rintro rfl
  unfold Apart at a
  rw [underB_of_suffix (Nat.zero_le k) (List.suffix_cons _ _)] at a
  cases a
theorem Apart.own {p : Id} {t j k : Nat} (h : j ≠ k) : Apart (k :: p) (t :: j :: p) := by
  unfold Apart; simp [h]
theorem drop_upd_other {p id : Id} {c : Nat} {h : Heap} {cs : List A} (hu : underB p c id = false) : dropFrom p c (upd h id cs) = upd (dropFrom p c h) id cs := by
  funext i
  simp only [dropFrom, upd]
  by_cases e : i = id
  · subst e; simp [hu]
  · simp [e]
theorem Apart.facts {p id : Id} (a : Apart p id) : (∀ (c : Nat) (h : Heap) (cs : List A), dropFrom p c (upd h id cs) = upd (dropFrom p c h) id cs) ∧ (∀ (c : Nat) (h : Heap), dropFrom p c h id = h id) ∧
    (∀ (k : Nat) (h : Heap) (cs : List A), dropFrom (k :: p) 0 (upd h id cs) = upd (dropFrom (k :: p) 0 h) id cs) ∧ (∀ (k : Nat) (h : Heap), dropFrom (k :: p) 0 h id = h id) ∧
    (∀ (h : Heap) (t k : Nat) (cs : List A), upd h (t :: k :: p) cs id = h id) ∧ (∀ (h : Heap) (t k : Nat) (cs : List A), upd h id cs (t :: k :: p) = h (t :: k :: p)) :=
  ⟨fun c _ _ => drop_upd_other (a.at_ c), fun c _ => drop_other (a.at_ c), fun k _ _ => drop_upd_other (a.sub k), fun k _ => drop_other (a.sub k), fun _ t k _ => by simp [upd, a.ne t k], fun _ t k _ => by simp [upd, (a.ne t k).symm]⟩

/-- varint.Get at a place within -/
def vgetE (s : List UInt8) (p : Nat) : Except Err (Nat × Nat) := match vread (s.drop p) with
  | .ok (n, k) => .ok (n, p + k)
  | .error c => .error (.at_ p (.code c))
theorem vgetE_lt {s : List UInt8} {p n q : Nat} (h : vgetE s p = .ok (n, q)) (hp : p ≤ s.length) : n < 18446744073709551616 ∧ p < q ∧ q ≤ s.length ∧ q ≤ p + 10 := by
  unfold vgetE at h
  split at h
  · rename_i n' k hr
    simp only [Except.ok.injEq, Prod.mk.injEq] at h
    obtain ⟨rfl, rfl⟩ := h
    have := vread_lt hr
    simp at this
    omega
  · cases h
theorem vgetE_in {s : List UInt8} {p n q : Nat} (h : vgetE s p = .ok (n, q)) : p < s.length := by
  unfold vgetE at h
  split at h
  · rename_i n' k hr
    have := vread_lt hr
    simp at this
    omega
  · cases h

/-- the least first -/
def leN : List UInt8 → Nat
  | [] => 0
  | b :: bs => b.toNat + 256 * leN bs
theorem leN_lt : ∀ l : List UInt8, leN l < 256 ^ l.length
  | [] => by simp [leN]
  | b :: bs => by
    have h1 := leN_lt bs
    have h2 : b.toNat < 256 := b.toNat_lt
    simp only [leN, List.length_cons, Nat.pow_succ]
    omega
def takeE (s : List UInt8) (p n : Nat) : Except Err (List UInt8 × Nat) := if s.length - p < n then .error (.at_ p (.code 1)) else .ok ((s.drop p).take n, p + n)
theorem takeE_lt {s : List UInt8} {p n q : Nat} {t : List UInt8} (h : takeE s p n = .ok (t, q)) (hp : p ≤ s.length) : q = p + n ∧ q ≤ s.length ∧ t.length = n ∧ t = (s.drop p).take n := by
  unfold takeE at h
  split at h
  · cases h
  · simp only [Except.ok.injEq, Prod.mk.injEq] at h
    obtain ⟨rfl, rfl⟩ := h
    refine ⟨rfl, by omega, ?_, rfl⟩
    simp; omega

/-- a tag: number, type, where it ends -/
def tagE (s : List UInt8) (p : Nat) : Except Err (Nat × Nat × Nat) := match vgetE s p with
  | .error e => .error e
  | .ok (n, q) => if n / 8 < 1 ∨ 536870911 < n / 8 then .error (.at_ p (.code 3)) else .ok (n / 8, n % 8, q)
theorem tagE_lt {s : List UInt8} {p num kind q : Nat} (h : tagE s p = .ok (num, kind, q)) : p < q ∧ q ≤ s.length ∧ p < s.length ∧ 1 ≤ num ∧ num ≤ 536870911 ∧ kind < 8 := by
  unfold tagE at h
  split at h
  · cases h
  · rename_i n q' hg
    split at h
    · cases h
    · simp only [Except.ok.injEq, Prod.mk.injEq] at h
      obtain ⟨rfl, rfl, rfl⟩ := h
      have h1 := vgetE_in hg
      have h2 := vgetE_lt hg (by omega)
      omega

mutual
/-- what stands behind a tag: the number, the bytes, where it ends -/
def bodyE (s : List UInt8) (d : Int) (num kind t q : Nat) : Except Err (Nat × List UInt8 × Nat) :=
  if kind = 0 then (vgetE s q).map fun r => (r.1, [], r.2)
  else if kind = 1 then (takeE s q 8).map fun r => (leN r.1, [], r.2)
  else if kind = 5 then (takeE s q 4).map fun r => (leN r.1, [], r.2)
  else if kind = 2 then match vgetE s q with
    | .error e => .error e
    | .ok (n, e) => (takeE s e n).map fun r => (0, r.1, r.2)
  else if kind = 3 then (groupE s d num q).map fun r => (0, [], r)
  else .error (.at_ t (.code 3))
termination_by (s.length + 1 - q, 2)
def groupE (s : List UInt8) (d : Int) (num q : Nat) : Except Err Nat := if d < 1 then .error (.at_ q (.code 6)) else loopE s (d - 1) num q
termination_by (s.length + 1 - q, 1)
def loopE (s : List UInt8) (d : Int) (num p : Nat) : Except Err Nat := match h : tagE s p with
  | .error e => .error e
  | .ok (n, kind, q) =>
    if kind = 4 then (if n = num then .ok q else .error (.at_ p (.code 3)))
    else match bodyE s d n kind p q with
      | .error e => .error e
      | .ok (_, _, q') => if p < q' then loopE s d num q' else .error (.code 0)
termination_by (s.length + 1 - p, 0)
decreasing_by
  · have := tagE_lt h; apply Prod.Lex.left; omega
  · have := tagE_lt h; apply Prod.Lex.left; omega
end
structure Rec where
  num : Nat
  kind : Nat
  n : Nat
  s : List UInt8
  raw : List UInt8
/-- a record at a place, and where it ends -/
def recE (s : List UInt8) (d : Int) (p : Nat) : Except Err (Rec × Nat) := match tagE s p with
  | .error e => .error e
  | .ok (num, kind, q) => (bodyE s d num kind p q).map fun r => (⟨num, kind, r.1, r.2.1, (s.drop p).take (r.2.2 - p)⟩, r.2.2)
end Go.Ai
namespace Go.Ai
theorem map_ok {α β ε : Type} {f : α → β} {x : Except ε α} {b : β} (h : x.map f = .ok b) : ∃ a, x = .ok a ∧ f a = b := by
  cases x with
  | error e => cases h
  | ok a => exact ⟨a, rfl, by simpa [Except.map] using h⟩
theorem map_err {α β ε : Type} {f : α → β} {x : Except ε α} {e : ε} (h : x.map f = .error e) : x = .error e := by
  cases x with
  | error e' => simpa [Except.map] using h
  | ok a => cases h
/-- the loop's equation -/
theorem loopE_ok {s : List UInt8} {d : Int} {num p n kind q : Nat} (h : tagE s p = .ok (n, kind, q)) : loopE s d num p = (if kind = 4 then (if n = num then .ok q else .error (.at_ p (.code 3)))
    else match bodyE s d n kind p q with
      | .error e => .error e
      | .ok (_, _, q') => if p < q' then loopE s d num q' else .error (.code 0)) := by
  rw [loopE]
  split
  · rename_i e h'; rw [h] at h'; cases h'
  · rename_i n' k' q' h'
    rw [h] at h'
    simp only [Except.ok.injEq, Prod.mk.injEq] at h'
    obtain ⟨rfl, rfl, rfl⟩ := h'
    rfl
theorem loopE_err {s : List UInt8} {d : Int} {num p : Nat} {e : Err} (h : tagE s p = .error e) : loopE s d num p = .error e := by
  rw [loopE]
  split
  · rename_i e' h'; rw [h] at h'; cases h'; rfl
  · rename_i n' k' q' h'; rw [h] at h'; cases h'
/-- what is read lies within -/
theorem ends (s : List UInt8) : ∀ m q, s.length + 1 - q ≤ m → q ≤ s.length → ∀ d num,
    (∀ e, loopE s d num q = .ok e → q < e ∧ e ≤ s.length) ∧ (∀ kind t n bs e, bodyE s d num kind t q = .ok (n, bs, e) → q ≤ e ∧ e ≤ s.length ∧ n < 18446744073709551616) := by
  intro m
  induction m with
  | zero => intro q hm hq; omega
  | succ m ih =>
    intro q hm hq
    have hl : ∀ d num e, loopE s d num q = .ok e → q < e ∧ e ≤ s.length := by
      intro d num e h
      cases ht : tagE s q with
      | error x => rw [loopE_err ht] at h; cases h
      | ok r =>
        obtain ⟨n, kind, q1⟩ := r
        have h1 := tagE_lt ht
        rw [loopE_ok ht] at h
        split at h
        · split at h
          · simp only [Except.ok.injEq] at h; omega
          · cases h
        · split at h
          · cases h
          · rename_i n2 b2 q2 hb
            have h2 := (ih q1 (by omega) (by omega) d n).2 _ _ _ _ _ hb
            split at h
            · have h3 := (ih q2 (by omega) (by omega) d num).1 e h
              omega
            · cases h
    intro d num
    refine ⟨hl d num, ?_⟩
    intro kind t n bs e h
    rw [bodyE] at h
    split at h
    · obtain ⟨⟨n', e'⟩, h1, h2⟩ := map_ok h
      have := vgetE_lt h1 hq
      simp only [Prod.mk.injEq] at h2
      omega
    · split at h
      · obtain ⟨⟨n', e'⟩, h1, h2⟩ := map_ok h
        have h3 := takeE_lt h1 hq
        have h4 := leN_lt n'
        rw [h3.2.2.1] at h4
        simp only [Prod.mk.injEq] at h2
        omega
      · split at h
        · obtain ⟨⟨n', e'⟩, h1, h2⟩ := map_ok h
          have h3 := takeE_lt h1 hq
          have h4 := leN_lt n'
          rw [h3.2.2.1] at h4
          simp only [Prod.mk.injEq] at h2
          omega
        · split at h
          · split at h
            · cases h
            · rename_i n1 e1 hg
              have h3 := vgetE_lt hg hq
              obtain ⟨⟨n', e'⟩, h1, h2⟩ := map_ok h
              have h4 := takeE_lt h1 (by omega)
              simp only [Prod.mk.injEq] at h2
              omega
          · split at h
            · obtain ⟨e', h1, h2⟩ := map_ok h
              rw [groupE] at h1
              split at h1
              · cases h1
              · have := hl _ _ _ h1
                simp only [Prod.mk.injEq] at h2
                omega
            · cases h
theorem bodyE_lt {s : List UInt8} {d : Int} {num kind t q n e : Nat} {bs : List UInt8} (h : bodyE s d num kind t q = .ok (n, bs, e)) (hq : q ≤ s.length) : q ≤ e ∧ e ≤ s.length ∧ n < 18446744073709551616 :=
  (ends s _ q (Nat.le_refl _) hq d num).2 _ _ _ _ _ h
theorem loopE_lt {s : List UInt8} {d : Int} {num q e : Nat} (h : loopE s d num q = .ok e) (hq : q ≤ s.length) : q < e ∧ e ≤ s.length :=
  (ends s _ q (Nat.le_refl _) hq d num).1 _ h
end Go.Ai
namespace Go.Ai
theorem recE_lt {s : List UInt8} {d : Int} {p e : Nat} {r : Rec} (h : recE s d p = .ok (r, e)) : p < e ∧ e ≤ s.length ∧ p < s.length ∧ 1 ≤ r.num ∧ r.num ≤ 536870911 ∧ r.kind < 8 ∧ r.n < 18446744073709551616 := by
  unfold recE at h
  split at h
  · cases h
  · rename_i num kind q1 ht
    have b1 := tagE_lt ht
    obtain ⟨⟨n, bs, e'⟩, hb, h2⟩ := map_ok h
    simp only [Prod.mk.injEq] at h2
    obtain ⟨rfl, rfl⟩ := h2
    have b2 := bodyE_lt hb b1.2.1
    exact ⟨by omega, b2.2.1, b1.2.2.1, b1.2.2.2.1, b1.2.2.2.2.1, b1.2.2.2.2.2, b2.2.2⟩
/-- records, one behind the other -/
def allE (s : List UInt8) (d : Int) (p : Nat) : Except Err (List Rec) :=
  if p < s.length then match h : recE s d p with
    | .error e => .error e
    | .ok (r, e) => (allE s d e).map (r :: ·)
  else .ok []
termination_by s.length - p
decreasing_by
  have := recE_lt h; omega
theorem allE_end {s : List UInt8} {d : Int} {p : Nat} (h : ¬ p < s.length) : allE s d p = .ok [] := by rw [allE, if_neg h]
theorem allE_ok {s : List UInt8} {d : Int} {p e : Nat} {r : Rec} (h : recE s d p = .ok (r, e)) : allE s d p = (allE s d e).map (r :: ·) := by
  rw [allE, if_pos (recE_lt h).2.2.1]
  split
  · rename_i e' h'; rw [h] at h'; cases h'
  · rename_i r' e' h'
    rw [h] at h'
    simp only [Except.ok.injEq, Prod.mk.injEq] at h'
    obtain ⟨rfl, rfl⟩ := h'
    rfl
theorem allE_err {s : List UInt8} {d : Int} {p : Nat} {x : Err} (hp : p < s.length) (h : recE s d p = .error x) : allE s d p = .error x := by
  rw [allE, if_pos hp]
  split
  · rename_i e' h'; rw [h] at h'; cases h'; rfl
  · rename_i r' e' h'; rw [h] at h'; cases h'
/-- all of them -/
theorem rec_ind {s : List UInt8} {P : Nat → Prop} (h : ∀ p, p ≤ s.length → (∀ q, p < q → q ≤ s.length → P q) → P p) : ∀ p, p ≤ s.length → P p := by
  have : ∀ m p, s.length - p ≤ m → p ≤ s.length → P p := by
    intro m
    induction m with
    | zero => intro p hm hp; exact h p hp fun q h1 h2 => by omega
    | succ m ih => intro p hm hp; exact h p hp fun q h1 h2 => ih q (by omega) h2
  exact fun p hp => this _ p (Nat.le_refl _) hp
end Go.Ai

/- Texts: what the functions answer. -/
namespace Go.Ai
def uSize (c : Nat) : Nat := if c < 128 then 1 else if c < 194 then 0 else if c < 224 then 2 else if c < 240 then 3 else if c < 245 then 4 else 0
def uLo (c : Nat) : Nat := if c = 224 then 160 else if c = 240 then 144 else 128
def uHi (c : Nat) : Nat := if c = 237 then 159 else if c = 244 then 143 else 191
def uFol (c : Nat) : Bool := decide (128 ≤ c ∧ c ≤ 191)
def uSec (f c : Nat) : Bool := decide (uLo f ≤ c ∧ c ≤ uHi f)
/-- how many bytes the sign in front has; 0: it is none -/
def uSign : List UInt8 → Nat
  | [] => 0
  | c :: cs => if uSize c.toNat ≤ 1 then uSize c.toNat
    else match cs with
      | [] => 0
      | c1 :: cs => if uSec c.toNat c1.toNat = false then 0
        else if uSize c.toNat = 2 then 2
        else match cs with
          | [] => 0
          | c2 :: cs => if uFol c2.toNat = false then 0
            else if uSize c.toNat = 3 then 3
            else match cs with
              | [] => 0
              | c3 :: _ => if uFol c3.toNat = false then 0 else 4
theorem uSize_le (c : Nat) : uSize c ≤ 4 := by unfold uSize; (repeat' split) <;> omega
theorem uSign_le : ∀ s : List UInt8, uSign s ≤ s.length
  | [] => by simp [uSign]
  | [c] => by
    rw [uSign]; split
    · simpa using by assumption
    · simp
  | [c, c1] => by
    rw [uSign]; split
    · simp; omega
    · (repeat' split) <;> simp
  | [c, c1, c2] => by
    rw [uSign]; split
    · simp; omega
    · (repeat' split) <;> simp
  | c :: c1 :: c2 :: c3 :: cs => by
    rw [uSign]; split
    · simp; omega
    · (repeat' split) <;> simp
def uF (b : UInt8) : Bool := uFol b.toNat
theorem uSize_cases (c : Nat) : uSize c = 0 ∨ uSize c = 1 ∨ uSize c = 2 ∨ uSize c = 3 ∨ uSize c = 4 := by have := uSize_le c; omega
/-- the sign's bytes, at once -/
theorem uSign_eq (c : UInt8) (cs : List UInt8) : uSign (c :: cs) = if cs.length + 1 < uSize c.toNat then 0 else if 1 < uSize c.toNat ∧ (cs.head?.any fun x => uSec c.toNat x.toNat) = false then 0
    else if (((c :: cs).take (uSize c.toNat)).drop 2).all uF = true then uSize c.toNat else 0 := by
  rw [uSign.eq_def]
  dsimp only
  rcases uSize_cases c.toNat with h | h | h | h | h <;> simp only [h]
  · simp
  · simp
  · cases cs with
    | nil => simp
    | cons c1 cs => by_cases h1 : uSec c.toNat c1.toNat = true <;> simp [h1]
  · cases cs with
    | nil => simp
    | cons c1 cs => cases cs with
      | nil => by_cases h1 : uSec c.toNat c1.toNat = true <;> simp [h1]
      | cons c2 cs => by_cases h1 : uSec c.toNat c1.toNat = true <;> by_cases h2 : uFol c2.toNat = true <;> simp [h1, h2, uF]
  · cases cs with
    | nil => simp
    | cons c1 cs => cases cs with
      | nil => by_cases h1 : uSec c.toNat c1.toNat = true <;> simp [h1]
      | cons c2 cs => cases cs with
        | nil => by_cases h1 : uSec c.toNat c1.toNat = true <;> by_cases h2 : uFol c2.toNat = true <;> simp [h1, h2, uF]
        | cons c3 cs => by_cases h1 : uSec c.toNat c1.toNat = true <;> by_cases h2 : uFol c2.toNat = true <;> by_cases h3 : uFol c3.toNat = true <;> simp [h1, h2, h3, uF]
/-- where the first sign is none -/
def uWhole (s : List UInt8) (p : Nat) : Nat := if h : p < s.length ∧ uSign (s.drop p) ≠ 0 then uWhole s (p + uSign (s.drop p)) else p
termination_by s.length - p
decreasing_by omega
theorem uWhole_le {s : List UInt8} : ∀ p, p ≤ s.length → p ≤ uWhole s p ∧ uWhole s p ≤ s.length := by
  refine rec_ind fun p hp ih => ?_
  rw [uWhole]
  split
  · rename_i h
    have h1 := uSign_le (s.drop p)
    simp at h1
    have := ih (p + uSign (s.drop p)) (by omega) (by omega)
    omega
  · omega
def uBad (s : List UInt8) : Option Nat := if uWhole s 0 = s.length then none else some (uWhole s 0)
end Go.Ai
namespace Go.Ai
/-- so many bytes more, the first one in other bounds -/
def okRest : Nat → List UInt8 → Nat → Nat → Bool
  | 0, _, _, _ => true
  | _ + 1, [], _, _ => false
  | m + 1, b :: bs, lo, hi => decide (lo ≤ b.toNat ∧ b.toNat ≤ hi) && okRest m bs 128 191
theorem uSign_ref (c : UInt8) (cs : List UInt8) : uSign (c :: cs) = if uSize c.toNat ≤ 1 then uSize c.toNat else if okRest (uSize c.toNat - 1) cs (uLo c.toNat) (uHi c.toNat) = true then uSize c.toNat else 0 := by
  rw [uSign.eq_def]
  dsimp only
  rcases uSize_cases c.toNat with h | h | h | h | h <;> simp only [h]
  · simp
  · simp
  · cases cs with
    | nil => simp [okRest]
    | cons c1 cs => by_cases h1 : uLo c.toNat ≤ c1.toNat ∧ c1.toNat ≤ uHi c.toNat <;> simp [okRest, uSec, h1]
  · cases cs with
    | nil => simp [okRest]
    | cons c1 cs => cases cs with
      | nil => simp [okRest]
      | cons c2 cs =>
        simp only [okRest, uSec, uFol]
        by_cases h1 : uLo c.toNat ≤ c1.toNat ∧ c1.toNat ≤ uHi c.toNat <;> by_cases h2 : 128 ≤ c2.toNat ∧ c2.toNat ≤ 191 <;> simp [h1, h2]
  · cases cs with
    | nil => simp [okRest]
    | cons c1 cs => cases cs with
      | nil => simp [okRest]
      | cons c2 cs => cases cs with
        | nil => simp [okRest]
        | cons c3 cs =>
          simp only [okRest, uSec, uFol]
          by_cases h1 : uLo c.toNat ≤ c1.toNat ∧ c1.toNat ≤ uHi c.toNat <;> by_cases h2 : 128 ≤ c2.toNat ∧ c2.toNat ≤ 191 <;> by_cases h3 : 128 ≤ c3.toNat ∧ c3.toNat ≤ 191 <;> simp [h1, h2, h3]
end Go.Ai

/- Library's own calls; errors' codes and places. -/
namespace Go.Ai
theorem callW_prim {E : Env} {p : Id} {f : Nat} {args : List A} {h : Heap} {g : Id → List A → Heap → Option (A × Heap)} (hg : E.prim f = some g) : callW E p f args h = g p args h := opt_ext fun r => by
  rw [callW_some]
  constructor
  · rintro ⟨n, hn⟩
    cases n with
    | zero => simp [call] at hn
    | succ n => simpa [call, hg] using hn
  · intro hr
    exact ⟨1, by simpa [call, hg] using hr⟩
/-- the first place and what is wrong there -/
def Err.first : Err → Option (Int × Err)
  | .code _ => none
  | .at_ n e => some (n, e)
  | .fld _ e => e.first
theorem place_first (e : Err) : e.place = e.first.map (·.1) := by
  induction e with
  | code c => rfl
  | at_ n e ih => rfl
  | fld n e ih => exact ih
theorem encErr_depth (tc tw tf : Nat) (e : Err) : ∃ d, (encErr tc tw tf e).depth = d + 1 ∧ (∀ n x, e = .at_ n x ∨ e = .fld n x → d = (encErr tc tw tf x).depth) := by
  cases e with
  | code c => exact ⟨0, rfl, by rintro n x (h | h) <;> cases h⟩
  | at_ n e => exact ⟨_, Nat.add_comm 1 _, by rintro n x (h | h) <;> cases h; rfl⟩
  | fld n e => exact ⟨_, Nat.add_comm 1 _, by rintro n x (h | h) <;> cases h; rfl⟩
theorem chain_code {tc tw tf : Nat} (h1 : tw ≠ tc) (h2 : tf ≠ tc) (e : Err) : ∀ n, (encErr tc tw tf e).depth ≤ n → chainA tc tw tf tc n (encErr tc tw tf e) = some (some (.int .i64 e.codeOf)) := by
  induction e with
  | code c => intro n hn; cases n with
    | zero => simp [encErr, A.depth] at hn
    | succ n => simp [encErr, chainA, Err.codeOf]
  | at_ k e ih => intro n hn; cases n with
    | zero => simp [encErr, A.depth] at hn
    | succ n =>
      simp only [encErr, A.depth] at hn
      simp [encErr, chainA, Err.codeOf, h1, ih n (by omega)]
  | fld k e ih => intro n hn; cases n with
    | zero => simp [encErr, A.depth] at hn
    | succ n =>
      simp only [encErr, A.depth] at hn
      simp [encErr, chainA, Err.codeOf, h2, ih n (by omega)]
theorem chain_place {tc tw tf : Nat} (h1 : tw ≠ tc) (h2 : tf ≠ tw) (h3 : tf ≠ tc) (e : Err) : ∀ n, (encErr tc tw tf e).depth ≤ n → chainA tc tw tf tw n (encErr tc tw tf e) = some (e.first.map fun r => .ref [.int .i64 r.1, encErr tc tw tf r.2] 0) := by
  induction e with
  | code c => intro n hn; cases n with
    | zero => simp [encErr, A.depth] at hn
    | succ n => simp [encErr, chainA, Err.first, h1.symm]
  | at_ k e ih => intro n hn; cases n with
    | zero => simp [encErr, A.depth] at hn
    | succ n => simp [encErr, chainA, Err.first, h1]
  | fld k e ih => intro n hn; cases n with
    | zero => simp [encErr, A.depth] at hn
    | succ n =>
      simp only [encErr, A.depth] at hn
      simp [encErr, chainA, Err.first, h2, h3, ih n (by omega)]
end Go.Ai

/- A frame's own objects, with conditions for a discharger. -/
namespace Go.Ai
theorem own_du {p : Id} {t k c : Nat} {h : Heap} {cs : List A} (hk : k < c) : dropFrom p c (upd h (t :: k :: p) cs) = upd (dropFrom p c h) (t :: k :: p) cs := drop_upd_other (by simp; omega)
theorem own_dg {p : Id} {t k c : Nat} {h : Heap} (hk : k < c) : dropFrom p c h (t :: k :: p) = h (t :: k :: p) := by rw [drop_own, if_neg (by omega)]
theorem sib_du {p : Id} {t k j : Nat} {h : Heap} {cs : List A} (hk : k ≠ j) : dropFrom (j :: p) 0 (upd h (t :: k :: p) cs) = upd (dropFrom (j :: p) 0 h) (t :: k :: p) cs := drop_upd_other (by simp [hk])
theorem sib_dg {p : Id} {t k j : Nat} {h : Heap} (hk : k ≠ j) : dropFrom (j :: p) 0 h (t :: k :: p) = h (t :: k :: p) := by rw [drop_sib, if_neg hk]
theorem upd_own_ne {p : Id} {t t' k j : Nat} {h : Heap} {cs : List A} (hk : k ≠ j) : upd h (t' :: j :: p) cs (t :: k :: p) = h (t :: k :: p) := by simp [upd, hk]
theorem some5 {e : Ex} {fr fr' : Fr} {c c' : Nat} {h h' : Heap} (hf : fr = fr') (hc : c = c') (hh : h = h') : (some (e, fr, c, h) : Option (Ex × Fr × Nat × Heap)) = some (e, fr', c', h') := by rw [hf, hc, hh]
end Go.Ai

