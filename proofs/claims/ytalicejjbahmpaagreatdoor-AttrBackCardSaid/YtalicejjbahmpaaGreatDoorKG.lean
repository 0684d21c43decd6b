/- Part KG of the proof that a law of this program answers yes at every input: no conditions beyond the given statement. -/
import Derived.Test.YtalicejjbahmpaaGreatDoorKE
import Derived.Test.YtalicejjbahmpaaGreatDoorKM
set_option linter.unusedSimpArgs false
set_option linter.unusedVariables false
set_option linter.all false
namespace Go.Ai.T
open Go Go.Proofs
set_option maxRecDepth 100000
set_option maxHeartbeats 4000000
def encE (e : Err) : A := encErr 47 74 178 e
def encO : Option Err → A
 | none => .nili
 | some e => encE e
@[simp] theorem encO_none : encO none = .nili := rfl
@[simp] theorem encO_some (e : Err) : encO (some e) = encE e := rfl
theorem encE_code (c : Int) : encE (.code c) = .iface 47 (.int .i64 c) := rfl
theorem encE_at (n : Int) (e : Err) : encE (.at_ n e) = .iface 74 (.ref [.int .i64 n, encE e] 0) := rfl
theorem encE_fld (n : Int) (e : Err) : encE (.fld n e) = .iface 178 (.ref [.int .i64 n, encE e] 0) := rfl
theorem encE_iface (e : Err) : ∃ t a, encE e = .iface t a := by
 cases e <;> exact ⟨_, _, rfl⟩
@[simp] theorem encE_weak (e : Err) : (encE e).weak = encE e := by obtain ⟨t, a, h⟩ := encE_iface e; rw [h]; rfl
@[simp] theorem encE_weak1 (e : Err) : (encE e).weak1 = encE e := by obtain ⟨t, a, h⟩ := encE_iface e; rw [h]; rfl
@[simp] theorem encE_noOwn (e : Err) : (encE e).noOwn = encE e := by obtain ⟨t, a, h⟩ := encE_iface e; rw [h]; rfl
@[simp] theorem encE_noOwn1 (e : Err) : (encE e).noOwn1 = encE e := by obtain ⟨t, a, h⟩ := encE_iface e; rw [h]; rfl
@[simp] theorem encE_cells (e : Err) : (encE e).cells = some [encE e] := by obtain ⟨t, a, h⟩ := encE_iface e; rw [h]; rfl
@[simp] theorem encE_stored (e : Err) : (encE e).stored = some [encE e] := by obtain ⟨t, a, h⟩ := encE_iface e; rw [h]; rfl
@[simp] theorem encE_weakR (e : Err) : (encE e).weakR = encE e := by obtain ⟨t, a, h⟩ := encE_iface e; rw [h]; rfl
@[simp] theorem encO_weak (e : Option Err) : (encO e).weak = encO e := by cases e <;> simp
@[simp] theorem encO_weak1 (e : Option Err) : (encO e).weak1 = encO e := by cases e <;> simp
@[simp] theorem encO_noOwn (e : Option Err) : (encO e).noOwn = encO e := by cases e <;> simp
@[simp] theorem encO_noOwn1 (e : Option Err) : (encO e).noOwn1 = encO e := by cases e <;> simp
@[simp] theorem encO_cells (e : Option Err) : (encO e).cells = some [encO e] := by cases e <;> simp
@[simp] theorem encO_stored (e : Option Err) : (encO e).stored = some [encO e] := by cases e <;> simp
@[simp] theorem encO_weakR (e : Option Err) : (encO e).weakR = encO e := by cases e <;> simp
@[simp] theorem eql_err {t : Nat} {e : Err} : binA E.P .eql t true (encE e) .nili = if kindT E.P t = .iface then some (.bool false) else none := by obtain ⟨t, a, h⟩ := encE_iface e; rw [h]; exact bin_ieql2
@[simp] theorem neq_err {t : Nat} {e : Err} : binA E.P .neq t true (encE e) .nili = if kindT E.P t = .iface then some (.bool true) else none := by obtain ⟨t, a, h⟩ := encE_iface e; rw [h]; exact bin_ineq2
@[simp] theorem eql_opt {t : Nat} {e : Option Err} : binA E.P .eql t true (encO e) .nili = if kindT E.P t = .iface then some (.bool e.isNone) else none := by cases e <;> simp
@[simp] theorem neq_opt {t : Nat} {e : Option Err} : binA E.P .neq t true (encO e) .nili = if kindT E.P t = .iface then some (.bool e.isSome) else none := by cases e <;> simp
theorem at_ok (n : Int) (e : Err) (p : Id) (h : Heap) : callW E p 16 [.int .i64 n, encE e] h = some (encE (.at_ n e), dropFrom p 0 h) := by
 rw [eq_16]
 simp -implicitDefEqProofs (maxSteps := 1000000) [Tryz.f16, Code.key]
 rw [encE_at]
theorem in_ok (n : Int) (e : Err) (p : Id) (h : Heap) : callW E p 101 [.int .i64 n, encE e] h = some (encE (.fld n e), dropFrom p 0 h) := by
 rw [eq_101]
 simp -implicitDefEqProofs (maxSteps := 1000000) [Tryz.f101, Code.key]
 rw [encE_fld]
theorem put_loop {p : Id} {c0 : Nat} (k : Nat) : ∀ (n : Nat) (bs : List UInt8), n < 128 ^ (k + 1) → bs.length + k ≤ 1000 → ∀ (c : Nat) (h : Heap),
  iterW E 44 p [0, 3] L_44_2 c0 ((bot.set 3 (growing (5, 1) (bytesA bs))).set 0 (.int .u64 n)) c h = some (.exit 0, (bot.set 3 (growing (5, 1) (bytesA (bs ++ putInit n)))).set 0 (.int .u64 (putLast n)), c, dropFrom p c0 h) := by
 induction k with
 | zero =>
  intro n bs hn hb c h
  rw [rd_44_2]
  have h128 : ¬ (128 : Int) ≤ n := by omega
  generalize hr : execW E 44 p _ _ _ _ = e
  simp -implicitDefEqProofs (maxSteps := 1000000) [Tryz.f44, Code.loopAt, Code.key, h128] at hr
  subst hr
  rw [putInit, putLast, if_pos (by omega), if_pos (by omega)]
  simp
 | succ k ih =>
  intro n bs hn hb c h
  rw [rd_44_2]
  generalize hr : execW E 44 p _ _ _ _ = e
  by_cases h128 : (128 : Int) ≤ n
  ·have hmax : bs.length + 1 ≤ maxStr := by simp only [maxStr]; omega
   have hmax2 : bs.length ≤ 140737488355327 := by omega
   simp -implicitDefEqProofs (maxSteps := 1000000) [Tryz.f44, Code.loopAt, Code.key, h128, IntKind.bits, hmax, hmax2] at hr
   subst hr
   rw [wrap_u8_nat, or128 _ (by omega), bytesA_one (b := UInt8.ofNat (n % 128 + 128)) (by simp; omega), bytesA_append, bytes_growing, fdiv_128]
   have g := ih (n / 128) (bs ++ [UInt8.ofNat (n % 128 + 128)]) (by rw [Nat.pow_succ] at hn; omega) (by simp; omega) c (dropFrom p c0 h)
   rw [putInit.eq_def n, putLast.eq_def n, if_neg (by omega), if_neg (by omega)]
   simpa using g
  ·simp -implicitDefEqProofs (maxSteps := 1000000) [Tryz.f44, Code.loopAt, Code.key, h128] at hr
   subst hr
   rw [putInit, putLast, if_pos (by omega), if_pos (by omega)]
   simp
theorem put_ok {n : Nat} (hn : n < 18446744073709551616) (p : Id) (h : Heap) : callW E p 44 [.int .u64 n] h = some (.str (putV n), dropFrom p 0 h) := by
 have h1 := putLast_lt n
 have h2 := putInit_len n 9 (by omega)
 have hm1 : (putInit n).length ≤ 140737488355327 := by omega
 have hm2 : (putInit n).length + 1 ≤ maxStr := by simp only [maxStr]; omega
 have g := fun h => put_loop (p := p) (c0 := 0) 9 n [] (by omega) (by simp) 0 h
 simp only [bytesA_nil, growing_nil, List.nil_append] at g
 rw [eq_44]
 simp -implicitDefEqProofs (maxSteps := 1000000) [Tryz.f44, Code.hide, Code.key, g, hm1, hm2]
 rw [wrap_u8_nat, bytesA_one (b := UInt8.ofNat (putLast n)) (by simp), bytesA_append]
 simp [putV]
def vreadX : Except Int (Nat × Nat) → Ex × A × A × A
 | .ok (n, k) => (.ret, .int .u64 n, .int .i64 k, .nili)
 | .error c => if c = 1 then (.exit 0, .int .u64 0, .int .i64 0, .nili) else (.ret, .int .u64 0, .int .i64 0, encE (.code c))
theorem vread_loop {p : Id} {c0 : Nat} {s : List UInt8} (hs : s.length ≤ maxStr) {m : Int} (hm1 : m ≤ s.length) (hm3 : m = s.length ∨ m = 10) : ∀ (rest : List UInt8) (i acc : Nat), s.drop i = rest → i ≤ 9 → acc < 2 ^ (7 * i) → ∃ i' acc' : Nat, ∀ (c : Nat) (h : Heap),
  iterW E 147 p [0, 2, 3, 4, 5, 10, 11] L_147_3 c0 (((((((bot.set 11 (.int .i64 i)).set 10 (.int .i64 m)).set 5 (.int .u64 acc)).set 4 .nili).set 3 (.int .i64 0)).set 2 (.int .u64 0)).set 0 (.str s)) c h =
   some ((vreadX (vgo i acc rest)).1, ((((((bot.set 11 (.int .i64 i')).set 10 (.int .i64 m)).set 5 (.int .u64 acc')).set 4 (vreadX (vgo i acc rest)).2.2.2).set 3 (vreadX (vgo i acc rest)).2.2.1).set 2 (vreadX (vgo i acc rest)).2.1).set 0 (.str s), c, dropFrom p c0 h) := by
 intro rest
 induction rest with
 | nil =>
  intro i acc hj hi ha
  refine ⟨i, acc, fun c h => ?_⟩
  rw [rd_147_3]
  have h1 : ¬ (i : Int) < m := by
   have := drop_end hj
   omega
  generalize hr : execW E 147 p _ _ _ _ = e
  simp -implicitDefEqProofs (maxSteps := 1000000) [Tryz.f147, Code.loopAt, Code.key, h1] at hr
  subst hr
  simp [vgo, vreadX]
 | cons b bs ih =>
  intro i acc hj hi ha
  obtain ⟨hlt, hb, hbs⟩ := drop_facts hj
  have h1 : (i : Int) < m := by omega
  have hb256 : b.toNat < 256 := b.toNat_lt
  have hw := wrap_succ hlt hs
  have hw7 : IntKind.i64.wrap (7 * (i : Int)) = 7 * (i : Int) := wrap_i64 (by omega) (by omega)
  have hp : 2 ^ (7 * (i + 1)) = 128 * 2 ^ (7 * i) := by rw [show 7 * (i + 1) = 7 * i + 7 by omega, Nat.pow_add]; omega
  have hmm : b.toNat % 128 * 2 ^ (7 * i) ≤ 127 * 2 ^ (7 * i) := Nat.mul_le_mul_right _ (by omega)
  have hn7 : ¬ 7 * (i : Int) < 0 := by omega
  have hmin : min (7 * (i : Int)).toNat 64 = 7 * i := by omega
  have hand := andNot128 b.toNat hb256
  have hw8 : IntKind.u64.wrap ((b.toNat % 128 : Nat) : Int) = ((b.toNat % 128 : Nat) : Int) := wrap_u64 (by omega) (by omega)
  have step : ¬ (i = 9 ∧ 1 < b.toNat) → b.toNat % 128 * 2 ^ (7 * i) < 18446744073709551616 ∧ acc < 18446744073709551616 := by
   intro h9
   rcases Nat.lt_or_ge i 9 with h8 | h8
   ·have : 2 ^ (7 * i) ≤ 2 ^ 56 := Nat.pow_le_pow_right (by omega) (by omega)
    omega
   ·have hi9 : i = 9 := by omega
    subst hi9
    have : b.toNat ≤ 1 := by omega
    have hm' : b.toNat % 128 * 2 ^ (7 * 9) ≤ 1 * 2 ^ (7 * 9) := Nat.mul_le_mul_right _ (by omega)
    omega
  rw [vgo]
  by_cases h9 : i = 9 ∧ 1 < b.toNat
  ·rw [if_pos h9]
   obtain ⟨rfl, h91⟩ := h9
   refine ⟨9, acc, fun c h => ?_⟩
   rw [rd_147_3]
   have h91' : (1 : Int) < b.toNat := by omega
   have h1' : (9 : Int) < m := h1
   generalize hr : execW E 147 p _ _ _ _ = e
   simp -implicitDefEqProofs (maxSteps := 1000000) [Tryz.f147, Code.loopAt, Code.key, h1', hb, h91', h91] at hr
   subst hr
   simp [vreadX, encE_code]
  ·rw [if_neg h9]
   obtain ⟨hs1, hs2⟩ := step h9
   have hsh : IntKind.u64.wrap (((b.toNat % 128 : Nat) : Int) * 2 ^ (7 * i)) = ((b.toNat % 128 * 2 ^ (7 * i) : Nat) : Int) := by
    have e : (((b.toNat % 128 : Nat) : Int) * 2 ^ (7 * i)) = ((b.toNat % 128 * 2 ^ (7 * i) : Nat) : Int) := by push_cast; rfl
    rw [e]
    exact wrap_u64 (by omega) (by omega)
   have hor : bitsA .or .u64 (acc : Int) ((b.toNat % 128 * 2 ^ (7 * i) : Nat) : Int) = ((acc + b.toNat % 128 * 2 ^ (7 * i) : Nat) : Int) := by
    rw [bitsA_or_u64 _ _ hs2 hs1, or_shift _ _ _ ha]
   have hbig : bitsA .or .u64 (acc : Int) (IntKind.u64.wrap (IntKind.u64.wrap ((b.toNat : Int) % 128) * 2 ^ (7 * i))) = (acc : Int) + (b.toNat : Int) % 128 * 2 ^ (7 * i) := by
    have e0 : ((b.toNat : Int) % 128) = ((b.toNat % 128 : Nat) : Int) := by omega
    rw [e0, hw8, hsh, hor]
    push_cast; rfl
   have hi9 : (i : Int) = 9 → ¬ (1 : Int) < b.toNat := by intro h h2; exact h9 ⟨by omega, by omega⟩
   have hmin2 : min (7 * i) 64 = 7 * i := by omega
   by_cases hc : b.toNat < 128
   ·rw [if_pos hc]
    refine ⟨i, acc + b.toNat % 128 * 2 ^ (7 * i), fun c h => ?_⟩
    rw [rd_147_3]
    have hc' : (b.toNat : Int) < 128 := by omega
    generalize hr : execW E 147 p _ _ _ _ = e
    by_cases hi : (i : Int) = 9
    ·simp -implicitDefEqProofs (maxSteps := 1000000) [Tryz.f147, Code.loopAt, Code.key, h1, hb, hw7, hn7, hmin, hmin2, hand, hbig, hc', hw, eq_true hi, eq_true (show i = 9 by omega), hi9 hi, IntKind.bits] at hr
     subst hr
     simp [vreadX]
    ·simp -implicitDefEqProofs (maxSteps := 1000000) [Tryz.f147, Code.loopAt, Code.key, h1, hb, hw7, hn7, hmin, hmin2, hand, hbig, hc', hw, hi, show ¬ i = 9 by omega, IntKind.bits] at hr
     subst hr
     simp [vreadX]
   ·rw [if_neg hc]
    have hi : i < 9 := by omega
    obtain ⟨i', acc', g⟩ := ih (i + 1) (acc + b.toNat % 128 * 2 ^ (7 * i)) hbs (by omega) (by omega)
    refine ⟨i', acc', fun c h => ?_⟩
    rw [rd_147_3]
    have hc' : ¬ (b.toNat : Int) < 128 := by omega
    generalize hr : execW E 147 p _ _ _ _ = e
    simp -implicitDefEqProofs (maxSteps := 1000000) [Tryz.f147, Code.loopAt, Code.key, h1, hb, hw7, hn7, hmin, hmin2, hand, hbig, hc', hw, show ¬ (i : Int) = 9 by omega, show ¬ i = 9 by omega, IntKind.bits] at hr
    subst hr
    simpa using g c (dropFrom p c0 h)
def encRead : Except Int (Nat × Nat) → A
 | .ok (n, k) => .tuple [.int .u64 n, .int .i64 k, .nili]
 | .error c => .tuple [.int .u64 0, .int .i64 0, encE (.code c)]
theorem vread_ok {s : List UInt8} (hs : s.length ≤ maxStr) (p : Id) (h : Heap) : callW E p 147 [.str s] h = some (encRead (vread s), dropFrom p 0 h) := by
 obtain ⟨i', acc', g⟩ := vread_loop (p := p) (c0 := 0) hs (m := if (10 : Int) < s.length then 10 else s.length) (by split <;> omega) (by split <;> simp) s 0 0 rfl (by omega) (by omega)
 have hv : vgo 0 0 s = vread s := rfl
 rw [hv, nat0] at g
 rw [eq_147]
 cases hr : vread s with
 | ok r =>
  obtain ⟨n, k⟩ := r
  rw [hr] at g
  simp only [vreadX] at g
  simp -implicitDefEqProofs (maxSteps := 1000000) [Tryz.f147, Code.hide, Code.key, g, encRead]
 | error c =>
  rw [hr] at g
  by_cases hc : c = 1
  ·subst hc
   simp only [vreadX, if_true] at g
   simp -implicitDefEqProofs (maxSteps := 1000000) [Tryz.f147, Code.hide, Code.key, g, encRead, encE_code]
  ·simp only [vreadX, if_neg hc] at g
   simp -implicitDefEqProofs (maxSteps := 1000000) [Tryz.f147, Code.hide, Code.key, g, encRead]
end Go.Ai.T

namespace Go.Ai.T
open Go Go.Proofs
set_option maxRecDepth 100000
set_option maxHeartbeats 4000000
def encGet : Except Err (Nat × Nat) → A
 | .ok (n, k) => .tuple [.int .u64 n, .int .i64 k, .nili]
 | .error e => .tuple [.int .u64 0, .int .i64 0, encE e]
theorem get_ok {s : List UInt8} (hs : s.length ≤ maxStr) {q : Nat} (hq : q ≤ s.length) (p : Id) (h : Heap) : callW E p 130 [.str s, .int .i64 q] h = some (encGet (vgetE s q), dropFrom p 0 h) := by
 have hq0 : ¬ (q : Int) < 0 := by omega
 have hq1 : ¬ (s.length : Int) < q := by omega
 have g := vread_ok (s := s.drop q) (by simp; omega)
 rw [eq_130]
 unfold vgetE
 cases hr : vread (s.drop q) with
 | ok r =>
  obtain ⟨n, k⟩ := r
  have hk := vread_lt hr
  have hm := hs; unfold maxStr at hm
  have hk1 : k ≤ s.length - q := by simpa using hk.2.2.1
  have hw : IntKind.i64.wrap ((q : Int) + k) = ((q + k : Nat) : Int) := by rw [wrap_i64 (by omega) (by omega)]; rfl
  simp only [hr, encRead] at g
  simp -implicitDefEqProofs (maxSteps := 1000000) [Tryz.f130, Code.key, g, hq0, hq1, hq, hw, encGet]
 | error c =>
  simp only [hr, encRead] at g
  simp -implicitDefEqProofs (maxSteps := 1000000) [Tryz.f130, Code.key, g, hq0, hq1, hq, encGet, at_ok]
theorem upd_id {h : Heap} {id : Id} {cs : List A} (hh : h id = some cs) : upd h id cs = h := by
 funext i; simp only [upd]
 split
 ·rename_i e; rw [e, hh]
 ·rfl
def rdr (s : List UInt8) (q : Nat) (e : Option Err) (d : Int) : List A := [.str s, .int .i64 q, encO e, .int .i64 d]
theorem varint_ok {s : List UInt8} (hs : s.length ≤ maxStr) {q : Nat} (hq : q ≤ s.length) {d : Int} {n e : Nat} (hv : vgetE s q = .ok (n, e)) {p id : Id} (a : Apart p id) {h : Heap} (hh : h id = some (rdr s q none d)) :
  callW E p 95 [.ptr id 0] h = some (.int .u64 n, upd (dropFrom p 0 h) id (rdr s e none d)) := by
 obtain ⟨f1, f2, f3, f4, f5, f6⟩ := a.facts
 have g := get_ok hs hq
 simp only [hv, encGet] at g
 simp only [rdr, encO_none] at hh ⊢
 rw [eq_95]
 simp -implicitDefEqProofs (maxSteps := 1000000) [Tryz.f95, Code.key, g, hh, f1, f2, f3, f4, f5, f6]
theorem varint_err {s : List UInt8} (hs : s.length ≤ maxStr) {q : Nat} (hq : q ≤ s.length) {d : Int} {e : Err} (hv : vgetE s q = .error e) {p id : Id} (a : Apart p id) {h : Heap} (hh : h id = some (rdr s q none d)) :
  callW E p 95 [.ptr id 0] h = some (.int .u64 0, upd (dropFrom p 0 h) id (rdr s q (some e) d)) := by
 obtain ⟨f1, f2, f3, f4, f5, f6⟩ := a.facts
 have g := get_ok hs hq
 simp only [hv, encGet] at g
 simp only [rdr, encO_none, encO_some] at hh ⊢
 rw [eq_95]
 simp -implicitDefEqProofs (maxSteps := 1000000) [Tryz.f95, Code.key, g, hh, f1, f2, f3, f4, f5, f6]
theorem varint_no {s : List UInt8} {q : Nat} {d : Int} {e : Err} {p id : Id} (a : Apart p id) {h : Heap} (hh : h id = some (rdr s q (some e) d)) :
  callW E p 95 [.ptr id 0] h = some (.int .u64 0, upd (dropFrom p 0 h) id (rdr s q (some e) d)) := by
 obtain ⟨f1, f2, f3, f4, f5, f6⟩ := a.facts
 simp only [rdr, encO_some] at hh ⊢
 rw [eq_95]
 simp -implicitDefEqProofs (maxSteps := 1000000) [Tryz.f95, Code.key, hh, f1, f2, f3, f4, f5, f6]
 exact (upd_id (by rw [f2, hh])).symm
theorem fails_ok {s : List UInt8} {q : Nat} {d : Int} {n : Int} {e : Err} {p id : Id} (a : Apart p id) {h : Heap} (hh : h id = some (rdr s q none d)) :
  callW E p 96 [.ptr id 0, .int .i64 n, encE e] h = some (.tuple [], upd (dropFrom p 0 h) id (rdr s q (some (.at_ n e)) d)) := by
 obtain ⟨f1, f2, f3, f4, f5, f6⟩ := a.facts
 simp only [rdr, encO_none, encO_some] at hh ⊢
 rw [eq_96]
 simp -implicitDefEqProofs (maxSteps := 1000000) [Tryz.f96, Code.key, hh, f1, f2, f3, f4, f5, f6, at_ok]
theorem fails_no {s : List UInt8} {q : Nat} {d : Int} {n : Int} {e x : Err} {p id : Id} (a : Apart p id) {h : Heap} (hh : h id = some (rdr s q (some x) d)) :
  callW E p 96 [.ptr id 0, .int .i64 n, encE e] h = some (.tuple [], upd (dropFrom p 0 h) id (rdr s q (some x) d)) := by
 obtain ⟨f1, f2, f3, f4, f5, f6⟩ := a.facts
 simp only [rdr, encO_none, encO_some] at hh ⊢
 rw [eq_96]
 simp -implicitDefEqProofs (maxSteps := 1000000) [Tryz.f96, Code.key, hh, f1, f2, f3, f4, f5, f6, at_ok]
 exact (upd_id (by rw [f2, hh])).symm
theorem fails_lit {s : List UInt8} {q : Nat} {d : Int} {n c : Int} {p id : Id} (a : Apart p id) {h : Heap} (hh : h id = some [.str s, .int .i64 q, .nili, .int .i64 d]) :
  callW E p 96 [.ptr id 0, .int .i64 n, .iface 47 (.int .i64 c)] h = some (.tuple [], upd (dropFrom p 0 h) id [.str s, .int .i64 q, encE (.at_ n (.code c)), .int .i64 d]) := fails_ok (e := .code c) a hh
theorem take_ok' {s : List UInt8} (hs : s.length ≤ maxStr) {q : Nat} (hq : q ≤ s.length) {d : Int} {n e : Nat} {t : List UInt8} (hv : takeE s q n = .ok (t, e)) {p id : Id} (a : Apart p id) {h : Heap} (hh : h id = some (rdr s q none d)) :
  callW E p 98 [.ptr id 0, .int .u64 n] h = some (.str t, upd (dropFrom p 0 h) id (rdr s e none d)) := by
 obtain ⟨f1, f2, f3, f4, f5, f6⟩ := a.facts
 obtain ⟨rfl, he, hl, rfl⟩ := takeE_lt hv hq
 have hs' := hs; unfold maxStr at hs'
 have hw1 : IntKind.i64.wrap ((s.length : Int) - q) = ((s.length - q : Nat) : Int) := by rw [wrap_i64 (by omega) (by omega)]; omega
 have hw2 : IntKind.u64.wrap ((s.length - q : Nat) : Int) = ((s.length - q : Nat) : Int) := wrap_u64 (by omega) (by omega)
 have hw3 : IntKind.i64.wrap (n : Int) = n := wrap_i64 (by omega) (by omega)
 have hw4 : IntKind.i64.wrap ((q : Int) + n) = ((q + n : Nat) : Int) := by rw [wrap_i64 (by omega) (by omega)]; rfl
 have hw5 : IntKind.i64.wrap (((q + n : Nat) : Int) - n) = (q : Int) := by rw [wrap_i64 (by omega) (by omega)]; omega
 have hlt : ¬ ((s.length - q : Nat) : Int) < n := by omega
 have hlt' : ¬ (s.length - q < n) := by omega
 simp only [rdr, encO_none, encO_some] at hh ⊢
 rw [eq_98]
 simp -implicitDefEqProofs (maxSteps := 1000000) [Tryz.f98, Code.key, hh, f1, f2, f3, f4, f5, f6, hw1, hw2, hw3, hw4, hw5, hlt, hlt']
 have hw6 : IntKind.i64.wrap (q : Int) = q := wrap_i64 (by omega) (by omega)
 rw [hw6]
 refine ⟨⟨by omega, by omega⟩, ⟨by omega, by omega⟩, ?_⟩
 rw [show ((q : Int) + n).toNat = q + n by omega, show (q : Int).toNat = q by omega, List.drop_take, Nat.add_sub_cancel_left]
theorem take_err {s : List UInt8} (hs : s.length ≤ maxStr) {q : Nat} (hq : q ≤ s.length) {d : Int} {n : Nat} {x : Err} (hv : takeE s q n = .error x) {p id : Id} (a : Apart p id) {h : Heap} (hh : h id = some (rdr s q none d)) :
  callW E p 98 [.ptr id 0, .int .u64 n] h = some (.str [], upd (dropFrom p 0 h) id (rdr s q (some x) d)) := by
 obtain ⟨f1, f2, f3, f4, f5, f6⟩ := a.facts
 unfold takeE at hv
 split at hv
 ·rename_i hlt
  simp only [Except.error.injEq] at hv
  subst hv
  have hs' := hs; unfold maxStr at hs'
  have hw1 : IntKind.i64.wrap ((s.length : Int) - q) = ((s.length - q : Nat) : Int) := by rw [wrap_i64 (by omega) (by omega)]; omega
  have hw2 : IntKind.u64.wrap ((s.length - q : Nat) : Int) = ((s.length - q : Nat) : Int) := wrap_u64 (by omega) (by omega)
  have hlt' : ((s.length - q : Nat) : Int) < n := by omega
  have g := fun k h => fails_lit (h := h) (c := 1) (n := q) (d := d) (s := s) (q := q) (a.sub k)
  simp only [rdr, encO_none, encO_some] at hh ⊢
  rw [eq_98]
  simp -implicitDefEqProofs (maxSteps := 1000000) [Tryz.f98, Code.key, hh, f1, f2, f3, f4, f5, f6, hw1, hw2, hlt, hlt', g]
 ·cases hv
theorem take_no {s : List UInt8} {q : Nat} {d : Int} {n : Nat} {x : Err} {p id : Id} (a : Apart p id) {h : Heap} (hh : h id = some (rdr s q (some x) d)) :
  callW E p 98 [.ptr id 0, .int .u64 n] h = some (.str [], upd (dropFrom p 0 h) id (rdr s q (some x) d)) := by
 obtain ⟨f1, f2, f3, f4, f5, f6⟩ := a.facts
 simp only [rdr, encO_none, encO_some] at hh ⊢
 rw [eq_98]
 simp -implicitDefEqProofs (maxSteps := 1000000) [Tryz.f98, Code.key, hh, f1, f2, f3, f4, f5, f6]
 exact (upd_id (by rw [f2, hh])).symm
theorem little_loop {p : Id} {c0 : Nat} {t : List UInt8} (ht : t.length ≤ 8) : ∀ (rest : List UInt8) (i acc : Nat), t.drop i = rest → acc < 2 ^ (8 * i) → ∀ (c : Nat) (h : Heap),
  iterW E 97 p [5, 12, 13, 14] L_97_3 c0 ((((bot.set 14 (.int .i64 i)).set 13 (.int .i64 t.length)).set 12 (.slice (bytesA t) none)).set 5 (.int .u64 acc)) c h =
   some (.exit 0, ((((bot.set 14 (.int .i64 (max i t.length : Nat))).set 13 (.int .i64 t.length)).set 12 (.slice (bytesA t) none)).set 5 (.int .u64 (acc + leN rest * 2 ^ (8 * i) : Nat))), c, dropFrom p c0 h) := by
 intro rest
 induction rest with
 | nil =>
  intro i acc hj ha c h
  rw [rd_97_3]
  have h1 : ¬ (i : Int) < t.length := drop_end hj
  have h2 : max i t.length = i := by omega
  generalize hr : execW E 97 p _ _ _ _ = e
  simp -implicitDefEqProofs (maxSteps := 1000000) [Tryz.f97, Code.loopAt, Code.key, h1] at hr
  subst hr
  simp [leN, h2]
 | cons b bs ih =>
  intro i acc hj ha c h
  obtain ⟨hlt, hb, hbs⟩ := drop_facts hj
  have h1 : (i : Int) < t.length := by omega
  have hb256 : b.toNat < 256 := b.toNat_lt
  have hw : IntKind.i64.wrap ((i : Int) + 1) = ((i + 1 : Nat) : Int) := by rw [wrap_i64 (by omega) (by omega)]; rfl
  have hw7 : IntKind.i64.wrap (8 * (i : Int)) = 8 * (i : Int) := wrap_i64 (by omega) (by omega)
  have hn7 : ¬ 8 * (i : Int) < 0 := by omega
  have hmin : min (8 * (i : Int)).toNat 64 = 8 * i := by omega
  have hp : 2 ^ (8 * (i + 1)) = 256 * 2 ^ (8 * i) := by rw [show 8 * (i + 1) = 8 * i + 8 by omega, Nat.pow_add]; omega
  have hp2 : 2 ^ (8 * (i + 1)) ≤ 2 ^ 64 := Nat.pow_le_pow_right (by omega) (by omega)
  have hmm : b.toNat * 2 ^ (8 * i) ≤ 255 * 2 ^ (8 * i) := Nat.mul_le_mul_right _ (by omega)
  have hs1 : b.toNat * 2 ^ (8 * i) < 18446744073709551616 := by omega
  have hs2 : acc < 18446744073709551616 := by omega
  have hsh : IntKind.u64.wrap ((b.toNat : Int) * 2 ^ (8 * i)) = ((b.toNat * 2 ^ (8 * i) : Nat) : Int) := by
   have e : ((b.toNat : Int) * 2 ^ (8 * i)) = ((b.toNat * 2 ^ (8 * i) : Nat) : Int) := by push_cast; rfl
   rw [e]
   exact wrap_u64 (by omega) (by omega)
  have hor : bitsA .or .u64 (acc : Int) ((b.toNat * 2 ^ (8 * i) : Nat) : Int) = ((acc + b.toNat * 2 ^ (8 * i) : Nat) : Int) := by
   rw [bitsA_or_u64 _ _ hs2 hs1, or_shift _ _ _ ha]
  have hor2 : bitsA .or .u64 (acc : Int) ((b.toNat : Int) * 2 ^ (8 * i)) = ((acc + b.toNat * 2 ^ (8 * i) : Nat) : Int) := by
   rw [← hor]; push_cast; rfl
  have hwb : IntKind.u64.wrap (b.toNat : Int) = b.toNat := wrap_u64 (by omega) (by omega)
  have g := ih (i + 1) (acc + b.toNat * 2 ^ (8 * i)) hbs (by omega) c (dropFrom p c0 h)
  have hmax : max (i + 1) t.length = max i t.length := by omega
  have hle : acc + b.toNat * 2 ^ (8 * i) + leN bs * 2 ^ (8 * (i + 1)) = acc + leN (b :: bs) * 2 ^ (8 * i) := by
   rw [hp, leN, Nat.add_mul, ← Nat.mul_assoc, Nat.mul_comm (leN bs) 256]; omega
  rw [hmax, hle] at g
  rw [rd_97_3]
  generalize hr : execW E 97 p _ _ _ _ = e
  have hbb : (bytesA t)[i]? = some [.int .u8 b.toNat] := by simp [bytesA, hb]
  have hget : ∀ hl, (bytesA t)[i]'hl = [.int .u8 b.toNat] := fun hl => by rw [List.getElem?_eq_getElem hl] at hbb; exact Option.some.inj hbb
  simp -implicitDefEqProofs (maxSteps := 1000000) [-Int.natCast_add, Tryz.f97, Code.loopAt, Code.key, h1, hbb, hget, hb, hw, hw7, hn7, hmin, hsh, hor, hor2, hwb, hlt, IntKind.bits] at hr
  subst hr
  simpa [-Int.natCast_add] using g
theorem little_ok {s : List UInt8} (hs : s.length ≤ maxStr) {q : Nat} (hq : q ≤ s.length) {d : Int} {w e : Nat} (hw : w ≤ 8) {t : List UInt8} (hv : takeE s q w = .ok (t, e)) {p id : Id} (a : Apart p id) {h : Heap} (hh : h id = some (rdr s q none d)) :
  callW E p 97 [.ptr id 0, .int .i64 w] h = some (.int .u64 (leN t), upd (dropFrom p 0 h) id (rdr s e none d)) := by
 obtain ⟨f1, f2, f3, f4, f5, f6⟩ := a.facts
 have g := fun k h hh => take_ok' (h := h) hs hq (d := d) hv (a.sub k) hh
 have ht := (takeE_lt hv hq).2.2.1
 have gl := fun h => little_loop (p := p) (c0 := 1) (t := t) (by omega) t 0 0 rfl (by simp) 1 h
 simp only [Nat.mul_zero, Nat.pow_zero, Nat.mul_one, Nat.zero_add, nat0] at gl
 simp only [rdr, encO_none, encO_some] at hh g ⊢
 have hw : IntKind.u64.wrap (w : Int) = (w : Int) := wrap_u64 (by omega) (by omega)
 rw [eq_97]
 simp -implicitDefEqProofs (maxSteps := 1000000) [Tryz.f97, Code.key, Code.hide, hh, f1, f2, f3, f4, f5, f6, g, hw, gl]
theorem little_err {s : List UInt8} (hs : s.length ≤ maxStr) {q : Nat} (hq : q ≤ s.length) {d : Int} {w : Nat} (hw : w ≤ 8) {x : Err} (hv : takeE s q w = .error x) {p id : Id} (a : Apart p id) {h : Heap} (hh : h id = some (rdr s q none d)) :
  callW E p 97 [.ptr id 0, .int .i64 w] h = some (.int .u64 0, upd (dropFrom p 0 h) id (rdr s q (some x) d)) := by
 obtain ⟨f1, f2, f3, f4, f5, f6⟩ := a.facts
 have g := fun k h hh => take_err (h := h) hs hq (d := d) hv (a.sub k) hh
 have gl := fun h => little_loop (p := p) (c0 := 1) (t := []) (by simp) [] 0 0 rfl (by simp) 1 h
 simp only [Nat.mul_zero, Nat.pow_zero, Nat.mul_one, Nat.zero_add, nat0, leN, bytesA_nil, List.length_nil, Nat.max_self, Nat.zero_mul] at gl
 simp only [rdr, encO_none, encO_some] at hh g ⊢
 have hw : IntKind.u64.wrap (w : Int) = (w : Int) := wrap_u64 (by omega) (by omega)
 rw [eq_97]
 simp -implicitDefEqProofs (maxSteps := 1000000) [Tryz.f97, Code.key, Code.hide, hh, f1, f2, f3, f4, f5, f6, g, hw, gl]
theorem bitsA_and_u64 (a b : Nat) (ha : a < 18446744073709551616) (hb : b < 18446744073709551616) : bitsA .and .u64 (a : Int) (b : Int) = ((a &&& b : Nat) : Int) := by
 have h : a &&& b < 18446744073709551616 := Nat.and_lt_two_pow (n := 64) a (by simpa using hb)
 have e : ∀ x : Nat, x < 18446744073709551616 → (BitVec.ofInt 64 (x : Int)).toNat = x := by
  intro x hx
  simp only [BitVec.toNat_ofInt]
  omega
 show IntKind.u64.wrap (((BitVec.ofInt 64 (a : Int)) &&& (BitVec.ofInt 64 (b : Int))).toNat : Int) = _
 rw [BitVec.toNat_and, e a ha, e b hb]
 exact wrap_u64 (by omega) (by omega)
theorem and7 (n : Nat) (h : n < 18446744073709551616) : bitsA .and .u64 (n : Int) 7 = ((n % 8 : Nat) : Int) := by
 have := bitsA_and_u64 n 7 h (by omega)
 rw [show (7 : Nat) = 2 ^ 3 - 1 from rfl, Nat.and_two_pow_sub_one_eq_mod] at this
 exact this
theorem and29 (n : Nat) (h : n < 18446744073709551616) : bitsA .and .u64 (n : Int) 536870911 = ((n % 536870912 : Nat) : Int) := by
 have := bitsA_and_u64 n 536870911 h (by omega)
 rw [show (536870911 : Nat) = 2 ^ 29 - 1 from rfl, Nat.and_two_pow_sub_one_eq_mod] at this
 exact this
theorem wrap0 : IntKind.i64.wrap 0 = 0 := rfl
theorem tag_ok {s : List UInt8} (hs : s.length ≤ maxStr) {q : Nat} (hq : q ≤ s.length) {d : Int} {num kind e : Nat} (hv : tagE s q = .ok (num, kind, e)) {p id : Id} (a : Apart p id) {h : Heap} (hh : h id = some (rdr s q none d)) :
  callW E p 57 [.ptr id 0] h = some (.tuple [.int .i64 num, .int .i64 kind], upd (dropFrom p 0 h) id (rdr s e none d)) := by
 obtain ⟨f1, f2, f3, f4, f5, f6⟩ := a.facts
 unfold tagE at hv
 split at hv
 ·cases hv
 ·rename_i n e' hg
  split at hv
  ·cases hv
  ·rename_i hr
   simp only [Except.ok.injEq, Prod.mk.injEq] at hv
   obtain ⟨rfl, rfl, rfl⟩ := hv
   have hn := (vgetE_lt hg hq).1
   have g := fun k h hh => varint_ok (h := h) hs hq (d := d) hg (a.sub k) hh
   have h1 : ((n : Int).fdiv 8) = ((n / 8 : Nat) : Int) := fdiv_nat n 8
   have h2 : ¬ ((n / 8 : Nat) : Int) < 1 := by omega
   have h3 : ¬ (536870911 : Int) < ((n / 8 : Nat) : Int) := by omega
   have h4 := and29 (n / 8) (by omega)
   rw [Nat.mod_eq_of_lt (by omega)] at h4
   have h5 := and7 n hn
   have h6 : IntKind.i64.wrap ((n / 8 : Nat) : Int) = ((n / 8 : Nat) : Int) := wrap_i64 (by omega) (by omega)
   have h7 : IntKind.i64.wrap ((n % 8 : Nat) : Int) = ((n % 8 : Nat) : Int) := wrap_i64 (by omega) (by omega)
   simp only [rdr, encO_none, encO_some] at hh g ⊢
   rw [eq_57]
   simp -implicitDefEqProofs (maxSteps := 1000000) [-Int.natCast_ediv, -Int.natCast_emod, Tryz.f57, Code.key, hh, f1, f2, f3, f4, f5, f6, g, IntKind.bits, h1, h2, h3, h4, h5, h6, h7]
theorem tag_err {s : List UInt8} (hs : s.length ≤ maxStr) {q : Nat} (hq : q ≤ s.length) {d : Int} {x : Err} (hv : tagE s q = .error x) : ∃ q' num kind : Nat, ∀ {p id : Id} (a : Apart p id) {h : Heap} (hh : h id = some (rdr s q none d)),
  callW E p 57 [.ptr id 0] h = some (.tuple [.int .i64 num, .int .i64 kind], upd (dropFrom p 0 h) id (rdr s q' (some x) d)) := by
 unfold tagE at hv
 split at hv
 ·rename_i e hg
  simp only [Except.error.injEq] at hv
  subst hv
  refine ⟨q, 0, 0, fun {p id} a {h} hh => ?_⟩
  obtain ⟨f1, f2, f3, f4, f5, f6⟩ := a.facts
  have g := fun k h hh => varint_err (h := h) hs hq (d := d) hg (a.sub k) hh
  have h4 := and29 0 (by omega)
  have h5 := and7 0 (by omega)
  have h6 : Int.fdiv 0 8 = 0 := rfl
  simp only [nat0, Nat.zero_mod] at h4 h5
  simp only [rdr, encO_none, encO_some] at hh g ⊢
  rw [eq_57]
  simp -implicitDefEqProofs (maxSteps := 1000000) [Tryz.f57, Code.key, hh, f1, f2, f3, f4, f5, f6, g, IntKind.bits, h4, h5, h6, wrap0]
 ·rename_i n e' hg
  split at hv
  ·rename_i hr
   simp only [Except.error.injEq] at hv
   subst hv
   refine ⟨e', n / 8 % 536870912, n % 8, fun {p id} a {h} hh => ?_⟩
   obtain ⟨f1, f2, f3, f4, f5, f6⟩ := a.facts
   have hn := (vgetE_lt hg hq).1
   have g := fun k h hh => varint_ok (h := h) hs hq (d := d) hg (a.sub k) hh
   have gf := fun k h => fails_lit (h := h) (c := 3) (n := q) (d := d) (s := s) (q := e') (a.sub k)
   have h1 : ((n : Int).fdiv 8) = ((n / 8 : Nat) : Int) := fdiv_nat n 8
   have h4 := and29 (n / 8) (by omega)
   have h5 := and7 n hn
   have h6 : IntKind.i64.wrap ((n / 8 % 536870912 : Nat) : Int) = ((n / 8 % 536870912 : Nat) : Int) := wrap_i64 (by omega) (by omega)
   have h7 : IntKind.i64.wrap ((n % 8 : Nat) : Int) = ((n % 8 : Nat) : Int) := wrap_i64 (by omega) (by omega)
   simp only [rdr, encO_none, encO_some] at hh g ⊢
   rw [eq_57]
   by_cases h2 : ((n / 8 : Nat) : Int) < 1
   ·simp -implicitDefEqProofs (maxSteps := 1000000) [-Int.natCast_ediv, -Int.natCast_emod, Tryz.f57, Code.key, hh, f1, f2, f3, f4, f5, f6, g, gf, IntKind.bits, h1, h2, h4, h5, h6, h7]
   ·have h3 : (536870911 : Int) < ((n / 8 : Nat) : Int) := by omega
    simp -implicitDefEqProofs (maxSteps := 1000000) [-Int.natCast_ediv, -Int.natCast_emod, Tryz.f57, Code.key, hh, f1, f2, f3, f4, f5, f6, g, gf, IntKind.bits, h1, h2, h3, h4, h5, h6, h7]
  ·cases hv
def recC (num kind n : Int) (s raw : List UInt8) : List A := [.int .i64 num, .int .i64 kind, .int .u64 n, .str s, .str raw]
def GroupY (s : List UInt8) (q : Nat) : Prop := ∀ (d : Int), d ≤ 9223372036854775807 → ∀ (num e : Nat), groupE s d num q = .ok e → ∀ {p id : Id}, Apart p id → ∀ {h : Heap}, h id = some (rdr s q none d) →
  callW E p 99 [.ptr id 0, .int .i64 num] h = some (.tuple [], upd (dropFrom p 0 h) id (rdr s e none d))
def GroupN (s : List UInt8) (q : Nat) : Prop := ∀ (d : Int), d ≤ 9223372036854775807 → ∀ (num : Nat) (x : Err), groupE s d num q = .error x → ∃ q', ∀ {p id : Id}, Apart p id → ∀ {h : Heap}, h id = some (rdr s q none d) →
  callW E p 99 [.ptr id 0, .int .i64 num] h = some (.tuple [], upd (dropFrom p 0 h) id (rdr s q' (some x) d))
def RestY (s : List UInt8) (q : Nat) : Prop := ∀ (d : Int), d ≤ 9223372036854775807 → ∀ (num kind t n e : Nat) (bs : List UInt8), bodyE s d num kind t q = .ok (n, bs, e) → ∀ {p id xid : Id}, Apart p id → Apart p xid → id ≠ xid → ∀ {h : Heap}, h id = some (rdr s q none d) → h xid = some (recC num kind 0 [] []) →
  callW E p 58 [.ptr id 0, .ptr xid 0, .int .i64 t] h = some (.tuple [], upd (upd (dropFrom p 0 h) id (rdr s e none d)) xid (recC num kind n bs []))
def RestN (s : List UInt8) (q : Nat) : Prop := ∀ (d : Int), d ≤ 9223372036854775807 → ∀ (num kind t : Nat) (x : Err), bodyE s d num kind t q = .error x → ∃ q' xs, ∀ {p id xid : Id}, Apart p id → Apart p xid → id ≠ xid → ∀ {h : Heap}, h id = some (rdr s q none d) → h xid = some (recC num kind 0 [] []) →
  callW E p 58 [.ptr id 0, .ptr xid 0, .int .i64 t] h = some (.tuple [], upd (upd (dropFrom p 0 h) id (rdr s q' (some x) d)) xid xs)
theorem upd_comm {h : Heap} {i j : Id} {a b : List A} (hij : i ≠ j) : upd (upd h i a) j b = upd (upd h j b) i a := by
 funext k
 simp only [upd]
 by_cases h1 : k = i
 ·subst h1; simp [hij]
 ·simp [h1]
theorem nl1 : ((1 : Nat) : Int) = 1 := rfl
theorem nl2 : ((2 : Nat) : Int) = 2 := rfl
theorem nl3 : ((3 : Nat) : Int) = 3 := rfl
theorem nl4 : ((4 : Nat) : Int) = 4 := rfl
theorem nl5 : ((5 : Nat) : Int) = 5 := rfl
theorem nl8 : ((8 : Nat) : Int) = 8 := rfl
theorem wl4 : IntKind.i64.wrap 4 = 4 := rfl
theorem wl8 : IntKind.i64.wrap 8 = 8 := rfl
theorem rest_y {s : List UInt8} (hs : s.length ≤ maxStr) {q : Nat} (hq : q ≤ s.length) (hg : GroupY s q) : RestY s q := by
 intro d hd num kind t n e bs hv p id xid a b hne h hh hx
 obtain ⟨f1, f2, f3, f4, f5, f6⟩ := a.facts
 obtain ⟨x1, x2, x3, x4, x5, x6⟩ := b.facts
 have u1 : ∀ (h : Heap) (cs : List A), upd h id cs xid = h xid := fun h cs => by simp [upd, hne.symm]
 have u2 : ∀ (h : Heap) (cs : List A), upd h xid cs id = h id := fun h cs => by simp [upd, hne]
 simp only [rdr, recC, encO_none] at hh hx ⊢
 rw [bodyE] at hv
 rw [eq_58]
 split at hv
 ·rename_i hk
  subst hk
  obtain ⟨⟨n', e'⟩, h1, h2⟩ := map_ok hv
  simp only [Prod.mk.injEq] at h2
  obtain ⟨rfl, rfl, rfl⟩ := h2
  have g := fun k h hh => varint_ok (h := h) hs hq (d := d) h1 (a.sub k) hh
  simp only [rdr, encO_none, nat0] at g hx ⊢
  simp -implicitDefEqProofs (maxSteps := 1000000) [Tryz.f58, Code.key, hh, hx, f1, f2, f3, f4, f5, f6, x1, x2, x3, x4, x5, x6, u1, u2, wl4, wl8, g]
 split at hv
 ·rename_i hk
  subst hk
  obtain ⟨⟨n', e'⟩, h1, h2⟩ := map_ok hv
  simp only [Prod.mk.injEq] at h2
  obtain ⟨rfl, rfl, rfl⟩ := h2
  have g := fun k h hh => little_ok (h := h) hs hq (d := d) (by omega) h1 (a.sub k) hh
  simp only [rdr, encO_none, nl1, nl2, nl3, nl4, nl5, nl8] at g hx ⊢
  simp -implicitDefEqProofs (maxSteps := 1000000) [Tryz.f58, Code.key, hh, hx, f1, f2, f3, f4, f5, f6, x1, x2, x3, x4, x5, x6, u1, u2, wl4, wl8, g]
 split at hv
 ·rename_i hk
  subst hk
  obtain ⟨⟨n', e'⟩, h1, h2⟩ := map_ok hv
  simp only [Prod.mk.injEq] at h2
  obtain ⟨rfl, rfl, rfl⟩ := h2
  have g := fun k h hh => little_ok (h := h) hs hq (d := d) (by omega) h1 (a.sub k) hh
  simp only [rdr, encO_none, nl1, nl2, nl3, nl4, nl5, nl8] at g hx ⊢
  simp -implicitDefEqProofs (maxSteps := 1000000) [Tryz.f58, Code.key, hh, hx, f1, f2, f3, f4, f5, f6, x1, x2, x3, x4, x5, x6, u1, u2, wl4, wl8, g]
 split at hv
 ·rename_i hk
  subst hk
  split at hv
  ·cases hv
  ·rename_i n1 e1 hv1
   obtain ⟨⟨n', e'⟩, h1, h2⟩ := map_ok hv
   simp only [Prod.mk.injEq] at h2
   obtain ⟨rfl, rfl, rfl⟩ := h2
   have g := fun k h hh => varint_ok (h := h) hs hq (d := d) hv1 (a.sub k) hh
   have g2 := fun k h hh => take_ok' (h := h) hs (vgetE_lt hv1 hq).2.2.1 (d := d) h1 (a.sub k) hh
   simp only [rdr, encO_none, nl1, nl2, nl3, nl4, nl5, nl8] at g g2 hx ⊢
   simp -implicitDefEqProofs (maxSteps := 1000000) [Tryz.f58, Code.key, hh, hx, f1, f2, f3, f4, f5, f6, x1, x2, x3, x4, x5, x6, u1, u2, wl4, wl8, g, g2]
 split at hv
 ·rename_i hk
  subst hk
  obtain ⟨e', h1, h2⟩ := map_ok hv
  simp only [Prod.mk.injEq] at h2
  obtain ⟨rfl, rfl, rfl⟩ := h2
  have g := fun k h hh => hg d hd _ _ h1 (a.sub k) (h := h) hh
  simp only [rdr, encO_none, nl1, nl2, nl3, nl4, nl5, nl8] at g hx ⊢
  simp -implicitDefEqProofs (maxSteps := 1000000) [Tryz.f58, Code.key, hh, hx, f1, f2, f3, f4, f5, f6, x1, x2, x3, x4, x5, x6, u1, u2, wl4, wl8, g]
  exact (upd_id (by rw [u1, x2, hx])).symm
 ·cases hv
theorem rest_n {s : List UInt8} (hs : s.length ≤ maxStr) {q : Nat} (hq : q ≤ s.length) (hg : GroupN s q) : RestN s q := by
 intro d hd num kind t x hv
 rw [bodyE] at hv
 split at hv
 ·rename_i hk
  subst hk
  have h1 := map_err hv
  refine ⟨q, recC num 0 0 [] [], ?_⟩
  intro p id xid a b hne h hh hx
  obtain ⟨f1, f2, f3, f4, f5, f6⟩ := a.facts
  obtain ⟨x1, x2, x3, x4, x5, x6⟩ := b.facts
  have u1 : ∀ (h : Heap) (cs : List A), upd h id cs xid = h xid := fun h cs => by simp [upd, hne.symm]
  have u2 : ∀ (h : Heap) (cs : List A), upd h xid cs id = h id := fun h cs => by simp [upd, hne]
  have g := fun k h hh => varint_err (h := h) hs hq (d := d) h1 (a.sub k) hh
  simp only [rdr, recC, encO_none, encO_some, nat0] at g hh hx ⊢
  rw [eq_58]
  simp -implicitDefEqProofs (maxSteps := 1000000) [Tryz.f58, Code.key, hh, hx, f1, f2, f3, f4, f5, f6, x1, x2, x3, x4, x5, x6, u1, u2, wl4, wl8, g]
 split at hv
 ·rename_i hk
  subst hk
  have h1 := map_err hv
  refine ⟨q, recC num 1 0 [] [], ?_⟩
  intro p id xid a b hne h hh hx
  obtain ⟨f1, f2, f3, f4, f5, f6⟩ := a.facts
  obtain ⟨x1, x2, x3, x4, x5, x6⟩ := b.facts
  have u1 : ∀ (h : Heap) (cs : List A), upd h id cs xid = h xid := fun h cs => by simp [upd, hne.symm]
  have u2 : ∀ (h : Heap) (cs : List A), upd h xid cs id = h id := fun h cs => by simp [upd, hne]
  have g := fun k h hh => little_err (h := h) hs hq (d := d) (by omega) h1 (a.sub k) hh
  simp only [rdr, recC, encO_none, encO_some, nl1, nl2, nl3, nl4, nl5, nl8] at g hh hx ⊢
  rw [eq_58]
  simp -implicitDefEqProofs (maxSteps := 1000000) [Tryz.f58, Code.key, hh, hx, f1, f2, f3, f4, f5, f6, x1, x2, x3, x4, x5, x6, u1, u2, wl4, wl8, g]
 split at hv
 ·rename_i hk
  subst hk
  have h1 := map_err hv
  refine ⟨q, recC num 5 0 [] [], ?_⟩
  intro p id xid a b hne h hh hx
  obtain ⟨f1, f2, f3, f4, f5, f6⟩ := a.facts
  obtain ⟨x1, x2, x3, x4, x5, x6⟩ := b.facts
  have u1 : ∀ (h : Heap) (cs : List A), upd h id cs xid = h xid := fun h cs => by simp [upd, hne.symm]
  have u2 : ∀ (h : Heap) (cs : List A), upd h xid cs id = h id := fun h cs => by simp [upd, hne]
  have g := fun k h hh => little_err (h := h) hs hq (d := d) (by omega) h1 (a.sub k) hh
  simp only [rdr, recC, encO_none, encO_some, nl1, nl2, nl3, nl4, nl5, nl8] at g hh hx ⊢
  rw [eq_58]
  simp -implicitDefEqProofs (maxSteps := 1000000) [Tryz.f58, Code.key, hh, hx, f1, f2, f3, f4, f5, f6, x1, x2, x3, x4, x5, x6, u1, u2, wl4, wl8, g]
 split at hv
 ·rename_i hk
  subst hk
  split at hv
  ·rename_i e1 hv1
   simp only [Except.error.injEq] at hv
   subst hv
   refine ⟨q, recC num 2 0 [] [], ?_⟩
   intro p id xid a b hne h hh hx
   obtain ⟨f1, f2, f3, f4, f5, f6⟩ := a.facts
   obtain ⟨x1, x2, x3, x4, x5, x6⟩ := b.facts
   have u1 : ∀ (h : Heap) (cs : List A), upd h id cs xid = h xid := fun h cs => by simp [upd, hne.symm]
   have u2 : ∀ (h : Heap) (cs : List A), upd h xid cs id = h id := fun h cs => by simp [upd, hne]
   have g := fun k h hh => varint_err (h := h) hs hq (d := d) hv1 (a.sub k) hh
   have g2 := fun k h hh => take_no (h := h) (s := s) (q := q) (d := d) (n := 0) (x := e1) (a.sub k) hh
   simp only [rdr, recC, encO_none, encO_some, nat0, nl1, nl2, nl3, nl4, nl5, nl8] at g g2 hh hx ⊢
   rw [eq_58]
   simp -implicitDefEqProofs (maxSteps := 1000000) [Tryz.f58, Code.key, hh, hx, f1, f2, f3, f4, f5, f6, x1, x2, x3, x4, x5, x6, u1, u2, wl4, wl8, g, g2]
  ·rename_i n1 e1 hv1
   have h1 := map_err hv
   refine ⟨e1, recC num 2 0 [] [], ?_⟩
   intro p id xid a b hne h hh hx
   obtain ⟨f1, f2, f3, f4, f5, f6⟩ := a.facts
   obtain ⟨x1, x2, x3, x4, x5, x6⟩ := b.facts
   have u1 : ∀ (h : Heap) (cs : List A), upd h id cs xid = h xid := fun h cs => by simp [upd, hne.symm]
   have u2 : ∀ (h : Heap) (cs : List A), upd h xid cs id = h id := fun h cs => by simp [upd, hne]
   have g := fun k h hh => varint_ok (h := h) hs hq (d := d) hv1 (a.sub k) hh
   have g2 := fun k h hh => take_err (h := h) hs (vgetE_lt hv1 hq).2.2.1 (d := d) h1 (a.sub k) hh
   simp only [rdr, recC, encO_none, encO_some, nl1, nl2, nl3, nl4, nl5, nl8] at g g2 hh hx ⊢
   rw [eq_58]
   simp -implicitDefEqProofs (maxSteps := 1000000) [Tryz.f58, Code.key, hh, hx, f1, f2, f3, f4, f5, f6, x1, x2, x3, x4, x5, x6, u1, u2, wl4, wl8, g, g2]
 split at hv
 ·rename_i hk
  subst hk
  have h1 := map_err hv
  obtain ⟨q', gg⟩ := hg d hd _ _ h1
  refine ⟨q', recC num 3 0 [] [], ?_⟩
  intro p id xid a b hne h hh hx
  obtain ⟨f1, f2, f3, f4, f5, f6⟩ := a.facts
  obtain ⟨x1, x2, x3, x4, x5, x6⟩ := b.facts
  have u1 : ∀ (h : Heap) (cs : List A), upd h id cs xid = h xid := fun h cs => by simp [upd, hne.symm]
  have u2 : ∀ (h : Heap) (cs : List A), upd h xid cs id = h id := fun h cs => by simp [upd, hne]
  have g := fun k h hh => gg (a.sub k) (h := h) hh
  simp only [rdr, recC, encO_none, encO_some, nl1, nl2, nl3, nl4, nl5, nl8] at g hh hx ⊢
  rw [eq_58]
  simp -implicitDefEqProofs (maxSteps := 1000000) [Tryz.f58, Code.key, hh, hx, f1, f2, f3, f4, f5, f6, x1, x2, x3, x4, x5, x6, u1, u2, wl4, wl8, g]
  exact (upd_id (by rw [u1, x2, hx])).symm
 ·rename_i k0 k1 k5 k2 k3
  simp only [Except.error.injEq] at hv
  subst hv
  refine ⟨q, recC num kind 0 [] [], ?_⟩
  intro p id xid a b hne h hh hx
  obtain ⟨f1, f2, f3, f4, f5, f6⟩ := a.facts
  obtain ⟨x1, x2, x3, x4, x5, x6⟩ := b.facts
  have u1 : ∀ (h : Heap) (cs : List A), upd h id cs xid = h xid := fun h cs => by simp [upd, hne.symm]
  have u2 : ∀ (h : Heap) (cs : List A), upd h xid cs id = h id := fun h cs => by simp [upd, hne]
  have g := fun k h => fails_lit (h := h) (c := 3) (n := t) (d := d) (s := s) (q := q) (a.sub k)
  have z0 : ¬ (kind : Int) = 0 := by omega
  have z1 : ¬ (kind : Int) = 1 := by omega
  have z2 : ¬ (kind : Int) = 2 := by omega
  have z3 : ¬ (kind : Int) = 3 := by omega
  have z5 : ¬ (kind : Int) = 5 := by omega
  simp only [rdr, recC, encO_none, encO_some] at g hh hx ⊢
  rw [eq_58]
  simp -implicitDefEqProofs (maxSteps := 1000000) [Tryz.f58, Code.key, hh, hx, f1, f2, f3, f4, f5, f6, x1, x2, x3, x4, x5, x6, u1, u2, wl4, wl8, g, k0, k1, k5, k2, k3, z0, z1, z2, z3, z5]
  exact (upd_id (by rw [u1, x2, hx])).symm
def LoopY (s : List UInt8) (q : Nat) : Prop := ∀ (d : Int), d ≤ 9223372036854775807 → ∀ (num e : Nat), loopE s d num q = .ok e → ∃ k, ∀ {p id : Id}, Apart p id → ∀ {c0 c : Nat}, c0 ≤ c → ∀ {h : Heap}, h id = some (rdr s q none d) →
  iterW E 99 p [0, 1] L_99_3 c0 ((bot.set 1 (.int .i64 num)).set 0 (.ptr id 0)) c h = some (.exit 0, (bot.set 1 (.int .i64 num)).set 0 (.ptr id 0), c + k, upd (dropFrom p c0 h) id (rdr s e none d))
def LoopN (s : List UInt8) (q : Nat) : Prop := ∀ (d : Int), d ≤ 9223372036854775807 → ∀ (num : Nat) (x : Err), loopE s d num q = .error x → ∃ k q', ∀ {p id : Id}, Apart p id → ∀ {c0 c : Nat}, c0 ≤ c → ∀ {h : Heap}, h id = some (rdr s q none d) →
  iterW E 99 p [0, 1] L_99_3 c0 ((bot.set 1 (.int .i64 num)).set 0 (.ptr id 0)) c h = some (.exit 0, (bot.set 1 (.int .i64 num)).set 0 (.ptr id 0), c + k, upd (dropFrom p c0 h) id (rdr s q' (some x) d))
theorem loop_y {s : List UInt8} (hs : s.length ≤ maxStr) {q : Nat} (hq : q ≤ s.length) (hr : ∀ q1, q < q1 → q1 ≤ s.length → RestY s q1) (hl : ∀ q1, q < q1 → q1 ≤ s.length → LoopY s q1) : LoopY s q := by
 intro d hd num e hv
 cases ht : tagE s q with
 | error x => rw [loopE_err ht] at hv; cases hv
 | ok r =>
  obtain ⟨n, kind, q1⟩ := r
  have b1 := tagE_lt ht
  have hs' := hs; unfold maxStr at hs'
  have gt := fun k {p id : Id} (a : Apart p id) h hh => tag_ok (h := h) hs hq (d := d) ht (a.sub k) hh
  rw [loopE_ok ht] at hv
  split at hv
  ·rename_i hk
   subst hk
   split at hv
   ·rename_i hn
    subst hn
    simp only [Except.ok.injEq] at hv
    subst hv
    refine ⟨1, fun {p id} a {c0 c} hc {h} hh => ?_⟩
    obtain ⟨f1, f2, f3, f4, f5, f6⟩ := a.facts
    have g := fun k => gt k a
    simp only [rdr, encO_none] at g hh ⊢
    rw [rd_99_3]
    generalize hr : execW E 99 p _ _ _ _ = e
    simp -implicitDefEqProofs (maxSteps := 1000000) [Tryz.f99, Code.loopAt, Code.key, hh, f1, f2, f3, f4, f5, f6, g, hc] at hr
    subst hr
    simp [f1, f2, f3, f4, hc]
   ·cases hv
  ·rename_i hk4
   split at hv
   ·cases hv
   ·rename_i n2 b2 q2 hb
    have b2' := bodyE_lt hb b1.2.1
    rw [if_pos (by omega)] at hv
    have gr := fun (p id xid : Id) (a : Apart p id) (b : Apart p xid) (hne : id ≠ xid) (h : Heap) hh hx => hr q1 b1.1 b1.2.1 d hd _ _ _ _ _ _ hb a b hne (h := h) hh hx
    obtain ⟨k, gl⟩ := hl q2 (by omega) b2'.2.1 d hd num e hv
    refine ⟨3 + k, fun {p id} a {c0 c} hc {h} hh => ?_⟩
    obtain ⟨f1, f2, f3, f4, f5, f6⟩ := a.facts
    have g := fun k => gt k a
    have g2 := fun t k j (hkj : k ≠ j) h hh => gr (j :: p) id (t :: k :: p) (a.sub j) (Apart.own hkj) (a.ne t k) h hh
    have g3 := fun h => gl (p := p) (id := id) a (c0 := c0) (c := c + 3) (by omega) (h := h)
    have hk4' : ¬ (kind : Int) = 4 := by omega
    simp only [rdr, recC, encO_none] at g g2 g3 hh ⊢
    rw [rd_99_3]
    generalize hr : execW E 99 p _ _ _ _ = e
    simp -implicitDefEqProofs (maxSteps := 1000000) [Tryz.f99, Code.loopAt, Code.key, hh, f1, f2, f3, f4, f5, f6, g, g2, hc, hk4, hk4'] at hr
    subst hr
    simp [f1, f2, f3, f4, hc]
    rw [show c + 1 + 1 + 1 = c + 3 from rfl, drop_upd (by omega), f1, drop_drop_cons (by omega), drop_upd (by omega), f1, drop_drop_cons (by omega), upd_upd, g3 _ (by simp [upd]), f1, drop_drop_self, upd_upd, Nat.add_assoc]
theorem loop_stop {s : List UInt8} {q num : Nat} {d : Int} {x : Err} {p id : Id} (a : Apart p id) {c0 c : Nat} {h : Heap} (hh : h id = some (rdr s q (some x) d)) :
  iterW E 99 p [0, 1] L_99_3 c0 ((bot.set 1 (.int .i64 num)).set 0 (.ptr id 0)) c h = some (.exit 0, (bot.set 1 (.int .i64 num)).set 0 (.ptr id 0), c, dropFrom p c0 h) := by
 obtain ⟨f1, f2, f3, f4, f5, f6⟩ := a.facts
 simp only [rdr, encO_some] at hh ⊢
 rw [rd_99_3]
 generalize hr : execW E 99 p _ _ _ _ = e
 simp -implicitDefEqProofs (maxSteps := 1000000) [Tryz.f99, Code.loopAt, Code.key, hh, f1, f2, f3, f4, f5, f6, a] at hr
 subst hr
 simp
theorem little_no {s : List UInt8} {q : Nat} {d : Int} {w : Nat} (hw : w ≤ 8) {x : Err} {p id : Id} (a : Apart p id) {h : Heap} (hh : h id = some (rdr s q (some x) d)) :
  callW E p 97 [.ptr id 0, .int .i64 w] h = some (.int .u64 0, upd (dropFrom p 0 h) id (rdr s q (some x) d)) := by
 obtain ⟨f1, f2, f3, f4, f5, f6⟩ := a.facts
 have g := fun k h hh => take_no (h := h) (s := s) (q := q) (d := d) (n := w) (x := x) (a.sub k) hh
 have gl := fun h => little_loop (p := p) (c0 := 1) (t := []) (by simp) [] 0 0 rfl (by simp) 1 h
 simp only [Nat.mul_zero, Nat.pow_zero, Nat.mul_one, Nat.zero_add, nat0, leN, bytesA_nil, List.length_nil, Nat.max_self, Nat.zero_mul] at gl
 simp only [rdr, encO_none, encO_some] at hh g ⊢
 have hw : IntKind.u64.wrap (w : Int) = (w : Int) := wrap_u64 (by omega) (by omega)
 rw [eq_97]
 simp -implicitDefEqProofs (maxSteps := 1000000) [Tryz.f97, Code.key, Code.hide, hh, f1, f2, f3, f4, f5, f6, g, hw, gl]
theorem group_no {s : List UInt8} {q num : Nat} {d : Int} (hd : d ≤ 9223372036854775807) {x : Err} {p id : Id} (a : Apart p id) {h : Heap} (hh : h id = some (rdr s q (some x) d)) :
  callW E p 99 [.ptr id 0, .int .i64 num] h = some (.tuple [], upd (dropFrom p 0 h) id (rdr s q (some x) d)) := by
 obtain ⟨f1, f2, f3, f4, f5, f6⟩ := a.facts
 by_cases h1 : d < 1
 ·have g := fun k h => fails_no (h := h) (s := s) (q := q) (d := d) (n := q) (e := .code 6) (x := x) (a.sub k)
  simp only [rdr, encO_none, encO_some, encE_code] at hh g ⊢
  rw [eq_99]
  simp -implicitDefEqProofs (maxSteps := 1000000) [Tryz.f99, Code.key, Code.hide, hh, f1, f2, f3, f4, f5, f6, g, h1]
 ·have g := fun c0 c h => loop_stop (h := h) (s := s) (q := q) (num := num) (d := d - 1) (x := x) (c0 := c0) (c := c) a
  have w1 : IntKind.i64.wrap (d - 1) = d - 1 := wrap_i64 (by omega) (by omega)
  have w2 : IntKind.i64.wrap d = d := wrap_i64 (by omega) (by omega)
  have w3 : d - 1 + 1 = d := by omega
  simp only [rdr, encO_none, encO_some] at hh g ⊢
  rw [eq_99]
  simp -implicitDefEqProofs (maxSteps := 1000000) [Tryz.f99, Code.key, Code.hide, hh, f1, f2, f3, f4, f5, f6, g, h1, w1, w2, w3]
theorem rest_no {s : List UInt8} {q num kind t : Nat} {d : Int} (hd : d ≤ 9223372036854775807) {x : Err} {p id xid : Id} (a : Apart p id) (b : Apart p xid) (hne : id ≠ xid) {h : Heap} (hh : h id = some (rdr s q (some x) d)) (hx : h xid = some (recC num kind 0 [] [])) :
  callW E p 58 [.ptr id 0, .ptr xid 0, .int .i64 t] h = some (.tuple [], upd (upd (dropFrom p 0 h) id (rdr s q (some x) d)) xid (recC num kind 0 [] [])) := by
 obtain ⟨f1, f2, f3, f4, f5, f6⟩ := a.facts
 obtain ⟨x1, x2, x3, x4, x5, x6⟩ := b.facts
 have u1 : ∀ (h : Heap) (cs : List A), upd h id cs xid = h xid := fun h cs => by simp [upd, hne.symm]
 have u2 : ∀ (h : Heap) (cs : List A), upd h xid cs id = h id := fun h cs => by simp [upd, hne]
 by_cases k0 : kind = 0
 ·subst k0
  have g := fun k h hh => varint_no (h := h) (s := s) (q := q) (d := d) (e := x) (a.sub k) hh
  simp only [rdr, recC, encO_some, nat0] at g hh hx ⊢
  rw [eq_58]
  simp -implicitDefEqProofs (maxSteps := 1000000) [Tryz.f58, Code.key, hh, hx, f1, f2, f3, f4, f5, f6, x1, x2, x3, x4, x5, x6, u1, u2, wl4, wl8, g]
 by_cases k1 : kind = 1
 ·subst k1
  have g := fun k h hh => little_no (h := h) (s := s) (q := q) (d := d) (w := 8) (x := x) (by omega) (a.sub k) hh
  simp only [rdr, recC, encO_some, nl1, nl2, nl3, nl4, nl5, nl8] at g hh hx ⊢
  rw [eq_58]
  simp -implicitDefEqProofs (maxSteps := 1000000) [Tryz.f58, Code.key, hh, hx, f1, f2, f3, f4, f5, f6, x1, x2, x3, x4, x5, x6, u1, u2, wl4, wl8, g]
 by_cases k5 : kind = 5
 ·subst k5
  have g := fun k h hh => little_no (h := h) (s := s) (q := q) (d := d) (w := 4) (x := x) (by omega) (a.sub k) hh
  simp only [rdr, recC, encO_some, nl1, nl2, nl3, nl4, nl5, nl8] at g hh hx ⊢
  rw [eq_58]
  simp -implicitDefEqProofs (maxSteps := 1000000) [Tryz.f58, Code.key, hh, hx, f1, f2, f3, f4, f5, f6, x1, x2, x3, x4, x5, x6, u1, u2, wl4, wl8, g]
 by_cases k2 : kind = 2
 ·subst k2
  have g := fun k h hh => varint_no (h := h) (s := s) (q := q) (d := d) (e := x) (a.sub k) hh
  have g2 := fun k h hh => take_no (h := h) (s := s) (q := q) (d := d) (n := 0) (x := x) (a.sub k) hh
  simp only [rdr, recC, encO_some, nat0, nl1, nl2, nl3, nl4, nl5, nl8] at g g2 hh hx ⊢
  rw [eq_58]
  simp -implicitDefEqProofs (maxSteps := 1000000) [Tryz.f58, Code.key, hh, hx, f1, f2, f3, f4, f5, f6, x1, x2, x3, x4, x5, x6, u1, u2, wl4, wl8, g, g2]
 by_cases k3 : kind = 3
 ·subst k3
  have g := fun k h hh => group_no (h := h) (s := s) (q := q) (d := d) (num := num) (x := x) hd (a.sub k) hh
  simp only [rdr, recC, encO_some, nl1, nl2, nl3, nl4, nl5, nl8] at g hh hx ⊢
  rw [eq_58]
  simp -implicitDefEqProofs (maxSteps := 1000000) [Tryz.f58, Code.key, hh, hx, f1, f2, f3, f4, f5, f6, x1, x2, x3, x4, x5, x6, u1, u2, wl4, wl8, g]
  exact (upd_id (by rw [u1, x2, hx])).symm
 ·have g := fun k h => fails_no (h := h) (s := s) (q := q) (d := d) (n := t) (e := .code 3) (x := x) (a.sub k)
  have z0 : ¬ (kind : Int) = 0 := by omega
  have z1 : ¬ (kind : Int) = 1 := by omega
  have z2 : ¬ (kind : Int) = 2 := by omega
  have z3 : ¬ (kind : Int) = 3 := by omega
  have z5 : ¬ (kind : Int) = 5 := by omega
  simp only [rdr, recC, encO_none, encO_some, encE_code] at g hh hx ⊢
  rw [eq_58]
  simp -implicitDefEqProofs (maxSteps := 1000000) [Tryz.f58, Code.key, hh, hx, f1, f2, f3, f4, f5, f6, x1, x2, x3, x4, x5, x6, u1, u2, wl4, wl8, g, k0, k1, k5, k2, k3, z0, z1, z2, z3, z5]
  exact (upd_id (by rw [u1, x2, hx])).symm
theorem loop_n {s : List UInt8} (hs : s.length ≤ maxStr) {q : Nat} (hq : q ≤ s.length) (hy : ∀ q1, q < q1 → q1 ≤ s.length → RestY s q1) (hn : ∀ q1, q < q1 → q1 ≤ s.length → RestN s q1) (hl : ∀ q1, q < q1 → q1 ≤ s.length → LoopN s q1) : LoopN s q := by
 intro d hd num x hv
 cases ht : tagE s q with
 | error x1 =>
  rw [loopE_err ht] at hv
  simp only [Except.error.injEq] at hv
  subst hv
  obtain ⟨q', n', k', gt⟩ := tag_err hs hq (d := d) ht
  refine ⟨3, q', fun {p id} a {c0 c} hc {h} hh => ?_⟩
  obtain ⟨f1, f2, f3, f4, f5, f6⟩ := a.facts
  have g := fun k h hh => gt (p := k :: p) (id := id) (a.sub k) (h := h) hh
  have g2 := fun t k j (hkj : k ≠ j) h hh => rest_no (s := s) (q := q') (num := n') (kind := k') (t := q) (x := x1) hd (p := j :: p) (id := id) (xid := t :: k :: p) (a.sub j) (Apart.own hkj) (a.ne t k) (h := h) hh
  have g3 := fun h => loop_stop (s := s) (q := q') (num := num) (d := d) (x := x1) (p := p) (id := id) a (c0 := c0) (c := c + 3) (h := h)
  simp only [rdr, recC, encO_none, encO_some] at g g2 g3 hh ⊢
  rw [rd_99_3]
  generalize hr : execW E 99 p _ _ _ _ = e
  simp -implicitDefEqProofs (maxSteps := 1000000) [Tryz.f99, Code.loopAt, Code.key, hh, f1, f2, f3, f4, f5, f6, g, g2, hc] at hr
  subst hr
  simp [f1, f2, f3, f4, hc]
  rw [show c + 1 + 1 + 1 = c + 3 from rfl, drop_upd (by omega), f1, drop_drop_cons (by omega), drop_upd (by omega), f1, drop_drop_cons (by omega), upd_upd, g3 _ (by simp [upd]), f1, drop_drop_self]
 | ok r =>
  obtain ⟨n, kind, q1⟩ := r
  have b1 := tagE_lt ht
  have hs' := hs; unfold maxStr at hs'
  have gt := fun k {p id : Id} (a : Apart p id) h hh => tag_ok (h := h) hs hq (d := d) ht (a.sub k) hh
  rw [loopE_ok ht] at hv
  split at hv
  ·rename_i hk
   subst hk
   split at hv
   ·cases hv
   ·rename_i hnn
    simp only [Except.error.injEq] at hv
    subst hv
    refine ⟨2, q1, fun {p id} a {c0 c} hc {h} hh => ?_⟩
    obtain ⟨f1, f2, f3, f4, f5, f6⟩ := a.facts
    have g := fun k => gt k a
    have gf := fun k h => fails_lit (h := h) (c := 3) (n := q) (d := d) (s := s) (q := q1) (a.sub k)
    have hnn' : ¬ (n : Int) = num := by omega
    simp only [rdr, encO_none, encO_some] at g gf hh ⊢
    rw [rd_99_3]
    generalize hr : execW E 99 p _ _ _ _ = e
    simp -implicitDefEqProofs (maxSteps := 1000000) [Tryz.f99, Code.loopAt, Code.key, hh, f1, f2, f3, f4, f5, f6, g, gf, hc, hnn, hnn'] at hr
    subst hr
    simp [f1, f2, f3, f4, hc]
    rw [drop_drop_cons (by omega), drop_drop_cons hc]
  ·rename_i hk4
   have hk4' : ¬ (kind : Int) = 4 := by omega
   split at hv
   ·rename_i x1 hb
    simp only [Except.error.injEq] at hv
    subst hv
    obtain ⟨q2, xs, gr⟩ := hn q1 b1.1 b1.2.1 d hd _ _ _ _ hb
    refine ⟨3, q2, fun {p id} a {c0 c} hc {h} hh => ?_⟩
    obtain ⟨f1, f2, f3, f4, f5, f6⟩ := a.facts
    have g := fun k => gt k a
    have g2 := fun t k j (hkj : k ≠ j) h hh => gr (p := j :: p) (id := id) (xid := t :: k :: p) (a.sub j) (Apart.own hkj) (a.ne t k) (h := h) hh
    have g3 := fun h => loop_stop (s := s) (q := q2) (num := num) (d := d) (x := x1) (p := p) (id := id) a (c0 := c0) (c := c + 3) (h := h)
    simp only [rdr, recC, encO_none, encO_some] at g g2 g3 hh ⊢
    rw [rd_99_3]
    generalize hr : execW E 99 p _ _ _ _ = e
    simp -implicitDefEqProofs (maxSteps := 1000000) [Tryz.f99, Code.loopAt, Code.key, hh, f1, f2, f3, f4, f5, f6, g, g2, hc, hk4, hk4'] at hr
    subst hr
    simp [f1, f2, f3, f4, hc]
    rw [show c + 1 + 1 + 1 = c + 3 from rfl, drop_upd (by omega), f1, drop_drop_cons (by omega), drop_upd (by omega), f1, drop_drop_cons (by omega), upd_upd, g3 _ (by simp [upd]), f1, drop_drop_self]
   ·rename_i n2 b2 q2 hb
    have b2' := bodyE_lt hb b1.2.1
    rw [if_pos (by omega)] at hv
    have gr := fun (p id xid : Id) (a : Apart p id) (b : Apart p xid) (hne : id ≠ xid) (h : Heap) hh hx => hy q1 b1.1 b1.2.1 d hd _ _ _ _ _ _ hb a b hne (h := h) hh hx
    obtain ⟨k, q3, gl⟩ := hl q2 (by omega) b2'.2.1 d hd num x hv
    refine ⟨3 + k, q3, fun {p id} a {c0 c} hc {h} hh => ?_⟩
    obtain ⟨f1, f2, f3, f4, f5, f6⟩ := a.facts
    have g := fun k => gt k a
    have g2 := fun t k j (hkj : k ≠ j) h hh => gr (j :: p) id (t :: k :: p) (a.sub j) (Apart.own hkj) (a.ne t k) h hh
    have g3 := fun h => gl (p := p) (id := id) a (c0 := c0) (c := c + 3) (by omega) (h := h)
    simp only [rdr, recC, encO_none, encO_some] at g g2 g3 hh ⊢
    rw [rd_99_3]
    generalize hr : execW E 99 p _ _ _ _ = e
    simp -implicitDefEqProofs (maxSteps := 1000000) [Tryz.f99, Code.loopAt, Code.key, hh, f1, f2, f3, f4, f5, f6, g, g2, hc, hk4, hk4'] at hr
    subst hr
    simp [f1, f2, f3, f4, hc]
    rw [show c + 1 + 1 + 1 = c + 3 from rfl, drop_upd (by omega), f1, drop_drop_cons (by omega), drop_upd (by omega), f1, drop_drop_cons (by omega), upd_upd, g3 _ (by simp [upd]), f1, drop_drop_self, upd_upd, Nat.add_assoc]
theorem group_y {s : List UInt8} {q : Nat} (hl : LoopY s q) : GroupY s q := by
 intro d hd num e hv p id a h hh
 obtain ⟨f1, f2, f3, f4, f5, f6⟩ := a.facts
 rw [groupE] at hv
 split at hv
 ·cases hv
 ·rename_i h1
  obtain ⟨k, gl⟩ := hl (d - 1) (by omega) num e hv
  have g := fun h => gl (p := p) (id := id) a (c0 := 0) (c := 0) (Nat.le_refl 0) (h := h)
  have w1 : IntKind.i64.wrap (d - 1) = d - 1 := wrap_i64 (by omega) (by omega)
  have w2 : IntKind.i64.wrap d = d := wrap_i64 (by omega) (by omega)
  have w3 : d - 1 + 1 = d := by omega
  simp only [rdr, encO_none, encO_some, Nat.zero_add] at hh g ⊢
  rw [eq_99]
  simp -implicitDefEqProofs (maxSteps := 1000000) [Tryz.f99, Code.key, Code.hide, hh, f1, f2, f3, f4, f5, f6, g, h1, w1, w2, w3]
theorem group_n {s : List UInt8} {q : Nat} (hl : LoopN s q) : GroupN s q := by
 intro d hd num x hv
 rw [groupE] at hv
 split at hv
 ·rename_i h1
  simp only [Except.error.injEq] at hv
  subst hv
  refine ⟨q, fun {p id} a {h} hh => ?_⟩
  obtain ⟨f1, f2, f3, f4, f5, f6⟩ := a.facts
  have g := fun k h => fails_lit (h := h) (s := s) (q := q) (d := d) (n := q) (c := 6) (a.sub k)
  simp only [rdr, encO_none, encO_some] at hh g ⊢
  rw [eq_99]
  simp -implicitDefEqProofs (maxSteps := 1000000) [Tryz.f99, Code.key, Code.hide, hh, f1, f2, f3, f4, f5, f6, g, h1]
 ·rename_i h1
  obtain ⟨k, q', gl⟩ := hl (d - 1) (by omega) num x hv
  refine ⟨q', fun {p id} a {h} hh => ?_⟩
  obtain ⟨f1, f2, f3, f4, f5, f6⟩ := a.facts
  have g := fun h => gl (p := p) (id := id) a (c0 := 0) (c := 0) (Nat.le_refl 0) (h := h)
  have w1 : IntKind.i64.wrap (d - 1) = d - 1 := wrap_i64 (by omega) (by omega)
  have w2 : IntKind.i64.wrap d = d := wrap_i64 (by omega) (by omega)
  have w3 : d - 1 + 1 = d := by omega
  simp only [rdr, encO_none, encO_some, Nat.zero_add] at hh g ⊢
  rw [eq_99]
  simp -implicitDefEqProofs (maxSteps := 1000000) [Tryz.f99, Code.key, Code.hide, hh, f1, f2, f3, f4, f5, f6, g, h1, w1, w2, w3]
theorem rest_all {s : List UInt8} (hs : s.length ≤ maxStr) : ∀ m q, s.length + 1 - q ≤ m → q ≤ s.length → LoopY s q ∧ LoopN s q ∧ RestY s q ∧ RestN s q := by
 intro m
 induction m with
 | zero => intro q hm hq; omega
 | succ m ih =>
  intro q hm hq
  have ly := loop_y hs hq (fun q1 h1 h2 => (ih q1 (by omega) h2).2.2.1) (fun q1 h1 h2 => (ih q1 (by omega) h2).1)
  have ln := loop_n hs hq (fun q1 h1 h2 => (ih q1 (by omega) h2).2.2.1) (fun q1 h1 h2 => (ih q1 (by omega) h2).2.2.2) (fun q1 h1 h2 => (ih q1 (by omega) h2).2.1)
  exact ⟨ly, ln, rest_y hs hq (group_y ly), rest_n hs hq (group_n ln)⟩
theorem restY {s : List UInt8} (hs : s.length ≤ maxStr) {q : Nat} (hq : q ≤ s.length) : RestY s q := (rest_all hs _ q (Nat.le_refl _) hq).2.2.1
theorem restN {s : List UInt8} (hs : s.length ≤ maxStr) {q : Nat} (hq : q ≤ s.length) : RestN s q := (rest_all hs _ q (Nat.le_refl _) hq).2.2.2
def encRec (r : Rec) : A := .agg [.int .i64 r.num, .int .i64 r.kind, .int .u64 r.n, .str r.s, .str r.raw]
theorem record_ok {s : List UInt8} (hs : s.length ≤ maxStr) {q : Nat} (hq : q ≤ s.length) {d : Int} (hd : d ≤ 9223372036854775807) {r : Rec} {e : Nat} (hv : recE s d q = .ok (r, e)) {p id : Id} (a : Apart p id) {h : Heap} (hh : h id = some (rdr s q none d)) :
  callW E p 34 [.ptr id 0] h = some (encRec r, upd (dropFrom p 0 h) id (rdr s e none d)) := by
 obtain ⟨f1, f2, f3, f4, f5, f6⟩ := a.facts
 unfold recE at hv
 split at hv
 ·cases hv
 ·rename_i num kind q1 ht
  have b1 := tagE_lt ht
  obtain ⟨⟨n, bs, e'⟩, hb, h2⟩ := map_ok hv
  simp only [Prod.mk.injEq] at h2
  obtain ⟨rfl, rfl⟩ := h2
  have b2 := bodyE_lt hb b1.2.1
  have hs' := hs; unfold maxStr at hs'
  have g := fun k h hh => tag_ok (h := h) hs hq (d := d) ht (a.sub k) hh
  have g2 := fun t k j (hkj : k ≠ j) h hh hx => restY hs b1.2.1 d hd _ _ _ _ _ _ hb (p := j :: p) (id := id) (xid := t :: k :: p) (a.sub j) (Apart.own hkj) (a.ne t k) (h := h) hh hx
  simp only [rdr, recC, encO_none, encO_some, encRec] at hh g g2 ⊢
  rw [eq_34]
  simp -implicitDefEqProofs (maxSteps := 1000000) [Tryz.f34, Code.key, Code.hide, hh, f1, f2, f3, f4, f5, f6, g, g2]
  exact ⟨by omega, by omega, List.drop_take⟩
theorem record_err {s : List UInt8} (hs : s.length ≤ maxStr) {q : Nat} (hq : q ≤ s.length) {d : Int} (hd : d ≤ 9223372036854775807) {x : Err} (hv : recE s d q = .error x) : ∃ q', ∀ {p id : Id} (_ : Apart p id) {h : Heap} (_ : h id = some (rdr s q none d)),
  callW E p 34 [.ptr id 0] h = some (.agg [.int .i64 0, .int .i64 0, .int .u64 0, .str [], .str []], upd (dropFrom p 0 h) id (rdr s q' (some x) d)) := by
 unfold recE at hv
 split at hv
 ·rename_i x1 ht
  simp only [Except.error.injEq] at hv
  subst hv
  obtain ⟨q', n', k', gt⟩ := tag_err hs hq (d := d) ht
  refine ⟨q', fun {p id} a {h} hh => ?_⟩
  obtain ⟨f1, f2, f3, f4, f5, f6⟩ := a.facts
  have g := fun k h hh => gt (p := k :: p) (id := id) (a.sub k) (h := h) hh
  simp only [rdr, encO_none, encO_some] at hh g ⊢
  rw [eq_34]
  simp -implicitDefEqProofs (maxSteps := 1000000) [Tryz.f34, Code.key, Code.hide, hh, f1, f2, f3, f4, f5, f6, g]
 ·rename_i num kind q1 ht
  have b1 := tagE_lt ht
  have hb := map_err hv
  obtain ⟨q', xs, gr⟩ := restN hs b1.2.1 d hd _ _ _ _ hb
  refine ⟨q', fun {p id} a {h} hh => ?_⟩
  obtain ⟨f1, f2, f3, f4, f5, f6⟩ := a.facts
  have g := fun k h hh => tag_ok (h := h) hs hq (d := d) ht (a.sub k) hh
  have g2 := fun t k j (hkj : k ≠ j) h hh hx => gr (p := j :: p) (id := id) (xid := t :: k :: p) (a.sub j) (Apart.own hkj) (a.ne t k) (h := h) hh hx
  simp only [rdr, recC, encO_none, encO_some] at hh g g2 ⊢
  rw [eq_34]
  simp -implicitDefEqProofs (maxSteps := 1000000) [Tryz.f34, Code.key, Code.hide, hh, f1, f2, f3, f4, f5, f6, g, g2]
  done
theorem own_facts {p : Id} (t k0 : Nat) : (∀ (c0 : Nat) (h : Heap) (cs : List A), k0 < c0 → dropFrom p c0 (upd h (t :: k0 :: p) cs) = upd (dropFrom p c0 h) (t :: k0 :: p) cs) ∧
  (∀ (c0 : Nat) (h : Heap), k0 < c0 → dropFrom p c0 h (t :: k0 :: p) = h (t :: k0 :: p)) ∧
  (∀ (j : Nat) (h : Heap) (cs : List A), k0 ≠ j → dropFrom (j :: p) 0 (upd h (t :: k0 :: p) cs) = upd (dropFrom (j :: p) 0 h) (t :: k0 :: p) cs) ∧
  (∀ (j : Nat) (h : Heap), k0 ≠ j → dropFrom (j :: p) 0 h (t :: k0 :: p) = h (t :: k0 :: p)) ∧
  (∀ (h : Heap) (t' k : Nat) (cs : List A), k0 ≠ k → upd h (t' :: k :: p) cs (t :: k0 :: p) = h (t :: k0 :: p)) ∧
  (∀ (h : Heap) (t' k : Nat) (cs : List A), k0 ≠ k → upd h (t :: k0 :: p) cs (t' :: k :: p) = h (t' :: k :: p)) := by
 refine ⟨fun c0 h cs hk => drop_upd_other (by simp; omega), fun c0 h hk => by rw [drop_own, if_neg (by omega)], fun j h cs hk => drop_upd_other (by simp [hk]), fun j h hk => by rw [drop_sib, if_neg hk], fun h t' k cs hk => ?_, fun h t' k cs hk => ?_⟩
 ·simp [upd, hk]
 ·simp [upd, Ne.symm hk]
def recCells (r : Rec) : List A := [.int .i64 r.num, .int .i64 r.kind, .int .u64 r.n, .str r.s, .str r.raw]
def recsA (rs : List Rec) : List (List A) := rs.map recCells
def allFr (s : List UInt8) (id : Id) (rs : List Rec) (r4 r5 : A) : Fr := ((((bot.set 7 (.ptr id 0)).set 6 (growing (45, 5) (recsA rs))).set 5 r5).set 4 r4).set 0 (.str s)
theorem all_loop_y {s : List UInt8} (hb : s.length ≤ 1099511627776) {d : Int} (hd : d ≤ 9223372036854775807) : ∀ q, q ≤ s.length → ∀ (rs out : List Rec), rs.length ≤ q → allE s d q = .ok out → ∃ k, ∀ {p : Id} {t k0 c0 c : Nat}, k0 < c0 → c0 ≤ c → ∀ {h : Heap}, h (t :: k0 :: p) = some (rdr s q none d) →
  iterW E 15 p [0, 4, 5, 6, 7] L_15_3 c0 (allFr s (t :: k0 :: p) rs .nils .nili) c h = some (.exit 0, allFr s (t :: k0 :: p) (rs ++ out) .nils .nili, c + k, upd (dropFrom p c0 h) (t :: k0 :: p) (rdr s s.length none d)) := by
 have hs : s.length ≤ maxStr := by unfold maxStr; omega
 refine rec_ind fun q hq ih rs out hrs hv => ?_
 by_cases hlt : q < s.length
 ·cases hr : recE s d q with
  | error x => rw [allE_err hlt hr] at hv; cases hv
  | ok re =>
   obtain ⟨r, e⟩ := re
   have b1 := recE_lt hr
   rw [allE_ok hr] at hv
   obtain ⟨out', hv', rfl⟩ := map_ok hv
   obtain ⟨k, gl⟩ := ih e b1.1 b1.2.1 (rs ++ [r]) out' (by simp; omega) hv'
   refine ⟨2 + k, fun {p t k0 c0 c} hk hc {h} hh => ?_⟩
   obtain ⟨o1, o2, o3, o4, o5, o6⟩ := own_facts (p := p) t k0
   have g := fun h hh => record_ok (h := h) hs hq hd hr (p := c :: p) (id := t :: k0 :: p) (Apart.own (by omega)) hh
   have n0 : k0 ≠ c := by omega
   have n1 : k0 ≠ c + 1 := by omega
   have hlt' : (q : Int) < s.length := by omega
   have hl1 : (recsA rs).length = rs.length := by simp [recsA]
   have hmax : (recsA rs).length + 1 ≤ maxStr := by unfold maxStr; omega
   have hmax2 : ((recsA rs).length + 1) * 56 ≤ 140737488355328 := by omega
   simp only [rdr, encO_none, encO_some, encRec, allFr] at hh g gl ⊢
   rw [rd_15_3]
   generalize hr : execW E 15 p _ _ _ _ = e
   simp -implicitDefEqProofs (maxSteps := 1000000) [Tryz.f15, Code.loopAt, Code.key, hh, o1, o2, o3, o4, o5, o6, g, n0, n1, hlt', hk, hlt, hmax, hmax2] at hr
   subst hr
   simp [o1, o2, hk]
   have e6 : A.slice (recsA rs ++ [[.int .i64 r.num, .int .i64 r.kind, .int .u64 r.n, .str r.s, .str r.raw]]) (some (45, 5)) = growing (45, 5) (recsA (rs ++ [r])) := by
    rw [slice_growing]; simp [recsA, recCells]
   rw [e6, show c + 1 + 1 = c + 2 from rfl, drop_upd (by omega), o1 _ _ _ hk, drop_drop_cons (by omega), gl hk (by omega) (by simp [upd]), o1 _ _ _ hk, drop_drop_self, upd_upd]
   simp [Nat.add_assoc]
 ·rw [allE_end hlt] at hv
  simp only [Except.ok.injEq] at hv
  subst hv
  have hqe : s.length = q := by omega
  refine ⟨0, fun {p t k0 c0 c} hk hc {h} hh => ?_⟩
  obtain ⟨o1, o2, o3, o4, o5, o6⟩ := own_facts (p := p) t k0
  have hlt' : ¬ (q : Int) < s.length := by omega
  simp only [rdr, encO_none, encO_some, encRec, allFr] at hh ⊢
  rw [rd_15_3]
  generalize hr : execW E 15 p _ _ _ _ = e
  simp -implicitDefEqProofs (maxSteps := 1000000) [Tryz.f15, Code.loopAt, Code.key, hh, o1, o2, o3, o4, o5, o6, hlt', hk, hlt] at hr
  subst hr
  simp [o1, o2, hk]
  exact (upd_id (by rw [o2 _ _ hk, hh, hqe])).symm
theorem all_loop_n {s : List UInt8} (hb : s.length ≤ 1099511627776) {d : Int} (hd : d ≤ 9223372036854775807) {x : Err} : ∀ q, q ≤ s.length → ∀ (rs : List Rec), rs.length ≤ q → allE s d q = .error x → ∃ k q' rs', ∀ {p : Id} {t k0 c0 c : Nat}, k0 < c0 → c0 ≤ c → ∀ {h : Heap}, h (t :: k0 :: p) = some (rdr s q none d) →
  iterW E 15 p [0, 4, 5, 6, 7] L_15_3 c0 (allFr s (t :: k0 :: p) rs .nils .nili) c h = some (.ret, allFr s (t :: k0 :: p) rs' .nils (encE x), c + k, upd (dropFrom p c0 h) (t :: k0 :: p) (rdr s q' (some x) d)) := by
 have hs : s.length ≤ maxStr := by unfold maxStr; omega
 refine rec_ind fun q hq ih rs hrs hv => ?_
 by_cases hlt : q < s.length
 ·cases hr : recE s d q with
  | error x' =>
   rw [allE_err hlt hr] at hv
   simp only [Except.error.injEq] at hv
   subst hv
   obtain ⟨q', gr⟩ := record_err hs hq hd hr
   refine ⟨2, q', rs, fun {p t k0 c0 c} hk hc {h} hh => ?_⟩
   obtain ⟨o1, o2, o3, o4, o5, o6⟩ := own_facts (p := p) t k0
   have g := fun h hh => gr (h := h) (p := c :: p) (id := t :: k0 :: p) (Apart.own (by omega)) hh
   have n0 : k0 ≠ c := by omega
   have n1 : k0 ≠ c + 1 := by omega
   have hlt' : (q : Int) < s.length := by omega
   simp only [rdr, encO_none, encO_some, encRec, allFr] at hh g ⊢
   rw [rd_15_3]
   generalize hr : execW E 15 p _ _ _ _ = e
   simp -implicitDefEqProofs (maxSteps := 1000000) [Tryz.f15, Code.loopAt, Code.key, hh, o1, o2, o3, o4, o5, o6, g, n0, n1, hlt', hk, hlt] at hr
   subst hr
   simp [o1, o2, hk]
   rw [drop_upd (by omega), o1 _ _ _ hk, drop_drop_cons (by omega)]
  | ok re =>
   obtain ⟨r, e⟩ := re
   have b1 := recE_lt hr
   rw [allE_ok hr] at hv
   have hv' := map_err hv
   obtain ⟨k, q', rs', gl⟩ := ih e b1.1 b1.2.1 (rs ++ [r]) (by simp; omega) hv'
   refine ⟨2 + k, q', rs', fun {p t k0 c0 c} hk hc {h} hh => ?_⟩
   obtain ⟨o1, o2, o3, o4, o5, o6⟩ := own_facts (p := p) t k0
   have g := fun h hh => record_ok (h := h) hs hq hd hr (p := c :: p) (id := t :: k0 :: p) (Apart.own (by omega)) hh
   have n0 : k0 ≠ c := by omega
   have n1 : k0 ≠ c + 1 := by omega
   have hlt' : (q : Int) < s.length := by omega
   have hl1 : (recsA rs).length = rs.length := by simp [recsA]
   have hmax : (recsA rs).length + 1 ≤ maxStr := by unfold maxStr; omega
   have hmax2 : ((recsA rs).length + 1) * 56 ≤ 140737488355328 := by omega
   simp only [rdr, encO_none, encO_some, encRec, allFr] at hh g gl ⊢
   rw [rd_15_3]
   generalize hr : execW E 15 p _ _ _ _ = e
   simp -implicitDefEqProofs (maxSteps := 1000000) [Tryz.f15, Code.loopAt, Code.key, hh, o1, o2, o3, o4, o5, o6, g, n0, n1, hlt', hk, hlt, hmax, hmax2] at hr
   subst hr
   simp [o1, o2, hk]
   have e6 : A.slice (recsA rs ++ [[.int .i64 r.num, .int .i64 r.kind, .int .u64 r.n, .str r.s, .str r.raw]]) (some (45, 5)) = growing (45, 5) (recsA (rs ++ [r])) := by
    rw [slice_growing]; simp [recsA, recCells]
   rw [e6, show c + 1 + 1 = c + 2 from rfl, drop_upd (by omega), o1 _ _ _ hk, drop_drop_cons (by omega), gl hk (by omega) (by simp [upd]), o1 _ _ _ hk, drop_drop_self, upd_upd]
   simp [Nat.add_assoc]
 ·rw [allE_end hlt] at hv; cases hv
def encAll : Except Err (List Rec) → A
 | .ok rs => .tuple [.slice (recsA rs) none, .nili]
 | .error e => .tuple [.slice [] none, encE e]
theorem all_ok {s : List UInt8} (hb : s.length ≤ 1099511627776) {d : Int} (hd : d ≤ 9223372036854775807) (p : Id) (h : Heap) : callW E p 15 [.str s, .int .i64 d] h = some (encAll (allE s d 0), dropFrom p 0 h) := by
 rw [eq_15]
 cases hv : allE s d 0 with
 | ok out =>
  obtain ⟨k, gl⟩ := all_loop_y hb hd 0 (Nat.zero_le _) [] out (Nat.le_refl _) hv
  have g := fun t k0 c0 c hk hc h hh => gl (p := p) (t := t) (k0 := k0) (c0 := c0) (c := c) hk hc (h := h) hh
  simp only [rdr, encO_none, allFr, recsA, List.map_nil, growing_nil, nat0, List.nil_append] at g
  simp -implicitDefEqProofs (maxSteps := 1000000) [Tryz.f15, Code.hide, Code.key, g, encAll, recsA]
  done
 | error x =>
  obtain ⟨k, q', rs', gl⟩ := all_loop_n hb hd 0 (Nat.zero_le _) [] (Nat.le_refl _) hv
  have g := fun t k0 c0 c hk hc h hh => gl (p := p) (t := t) (k0 := k0) (c0 := c0) (c := c) hk hc (h := h) hh
  simp only [rdr, encO_none, encO_some, allFr, recsA, List.map_nil, growing_nil, nat0, List.nil_append] at g
  simp -implicitDefEqProofs (maxSteps := 1000000) [Tryz.f15, Code.hide, Code.key, g, encAll, recsA]
  done
end Go.Ai.T

namespace Go.Ai.T
open Go Go.Proofs
set_option maxRecDepth 100000
set_option maxHeartbeats 4000000
theorem as_prim (p : Id) (args : List A) (h : Heap) : callW E p 131 args h = errorsAs 47 74 178 [(177, 74)] p args h := callW_prim rfl
theorem place_ok (e : Err) (p : Id) (h : Heap) : callW E p 100 [encE e] h = some (.tuple [.int .i64 (e.place.getD 0), .bool e.place.isSome], dropFrom p 0 h) := by
 have g := chain_place (tc := 47) (tw := 74) (tf := 178) (by decide) (by decide) (by decide) e _ (Nat.le_succ _)
 have ge : ∀ e, encErr 47 74 178 e = encE e := fun _ => rfl
 simp only [ge, Nat.succ_eq_add_one] at g
 rw [eq_100, place_first]
 cases hf : e.first with
 | none =>
  rw [hf] at g
  simp only [Option.map_none] at g
  simp -implicitDefEqProofs (maxSteps := 1000000) [Tryz.f100, Code.key, as_prim, errorsAs, g]
 | some r =>
  obtain ⟨n, x⟩ := r
  rw [hf] at g
  simp only [Option.map_some] at g
  simp -implicitDefEqProofs (maxSteps := 1000000) [Tryz.f100, Code.key, as_prim, errorsAs, g]
end Go.Ai.T

namespace Go.Ai.T
open Go Go.Proofs
set_option maxRecDepth 100000
set_option maxHeartbeats 4000000
theorem follows_ok (c : Nat) (p : Id) (h : Heap) : callW E p 161 [.int .u8 c] h = some (.bool (uFol c), dropFrom p 0 h) := by
 rw [eq_161]
 by_cases h1 : (128 : Int) ≤ c
 ·by_cases h2 : (c : Int) ≤ 191
  ·simp -implicitDefEqProofs (maxSteps := 1000000) [Tryz.f161, Code.key, h1, h2]
   simp [uFol]; omega
  ·simp -implicitDefEqProofs (maxSteps := 1000000) [Tryz.f161, Code.key, h1, h2]
   simp [uFol]; omega
 ·simp -implicitDefEqProofs (maxSteps := 1000000) [Tryz.f161, Code.key, h1]
  simp [uFol]; omega
theorem size_ok (c : Nat) (p : Id) (h : Heap) : callW E p 159 [.int .u8 c] h = some (.int .i64 (uSize c), dropFrom p 0 h) := by
 rw [eq_159]
 have w2 : IntKind.i64.wrap 2 = 2 := rfl
 have w3 : IntKind.i64.wrap 3 = 3 := rfl
 have w4 : IntKind.i64.wrap 4 = 4 := rfl
 have w1 : IntKind.i64.wrap 1 = 1 := rfl
 by_cases h1 : (244 : Int) < c
 ·have e : uSize c = 0 := by unfold uSize; (repeat' split) <;> omega
  rw [e]
  simp -implicitDefEqProofs (maxSteps := 1000000) [Tryz.f159, Code.key, h1]
 have k2 : ¬ (c : Int) < 194 ∨ (c : Int) < 194 := by omega
 by_cases h2 : (240 : Int) ≤ c
 ·have e : uSize c = 4 := by unfold uSize; (repeat' split) <;> omega
  rw [e]
  have a1 : (128 : Int) ≤ c := by omega
  have a2 : ¬ (c : Int) < 194 := by omega
  simp -implicitDefEqProofs (maxSteps := 1000000) [Tryz.f159, Code.key, h1, h2, a1, a2, w1, w2, w3, w4]
 by_cases h3 : (224 : Int) ≤ c
 ·have e : uSize c = 3 := by unfold uSize; (repeat' split) <;> omega
  rw [e]
  have a1 : (128 : Int) ≤ c := by omega
  have a2 : ¬ (c : Int) < 194 := by omega
  simp -implicitDefEqProofs (maxSteps := 1000000) [Tryz.f159, Code.key, h1, h2, h3, a1, a2, w1, w2, w3, w4]
 by_cases h4 : (194 : Int) ≤ c
 ·have e : uSize c = 2 := by unfold uSize; (repeat' split) <;> omega
  rw [e]
  have a1 : (128 : Int) ≤ c := by omega
  have a2 : ¬ (c : Int) < 194 := by omega
  simp -implicitDefEqProofs (maxSteps := 1000000) [Tryz.f159, Code.key, h1, h2, h3, h4, a1, a2, w1, w2, w3, w4]
 by_cases h5 : (128 : Int) ≤ c
 ·have e : uSize c = 0 := by unfold uSize; (repeat' split) <;> omega
  rw [e]
  have a2 : (c : Int) < 194 := by omega
  simp -implicitDefEqProofs (maxSteps := 1000000) [Tryz.f159, Code.key, h1, h2, h3, h4, h5, a2, w1, w2, w3, w4]
 ·have e : uSize c = 1 := by unfold uSize; (repeat' split) <;> omega
  rw [e]
  simp -implicitDefEqProofs (maxSteps := 1000000) [Tryz.f159, Code.key, h1, h2, h3, h4, h5, w1, w2, w3, w4]
theorem second_ok (f c : Nat) (p : Id) (h : Heap) : callW E p 160 [.int .u8 f, .int .u8 c] h = some (.bool (uSec f c), dropFrom p 0 h) := by
 rw [eq_160]
 have g := follows_ok c
 by_cases h1 : f = 224
 ·subst h1
  by_cases a : (160 : Int) ≤ c
  ·simp -implicitDefEqProofs (maxSteps := 1000000) [Tryz.f160, Code.key, a, g]
   unfold uFol uSec; exact decide_eq_decide.2 (by simp [uLo, uHi]; omega)
  ·simp -implicitDefEqProofs (maxSteps := 1000000) [Tryz.f160, Code.key, a, g]
   simp [uSec, uFol, uLo, uHi]; omega
 by_cases h2 : f = 237
 ·subst h2
  by_cases a : (c : Int) ≤ 159
  ·simp -implicitDefEqProofs (maxSteps := 1000000) [Tryz.f160, Code.key, a, g]
   unfold uFol uSec; exact decide_eq_decide.2 (by simp [uLo, uHi]; omega)
  ·simp -implicitDefEqProofs (maxSteps := 1000000) [Tryz.f160, Code.key, a, g]
   simp [uSec, uFol, uLo, uHi]; omega
 by_cases h3 : f = 240
 ·subst h3
  by_cases a : (144 : Int) ≤ c
  ·simp -implicitDefEqProofs (maxSteps := 1000000) [Tryz.f160, Code.key, a, g]
   unfold uFol uSec; exact decide_eq_decide.2 (by simp [uLo, uHi]; omega)
  ·simp -implicitDefEqProofs (maxSteps := 1000000) [Tryz.f160, Code.key, a, g]
   simp [uSec, uFol, uLo, uHi]; omega
 by_cases h4 : f = 244
 ·subst h4
  by_cases a : (c : Int) ≤ 143
  ·simp -implicitDefEqProofs (maxSteps := 1000000) [Tryz.f160, Code.key, a, g]
   unfold uFol uSec; exact decide_eq_decide.2 (by simp [uLo, uHi]; omega)
  ·simp -implicitDefEqProofs (maxSteps := 1000000) [Tryz.f160, Code.key, a, g]
   simp [uSec, uFol, uLo, uHi]; omega
 ·have b1 : ¬ (f : Int) = 224 := by omega
  have b2 : ¬ (f : Int) = 237 := by omega
  have b3 : ¬ (f : Int) = 240 := by omega
  have b4 : ¬ (f : Int) = 244 := by omega
  simp -implicitDefEqProofs (maxSteps := 1000000) [Tryz.f160, Code.key, b1, b2, b3, b4, h1, h2, h3, h4, g]
  simp [uSec, uFol, uLo, uHi, h1, h2, h3, h4]
theorem usign_loop {s : List UInt8} (hs : s.length ≤ maxStr) {n : Nat} (hn : n ≤ s.length) : ∀ (rest : List UInt8) (i : Nat), (s.take n).drop i = rest → ∃ k i' : Nat, ∀ (p : Id) (c0 c : Nat) (h : Heap), c0 ≤ c →
  iterW E 153 p [0, 2, 3, 4] L_153_5 c0 ((((bot.set 4 (.int .i64 i)).set 3 (.int .i64 n)).set 2 (.int .i64 0)).set 0 (.str s)) c h =
   some (if rest.all uF = true then .exit 0 else .ret, (((bot.set 4 (.int .i64 i')).set 3 (.int .i64 n)).set 2 (.int .i64 0)).set 0 (.str s), c + k, dropFrom p c0 h) := by
 intro rest
 induction rest with
 | nil =>
  intro i hj
  refine ⟨0, i, fun p c0 c h hc => ?_⟩
  have h1 : ¬ (i : Int) < n := by have := drop_end hj; simp at this; omega
  rw [rd_153_5]
  generalize hr : execW E 153 p _ _ _ _ = e
  simp -implicitDefEqProofs (maxSteps := 1000000) [Tryz.f153, Code.loopAt, Code.key, h1] at hr
  subst hr
  simp
 | cons b bs ih =>
  intro i hj
  obtain ⟨hlt, hb, hbs⟩ := drop_facts hj
  simp only [List.length_take] at hlt
  have h1 : (i : Int) < n := by omega
  have h2 : i < s.length := by omega
  have hb' : s[i]? = some b := by rw [← hb, List.getElem?_take]; simp; omega
  have hget : ∀ hl, s[i]'hl = b := fun hl => by rw [List.getElem?_eq_getElem hl] at hb'; exact Option.some.inj hb'
  have hw := wrap_succ h2 hs
  have g := follows_ok b.toNat
  by_cases hf : uFol b.toNat = true
  ·obtain ⟨k, i', gl⟩ := ih (i + 1) hbs
   refine ⟨1 + k, i', fun p c0 c h hc => ?_⟩
   rw [rd_153_5]
   generalize hr : execW E 153 p _ _ _ _ = e
   simp -implicitDefEqProofs (maxSteps := 1000000) [Tryz.f153, Code.loopAt, Code.key, h1, hb', hget, h2, g, hf, hw] at hr
   subst hr
   have e := gl p c0 (c + 1) (dropFrom p c0 h) (by omega)
   have hu : uF b = true := hf
   simpa [-List.all_eq_true, drop_drop_cons hc, hu, Nat.add_assoc] using e
  ·refine ⟨1, i, fun p c0 c h hc => ?_⟩
   rw [rd_153_5]
   generalize hr : execW E 153 p _ _ _ _ = e
   simp -implicitDefEqProofs (maxSteps := 1000000) [Tryz.f153, Code.loopAt, Code.key, h1, hb', hget, h2, g, hf, hw] at hr
   subst hr
   have hu : uF b = false := by simpa [uF] using hf
   simp [-List.all_eq_true, hu, hc, drop_drop_cons hc]
theorem usign_ok {s : List UInt8} (hs : s.length ≤ maxStr) (hne : s ≠ []) (p : Id) (h : Heap) : callW E p 153 [.str s] h = some (.int .i64 (uSign s), dropFrom p 0 h) := by
 cases s with
 | nil => exact absurd rfl hne
 | cons c cs =>
  have g := size_ok c.toNat
  rw [eq_153]
  by_cases h1 : cs.length + 1 < uSize c.toNat
  ·have h1' : (cs.length : Int) + 1 < uSize c.toNat := by omega
   have hu : uSign (c :: cs) = 0 := by rw [uSign_eq, if_pos h1]
   rw [hu]
   simp -implicitDefEqProofs (maxSteps := 1000000) [Tryz.f153, Code.hide, Code.key, g, h1, h1']
  ·have h1' : ¬ (cs.length : Int) + 1 < uSize c.toNat := by omega
   obtain ⟨k, i', gl⟩ := usign_loop hs (n := uSize c.toNat) (by simp; omega) _ 2 rfl
   have hw2 : ((2 : Nat) : Int) = 2 := rfl
   simp only [hw2] at gl
   by_cases h2 : 1 < uSize c.toNat
   ·have h2' : (1 : Int) < uSize c.toNat := by omega
    cases cs with
    | nil => simp at h1; omega
    | cons c1 cs =>
     have g2 := second_ok c.toNat c1.toNat
     have h1c : ¬ (cs.length + 1 + 1 < uSize c.toNat) := h1
     have h1d : ¬ ((cs.length : Int) + 1 + 1 < uSize c.toNat) := by omega
     by_cases h3 : uSec c.toNat c1.toNat = true
     ·by_cases h4 : (List.drop 2 (List.take (uSize c.toNat) (c :: c1 :: cs))).all uF = true
      ·have hu : uSign (c :: c1 :: cs) = uSize c.toNat := by
        rw [uSign_eq, if_neg h1, if_neg (by simp [h3]), if_pos h4]
       rw [hu]
       simp only [h4, if_true] at gl
       simp -implicitDefEqProofs (maxSteps := 1000000) [-List.all_eq_true, Tryz.f153, Code.hide, Code.key, g, h1, h1', h2, h2', h1c, h1d, h3, g2, gl]
      ·have hu : uSign (c :: c1 :: cs) = 0 := by
        rw [uSign_eq, if_neg h1, if_neg (by simp [h3]), if_neg h4]
       rw [hu]
       simp only [if_neg h4] at gl
       simp -implicitDefEqProofs (maxSteps := 1000000) [-List.all_eq_true, Tryz.f153, Code.hide, Code.key, g, h1, h1', h2, h2', h1c, h1d, h3, g2, gl]
     ·have hu : uSign (c :: c1 :: cs) = 0 := by
       rw [uSign_eq, if_neg h1, if_pos ⟨h2, by simpa using h3⟩]
      rw [hu]
      simp -implicitDefEqProofs (maxSteps := 1000000) [-List.all_eq_true, Tryz.f153, Code.hide, Code.key, g, h1, h1', h2, h2', h1c, h1d, h3, g2]
   ·have h2' : ¬ (1 : Int) < uSize c.toNat := by omega
    have h4 : (List.drop 2 (List.take (uSize c.toNat) (c :: cs))).all uF = true := by
     rw [List.drop_eq_nil_of_le (by simp; omega)]; rfl
    have hu : uSign (c :: cs) = uSize c.toNat := by
     rw [uSign_eq, if_neg h1, if_neg (fun x => h2 x.1), if_pos h4]
    rw [hu]
    simp only [h4, if_true] at gl
    simp -implicitDefEqProofs (maxSteps := 1000000) [-List.all_eq_true, Tryz.f153, Code.hide, Code.key, g, h1, h1', h2, h2', gl]
theorem uwhole_loop {s : List UInt8} (hs : s.length ≤ maxStr) : ∀ q, q ≤ s.length → ∃ k, ∀ (p : Id) (c0 c : Nat) (h : Heap), c0 ≤ c →
  iterW E 135 p [0, 1, 5] L_135_2 c0 (((bot.set 5 (.int .i64 q)).set 1 (.int .i64 s.length)).set 0 (.str s)) c h =
   some (.exit 0, ((bot.set 5 (.int .i64 (uWhole s q))).set 1 (.int .i64 s.length)).set 0 (.str s), c + k, dropFrom p c0 h) := by
 refine rec_ind fun q hq ih => ?_
 have hs' := hs; unfold maxStr at hs'
 by_cases hlt : q < s.length
 ·have hlt' : (q : Int) < s.length := by omega
  have hne : s.drop q ≠ [] := by intro e; have := congrArg List.length e; simp at this; omega
  have hl : (s.drop q).length ≤ maxStr := by simp; omega
  have g := usign_ok hl hne
  have hle := uSign_le (s.drop q)
  simp only [List.length_drop] at hle
  have hw1 : IntKind.i64.wrap ((s.length : Int) - q) = ((s.length - q : Nat) : Int) := by rw [wrap_i64 (by omega) (by omega)]; omega
  have hw2 : IntKind.i64.wrap ((q : Int) + uSign (s.drop q)) = ((q + uSign (s.drop q) : Nat) : Int) := by rw [wrap_i64 (by omega) (by omega)]; rfl
  have hgt : ¬ ((s.length - q : Nat) : Int) < uSign (s.drop q) := by omega
  have hgt2 : ¬ (s.length - q < uSign (s.drop q)) := by omega
  by_cases h0 : uSign (s.drop q) = 0
  ·have e0 : uWhole s q = q := by rw [uWhole, dif_neg (fun x => x.2 h0)]
   refine ⟨1, fun p c0 c h hc => ?_⟩
   rw [e0, rd_135_2]
   rw [h0] at g
   generalize hr : execW E 135 p _ _ _ _ = e
   simp -implicitDefEqProofs (maxSteps := 1000000) [Tryz.f135, Code.loopAt, Code.key, hlt, hlt', hq, g] at hr
   subst hr
   simp [drop_drop_cons hc]
  ·have e0 : uWhole s q = uWhole s (q + uSign (s.drop q)) := by rw [uWhole, dif_pos ⟨hlt, h0⟩]
   have h0' : ¬ (uSign (s.drop q) : Int) = 0 := by omega
   obtain ⟨k, gl⟩ := ih (q + uSign (s.drop q)) (by omega) (by omega)
   refine ⟨1 + k, fun p c0 c h hc => ?_⟩
   rw [e0, rd_135_2]
   generalize hr : execW E 135 p _ _ _ _ = e
   simp -implicitDefEqProofs (maxSteps := 1000000) [Tryz.f135, Code.loopAt, Code.key, hlt, hlt', hq, g, h0, h0', hw1, hw2, hgt, hgt2] at hr
   subst hr
   have e := gl p c0 (c + 1) (dropFrom p c0 h) (by omega)
   simpa [drop_drop_cons hc, Nat.add_assoc] using e
 ·have hlt' : ¬ (q : Int) < s.length := by omega
  have e0 : uWhole s q = q := by rw [uWhole, dif_neg (fun x => hlt x.1)]
  refine ⟨0, fun p c0 c h hc => ?_⟩
  rw [e0, rd_135_2]
  generalize hr : execW E 135 p _ _ _ _ = e
  simp -implicitDefEqProofs (maxSteps := 1000000) [Tryz.f135, Code.loopAt, Code.key, hlt, hlt', hq] at hr
  subst hr
  simp
theorem uwhole_ok {s : List UInt8} (hs : s.length ≤ maxStr) (p : Id) (h : Heap) : callW E p 135 [.str s, .int .i64 s.length] h = some (.int .i64 (uWhole s 0), dropFrom p 0 h) := by
 obtain ⟨k, gl⟩ := uwhole_loop hs 0 (Nat.zero_le _)
 simp only [nat0] at gl
 rw [eq_135]
 simp -implicitDefEqProofs (maxSteps := 1000000) [Tryz.f135, Code.hide, Code.key, gl]
def badI : Option Nat → Int
 | none => -1
 | some n => n
theorem ubad_ok {s : List UInt8} (hs : s.length ≤ maxStr) (p : Id) (h : Heap) : callW E p 112 [.str s] h = some (.int .i64 (badI (uBad s)), dropFrom p 0 h) := by
 have g := uwhole_ok hs
 rw [eq_112]
 unfold uBad
 by_cases h1 : uWhole s 0 = s.length
 ·rw [if_pos h1]
  rw [h1] at g
  simp -implicitDefEqProofs (maxSteps := 1000000) [Tryz.f112, Code.key, g, badI]
 ·rw [if_neg h1]
  have h2 : ¬ (uWhole s 0 : Int) = s.length := by omega
  simp -implicitDefEqProofs (maxSteps := 1000000) [Tryz.f112, Code.key, g, badI, h1, h2]
theorem uvalid_ok {s : List UInt8} (hs : s.length ≤ maxStr) (p : Id) (h : Heap) : callW E p 69 [.str s] h = some (.bool (uBad s).isNone, dropFrom p 0 h) := by
 have g := ubad_ok hs
 rw [eq_69]
 cases hb : uBad s with
 | none =>
  rw [hb] at g
  simp only [badI] at g
  simp -implicitDefEqProofs (maxSteps := 1000000) [Tryz.f69, Code.key, g]
 | some n =>
  rw [hb] at g
  have : ¬ (n : Int) < 0 := by omega
  simp only [badI] at g
  simp -implicitDefEqProofs (maxSteps := 1000000) [Tryz.f69, Code.key, g, this]
theorem ucheck_ok {s : List UInt8} (hs : s.length ≤ maxStr) (p : Id) (h : Heap) : callW E p 102 [.str s] h = some (encO (uErr s), dropFrom p 0 h) := by
 have g := ubad_ok hs
 rw [eq_102]
 unfold uErr
 cases hb : uBad s with
 | none =>
  rw [hb] at g
  simp only [badI] at g
  simp -implicitDefEqProofs (maxSteps := 1000000) [Tryz.f102, Code.key, g]
 | some n =>
  rw [hb] at g
  have h1 : (0 : Int) ≤ n := by omega
  have g2 := fun p h => at_ok n (.code 5) p h
  simp only [badI, encE_code] at g g2
  simp -implicitDefEqProofs (maxSteps := 1000000) [Tryz.f102, Code.key, g, h1, g2]
end Go.Ai.T

namespace Go.Ai.T
open Go Go.Proofs
set_option maxRecDepth 100000
set_option maxHeartbeats 4000000
theorem mfails_ok {e0 e1 : Option Err} {u dd l : A} {en : Nat} {num : Int} {p id : Id} (a : Apart p id) {h : Heap} (hh : h id = some [encO e0, u, dd, .int .i64 en, l]) :
  callW E p 59 [.ptr id 0, .int .i64 num, encO e1] h = some (.tuple [], upd (dropFrom p 0 h) id [encO (failO en num e0 e1), u, dd, .int .i64 en, l]) := by
 obtain ⟨f1, f2, f3, f4, f5, f6⟩ := a.facts
 rw [eq_59]
 cases e0 with
 | some x =>
  simp only [encO_some, failO] at hh ⊢
  simp -implicitDefEqProofs (maxSteps := 1000000) [Tryz.f59, Code.key, hh, f1, f2, f3, f4, f5, f6]
  exact (upd_id (by rw [f2, hh])).symm
 | none => cases e1 with
  | none =>
   simp only [encO_none, failO] at hh ⊢
   simp -implicitDefEqProofs (maxSteps := 1000000) [Tryz.f59, Code.key, hh, f1, f2, f3, f4, f5, f6]
   exact (upd_id (by rw [f2, hh])).symm
  | some e =>
   have g := place_ok e
   have g2 := at_ok
   have g3 := in_ok
   simp only [encO_none, encO_some, failO, failE] at hh ⊢
   simp -implicitDefEqProofs (maxSteps := 1000000) [Tryz.f59, Code.key, hh, f1, f2, f3, f4, f5, f6, g, g2, g3]
   have e2 : (if (en : Int) < (if e.place.getD 0 < 0 then 0 else e.place.getD 0) then (en : Int) else if e.place.getD 0 < 0 then 0 else e.place.getD 0) = min (max (e.place.getD 0) 0) en := by (repeat' split) <;> omega
   rw [e2]
end Go.Ai.T

namespace Go.Ai.T
open Go Go.Proofs
set_option maxRecDepth 100000
set_option maxHeartbeats 4000000
def bld (id : Id) : Option (List UInt8) → List A
 | none => [.nilp, .nils]
 | some bs => [.ptr id 0, .slice (bytesA bs) (some (5, 1))]
def bld1 (id : Id) : Option (List UInt8) → List A
 | none => [.ptr id 0, .nils]
 | some bs => [.ptr id 0, .slice (bytesA bs) (some (5, 1))]
theorem sbcheck_ok {id : Id} {T : Nat} (hT : T = 53 ∨ T = 129) {o : Option (List UInt8)} {p : Id} {h : Heap} (hh : h (T :: id) = some (bld (T :: id) o)) :
  callW E p 42 [.ptr (T :: id) 0] h = some (.tuple [], upd h (T :: id) (bld1 (T :: id) o)) := by
 have hc : [53, 129].contains T = true := by rcases hT with rfl | rfl <;> rfl
 rw [callW_prim (g := builderCheck [53, 129]) rfl]
 unfold builderCheck
 cases o with
 | none =>
  simp only [hh, bld, bld1]
  rcases hT with rfl | rfl <;> simp [ownPlace]
 | some bs =>
  simp only [hh, bld, bld1]
  rcases hT with rfl | rfl <;> simp [ownPlace]
theorem unbytes_ok (bs : List UInt8) : unbytes (bytesA bs) = some bs := by
 induction bs with
 | nil => rfl
 | cons b bs ih => simp [bytesA, unbytes] at *; simp [ih, UInt8.toNat_lt]; have := b.toNat_lt; omega
theorem sbstring_ok {id : Id} {o : Option (List UInt8)} (hb : (o.getD []).length ≤ maxStr) {p : Id} {h : Heap} (hh : h id = some (bld id o)) :
  callW E p 21 [.ptr id 0] h = some (.str (o.getD []), h) := by
 rw [callW_prim (g := builderString 5) rfl]
 unfold builderString
 cases o with
 | none => simp [hh, bld]
 | some bs =>
  simp only [hh, bld]
  simp only [Option.getD_some] at hb ⊢
  simp [unbytes_ok, hb]
theorem sbwrite_ok {id : Id} {T : Nat} (hT : T = 53 ∨ T = 129) {o : Option (List UInt8)} {s : List UInt8} (hb : (o.getD []).length + s.length ≤ 70368744177664) {p : Id} (a : Apart p (T :: id)) {h : Heap} (hh : h (T :: id) = some (bld (T :: id) o)) :
  callW E p 19 [.ptr (T :: id) 0, .str s] h = some (.tuple [.int .i64 s.length, .nili], upd (dropFrom p 0 h) (T :: id) (bld (T :: id) (some (o.getD [] ++ s)))) := by
 obtain ⟨f1, f2, f3, f4, f5, f6⟩ := a.facts
 have hl2 : (bytesA s).length = s.length := by simp [bytesA]
 have g := fun k h (hh : h (T :: id) = some (bld (T :: id) o)) => sbcheck_ok hT (p := k :: p) (h := h) hh
 cases o with
 | none =>
  simp only [Option.getD_none, List.length_nil, Nat.zero_add, List.nil_append] at hb ⊢
  have h1 : s.length ≤ 140737488355328 := by omega
  have h2 : s.length ≤ maxStr := by unfold maxStr; omega
  simp only [bld, bld1] at hh g ⊢
  rw [eq_19]
  simp -implicitDefEqProofs (maxSteps := 1000000) [Tryz.f19, Code.key, hh, f1, f2, f3, f4, f5, f6, g, hl2, h1, h2]
 | some bs =>
  simp only [Option.getD_some] at hb ⊢
  have hl : (bytesA bs).length = bs.length := by simp [bytesA]
  have h1 : bs.length + s.length ≤ 140737488355328 := by omega
  have h2 : bs.length + s.length ≤ maxStr := by unfold maxStr; omega
  simp only [bld, bld1] at hh g ⊢
  rw [eq_19]
  simp -implicitDefEqProofs (maxSteps := 1000000) [Tryz.f19, Code.key, hh, f1, f2, f3, f4, f5, f6, g, hl, hl2, h1, h2]
end Go.Ai.T

namespace Go.Ai.T
open Go Go.Proofs
set_option maxRecDepth 100000
set_option maxHeartbeats 4000000
def mrd (e : Option Err) (u : List UInt8) (d : Int) (en : Nat) (rs : List Rec) : List A := [encO e, .str u, .int .i64 d, .int .i64 en, growing (45, 5) (recsA rs)]
def mreadFr (f : Nat) (rid bid : Id) (rs : List Rec) (i : Nat) : Fr := (((((bot.set 39 (.int .i64 i)).set 38 (.int .i64 rs.length)).set 37 (.slice (recsA rs) none)).set 10 (.ptr bid 0)).set 7 (.ptr rid 0)).set 2 (.fn f [])
theorem mread_loop {f : Nat} {t : Nat → Nat → Bool} (ht : ∀ (p : Id) (h : Heap) (a b : Nat), callW E p f [.int .i64 a, .int .i64 b] h = some (.bool (t a b), dropFrom p 0 h)) {d : Int} {en : Nat} {rs : List Rec} (hn : rs.length ≤ 1099511627776) :
  ∀ (rest : List Rec) (i : Nat) (tk : List Rec) (o : Option (List UInt8)), rs.drop i = rest → tk.length ≤ i → i ≤ rs.length → (o.getD []).length + rawLen rest ≤ 1099511627776 → ∃ k, ∀ (p : Id) (tr kr kb c0 c : Nat) (h : Heap), kr < kb → kb < c0 → c0 ≤ c →
   h (tr :: kr :: p) = some (mrd none [] d en tk) → h (53 :: kb :: p) = some (bld (53 :: kb :: p) o) →
  iterW E 35 p [2, 7, 10, 37, 38, 39] L_35_11 c0 (mreadFr f (tr :: kr :: p) (53 :: kb :: p) rs i) c h =
   some (.exit 0, mreadFr f (tr :: kr :: p) (53 :: kb :: p) rs rs.length, c + k, upd (upd (dropFrom p c0 h) (tr :: kr :: p) (mrd none [] d en (tk ++ takenR t rest))) (53 :: kb :: p) (bld (53 :: kb :: p) (restO t o rest))) := by
 intro rest
 induction rest with
 | nil =>
  intro i tk o hj hi hi2 hb
  refine ⟨0, fun p tr kr kb c0 c h h1 h2 h3 hh hx => ?_⟩
  obtain ⟨o1, o2, o3, o4, o5, o6⟩ := own_facts (p := p) tr kr
  obtain ⟨q1, q2, q3, q4, q5, q6⟩ := own_facts (p := p) 53 kb
  have hge := drop_end hj
  have hlen : i = rs.length := by omega
  subst hlen
  have hlt' : ¬ ((rs.length : Nat) : Int) < rs.length := by omega
  have hcr : kr < c0 := by omega
  unfold mreadFr
  rw [rd_35_11]
  generalize hr : execW E 35 p _ _ _ _ = e
  simp -implicitDefEqProofs (maxSteps := 1000000) [Tryz.f35, Code.loopAt, Code.key, hlt'] at hr
  subst hr
  have e2 : takenR t [] = [] := rfl
  have e3 : restO t o [] = o := rfl
  rw [e2, e3, List.append_nil]
  have u1 : upd (dropFrom p c0 h) (tr :: kr :: p) (mrd none [] d en tk) = dropFrom p c0 h := upd_id (by rw [o2 _ _ hcr, hh])
  rw [u1, upd_id (h := dropFrom p c0 h) (by rw [q2 _ _ h2, hx])]
  simp
 | cons r rest ih =>
  intro i tk o hj hi hi2 hb
  obtain ⟨hlt, hbb, hbs⟩ := drop_facts hj
  rw [rawLen_cons] at hb
  have hlt' : (i : Int) < rs.length := by omega
  have hw : IntKind.i64.wrap ((i : Int) + 1) = ((i + 1 : Nat) : Int) := by rw [wrap_i64 (by omega) (by omega)]; rfl
  have hrl : (recsA rs).length = rs.length := by simp [recsA]
  have hget? : (recsA rs)[i]? = some (recCells r) := by simp [recsA, hbb]
  have hget : ∀ hl, (recsA rs)[i]'hl = recCells r := fun hl => by rw [List.getElem?_eq_getElem hl] at hget?; exact Option.some.inj hget?
  have hl1 : (recsA tk).length = tk.length := by simp [recsA]
  have hmax : (recsA tk).length + 1 ≤ maxStr := by unfold maxStr; omega
  have hmax2 : ((recsA tk).length + 1) * 56 ≤ 140737488355328 := by omega
  by_cases htr : t r.num r.kind = true
  ·obtain ⟨k, gl⟩ := ih (i + 1) (tk ++ [r]) o hbs (by simp; omega) (by omega) (by omega)
   refine ⟨2 + k, fun p tr kr kb c0 c h h1 h2 h3 hh hx => ?_⟩
   obtain ⟨o1, o2, o3, o4, o5, o6⟩ := own_facts (p := p) tr kr
   obtain ⟨q1, q2, q3, q4, q5, q6⟩ := own_facts (p := p) 53 kb
   have n0 : kr ≠ c := by omega
   have n1 : kr ≠ c + 1 := by omega
   have g := ht
   unfold mreadFr
   simp only [mrd, encO_none] at hh
   rw [rd_35_11]
   generalize hr : execW E 35 p _ _ _ _ = e
   simp -implicitDefEqProofs (maxSteps := 1000000) [-Int.natCast_add, Tryz.f35, Code.loopAt, Code.key, recCells, hh, o1, o2, o3, o4, o5, o6, n0, n1, g, htr, hlt, hlt', hrl, hget?, hget, hw, hmax, hmax2] at hr
   subst hr
   have e6 : A.slice (recsA tk ++ [[.int .i64 r.num, .int .i64 r.kind, .int .u64 r.n, .str r.s, .str r.raw]]) (some (45, 5)) = growing (45, 5) (recsA (tk ++ [r])) := by
    rw [slice_growing]; simp [recsA, recCells]
   simp [-Int.natCast_add, o1, o2]
   have hc1 : c0 ≤ c + 1 := by omega
   have hcr : kr < c0 := by omega
   have e := gl p tr kr kb c0 (c + 2) (upd (dropFrom p c0 h) (tr :: kr :: p) (mrd none [] d en (tk ++ [r]))) h1 h2 (by omega) (by simp) (by rw [o6 _ _ _ _ (by omega), q2 _ _ h2, hx])
   rw [o1 _ _ _ hcr, drop_drop_self, upd_upd] at e
   have e2 : takenR t (r :: rest) = r :: takenR t rest := by simp [takenR, htr]
   have e3 : restO t o (r :: rest) = restO t o rest := by rw [restO, if_pos htr]
   unfold mreadFr mrd at e
   rw [e6, o1 _ _ _ hcr, drop_drop_cons hc1, drop_upd h3, e2, e3]
   simp only [List.append_assoc, List.singleton_append, encO_none, Nat.add_assoc] at e ⊢
   simpa [-Int.natCast_add, mrd] using e
  ·obtain ⟨k, gl⟩ := ih (i + 1) tk (some (o.getD [] ++ r.raw)) hbs (by omega) (by omega) (by simp; omega)
   refine ⟨3 + k, fun p tr kr kb c0 c h h1 h2 h3 hh hx => ?_⟩
   obtain ⟨o1, o2, o3, o4, o5, o6⟩ := own_facts (p := p) tr kr
   obtain ⟨q1, q2, q3, q4, q5, q6⟩ := own_facts (p := p) 53 kb
   have n0 : kb ≠ c := by omega
   have n1 : kb ≠ c + 1 := by omega
   have n2 : kb ≠ c + 2 := by omega
   have htr' : t r.num r.kind = false := by simpa using htr
   have g := ht
   have g2 := fun k h (hne : kb ≠ k) hh => sbwrite_ok (id := kb :: p) (T := 53) (Or.inl rfl) (o := o) (s := r.raw) (by omega) (p := k :: p) (Apart.own hne) (h := h) hh
   unfold mreadFr
   rw [rd_35_11]
   generalize hr : execW E 35 p _ _ _ _ = e
   simp -implicitDefEqProofs (maxSteps := 1000000) [-Int.natCast_add, Tryz.f35, Code.loopAt, Code.key, recCells, hx, q1, q2, q3, q4, q5, q6, n0, n1, n2, g, g2, htr', hlt, hlt', hrl, hget?, hget, hw] at hr
   subst hr
   simp [-Int.natCast_add]
   have hc1 : c0 ≤ c + 1 := by omega
   have hc2 : c0 ≤ c + 1 + 1 := by omega
   have hcr : kr < c0 := by omega
   have hij : (53 :: kb :: p) ≠ (tr :: kr :: p) := by intro e; simp at e; omega
   have e := gl p tr kr kb c0 (c + 3) (upd (dropFrom p c0 h) (53 :: kb :: p) (bld (53 :: kb :: p) (some (o.getD [] ++ r.raw)))) h1 h2 (by omega) (by rw [q6 _ _ _ _ (by omega), o2 _ _ hcr, hh]) (by simp)
   rw [q1 _ _ _ h2, drop_drop_self, upd_comm hij, upd_upd] at e
   have e2 : takenR t (r :: rest) = takenR t rest := by simp [takenR, htr']
   have e3 : restO t o (r :: rest) = restO t (some (o.getD [] ++ r.raw)) rest := by rw [restO, if_neg htr]
   unfold mreadFr at e
   rw [q1 _ _ _ h2, drop_drop_cons hc2, drop_drop_cons hc1, drop_upd h3, e2, e3]
   simp only [Nat.add_assoc] at e ⊢
   simpa [-Int.natCast_add] using e
def mrdM (m : Msg) (d : Int) (en : Nat) : List A := mrd m.err m.unk d en m.recs
theorem mread_ok {s : List UInt8} (hb : s.length ≤ 1099511627776) {d : Int} (hd : d ≤ 9223372036854775807) {f : Nat} {t : Nat → Nat → Bool} (ht : ∀ (p : Id) (h : Heap) (a b : Nat), callW E p f [.int .i64 a, .int .i64 b] h = some (.bool (t a b), dropFrom p 0 h)) (p : Id) (h : Heap) :
  ∃ H, callW E p 35 [.str s, .int .i64 d, .fn f []] h = some (.ptr (82 :: 0 :: p) 0, H) ∧ H (82 :: 0 :: p) = some (mrdM (readE s d t) d s.length) ∧ dropFrom p 0 H = dropFrom p 0 h := by
 rw [eq_35]
 unfold readE
 by_cases h0 : d < 0
 ·have g := fun k h (hk : 0 ≠ k) (hh : h (82 :: 0 :: p) = some [encO none, .str [], .int .i64 d, .int .i64 s.length, .nils]) => mfails_ok (e0 := none) (e1 := some (.code 6)) (num := 0) (p := k :: p) (Apart.own hk) (h := h) hh
  have hm : failO s.length 0 none (some (.code 6)) = some (.at_ 0 (.fld 0 (.code 6))) := by
   simp only [failO, failE, Err.place, Option.getD_none]
   rw [show min (max (0 : Int) 0) s.length = 0 by omega]
  simp only [hm, encO_none, encO_some, encE_code] at g
  rw [if_pos h0]
  simp -implicitDefEqProofs (maxSteps := 1000000) [Tryz.f35, Code.hide, Code.key, h0, g]
  simp [mrdM, mrd, recsA]
 ·rw [if_neg h0]
  have g := all_ok hb hd
  cases hv : allE s d 0 with
  | error x =>
   rw [hv] at g
   simp only [encAll] at g
   simp -implicitDefEqProofs (maxSteps := 1000000) [Tryz.f35, Code.hide, Code.key, h0, g]
   simp [mrdM, mrd, recsA]
  | ok rs =>
   rw [hv] at g
   simp only [encAll] at g
   have hr := allE_raw 0 (Nat.zero_le _) rs hv
   obtain ⟨k, gl⟩ := mread_loop ht (d := d) (en := s.length) (rs := rs) (by omega) rs 0 [] none rfl (Nat.le_refl _) (Nat.zero_le _) (by simp; omega)
   have g2 := gl p 82 0
   have hbn : ∀ id, bld id none = [.nilp, .nils] := fun _ => rfl
   have hbo : (restO t none rs).getD [] = unkR t rs := restO_eq t rs none
   have hbl := unkR_len t rs
   have g3 := fun k h (hh : h (53 :: 2 :: p) = some (bld (53 :: 2 :: p) (restO t none rs))) => sbstring_ok (o := restO t none rs) (by rw [hbo]; unfold maxStr; omega) (p := k :: p) (h := h) hh
   rw [hbo] at g3
   simp only [mrd, mreadFr, encO_none, nat0, hbn, recsA, List.map_nil, growing_nil, List.nil_append] at g2
   simp -implicitDefEqProofs (maxSteps := 1000000) [Tryz.f35, Code.hide, Code.key, h0, g, recsA, g2, g3]
   simp [mrdM, mrd, recsA]
def checkFr (id : Id) (num : Nat) (rs : List Rec) (i : Nat) : Fr := ((((bot.set 11 (.int .i64 i)).set 10 (.int .i64 rs.length)).set 9 (.slice (recsA rs) none)).set 1 (.int .i64 num)).set 0 (.ptr id 0)
theorem check_loop {u dd l : A} {en num : Nat} {rs : List Rec} (hn : rs.length ≤ 1099511627776) (hsh : Short 1099511627776 rs) :
  ∀ (rest : List Rec) (i : Nat) (e0 : Option Err), rs.drop i = rest → i ≤ rs.length → ∃ k, ∀ (p id : Id) (a : Apart p id) (c0 c : Nat) (h : Heap), c0 ≤ c → h id = some [encO e0, u, dd, .int .i64 en, l] →
  iterW E 60 p [0, 1, 9, 10, 11] L_60_1 c0 (checkFr id num rs i) c h =
   some (.exit 0, checkFr id num rs rs.length, c + k, upd (dropFrom p c0 h) id [encO (checkO en num e0 rest), u, dd, .int .i64 en, l]) := by
 intro rest
 induction rest with
 | nil =>
  intro i e0 hj hi
  refine ⟨0, fun p id a c0 c h hc hh => ?_⟩
  obtain ⟨f1, f2, f3, f4, f5, f6⟩ := a.facts
  have hge := drop_end hj
  have hlen : i = rs.length := by omega
  subst hlen
  have hlt' : ¬ ((rs.length : Nat) : Int) < rs.length := by omega
  unfold checkFr
  rw [rd_60_1]
  generalize hr : execW E 60 p _ _ _ _ = e
  simp -implicitDefEqProofs (maxSteps := 1000000) [Tryz.f60, Code.loopAt, Code.key, hlt'] at hr
  subst hr
  have e2 : checkO en num e0 [] = e0 := rfl
  rw [e2, upd_id (h := dropFrom p c0 h) (by rw [f2, hh])]
  simp
 | cons r rest ih =>
  intro i e0 hj hi
  obtain ⟨hlt, hbb, hbs⟩ := drop_facts hj
  have hlt' : (i : Int) < rs.length := by omega
  have hw : IntKind.i64.wrap ((i : Int) + 1) = ((i + 1 : Nat) : Int) := by rw [wrap_i64 (by omega) (by omega)]; rfl
  have hrl : (recsA rs).length = rs.length := by simp [recsA]
  have hget? : (recsA rs)[i]? = some (recCells r) := by simp [recsA, hbb]
  have hget : ∀ hl, (recsA rs)[i]'hl = recCells r := fun hl => by rw [List.getElem?_eq_getElem hl] at hget?; exact Option.some.inj hget?
  have hs : r.s.length ≤ maxStr := by have := hsh r (List.mem_of_getElem? hbb); unfold maxStr; omega
  by_cases hnum : r.num = num
  ·obtain ⟨k, gl⟩ := ih (i + 1) (failO en num e0 (uErr r.s)) hbs (by omega)
   refine ⟨3 + k, fun p id a c0 c h hc hh => ?_⟩
   obtain ⟨f1, f2, f3, f4, f5, f6⟩ := a.facts
   have hnum' : (r.num : Int) = num := by omega
   have g := ucheck_ok hs
   have g2 := fun k h (hh : h id = some [encO e0, u, dd, .int .i64 en, l]) => mfails_ok (e0 := e0) (e1 := uErr r.s) (num := num) (p := k :: p) (a.sub k) (h := h) hh
   unfold checkFr
   rw [rd_60_1]
   generalize hr : execW E 60 p _ _ _ _ = e
   simp -implicitDefEqProofs (maxSteps := 1000000) [-Int.natCast_add, Tryz.f60, Code.loopAt, Code.key, recCells, hh, f1, f2, f3, f4, f5, f6, g, g2, hnum, hnum', hlt, hlt', hrl, hget?, hget, hw] at hr
   subst hr
   have e := gl p id a c0 (c + 3) (upd (dropFrom p c0 h) id [encO (failO en num e0 (uErr r.s)), u, dd, .int .i64 en, l]) (by omega) (by simp)
   have e2 : checkO en num e0 (r :: rest) = checkO en num (failO en num e0 (uErr r.s)) rest := by rw [checkO, if_pos hnum]
   have hc1 : c0 ≤ c + 1 := by omega
   have hc2 : c0 ≤ c + 1 + 1 := by omega
   unfold checkFr at e
   rw [f1, drop_drop_self, upd_upd] at e
   simp [-Int.natCast_add]
   rw [f1, drop_drop_cons hc2, drop_drop_cons hc1, drop_upd hc, e2]
   simp only [Nat.add_assoc] at e ⊢
   simpa [-Int.natCast_add] using e
  ·obtain ⟨k, gl⟩ := ih (i + 1) e0 hbs (by omega)
   refine ⟨1 + k, fun p id a c0 c h hc hh => ?_⟩
   obtain ⟨f1, f2, f3, f4, f5, f6⟩ := a.facts
   have hnum' : ¬ (r.num : Int) = num := by omega
   unfold checkFr
   rw [rd_60_1]
   generalize hr : execW E 60 p _ _ _ _ = e
   simp -implicitDefEqProofs (maxSteps := 1000000) [-Int.natCast_add, Tryz.f60, Code.loopAt, Code.key, recCells, hh, f1, f2, f3, f4, f5, f6, hnum, hnum', hlt, hlt', hrl, hget?, hget, hw] at hr
   subst hr
   have e := gl p id a c0 (c + 1) (dropFrom p c0 h) (by omega) (by rw [f2, hh])
   have e2 : checkO en num e0 (r :: rest) = checkO en num e0 rest := by rw [checkO, if_neg hnum]
   unfold checkFr at e
   rw [drop_drop_self] at e
   simp [-Int.natCast_add]
   rw [drop_upd hc, e2]
   simp only [Nat.add_assoc] at e ⊢
   simpa [-Int.natCast_add] using e
theorem check_ok {e0 : Option Err} {u : List UInt8} {d : Int} {en num : Nat} {rs : List Rec} (hn : rs.length ≤ 1099511627776) (hsh : Short 1099511627776 rs) {p id : Id} (a : Apart p id) {h : Heap} (hh : h id = some (mrd e0 u d en rs)) :
  callW E p 60 [.ptr id 0, .int .i64 num] h = some (.tuple [], upd (dropFrom p 0 h) id (mrd (checkO en num e0 rs) u d en rs)) := by
 obtain ⟨f1, f2, f3, f4, f5, f6⟩ := a.facts
 obtain ⟨k, gl⟩ := check_loop (u := .str u) (dd := .int .i64 d) (l := growing (45, 5) (recsA rs)) (en := en) (num := num) hn hsh rs 0 e0 rfl (Nat.zero_le _)
 have g := gl p id a
 have hrl : (recsA rs).length = rs.length := by simp [recsA]
 simp only [checkFr, nat0] at g
 simp only [mrd] at hh ⊢
 rw [eq_60]
 simp -implicitDefEqProofs (maxSteps := 1000000) [Tryz.f60, Code.hide, Code.key, hh, f1, f2, f3, f4, f5, f6, hrl, g]
def rec0 : Rec := ⟨0, 0, 0, [], []⟩
def lastJ (num : Nat) (rs : List Rec) (j : Nat) : Option Rec := (rs.take j).reverse.find? fun r => r.num == num
theorem lastJ_succ {num : Nat} {rs : List Rec} {j : Nat} {r : Rec} (h : rs[j]? = some r) : lastJ num rs (j + 1) = if r.num = num then some r else lastJ num rs j := by
 unfold lastJ
 rw [List.take_succ, h]
 simp only [Option.toList_some, List.reverse_append, List.reverse_cons, List.reverse_nil, List.nil_append, List.singleton_append, List.find?_cons]
 by_cases e : r.num = num
 ·simp [e]
 ·have e' : (r.num == num) = false := by simpa using e
  simp [e, e']
def lastFr (id rid : Id) (num : Nat) (i : Int) : Fr := (((bot.set 5 (.int .i64 i)).set 4 (.ptr rid 0)).set 1 (.int .i64 num)).set 0 (.ptr id 0)
theorem last_loop {e0 u dd en : A} {num : Nat} {rs : List Rec} (hn : rs.length ≤ 1099511627776) : ∀ j, j ≤ rs.length → ∃ i' : Int, ∀ (p id : Id) (a : Apart p id) (kr c0 c : Nat) (h : Heap) (x0 : List A), kr < c0 → c0 ≤ c → x0.length = 5 → h id = some [e0, u, dd, en, growing (45, 5) (recsA rs)] → h (45 :: kr :: p) = some x0 →
  iterW E 61 p [0, 1, 4, 5] L_61_2 c0 (lastFr id (45 :: kr :: p) num ((j : Int) - 1)) c h =
   some (match lastJ num rs j with | none => .exit 0 | some _ => .ret, lastFr id (45 :: kr :: p) num i', c, upd (dropFrom p c0 h) (45 :: kr :: p) (match lastJ num rs j with | none => x0 | some r => recCells r)) := by
 intro j
 induction j with
 | zero =>
  intro hj
  refine ⟨-1, fun p id a kr c0 c h x0 h1 h2 h5 hh hx => ?_⟩
  obtain ⟨f1, f2, f3, f4, f5, f6⟩ := a.facts
  obtain ⟨o1, o2, o3, o4, o5, o6⟩ := own_facts (p := p) 45 kr
  have e : lastJ num rs 0 = none := rfl
  rw [e]
  unfold lastFr
  rw [rd_61_2]
  generalize hr : execW E 61 p _ _ _ _ = e
  simp -implicitDefEqProofs (maxSteps := 1000000) [Tryz.f61, Code.loopAt, Code.key] at hr
  subst hr
  simp
  exact (upd_id (by rw [o2 _ _ h1, hx])).symm
 | succ j ih =>
  intro hj
  obtain ⟨i', gl⟩ := ih (by omega)
  obtain ⟨r, hbb⟩ : ∃ r, rs[j]? = some r := ⟨_, List.getElem?_eq_getElem (by omega)⟩
  have hlt : j < rs.length := by omega
  have hj0 : (0 : Int) ≤ j := by omega
  have hj1 : ((j + 1 : Nat) : Int) - 1 = j := by omega
  have hw : IntKind.i64.wrap ((j : Int) - 1) = (j : Int) - 1 := wrap_i64 (by omega) (by omega)
  have hrl : (recsA rs).length = rs.length := by simp [recsA]
  have hget? : (recsA rs)[j]? = some (recCells r) := by simp [recsA, hbb]
  have hget : ∀ hl, (recsA rs)[j]'hl = recCells r := fun hl => by rw [List.getElem?_eq_getElem hl] at hget?; exact Option.some.inj hget?
  have hJ := lastJ_succ (num := num) hbb
  by_cases hnum : r.num = num
  ·rw [if_pos hnum] at hJ
   refine ⟨j, fun p id a kr c0 c h x0 h1 h2 h5 hh hx => ?_⟩
   obtain ⟨f1, f2, f3, f4, f5, f6⟩ := a.facts
   obtain ⟨o1, o2, o3, o4, o5, o6⟩ := own_facts (p := p) 45 kr
   have hnum' : (r.num : Int) = num := by omega
   rw [hJ, hj1]
   unfold lastFr
   rw [rd_61_2]
   generalize hr : execW E 61 p _ _ _ _ = e
   simp -implicitDefEqProofs (maxSteps := 1000000) [Tryz.f61, Code.loopAt, Code.key, recCells, hh, hx, h5, hj0, hnum, hnum', hlt, hrl, hget?, hget, hw] at hr
   subst hr
   have hd5 : List.drop 5 x0 = [] := List.drop_eq_nil_of_le (by omega)
   simp [o1, h1, hnum, recCells, hd5]
  ·rw [if_neg hnum] at hJ
   refine ⟨i', fun p id a kr c0 c h x0 h1 h2 h5 hh hx => ?_⟩
   obtain ⟨f1, f2, f3, f4, f5, f6⟩ := a.facts
   obtain ⟨o1, o2, o3, o4, o5, o6⟩ := own_facts (p := p) 45 kr
   have hnum' : ¬ (r.num : Int) = num := by omega
   rw [hJ, hj1]
   have e := gl p id a kr c0 c (dropFrom p c0 h) x0 h1 h2 h5 (by rw [f2, hh]) (by rw [o2 _ _ h1, hx])
   rw [drop_drop_self] at e
   unfold lastFr at e ⊢
   rw [rd_61_2]
   generalize hr : execW E 61 p _ _ _ _ = e
   simp -implicitDefEqProofs (maxSteps := 1000000) [Tryz.f61, Code.loopAt, Code.key, recCells, hh, hj0, hnum, hnum', hlt, hrl, hget?, hget, hw] at hr
   subst hr
   simpa using e
theorem last_ok {e0 u dd en : A} {num : Nat} {rs : List Rec} (hn : rs.length ≤ 1099511627776) {p id : Id} (a : Apart p id) {h : Heap} (hh : h id = some [e0, u, dd, en, growing (45, 5) (recsA rs)]) :
  callW E p 61 [.ptr id 0, .int .i64 num] h = some (encRec (lastR num rs), dropFrom p 0 h) := by
 obtain ⟨f1, f2, f3, f4, f5, f6⟩ := a.facts
 obtain ⟨i', gl⟩ := last_loop (e0 := e0) (u := u) (dd := dd) (en := en) (num := num) hn rs.length (Nat.le_refl _)
 have g := fun h => gl p id a 0 1 1 h [.int .i64 0, .int .i64 0, .int .u64 0, .str [], .str []] (by omega) (Nat.le_refl _) rfl
 have hw : IntKind.i64.wrap ((rs.length : Int) - 1) = (rs.length : Int) - 1 := wrap_i64 (by omega) (by omega)
 have hrl : (recsA rs).length = rs.length := by simp [recsA]
 have hJ : lastR num rs = (lastJ num rs rs.length).getD ⟨0, 0, 0, [], []⟩ := by unfold lastR lastJ; rw [List.take_length]
 rw [hJ, eq_61]
 cases hl : lastJ num rs rs.length with
 | none =>
  rw [hl] at g
  simp only [lastFr] at g
  simp -implicitDefEqProofs (maxSteps := 1000000) [Tryz.f61, Code.hide, Code.key, hh, f1, f2, f3, f4, f5, f6, hw, hrl, g, encRec]
 | some r =>
  rw [hl] at g
  simp only [lastFr, recCells] at g
  simp -implicitDefEqProofs (maxSteps := 1000000) [Tryz.f61, Code.hide, Code.key, hh, f1, f2, f3, f4, f5, f6, hw, hrl, g, encRec]
theorem text_ok {e0 : Option Err} {u : List UInt8} {d : Int} {en num : Nat} {rs : List Rec} (hn : rs.length ≤ 1099511627776) (hsh : Short 1099511627776 rs) {p id : Id} (a : Apart p id) {h : Heap} (hh : h id = some (mrd e0 u d en rs)) :
  callW E p 37 [.ptr id 0, .int .i64 num] h = some (.str (lastR num rs).s, upd (dropFrom p 0 h) id (mrd (checkO en num e0 rs) u d en rs)) := by
 obtain ⟨f1, f2, f3, f4, f5, f6⟩ := a.facts
 have g := fun k h (hh : h id = some (mrd e0 u d en rs)) => check_ok (num := num) hn hsh (a.sub k) (h := h) hh
 have g2 := fun k h (hh : h id = some (mrd (checkO en num e0 rs) u d en rs)) => last_ok (num := num) hn (a.sub k) (h := h) hh
 simp only [encRec] at g2
 rw [eq_37]
 simp -implicitDefEqProofs (maxSteps := 1000000) [Tryz.f37, Code.hide, Code.key, hh, f1, f2, f3, f4, f5, f6, g, g2]
end Go.Ai.T

namespace Go.Ai.T
open Go Go.Proofs
set_option maxRecDepth 100000
set_option maxHeartbeats 4000000
def idxFr (ns : List Nat) (v : Nat) (r : Int) (i : Nat) : Fr := ((((bot.set 8 (.int .i64 i)).set 7 (.int .i64 ns.length)).set 4 (.int .i64 r)).set 1 (.int .i64 v)).set 0 (.slice (intsA ns) none)
theorem index_loop {ns : List Nat} (hn : ns.length ≤ 1099511627776) {v : Nat} : ∀ (rest : List Nat) (i : Nat), ns.drop i = rest → i ≤ ns.length → ∃ i' : Nat, ∀ (p : Id) (c0 c : Nat) (h : Heap),
  iterW E 132 p [0, 1, 4, 7, 8] L_132_2 c0 (idxFr ns v 0 i) c h =
   some (if rest.contains v = true then .ret else .exit 0, idxFr ns v (if rest.contains v = true then idxI v rest i else 0) i', c, dropFrom p c0 h) := by
 intro rest
 induction rest with
 | nil =>
  intro i hj hi
  refine ⟨i, fun p c0 c h => ?_⟩
  have hlt' : ¬ (i : Int) < ns.length := drop_end hj
  unfold idxFr
  rw [rd_132_2]
  generalize hr : execW E 132 p _ _ _ _ = e
  simp -implicitDefEqProofs (maxSteps := 1000000) [Tryz.f132, Code.loopAt, Code.key, hlt'] at hr
  subst hr
  simp
 | cons n rest ih =>
  intro i hj hi
  obtain ⟨hlt, hbb, hbs⟩ := drop_facts hj
  have hlt' : (i : Int) < ns.length := by omega
  have hw : IntKind.i64.wrap ((i : Int) + 1) = ((i + 1 : Nat) : Int) := by rw [wrap_i64 (by omega) (by omega)]; rfl
  have hrl : (intsA ns).length = ns.length := by simp [intsA]
  have hget? : (intsA ns)[i]? = some [.int .i64 n] := by simp [intsA, hbb]
  have hget : ∀ hl, (intsA ns)[i]'hl = [.int .i64 n] := fun hl => by rw [List.getElem?_eq_getElem hl] at hget?; exact Option.some.inj hget?
  by_cases hv : v = n
  ·refine ⟨i, fun p c0 c h => ?_⟩
   have hv' : (v : Int) = n := by omega
   have hc : (n :: rest).contains v = true := by subst hv; simp
   have e1 : idxI v (n :: rest) i = i := by rw [idxI, if_pos hv]
   rw [if_pos hc, if_pos hc, e1]
   unfold idxFr
   rw [rd_132_2]
   generalize hr : execW E 132 p _ _ _ _ = e
   simp -implicitDefEqProofs (maxSteps := 1000000) [Tryz.f132, Code.loopAt, Code.key, hlt, hlt', hrl, hget?, hget, hv] at hr
   subst hr
   simp [hv]
  ·obtain ⟨i', gl⟩ := ih (i + 1) hbs (by omega)
   refine ⟨i', fun p c0 c h => ?_⟩
   have hv' : ¬ (v : Int) = n := by omega
   have hc : (n :: rest).contains v = rest.contains v := by simp [hv]
   have e1 : idxI v (n :: rest) i = idxI v rest (i + 1) := by rw [idxI, if_neg hv]
   rw [hc, e1]
   have e := gl p c0 c (dropFrom p c0 h)
   unfold idxFr at e ⊢
   rw [rd_132_2]
   generalize hr : execW E 132 p _ _ _ _ = ee
   simp -implicitDefEqProofs (maxSteps := 1000000) [-Int.natCast_add, Tryz.f132, Code.loopAt, Code.key, hlt, hlt', hrl, hget?, hget, hv, hv', hw] at hr
   subst hr
   simpa [-Int.natCast_add, -List.contains_eq_mem] using e
theorem index_ok {ns : List Nat} (hn : ns.length ≤ 1099511627776) (v : Nat) (p : Id) (h : Heap) : callW E p 132 [.slice (intsA ns) none, .int .i64 v] h = some (.int .i64 (idxI v ns 0), dropFrom p 0 h) := by
 obtain ⟨i', gl⟩ := index_loop hn (v := v) ns 0 rfl (Nat.zero_le _)
 have hrl : (intsA ns).length = ns.length := by simp [intsA]
 have hx := idxI_nonneg v ns 0
 rw [eq_132]
 cases hc : ns.contains v with
 | true =>
  rw [hc] at gl
  simp only [idxFr, if_true, nat0] at gl
  simp -implicitDefEqProofs (maxSteps := 1000000) [Tryz.f132, Code.hide, Code.key, hrl, gl]
 | false =>
  rw [hc] at gl hx
  have : ∀ (l : List Nat) (i : Nat), l.contains v = false → idxI v l i = -1 := by
   intro l
   induction l with
   | nil => intro i _; rfl
   | cons a l ih => intro i h; simp at h; rw [idxI, if_neg h.1]; exact ih (i + 1) (by simpa using h.2)
  rw [this ns 0 hc]
  simp only [idxFr, nat0] at gl
  simp -implicitDefEqProofs (maxSteps := 1000000) [Tryz.f132, Code.hide, Code.key, hrl, gl]
theorem contains_ok {ns : List Nat} (hn : ns.length ≤ 1099511627776) (v : Nat) (p : Id) (h : Heap) : callW E p 103 [.slice (intsA ns) none, .int .i64 v] h = some (.bool (ns.contains v), dropFrom p 0 h) := by
 have g := index_ok hn v
 have hx := idxI_nonneg v ns 0
 rw [eq_103]
 by_cases h0 : 0 ≤ idxI v ns 0
 ·have hc : ns.contains v = true := by rw [← hx]; simpa using h0
  rw [hc]
  simp -implicitDefEqProofs (maxSteps := 1000000) [Tryz.f103, Code.key, g, h0]
 ·have hc : ns.contains v = false := by rw [← hx]; simpa using h0
  rw [hc]
  simp -implicitDefEqProofs (maxSteps := 1000000) [Tryz.f103, Code.key, g, h0]
def oneC (o : OneR) : List A := [.int .i64 o.num, .int .u64 o.n, .str o.s, growing (9, 1) (strsA o.all)]
def oneFr (nums : List Nat) (v4 : A) (oid : Id) (rs : List Rec) (i : Nat) : Fr := (((((bot.set 13 (.int .i64 i)).set 12 (.int .i64 rs.length)).set 11 (.slice (recsA rs) none)).set 5 (.ptr oid 0)).set 4 v4).set 1 (.slice (intsA nums) none)
theorem one_loop {nums : List Nat} (hnn : nums.length ≤ 1099511627776) {rs : List Rec} (hn : rs.length ≤ 1099511627776) :
  ∀ (rest : List Rec) (i : Nat) (o : OneR), rs.drop i = rest → i ≤ rs.length → o.all.length ≤ i → ∃ k, ∀ (p : Id) (v4 : A) (ko c0 c : Nat) (h : Heap), ko < c0 → c0 ≤ c → h (115 :: ko :: p) = some (oneC o) →
  iterW E 64 p [1, 4, 5, 11, 12, 13] L_64_3 c0 (oneFr nums v4 (115 :: ko :: p) rs i) c h =
   some (.exit 0, oneFr nums v4 (115 :: ko :: p) rs rs.length, c + k, upd (dropFrom p c0 h) (115 :: ko :: p) (oneC (rest.foldl (stepOne nums) o))) := by
 intro rest
 induction rest with
 | nil =>
  intro i o hj hi hio
  refine ⟨0, fun p v4 ko c0 c h h1 h2 hh => ?_⟩
  obtain ⟨o1, o2, o3, o4, o5, o6⟩ := own_facts (p := p) 115 ko
  have hge := drop_end hj
  have hlen : i = rs.length := by omega
  subst hlen
  have hlt' : ¬ ((rs.length : Nat) : Int) < rs.length := by omega
  unfold oneFr
  rw [rd_64_3]
  generalize hr : execW E 64 p _ _ _ _ = e
  simp -implicitDefEqProofs (maxSteps := 1000000) [Tryz.f64, Code.loopAt, Code.key, hlt'] at hr
  subst hr
  simp only [List.foldl_nil]
  rw [upd_id (h := dropFrom p c0 h) (by rw [o2 _ _ h1, hh])]
  simp
 | cons r rest ih =>
  intro i o hj hi hio
  obtain ⟨hlt, hbb, hbs⟩ := drop_facts hj
  have hlt' : (i : Int) < rs.length := by omega
  have hw : IntKind.i64.wrap ((i : Int) + 1) = ((i + 1 : Nat) : Int) := by rw [wrap_i64 (by omega) (by omega)]; rfl
  have hrl : (recsA rs).length = rs.length := by simp [recsA]
  have hget? : (recsA rs)[i]? = some (recCells r) := by simp [recsA, hbb]
  have hget : ∀ hl, (recsA rs)[i]'hl = recCells r := fun hl => by rw [List.getElem?_eq_getElem hl] at hget?; exact Option.some.inj hget?
  have g := contains_ok hnn r.num
  have hal : (strsA o.all).length = o.all.length := by simp [strsA]
  by_cases hc : nums.contains r.num = true
  ·have hm : r.num ∈ nums := by simpa using hc
   have hst : stepOne nums o r = ⟨r.num, r.n, r.s, (if r.num = o.num then o.all else []) ++ [r.s]⟩ := by unfold stepOne; rw [if_pos hc]
   obtain ⟨k, gl⟩ := ih (i + 1) (stepOne nums o r) hbs (by omega) (by rw [hst]; (repeat' split) <;> simp <;> omega)
   by_cases hnum : r.num = o.num
   ·rw [if_pos hnum] at hst
    refine ⟨2 + k, fun p v4 ko c0 c h h1 h2 hh => ?_⟩
    obtain ⟨o1, o2, o3, o4, o5, o6⟩ := own_facts (p := p) 115 ko
    have n0 : ko ≠ c := by omega
    have n1 : ko ≠ c + 1 := by omega
    have hnum' : (r.num : Int) = o.num := by omega
    have hmax : (strsA o.all).length + 1 ≤ maxStr := by unfold maxStr; omega
    have hmax2 : ((strsA o.all).length + 1) * 16 ≤ 140737488355328 := by omega
    simp only [oneC] at hh
    unfold oneFr
    rw [rd_64_3]
    generalize hr : execW E 64 p _ _ _ _ = e
    simp -implicitDefEqProofs (maxSteps := 1000000) [-Int.natCast_add, Tryz.f64, Code.loopAt, Code.key, recCells, hh, o1, o2, o3, o4, o5, o6, n0, n1, g, hc, hm, eq_true hnum, eq_true hnum', hlt, hlt', hrl, hget?, hget, hw, hmax, hmax2] at hr
    subst hr
    have hc1 : c0 ≤ c + 1 := by omega
    have e6 : A.slice (strsA o.all ++ [[.str r.s]]) (some (9, 1)) = growing (9, 1) (strsA (o.all ++ [r.s])) := by
     rw [slice_growing]; simp [strsA]
    have e := gl p v4 ko c0 (c + 2) (upd (dropFrom p c0 h) (115 :: ko :: p) (oneC (stepOne nums o r))) h1 (by omega) (by simp)
    rw [o1 _ _ _ h1, drop_drop_self, upd_upd] at e
    simp only [List.foldl_cons]
    rw [hst] at e ⊢
    unfold oneFr at e
    simp only [oneC, Nat.add_assoc] at e ⊢
    simp [-Int.natCast_add]
    rw [e6, o1 _ _ _ h1, drop_drop_cons hc1, drop_upd h2, ← hnum]
    simpa [-Int.natCast_add, Nat.add_assoc] using e
   ·rw [if_neg hnum] at hst
    refine ⟨2 + k, fun p v4 ko c0 c h h1 h2 hh => ?_⟩
    obtain ⟨o1, o2, o3, o4, o5, o6⟩ := own_facts (p := p) 115 ko
    have n0 : ko ≠ c := by omega
    have n1 : ko ≠ c + 1 := by omega
    have hnum' : ¬ (r.num : Int) = o.num := by omega
    have hmx : 1 ≤ maxStr := by unfold maxStr; omega
    simp only [oneC] at hh
    unfold oneFr
    rw [rd_64_3]
    generalize hr : execW E 64 p _ _ _ _ = e
    simp -implicitDefEqProofs (maxSteps := 1000000) [-Int.natCast_add, Tryz.f64, Code.loopAt, Code.key, recCells, hh, o1, o2, o3, o4, o5, o6, n0, n1, g, hc, hm, hnum, hnum', hlt, hlt', hrl, hget?, hget, hw, hmx] at hr
    subst hr
    have hc1 : c0 ≤ c + 1 := by omega
    have e6 : A.slice [[.str r.s]] (some (9, 1)) = growing (9, 1) (strsA ([] ++ [r.s])) := by
     rfl
    have e := gl p v4 ko c0 (c + 2) (upd (dropFrom p c0 h) (115 :: ko :: p) (oneC (stepOne nums o r))) h1 (by omega) (by simp)
    rw [o1 _ _ _ h1, drop_drop_self, upd_upd] at e
    simp only [List.foldl_cons]
    rw [hst] at e ⊢
    unfold oneFr at e
    simp only [oneC, Nat.add_assoc] at e ⊢
    simp [-Int.natCast_add]
    rw [e6, o1 _ _ _ h1, drop_drop_cons hc1, drop_upd h2]
    simpa [-Int.natCast_add, Nat.add_assoc] using e
  ·have hm : ¬ r.num ∈ nums := by simpa using hc
   have hst : stepOne nums o r = o := by unfold stepOne; rw [if_neg hc]
   have hc' : nums.contains r.num = false := by simpa using hc
   obtain ⟨k, gl⟩ := ih (i + 1) o hbs (by omega) (by omega)
   refine ⟨2 + k, fun p v4 ko c0 c h h1 h2 hh => ?_⟩
   obtain ⟨o1, o2, o3, o4, o5, o6⟩ := own_facts (p := p) 115 ko
   have hc1 : c0 ≤ c + 1 := by omega
   have e := gl p v4 ko c0 (c + 2) (dropFrom p c0 h) h1 (by omega) (by rw [o2 _ _ h1, hh])
   rw [drop_drop_self] at e
   unfold oneFr at e ⊢
   simp only [List.foldl_cons, hst]
   rw [rd_64_3]
   generalize hr : execW E 64 p _ _ _ _ = ee
   simp -implicitDefEqProofs (maxSteps := 1000000) [-Int.natCast_add, Tryz.f64, Code.loopAt, Code.key, recCells, g, hc', hm, hlt, hlt', hrl, hget?, hget, hw] at hr
   subst hr
   simp [-Int.natCast_add]
   rw [drop_drop_cons hc1, drop_upd h2]
   simpa [-Int.natCast_add, Nat.add_assoc] using e
theorem foldl_all_le {nums : List Nat} : ∀ (rs : List Rec) (o : OneR), (rs.foldl (stepOne nums) o).all.length ≤ o.all.length + rs.length
 | [], o => by simp
 | r :: rs, o => by
  have h1 := foldl_all_le (nums := nums) rs (stepOne nums o r)
  have h2 : (stepOne nums o r).all.length ≤ o.all.length + 1 := by unfold stepOne; (repeat' split) <;> simp
  simp only [List.foldl_cons, List.length_cons]; omega
def encOne (o : OneR) : A := .agg [.int .i64 o.num, .int .u64 o.n, .str o.s, .slice (strsA o.all) none]
theorem one_ok {nums : List Nat} (hnn : nums.length ≤ 1099511627776) {rs : List Rec} (hn : rs.length ≤ 1099511627776) {e0 u dd en : A} {p id : Id} (a : Apart p id) {h : Heap} (hh : h id = some [e0, u, dd, en, growing (45, 5) (recsA rs)]) :
  callW E p 64 [.ptr id 0, .slice (intsA nums) none] h = some (encOne (oneR nums rs), dropFrom p 0 h) := by
 obtain ⟨f1, f2, f3, f4, f5, f6⟩ := a.facts
 obtain ⟨k, gl⟩ := one_loop hnn hn rs 0 ⟨0, 0, [], []⟩ rfl (Nat.zero_le _) (Nat.le_refl _)
 have g := fun v4 h => gl p v4 1 2 2 h (by omega) (Nat.le_refl _)
 have hrl : (recsA rs).length = rs.length := by simp [recsA]
 have e1 : List.foldl (stepOne nums) ⟨0, 0, [], []⟩ rs = oneR nums rs := rfl
 rw [e1] at g
 simp only [oneC, strsA, List.map_nil, growing_nil, oneFr, nat0] at g
 rw [eq_64]
 simp -implicitDefEqProofs (maxSteps := 1000000) [Tryz.f64, Code.hide, Code.key, hh, f1, f2, f3, f4, f5, f6, hrl, g, encOne, strsA]
end Go.Ai.T

namespace Go.Ai.T
open Go Go.Proofs
set_option maxRecDepth 100000
set_option maxHeartbeats 4000000
theorem flatV (x : Val) : ∃ cs, encV x = cs ∧ ∃ k s b n l m i u, cs = [.int .i64 k, .str s, .bool b, .int .u64 n, .slice l none, .slice m none, .str i, .str u] := by
 cases x with
 | mk k s b n l m i u => exact ⟨_, rfl, k, s, b, n, encVs l, encKs m, i, u, by simp [encV]⟩
theorem flatK (x : KV) : ∃ cs, encK x = cs ∧ ∃ ky hs k s b n l m i u uu, cs = [.str ky, .bool hs, .int .i64 k, .str s, .bool b, .int .u64 n, .slice l none, .slice m none, .str i, .str u, .str uu] := by
 cases x with
 | mk ky hs v uu => cases v with
  | mk k s b n l m i u => exact ⟨_, rfl, ky, hs, k, s, b, n, encVs l, encKs m, i, u, uu, by simp [encK, encV]⟩
theorem partV_ok {f : Nat} {s : List UInt8} {d : Int} (hd0 : 0 ≤ d) (hd : d ≤ 9223372036854775807) {x : Val} {e1 : Option Err} (hread : ∀ (q : Id) (h : Heap), callW E q f [.str s, .int .i64 (d - 1)] h = some (.tuple [.agg (encV x), encO e1], dropFrom q 0 h))
  {e0 : Option Err} {u l : A} {en num : Nat} {p id : Id} (a : Apart p id) {h : Heap} (hh : h id = some [encO e0, u, .int .i64 d, .int .i64 en, l]) :
  callW E p 62 [.ptr id 0, .int .i64 num, .str s, .fn f []] h = some (.agg (encV x), upd (dropFrom p 0 h) id [encO (failO en num e0 e1), u, .int .i64 d, .int .i64 en, l]) := by
 obtain ⟨f1, f2, f3, f4, f5, f6⟩ := a.facts
 have hw : IntKind.i64.wrap (d - 1) = d - 1 := wrap_i64 (by omega) (by omega)
 have g := hread
 have g2 := fun k h (hh : h id = some [encO e0, u, .int .i64 d, .int .i64 en, l]) => mfails_ok (e0 := e0) (e1 := e1) (num := num) (p := k :: p) (a.sub k) (h := h) hh
 obtain ⟨cs, hcs, hst⟩ := flatV x
 rw [hcs] at g ⊢
 obtain ⟨k, s, b, n, l, m, i, u, rfl⟩ := hst
 rw [eq_62]
 simp -implicitDefEqProofs (maxSteps := 1000000) [Tryz.f62, Code.hide, Code.key, hh, f1, f2, f3, f4, f5, f6, hw, g, g2]
theorem partK_ok {f : Nat} {s : List UInt8} {d : Int} (hd0 : 0 ≤ d) (hd : d ≤ 9223372036854775807) {x : KV} {e1 : Option Err} (hread : ∀ (q : Id) (h : Heap), callW E q f [.str s, .int .i64 (d - 1)] h = some (.tuple [.agg (encK x), encO e1], dropFrom q 0 h))
  {e0 : Option Err} {u l : A} {en num : Nat} {p id : Id} (a : Apart p id) {h : Heap} (hh : h id = some [encO e0, u, .int .i64 d, .int .i64 en, l]) :
  callW E p 134 [.ptr id 0, .int .i64 num, .str s, .fn f []] h = some (.agg (encK x), upd (dropFrom p 0 h) id [encO (failO en num e0 e1), u, .int .i64 d, .int .i64 en, l]) := by
 obtain ⟨f1, f2, f3, f4, f5, f6⟩ := a.facts
 have hw : IntKind.i64.wrap (d - 1) = d - 1 := wrap_i64 (by omega) (by omega)
 have g := hread
 have g2 := fun k h (hh : h id = some [encO e0, u, .int .i64 d, .int .i64 en, l]) => mfails_ok (e0 := e0) (e1 := e1) (num := num) (p := k :: p) (a.sub k) (h := h) hh
 obtain ⟨cs, hcs, hst⟩ := flatK x
 rw [hcs] at g ⊢
 obtain ⟨ky, hs, k, s, b, n, l, m, i, u, uu, rfl⟩ := hst
 rw [eq_134]
 simp -implicitDefEqProofs (maxSteps := 1000000) [Tryz.f134, Code.hide, Code.key, hh, f1, f2, f3, f4, f5, f6, hw, g, g2]
end Go.Ai.T

namespace Go.Ai.T
open Go Go.Proofs
set_option maxRecDepth 100000
set_option maxHeartbeats 4000000
def listVFr (id : Id) (f num : Nat) (xs : List Val) (rs : List Rec) (i : Nat) : Fr := ((((((bot.set 15 (.int .i64 i)).set 14 (.int .i64 rs.length)).set 13 (.slice (recsA rs) none)).set 7 (growing (36, 8) (xs.map encV))).set 2 (.fn f [])).set 1 (.int .i64 num)).set 0 (.ptr id 0)
theorem listV_loop {f : Nat} {d : Int} {rs : List Rec} (hd0 : rs ≠ [] → 0 ≤ d) (hd : d ≤ 9223372036854775807) {rd : List UInt8 → Val × Option Err} {u l : A} {en num : Nat} (hn : rs.length ≤ 549755813888)
  (hread : ∀ r ∈ rs, ∀ (q : Id) (h : Heap), callW E q f [.str r.s, .int .i64 (d - 1)] h = some (.tuple [.agg (encV (rd r.s).1), encO (rd r.s).2], dropFrom q 0 h)) :
  ∀ (rest : List Rec) (i : Nat) (e0 : Option Err) (xs : List Val), rs.drop i = rest → i ≤ rs.length → xs.length ≤ i → ∃ k, ∀ (p id : Id) (a : Apart p id) (c0 c : Nat) (h : Heap), c0 ≤ c → h id = some [encO e0, u, .int .i64 d, .int .i64 en, l] →
  iterW E 108 p [0, 1, 2, 7, 13, 14, 15] L_108_3 c0 (listVFr id f num xs rs i) c h =
   some (.exit 0, listVFr id f num (xs ++ (listR rd en num e0 rest).1) rs rs.length, c + k, upd (dropFrom p c0 h) id [encO (listR rd en num e0 rest).2, u, .int .i64 d, .int .i64 en, l]) := by
 intro rest
 induction rest with
 | nil =>
  intro i e0 xs hj hi hx
  refine ⟨0, fun p id a c0 c h hc hh => ?_⟩
  obtain ⟨f1, f2, f3, f4, f5, f6⟩ := a.facts
  have hge := drop_end hj
  have hlen : i = rs.length := by omega
  subst hlen
  have hlt' : ¬ ((rs.length : Nat) : Int) < rs.length := by omega
  unfold listVFr
  rw [rd_108_3]
  generalize hr : execW E 108 p _ _ _ _ = e
  simp -implicitDefEqProofs (maxSteps := 1000000) [Tryz.f108, Code.loopAt, Code.key, hlt'] at hr
  subst hr
  simp only [listR, List.append_nil]
  rw [upd_id (h := dropFrom p c0 h) (by rw [f2, hh])]
  simp
 | cons r rest ih =>
  intro i e0 xs hj hi hx
  obtain ⟨hlt, hbb, hbs⟩ := drop_facts hj
  have hlt' : (i : Int) < rs.length := by omega
  have hw : IntKind.i64.wrap ((i : Int) + 1) = ((i + 1 : Nat) : Int) := by rw [wrap_i64 (by omega) (by omega)]; rfl
  have hrl : (recsA rs).length = rs.length := by simp [recsA]
  have hget? : (recsA rs)[i]? = some (recCells r) := by simp [recsA, hbb]
  have hget : ∀ hl, (recsA rs)[i]'hl = recCells r := fun hl => by rw [List.getElem?_eq_getElem hl] at hget?; exact Option.some.inj hget?
  have hl1 : (xs.map encV).length = xs.length := by simp
  have hmax : xs.length + 1 ≤ maxStr := by unfold maxStr; omega
  have hmax2 : (xs.length + 1) * 120 ≤ 140737488355328 := by omega
  by_cases hnum : r.num = num
  ·obtain ⟨k, gl⟩ := ih (i + 1) (failO en num e0 (rd r.s).2) (xs ++ [(rd r.s).1]) hbs (by omega) (by simp; omega)
   refine ⟨2 + k, fun p id a c0 c h hc hh => ?_⟩
   obtain ⟨f1, f2, f3, f4, f5, f6⟩ := a.facts
   have hnum' : (r.num : Int) = num := by omega
   have g := fun k h (hh : h id = some [encO e0, u, .int .i64 d, .int .i64 en, l]) => partV_ok (num := num) (hd0 (by intro e; rw [e] at hbb; simp at hbb)) hd (hread r (List.mem_of_getElem? hbb)) (a.sub k) (h := h) hh
   have e := gl p id a c0 (c + 2) (upd (dropFrom p c0 h) id [encO (failO en num e0 (rd r.s).2), u, .int .i64 d, .int .i64 en, l]) (by omega) (by simp)
   rw [f1, drop_drop_self, upd_upd] at e
   have hst : listR rd en num e0 (r :: rest) = ((rd r.s).1 :: (listR rd en num (failO en num e0 (rd r.s).2) rest).1, (listR rd en num (failO en num e0 (rd r.s).2) rest).2) := by rw [listR, if_pos hnum]
   rw [hst]
   unfold listVFr at e ⊢
   rw [rd_108_3]
   generalize hr : execW E 108 p _ _ _ _ = ee
   simp -implicitDefEqProofs (maxSteps := 1000000) [-Int.natCast_add, Tryz.f108, Code.loopAt, Code.key, recCells, hh, f1, f2, f3, f4, f5, f6, g, eq_true hnum, eq_true hnum', hlt, hlt', hrl, hget?, hget, hw, hmax, hmax2] at hr
   subst hr
   have e6 : A.slice (xs.map encV ++ [encV (rd r.s).1]) (some (36, 8)) = growing (36, 8) ((xs ++ [(rd r.s).1]).map encV) := by
    rw [slice_growing]; simp
   have hc1 : c0 ≤ c + 1 := by omega
   simp [-Int.natCast_add, -List.map_append]
   rw [e6, f1, drop_drop_cons hc1, drop_upd hc]
   simp only [List.append_assoc, List.singleton_append, Nat.add_assoc] at e ⊢
   simpa [-Int.natCast_add, -List.map_append] using e
  ·obtain ⟨k, gl⟩ := ih (i + 1) e0 xs hbs (by omega) (by omega)
   refine ⟨1 + k, fun p id a c0 c h hc hh => ?_⟩
   obtain ⟨f1, f2, f3, f4, f5, f6⟩ := a.facts
   have hnum' : ¬ (r.num : Int) = num := by omega
   have e := gl p id a c0 (c + 1) (dropFrom p c0 h) (by omega) (by rw [f2, hh])
   rw [drop_drop_self] at e
   have hst : listR rd en num e0 (r :: rest) = listR rd en num e0 rest := by rw [listR, if_neg hnum]
   rw [hst]
   unfold listVFr at e ⊢
   rw [rd_108_3]
   generalize hr : execW E 108 p _ _ _ _ = ee
   simp -implicitDefEqProofs (maxSteps := 1000000) [-Int.natCast_add, Tryz.f108, Code.loopAt, Code.key, recCells, hh, f1, f2, f3, f4, f5, f6, hnum, hnum', hlt, hlt', hrl, hget?, hget, hw] at hr
   subst hr
   simp [-Int.natCast_add, -List.map_append]
   rw [drop_upd hc]
   simpa [-Int.natCast_add, -List.map_append, Nat.add_assoc] using e
theorem listV_ok {f : Nat} {d : Int} {rs : List Rec} (hd0 : rs ≠ [] → 0 ≤ d) (hd : d ≤ 9223372036854775807) {rd : List UInt8 → Val × Option Err} {u : A} {en num : Nat} (hn : rs.length ≤ 549755813888)
  (hread : ∀ r ∈ rs, ∀ (q : Id) (h : Heap), callW E q f [.str r.s, .int .i64 (d - 1)] h = some (.tuple [.agg (encV (rd r.s).1), encO (rd r.s).2], dropFrom q 0 h))
  {e0 : Option Err} {p id : Id} (a : Apart p id) {h : Heap} (hh : h id = some [encO e0, u, .int .i64 d, .int .i64 en, growing (45, 5) (recsA rs)]) :
  callW E p 108 [.ptr id 0, .int .i64 num, .fn f []] h = some (.slice ((listR rd en num e0 rs).1.map encV) none, upd (dropFrom p 0 h) id [encO (listR rd en num e0 rs).2, u, .int .i64 d, .int .i64 en, growing (45, 5) (recsA rs)]) := by
 obtain ⟨f1, f2, f3, f4, f5, f6⟩ := a.facts
 obtain ⟨k, gl⟩ := listV_loop (u := u) (l := growing (45, 5) (recsA rs)) (en := en) (num := num) hd0 hd hn hread rs 0 e0 [] rfl (Nat.zero_le _) (Nat.le_refl _)
 have g := gl p id a
 have hrl : (recsA rs).length = rs.length := by simp [recsA]
 simp only [listVFr, nat0, List.map_nil, growing_nil, List.nil_append] at g
 rw [eq_108]
 simp -implicitDefEqProofs (maxSteps := 1000000) [Tryz.f108, Code.hide, Code.key, hh, f1, f2, f3, f4, f5, f6, hrl, g]
def listKFr (id : Id) (f num : Nat) (xs : List KV) (rs : List Rec) (i : Nat) : Fr := ((((((bot.set 15 (.int .i64 i)).set 14 (.int .i64 rs.length)).set 13 (.slice (recsA rs) none)).set 7 (growing (38, 11) (xs.map encK))).set 2 (.fn f [])).set 1 (.int .i64 num)).set 0 (.ptr id 0)
theorem listK_loop {f : Nat} {d : Int} {rs : List Rec} (hd0 : rs ≠ [] → 0 ≤ d) (hd : d ≤ 9223372036854775807) {rd : List UInt8 → KV × Option Err} {u l : A} {en num : Nat} (hn : rs.length ≤ 549755813888)
  (hread : ∀ r ∈ rs, ∀ (q : Id) (h : Heap), callW E q f [.str r.s, .int .i64 (d - 1)] h = some (.tuple [.agg (encK (rd r.s).1), encO (rd r.s).2], dropFrom q 0 h)) :
  ∀ (rest : List Rec) (i : Nat) (e0 : Option Err) (xs : List KV), rs.drop i = rest → i ≤ rs.length → xs.length ≤ i → ∃ k, ∀ (p id : Id) (a : Apart p id) (c0 c : Nat) (h : Heap), c0 ≤ c → h id = some [encO e0, u, .int .i64 d, .int .i64 en, l] →
  iterW E 111 p [0, 1, 2, 7, 13, 14, 15] L_111_3 c0 (listKFr id f num xs rs i) c h =
   some (.exit 0, listKFr id f num (xs ++ (listR rd en num e0 rest).1) rs rs.length, c + k, upd (dropFrom p c0 h) id [encO (listR rd en num e0 rest).2, u, .int .i64 d, .int .i64 en, l]) := by
 intro rest
 induction rest with
 | nil =>
  intro i e0 xs hj hi hx
  refine ⟨0, fun p id a c0 c h hc hh => ?_⟩
  obtain ⟨f1, f2, f3, f4, f5, f6⟩ := a.facts
  have hge := drop_end hj
  have hlen : i = rs.length := by omega
  subst hlen
  have hlt' : ¬ ((rs.length : Nat) : Int) < rs.length := by omega
  unfold listKFr
  rw [rd_111_3]
  generalize hr : execW E 111 p _ _ _ _ = e
  simp -implicitDefEqProofs (maxSteps := 1000000) [Tryz.f111, Code.loopAt, Code.key, hlt'] at hr
  subst hr
  simp only [listR, List.append_nil]
  rw [upd_id (h := dropFrom p c0 h) (by rw [f2, hh])]
  simp
 | cons r rest ih =>
  intro i e0 xs hj hi hx
  obtain ⟨hlt, hbb, hbs⟩ := drop_facts hj
  have hlt' : (i : Int) < rs.length := by omega
  have hw : IntKind.i64.wrap ((i : Int) + 1) = ((i + 1 : Nat) : Int) := by rw [wrap_i64 (by omega) (by omega)]; rfl
  have hrl : (recsA rs).length = rs.length := by simp [recsA]
  have hget? : (recsA rs)[i]? = some (recCells r) := by simp [recsA, hbb]
  have hget : ∀ hl, (recsA rs)[i]'hl = recCells r := fun hl => by rw [List.getElem?_eq_getElem hl] at hget?; exact Option.some.inj hget?
  have hl1 : (xs.map encK).length = xs.length := by simp
  have hmax : xs.length + 1 ≤ maxStr := by unfold maxStr; omega
  have hmax2 : (xs.length + 1) * 160 ≤ 140737488355328 := by omega
  by_cases hnum : r.num = num
  ·obtain ⟨k, gl⟩ := ih (i + 1) (failO en num e0 (rd r.s).2) (xs ++ [(rd r.s).1]) hbs (by omega) (by simp; omega)
   refine ⟨2 + k, fun p id a c0 c h hc hh => ?_⟩
   obtain ⟨f1, f2, f3, f4, f5, f6⟩ := a.facts
   have hnum' : (r.num : Int) = num := by omega
   have g := fun k h (hh : h id = some [encO e0, u, .int .i64 d, .int .i64 en, l]) => partK_ok (num := num) (hd0 (by intro e; rw [e] at hbb; simp at hbb)) hd (hread r (List.mem_of_getElem? hbb)) (a.sub k) (h := h) hh
   have e := gl p id a c0 (c + 2) (upd (dropFrom p c0 h) id [encO (failO en num e0 (rd r.s).2), u, .int .i64 d, .int .i64 en, l]) (by omega) (by simp)
   rw [f1, drop_drop_self, upd_upd] at e
   have hst : listR rd en num e0 (r :: rest) = ((rd r.s).1 :: (listR rd en num (failO en num e0 (rd r.s).2) rest).1, (listR rd en num (failO en num e0 (rd r.s).2) rest).2) := by rw [listR, if_pos hnum]
   rw [hst]
   unfold listKFr at e ⊢
   rw [rd_111_3]
   generalize hr : execW E 111 p _ _ _ _ = ee
   simp -implicitDefEqProofs (maxSteps := 1000000) [-Int.natCast_add, Tryz.f111, Code.loopAt, Code.key, recCells, hh, f1, f2, f3, f4, f5, f6, g, eq_true hnum, eq_true hnum', hlt, hlt', hrl, hget?, hget, hw, hmax, hmax2] at hr
   subst hr
   have e6 : A.slice (xs.map encK ++ [encK (rd r.s).1]) (some (38, 11)) = growing (38, 11) ((xs ++ [(rd r.s).1]).map encK) := by
    rw [slice_growing]; simp
   have hc1 : c0 ≤ c + 1 := by omega
   simp [-Int.natCast_add, -List.map_append]
   rw [e6, f1, drop_drop_cons hc1, drop_upd hc]
   simp only [List.append_assoc, List.singleton_append, Nat.add_assoc] at e ⊢
   simpa [-Int.natCast_add, -List.map_append] using e
  ·obtain ⟨k, gl⟩ := ih (i + 1) e0 xs hbs (by omega) (by omega)
   refine ⟨1 + k, fun p id a c0 c h hc hh => ?_⟩
   obtain ⟨f1, f2, f3, f4, f5, f6⟩ := a.facts
   have hnum' : ¬ (r.num : Int) = num := by omega
   have e := gl p id a c0 (c + 1) (dropFrom p c0 h) (by omega) (by rw [f2, hh])
   rw [drop_drop_self] at e
   have hst : listR rd en num e0 (r :: rest) = listR rd en num e0 rest := by rw [listR, if_neg hnum]
   rw [hst]
   unfold listKFr at e ⊢
   rw [rd_111_3]
   generalize hr : execW E 111 p _ _ _ _ = ee
   simp -implicitDefEqProofs (maxSteps := 1000000) [-Int.natCast_add, Tryz.f111, Code.loopAt, Code.key, recCells, hh, f1, f2, f3, f4, f5, f6, hnum, hnum', hlt, hlt', hrl, hget?, hget, hw] at hr
   subst hr
   simp [-Int.natCast_add, -List.map_append]
   rw [drop_upd hc]
   simpa [-Int.natCast_add, -List.map_append, Nat.add_assoc] using e
theorem listK_ok {f : Nat} {d : Int} {rs : List Rec} (hd0 : rs ≠ [] → 0 ≤ d) (hd : d ≤ 9223372036854775807) {rd : List UInt8 → KV × Option Err} {u : A} {en num : Nat} (hn : rs.length ≤ 549755813888)
  (hread : ∀ r ∈ rs, ∀ (q : Id) (h : Heap), callW E q f [.str r.s, .int .i64 (d - 1)] h = some (.tuple [.agg (encK (rd r.s).1), encO (rd r.s).2], dropFrom q 0 h))
  {e0 : Option Err} {p id : Id} (a : Apart p id) {h : Heap} (hh : h id = some [encO e0, u, .int .i64 d, .int .i64 en, growing (45, 5) (recsA rs)]) :
  callW E p 111 [.ptr id 0, .int .i64 num, .fn f []] h = some (.slice ((listR rd en num e0 rs).1.map encK) none, upd (dropFrom p 0 h) id [encO (listR rd en num e0 rs).2, u, .int .i64 d, .int .i64 en, growing (45, 5) (recsA rs)]) := by
 obtain ⟨f1, f2, f3, f4, f5, f6⟩ := a.facts
 obtain ⟨k, gl⟩ := listK_loop (u := u) (l := growing (45, 5) (recsA rs)) (en := en) (num := num) hd0 hd hn hread rs 0 e0 [] rfl (Nat.zero_le _) (Nat.le_refl _)
 have g := gl p id a
 have hrl : (recsA rs).length = rs.length := by simp [recsA]
 simp only [listKFr, nat0, List.map_nil, growing_nil, List.nil_append] at g
 rw [eq_111]
 simp -implicitDefEqProofs (maxSteps := 1000000) [Tryz.f111, Code.hide, Code.key, hh, f1, f2, f3, f4, f5, f6, hrl, g]
end Go.Ai.T

namespace Go.Ai.T
open Go Go.Proofs
set_option maxRecDepth 100000
set_option maxHeartbeats 4000000
theorem lone_ok (p : Id) (h : Heap) (a b : Nat) : callW E p 107 [.int .i64 a, .int .i64 b] h = some (.bool (loneT a b), dropFrom p 0 h) := by
 rw [eq_107]
 by_cases h1 : a = 1
 ·by_cases h2 : b = 2
  ·subst h1 h2
   simp -implicitDefEqProofs (maxSteps := 1000000) [Tryz.f107, Code.key, nl1, nl2, loneT]
  ·have h2' : ¬ (b : Int) = 2 := by omega
   subst h1
   simp -implicitDefEqProofs (maxSteps := 1000000) [Tryz.f107, Code.key, nl1, nl2, loneT, h2, h2']
 ·have h1' : ¬ (a : Int) = 1 := by omega
  simp -implicitDefEqProofs (maxSteps := 1000000) [Tryz.f107, Code.key, nl1, nl2, loneT, h1, h1']
theorem takesKey_ok (p : Id) (h : Heap) (a b : Nat) : callW E p 36 [.int .i64 a, .int .i64 b] h = some (.bool (takesK a b), dropFrom p 0 h) := by
 rw [eq_36]
 by_cases h1 : a = 1
 ·by_cases h2 : b = 2
  ·subst h1 h2
   simp -implicitDefEqProofs (maxSteps := 1000000) [Tryz.f36, Code.key, nl1, nl2, takesK]
  ·have h2' : ¬ (b : Int) = 2 := by omega
   subst h1
   simp -implicitDefEqProofs (maxSteps := 1000000) [Tryz.f36, Code.key, nl1, nl2, takesK, h2, h2']
 ·have h1' : ¬ (a : Int) = 1 := by omega
  by_cases h3 : a = 2
  ·by_cases h2 : b = 2
   ·subst h3 h2
    simp -implicitDefEqProofs (maxSteps := 1000000) [Tryz.f36, Code.key, nl1, nl2, takesK]
   ·have h2' : ¬ (b : Int) = 2 := by omega
    subst h3
    simp -implicitDefEqProofs (maxSteps := 1000000) [Tryz.f36, Code.key, nl1, nl2, takesK, h2, h2']
  ·have h3' : ¬ (a : Int) = 2 := by omega
   simp -implicitDefEqProofs (maxSteps := 1000000) [Tryz.f36, Code.key, takesK, h1, h1', h3, h3']
theorem takes_ok (p : Id) (h : Heap) (a b : Nat) : callW E p 63 [.int .i64 a, .int .i64 b] h = some (.bool (takesV a b), dropFrom p 0 h) := by
 rw [eq_63]
 have nl6 : ((6 : Nat) : Int) = 6 := rfl
 have nl7 : ((7 : Nat) : Int) = 7 := rfl
 have b0 : ((b : Int) = 0) = (b = 0) := propext (by omega)
 have b1 : ((b : Int) = 1) = (b = 1) := propext (by omega)
 have b2 : ((b : Int) = 2) = (b = 2) := propext (by omega)
 have hb : ∀ n : Nat, (b == n) = decide (b = n) := fun n => rfl
 rcases Nat.lt_or_ge a 8 with h8 | h8
 ·match a, h8 with
  | 0, _ => simp -implicitDefEqProofs (maxSteps := 1000000) [Tryz.f63, Code.key, nat0, takesV]
  | 1, _ => simp -implicitDefEqProofs (maxSteps := 1000000) [Tryz.f63, Code.key, nl1, takesV, b0, b1, b2, hb]
  | 2, _ => simp -implicitDefEqProofs (maxSteps := 1000000) [Tryz.f63, Code.key, nl2, takesV, b0, b1, b2, hb]
  | 3, _ => simp -implicitDefEqProofs (maxSteps := 1000000) [Tryz.f63, Code.key, nl3, takesV, b0, b1, b2, hb]
  | 4, _ => simp -implicitDefEqProofs (maxSteps := 1000000) [Tryz.f63, Code.key, nl4, takesV, b0, b1, b2, hb]
  | 5, _ => simp -implicitDefEqProofs (maxSteps := 1000000) [Tryz.f63, Code.key, nl5, takesV, b0, b1, b2, hb]
  | 6, _ => simp -implicitDefEqProofs (maxSteps := 1000000) [Tryz.f63, Code.key, nl6, takesV, b0, b1, b2, hb]
  | 7, _ => simp -implicitDefEqProofs (maxSteps := 1000000) [Tryz.f63, Code.key, nl7, takesV, b0, b1, b2, hb]
  | n + 8, h => omega
 ·have e : takesV a b = false := by
   unfold takesV
   split <;> first | omega | rfl
  have c1 : ¬ (a : Int) = 1 := by omega
  have c2 : ¬ (a : Int) = 2 := by omega
  have c3 : ¬ (a : Int) = 3 := by omega
  have c4 : ¬ (a : Int) = 4 := by omega
  have c5 : ¬ (a : Int) = 5 := by omega
  have c6 : ¬ (a : Int) = 6 := by omega
  have c7 : ¬ (a : Int) = 7 := by omega
  have d1 : ¬ a = 1 := by omega
  have d2 : ¬ a = 2 := by omega
  have d3 : ¬ a = 3 := by omega
  have d4 : ¬ a = 4 := by omega
  have d5 : ¬ a = 5 := by omega
  have d6 : ¬ a = 6 := by omega
  have d7 : ¬ a = 7 := by omega
  simp -implicitDefEqProofs (maxSteps := 1000000) [Tryz.f63, Code.key, e, c1, c2, c3, c4, c5, c6, c7, d1, d2, d3, d4, d5, d6, d7]
theorem Apart.own2 {p : Id} {t i j k : Nat} (h : j ≠ k) : Apart (k :: p) (t :: i :: j :: p) := by
 unfold Apart
 have h1 : underB (k :: p) 0 (i :: j :: p) = false := by simp [h]
 have h2 : ¬ (i :: j :: p) = k :: p := fun e => by have := congrArg List.length e; simp at this
 rw [underB, h1]; simp [h2]
theorem under2 {p : Id} {t i j : Nat} : underB p 0 (t :: i :: j :: p) = true := underB_of_suffix (k := j) (Nat.zero_le _) ((List.suffix_cons _ _).trans (List.suffix_cons _ _))
theorem drop_upd_under {p id : Id} {h : Heap} {cs : List A} (hu : underB p 0 id = true) : dropFrom p 0 (upd h id cs) = dropFrom p 0 h := by
 funext i
 simp only [dropFrom, upd]
 by_cases e : i = id
 ·subst e; simp [hu]
 ·simp [e]
theorem readE_facts {s : List UInt8} {d : Int} {t : Nat → Nat → Bool} : (readE s d t).recs.length ≤ s.length ∧ Short s.length (readE s d t).recs ∧ ((readE s d t).recs ≠ [] → 0 ≤ d) ∧ (readE s d t).unk.length ≤ s.length := by
 unfold readE
 by_cases h0 : d < 0
 ·rw [if_pos h0]; exact ⟨by simp, (fun x hx => by cases hx), (fun h => absurd rfl h), by simp⟩
 ·rw [if_neg h0]
  cases hv : allE s d 0 with
  | error e => exact ⟨by simp, (fun x hx => by cases hx), (fun h => absurd rfl h), by simp⟩
  | ok rs =>
   have h1 := allE_raw 0 (Nat.zero_le _) rs hv
   have h2 := allE_short 0 (Nat.zero_le _) rs hv
   have h3 : (takenR t rs).length ≤ rs.length := List.length_filter_le _ _
   have h4 := unkR_len t rs
   refine ⟨by dsimp only; omega, fun x hx => h2 x (List.mem_filter.1 hx).1, fun _ => by omega, by dsimp only; omega⟩
theorem listsV1_ok {f : Nat} {s : List UInt8} (hb : s.length ≤ 549755813888) {d : Int} (hd : d ≤ 9223372036854775807) {rd : List UInt8 → Val × Option Err}
  (hread : ∀ t : List UInt8, t.length ≤ s.length → 0 ≤ d → ∀ (q : Id) (h : Heap), callW E q f [.str t, .int .i64 (d - 1)] h = some (.tuple [.agg (encV (rd t).1), encO (rd t).2], dropFrom q 0 h)) {p cid : Id} (a : Apart p cid) {h : Heap} (hc : h cid = some [.fn f []]) :
  callW E p 106 [.str s, .int .i64 d, .ptr cid 0] h = some (.tuple [.agg [.slice ((someR rd s d).1.1.map encV) none, .str (someR rd s d).1.2], encO (someR rd s d).2], dropFrom p 0 h) := by
 obtain ⟨hf1, hf2, hf3, hf4⟩ := readE_facts (s := s) (d := d) (t := loneT)
 obtain ⟨H, g, gH, gD⟩ := mread_ok (s := s) (by omega) hd (t := loneT) lone_ok (1 :: p) (upd h (118 :: 0 :: p) [.nils, .str []])
 obtain ⟨f1, f2, f3, f4, f5, f6⟩ := a.facts
 have hr : ∀ r ∈ (readE s d loneT).recs, ∀ (q : Id) (h : Heap), callW E q f [.str r.s, .int .i64 (d - 1)] h = some (.tuple [.agg (encV (rd r.s).1), encO (rd r.s).2], dropFrom q 0 h) :=
  fun r hr => hread r.s (hf2 r hr) (hf3 (List.ne_nil_of_mem hr))
 have g2 := fun k (hk : 1 ≠ k) h hh => listV_ok (num := 1) hf3 hd (by omega) hr (e0 := (readE s d loneT).err) (u := .str (readE s d loneT).unk) (en := s.length) (p := k :: p) (id := 82 :: 0 :: 1 :: p) (Apart.own2 hk) (h := h) hh
 have gc : H cid = some [.fn f []] := by
  have e1 := congrFun gD cid
  rw [drop_other ((a.sub 1).at_ 0), drop_other ((a.sub 1).at_ 0), f5, hc] at e1
  exact e1
 have gr : H (118 :: 0 :: p) = some [.nils, .str []] := by
  have e1 := congrFun gD (118 :: 0 :: p)
  simpa using e1
 have gD' : dropFrom p 0 H = dropFrom p 0 h := by
  have e1 := congrArg (dropFrom p 0) gD
  simpa using e1
 have ne1 : ¬ (118 :: 0 :: p) = (82 :: 0 :: 1 :: p) := fun e => by have := congrArg List.length e; simp at this
 have ux : ∀ (h : Heap) (cs : List A), upd h (82 :: 0 :: 1 :: p) cs (118 :: 0 :: p) = h (118 :: 0 :: p) := fun h cs => by simp only [upd, if_neg ne1]
 have ux2 : ∀ (h : Heap) (cs : List A), upd h (118 :: 0 :: p) cs (82 :: 0 :: 1 :: p) = h (82 :: 0 :: 1 :: p) := fun h cs => by simp only [upd, if_neg (Ne.symm ne1)]
 simp only [mrdM, mrd, someR, nl1] at gH g2 ⊢
 rw [eq_106]
 simp -implicitDefEqProofs (maxSteps := 1000000) [Tryz.f106, Code.hide, Code.key, g, gH, gc, gr, ux, ux2, g2, drop_upd_under, under2, gD', encO_weak, encO_weak1]
theorem listsK1_ok {f : Nat} {s : List UInt8} (hb : s.length ≤ 549755813888) {d : Int} (hd : d ≤ 9223372036854775807) {rd : List UInt8 → KV × Option Err}
  (hread : ∀ t : List UInt8, t.length ≤ s.length → 0 ≤ d → ∀ (q : Id) (h : Heap), callW E q f [.str t, .int .i64 (d - 1)] h = some (.tuple [.agg (encK (rd t).1), encO (rd t).2], dropFrom q 0 h)) {p cid : Id} (a : Apart p cid) {h : Heap} (hc : h cid = some [.fn f []]) :
  callW E p 110 [.str s, .int .i64 d, .ptr cid 0] h = some (.tuple [.agg [.slice ((someR rd s d).1.1.map encK) none, .str (someR rd s d).1.2], encO (someR rd s d).2], dropFrom p 0 h) := by
 obtain ⟨hf1, hf2, hf3, hf4⟩ := readE_facts (s := s) (d := d) (t := loneT)
 obtain ⟨H, g, gH, gD⟩ := mread_ok (s := s) (by omega) hd (t := loneT) lone_ok (1 :: p) (upd h (123 :: 0 :: p) [.nils, .str []])
 obtain ⟨f1, f2, f3, f4, f5, f6⟩ := a.facts
 have hr : ∀ r ∈ (readE s d loneT).recs, ∀ (q : Id) (h : Heap), callW E q f [.str r.s, .int .i64 (d - 1)] h = some (.tuple [.agg (encK (rd r.s).1), encO (rd r.s).2], dropFrom q 0 h) :=
  fun r hr => hread r.s (hf2 r hr) (hf3 (List.ne_nil_of_mem hr))
 have g2 := fun k (hk : 1 ≠ k) h hh => listK_ok (num := 1) hf3 hd (by omega) hr (e0 := (readE s d loneT).err) (u := .str (readE s d loneT).unk) (en := s.length) (p := k :: p) (id := 82 :: 0 :: 1 :: p) (Apart.own2 hk) (h := h) hh
 have gc : H cid = some [.fn f []] := by
  have e1 := congrFun gD cid
  rw [drop_other ((a.sub 1).at_ 0), drop_other ((a.sub 1).at_ 0), f5, hc] at e1
  exact e1
 have gr : H (123 :: 0 :: p) = some [.nils, .str []] := by
  have e1 := congrFun gD (123 :: 0 :: p)
  simpa using e1
 have gD' : dropFrom p 0 H = dropFrom p 0 h := by
  have e1 := congrArg (dropFrom p 0) gD
  simpa using e1
 have ne1 : ¬ (123 :: 0 :: p) = (82 :: 0 :: 1 :: p) := fun e => by have := congrArg List.length e; simp at this
 have ux : ∀ (h : Heap) (cs : List A), upd h (82 :: 0 :: 1 :: p) cs (123 :: 0 :: p) = h (123 :: 0 :: p) := fun h cs => by simp only [upd, if_neg ne1]
 have ux2 : ∀ (h : Heap) (cs : List A), upd h (123 :: 0 :: p) cs (82 :: 0 :: 1 :: p) = h (82 :: 0 :: 1 :: p) := fun h cs => by simp only [upd, if_neg (Ne.symm ne1)]
 simp only [mrdM, mrd, someR, nl1] at gH g2 ⊢
 rw [eq_110]
 simp -implicitDefEqProofs (maxSteps := 1000000) [Tryz.f110, Code.hide, Code.key, g, gH, gc, gr, ux, ux2, g2, drop_upd_under, under2, gD', encO_weak, encO_weak1]
end Go.Ai.T

namespace Go.Ai.T
open Go Go.Proofs
set_option maxRecDepth 100000
set_option maxHeartbeats 4000000
theorem strsOf_ok (ss : List (List UInt8)) : strsOf (strsA ss) = some ss := by
 induction ss with
 | nil => rfl
 | cons s ss ih => simp only [strsA, List.map_cons] at *; simp [strsOf, ih]
theorem join_nil (ss : List (List UInt8)) : Lib.join ss [] = ss.flatten := by
 cases ss with
 | nil => rfl
 | cons s ss => rw [Lib.join_cons]; simp [Lib.joinTail]
theorem join_ok {ss : List (List UInt8)} (h1 : ss.length ≤ 140737488355328) (h2 : ss.flatten.length ≤ 140737488355328) {own : Option (Nat × Nat)} (p : Id) (h : Heap) : callW E p 105 [.slice (strsA ss) own, .str []] h = some (.str ss.flatten, h) := by
 rw [callW_prim (g := stringsJoin) rfl]
 simp [stringsJoin, strsOf_ok, join_nil, h1]
 simpa using h2
theorem listsV_ok {f : Nat} (p : Id) (h : Heap) : callW E p 66 [.fn f []] h = some (.fn 106 [.ptr (85 :: 0 :: p) 0], upd h (85 :: 0 :: p) [.fn f []]) := by
 rw [eq_66]
 simp -implicitDefEqProofs (maxSteps := 1000000) [Tryz.f66, Code.hide, Code.key]
 rfl
theorem partSV_ok {fc : Nat} {s : List UInt8} {d : Int} (hd0 : 0 ≤ d) (hd : d ≤ 9223372036854775807) {xs : List (List A)} {rest : List UInt8} {e1 : Option Err} {cid : Id} {C : List A} (hread : ∀ (q : Id) (h : Heap), Apart q cid → h cid = some C → callW E q fc [.str s, .int .i64 (d - 1), .ptr cid 0] h = some (.tuple [.agg [.slice xs none, .str rest], encO e1], dropFrom q 0 h))
  {e0 : Option Err} {u l : A} {en num : Nat} {p id : Id} (a : Apart p id) (b : Apart p cid) {h : Heap} (hh : h id = some [encO e0, u, .int .i64 d, .int .i64 en, l]) (hc : h cid = some C) :
  callW E p 104 [.ptr id 0, .int .i64 num, .str s, .fn fc [.ptr cid 0]] h = some (.agg [.slice xs none, .str rest], upd (dropFrom p 0 h) id [encO (failO en num e0 e1), u, .int .i64 d, .int .i64 en, l]) := by
 obtain ⟨f1, f2, f3, f4, f5, f6⟩ := a.facts
 obtain ⟨x1, x2, x3, x4, x5, x6⟩ := b.facts
 have hw : IntKind.i64.wrap (d - 1) = d - 1 := wrap_i64 (by omega) (by omega)
 have g := fun k h hc => hread (k :: p) h (b.sub k) hc
 have g2 := fun k h (hh : h id = some [encO e0, u, .int .i64 d, .int .i64 en, l]) => mfails_ok (e0 := e0) (e1 := e1) (num := num) (p := k :: p) (a.sub k) (h := h) hh
 rw [eq_104]
 simp -implicitDefEqProofs (maxSteps := 1000000) [Tryz.f104, Code.hide, Code.key, hh, hc, f1, f2, f3, f4, f5, f6, x2, x4, x5, hw, g, g2]
theorem listsK_ok {f : Nat} (p : Id) (h : Heap) : callW E p 68 [.fn f []] h = some (.fn 110 [.ptr (49 :: 0 :: p) 0], upd h (49 :: 0 :: p) [.fn f []]) := by
 rw [eq_68]
 simp -implicitDefEqProofs (maxSteps := 1000000) [Tryz.f68, Code.hide, Code.key]
 rfl
theorem partSK_ok {fc : Nat} {s : List UInt8} {d : Int} (hd0 : 0 ≤ d) (hd : d ≤ 9223372036854775807) {xs : List (List A)} {rest : List UInt8} {e1 : Option Err} {cid : Id} {C : List A} (hread : ∀ (q : Id) (h : Heap), Apart q cid → h cid = some C → callW E q fc [.str s, .int .i64 (d - 1), .ptr cid 0] h = some (.tuple [.agg [.slice xs none, .str rest], encO e1], dropFrom q 0 h))
  {e0 : Option Err} {u l : A} {en num : Nat} {p id : Id} (a : Apart p id) (b : Apart p cid) {h : Heap} (hh : h id = some [encO e0, u, .int .i64 d, .int .i64 en, l]) (hc : h cid = some C) :
  callW E p 109 [.ptr id 0, .int .i64 num, .str s, .fn fc [.ptr cid 0]] h = some (.agg [.slice xs none, .str rest], upd (dropFrom p 0 h) id [encO (failO en num e0 e1), u, .int .i64 d, .int .i64 en, l]) := by
 obtain ⟨f1, f2, f3, f4, f5, f6⟩ := a.facts
 obtain ⟨x1, x2, x3, x4, x5, x6⟩ := b.facts
 have hw : IntKind.i64.wrap (d - 1) = d - 1 := wrap_i64 (by omega) (by omega)
 have g := fun k h hc => hread (k :: p) h (b.sub k) hc
 have g2 := fun k h (hh : h id = some [encO e0, u, .int .i64 d, .int .i64 en, l]) => mfails_ok (e0 := e0) (e1 := e1) (num := num) (p := k :: p) (a.sub k) (h := h) hh
 rw [eq_109]
 simp -implicitDefEqProofs (maxSteps := 1000000) [Tryz.f109, Code.hide, Code.key, hh, hc, f1, f2, f3, f4, f5, f6, x2, x4, x5, hw, g, g2]
theorem innerSV_ok {fc : Nat} {d : Int} (hd0 : 0 ≤ d) (hd : d ≤ 9223372036854775807) {o : OneR} (h1 : o.all.length ≤ 140737488355328) (h2 : o.all.flatten.length ≤ 140737488355328) {xs : List (List A)} {rest : List UInt8} {e1 : Option Err} {cid : Id} {C : List A} (hread : ∀ (q : Id) (h : Heap), Apart q cid → h cid = some C → callW E q fc [.str o.all.flatten, .int .i64 (d - 1), .ptr cid 0] h = some (.tuple [.agg [.slice xs none, .str rest], encO e1], dropFrom q 0 h))
  {e0 : Option Err} {u l : A} {en : Nat} {p id : Id} (a : Apart p id) (b : Apart p cid) {h : Heap} (hh : h id = some [encO e0, u, .int .i64 d, .int .i64 en, l]) (hc : h cid = some C) :
  callW E p 65 [.ptr id 0, encOne o, .fn fc [.ptr cid 0]] h = some (.agg [.slice xs none, .str rest], upd (dropFrom p 0 h) id [encO (failO en o.num e0 e1), u, .int .i64 d, .int .i64 en, l]) := by
 obtain ⟨f1, f2, f3, f4, f5, f6⟩ := a.facts
 obtain ⟨x1, x2, x3, x4, x5, x6⟩ := b.facts
 have g := fun k h (hh : h id = some [encO e0, u, .int .i64 d, .int .i64 en, l]) hc => partSV_ok (num := o.num) hd0 hd hread (p := k :: p) (a.sub k) (b.sub k) (h := h) hh hc
 have g2 := fun p h => join_ok h1 h2 (own := none) p h
 simp only [encOne]
 rw [eq_65]
 simp -implicitDefEqProofs (maxSteps := 1000000) [Tryz.f65, Code.hide, Code.key, hh, hc, f1, f2, f3, f4, f5, f6, x2, x4, x5, g, g2]
theorem innerSK_ok {fc : Nat} {d : Int} (hd0 : 0 ≤ d) (hd : d ≤ 9223372036854775807) {o : OneR} (h1 : o.all.length ≤ 140737488355328) (h2 : o.all.flatten.length ≤ 140737488355328) {xs : List (List A)} {rest : List UInt8} {e1 : Option Err} {cid : Id} {C : List A} (hread : ∀ (q : Id) (h : Heap), Apart q cid → h cid = some C → callW E q fc [.str o.all.flatten, .int .i64 (d - 1), .ptr cid 0] h = some (.tuple [.agg [.slice xs none, .str rest], encO e1], dropFrom q 0 h))
  {e0 : Option Err} {u l : A} {en : Nat} {p id : Id} (a : Apart p id) (b : Apart p cid) {h : Heap} (hh : h id = some [encO e0, u, .int .i64 d, .int .i64 en, l]) (hc : h cid = some C) :
  callW E p 67 [.ptr id 0, encOne o, .fn fc [.ptr cid 0]] h = some (.agg [.slice xs none, .str rest], upd (dropFrom p 0 h) id [encO (failO en o.num e0 e1), u, .int .i64 d, .int .i64 en, l]) := by
 obtain ⟨f1, f2, f3, f4, f5, f6⟩ := a.facts
 obtain ⟨x1, x2, x3, x4, x5, x6⟩ := b.facts
 have g := fun k h (hh : h id = some [encO e0, u, .int .i64 d, .int .i64 en, l]) hc => partSK_ok (num := o.num) hd0 hd hread (p := k :: p) (a.sub k) (b.sub k) (h := h) hh hc
 have g2 := fun p h => join_ok h1 h2 (own := none) p h
 simp only [encOne]
 rw [eq_67]
 simp -implicitDefEqProofs (maxSteps := 1000000) [Tryz.f67, Code.hide, Code.key, hh, hc, f1, f2, f3, f4, f5, f6, x2, x4, x5, g, g2]
end Go.Ai.T

namespace Go.Ai.T
open Go Go.Proofs
set_option maxRecDepth 100000
set_option maxHeartbeats 4000000
def flatX (o : OneR) (unk : List UInt8) : Val :=
 if o.num = 1 ∨ o.num = 7 then .mk o.num o.s false 0 [] [] [] unk
 else if o.num = 2 then .mk 2 [] (decide (0 < o.n)) 0 [] [] [] unk
 else if o.num = 3 ∨ o.num = 4 then .mk o.num [] false o.n [] [] [] unk
 else .mk o.num [] false 0 [] [] [] unk
theorem unm_flat {s : List UInt8} (hb : s.length ≤ 549755813888) {d : Int} (hd : d ≤ 9223372036854775807) (p : Id) (h : Heap) (e1 : Option Err) (he1 : e1 = checkO s.length 1 (readE s d takesV).err (readE s d takesV).recs) (o : OneR) (hgo : oneR [1, 2, 3, 4, 5, 6, 7] (readE s d takesV).recs = o) (h5 : o.num ≠ 5) (h6 : o.num ≠ 6) :
  callW E p 39 [.str s, .int .i64 d] h = some (.tuple [.agg (encV (orNone val0 (flatX o (readE s d takesV).unk, e1)).1), encO (orNone val0 (flatX o (readE s d takesV).unk, e1)).2], dropFrom p 0 h) := by
 obtain ⟨hf1, hf2, hf3, hf4⟩ := readE_facts (s := s) (d := d) (t := takesV)
 obtain ⟨H, g, gH, gD⟩ := mread_ok (s := s) (by omega) hd (t := takesV) takes_ok (1 :: p) (upd h (36 :: 0 :: p) zV)
 have hsh : Short 1099511627776 (readE s d takesV).recs := fun r hr => Nat.le_trans (hf2 r hr) (by omega)
 have g2 := fun k (hk : 1 ≠ k) h hh => check_ok (num := 1) (e0 := (readE s d takesV).err) (u := (readE s d takesV).unk) (d := d) (en := s.length) (by omega) hsh (p := k :: p) (id := 82 :: 0 :: 1 :: p) (Apart.own2 hk) (h := h) hh
 have g3 := fun k (hk : 1 ≠ k) h hh => one_ok (nums := [1, 2, 3, 4, 5, 6, 7]) (by simp) (rs := (readE s d takesV).recs) (by omega) (e0 := encO e1) (u := .str (readE s d takesV).unk) (dd := .int .i64 d) (en := .int .i64 s.length) (p := k :: p) (id := 82 :: 0 :: 1 :: p) (Apart.own2 hk) (h := h) hh
 have gr : H (36 :: 0 :: p) = some zV := by
  have e1 := congrFun gD (36 :: 0 :: p)
  simpa using e1
 have gD' : dropFrom p 0 H = dropFrom p 0 h := by
  have e1 := congrArg (dropFrom p 0) gD
  simpa using e1
 have ne1 : ∀ t k, ¬ (t :: k :: p) = (82 :: 0 :: 1 :: p) := fun t k e => by have := congrArg List.length e; simp at this
 have ux : ∀ (h : Heap) (cs : List A) (t k : Nat), upd h (82 :: 0 :: 1 :: p) cs (t :: k :: p) = h (t :: k :: p) := fun h cs t k => by simp only [upd, if_neg (ne1 t k)]
 have ux2 : ∀ (h : Heap) (cs : List A) (t k : Nat), upd h (t :: k :: p) cs (82 :: 0 :: 1 :: p) = h (82 :: 0 :: 1 :: p) := fun h cs t k => by simp only [upd, if_neg (Ne.symm (ne1 t k))]
 have udr : ∀ (k : Nat) (h : Heap), 1 ≠ k → dropFrom (k :: p) 0 h (82 :: 0 :: 1 :: p) = h (82 :: 0 :: 1 :: p) := fun k h hk => drop_other ((Apart.own2 hk).at_ 0)
 rw [← he1] at g2
 rw [hgo] at g3
 have nl6 : ((6 : Nat) : Int) = 6 := rfl
 have nl7 : ((7 : Nat) : Int) = 7 := rfl
 by_cases k1 : o.num = 1
 ·have hX : flatX o (readE s d takesV).unk = .mk 1 o.s false 0 [] [] [] (readE s d takesV).unk := by simp [flatX, k1]
  have ci : (o.num : Int) = 1 := by omega
  rw [hX]
  simp only [mrdM, mrd, encOne, intsA, List.map_cons, List.map_nil, nl1, nl2, nl3, nl4, nl5, nl6, nl7, zV, val0, encV, encVs, encKs] at g gH g2 g3 gr ⊢
  rw [eq_39]
  cases e1 with
  | none =>
   simp only [encO_none, orNone] at *
   simp -implicitDefEqProofs (maxSteps := 1000000) [Tryz.f39, Code.hide, Code.key, g, gH, gr, ux, ux2, udr, g2, g3, ci, k1, drop_upd_under, under2, gD', encV, encVs, encKs]
  | some e =>
   simp only [encO_some, orNone] at *
   simp -implicitDefEqProofs (maxSteps := 1000000) [Tryz.f39, Code.hide, Code.key, g, gH, gr, ux, ux2, udr, g2, g3, ci, k1, drop_upd_under, under2, gD', encV, encVs, encKs]
 by_cases k7 : o.num = 7
 ·have hX : flatX o (readE s d takesV).unk = .mk 7 o.s false 0 [] [] [] (readE s d takesV).unk := by simp [flatX, k7]
  have ci : (o.num : Int) = 7 := by omega
  rw [hX]
  simp only [mrdM, mrd, encOne, intsA, List.map_cons, List.map_nil, nl1, nl2, nl3, nl4, nl5, nl6, nl7, zV, val0, encV, encVs, encKs] at g gH g2 g3 gr ⊢
  rw [eq_39]
  cases e1 with
  | none =>
   simp only [encO_none, orNone] at *
   simp -implicitDefEqProofs (maxSteps := 1000000) [Tryz.f39, Code.hide, Code.key, g, gH, gr, ux, ux2, udr, g2, g3, ci, k7, drop_upd_under, under2, gD', encV, encVs, encKs]
  | some e =>
   simp only [encO_some, orNone] at *
   simp -implicitDefEqProofs (maxSteps := 1000000) [Tryz.f39, Code.hide, Code.key, g, gH, gr, ux, ux2, udr, g2, g3, ci, k7, drop_upd_under, under2, gD', encV, encVs, encKs]
 by_cases k2 : o.num = 2
 ·have hX : flatX o (readE s d takesV).unk = .mk 2 [] (decide (0 < o.n)) 0 [] [] [] (readE s d takesV).unk := by simp [flatX, k2]
  have ci : (o.num : Int) = 2 := by omega
  by_cases hp : (0 : Int) < o.n
  ·have hp2 : 0 < o.n := by omega
   rw [hX]
   simp only [mrdM, mrd, encOne, intsA, List.map_cons, List.map_nil, nl1, nl2, nl3, nl4, nl5, nl6, nl7, zV, val0, encV, encVs, encKs] at g gH g2 g3 gr ⊢
   rw [eq_39]
   cases e1 with
   | none =>
    simp only [encO_none, orNone] at *
    simp -implicitDefEqProofs (maxSteps := 1000000) [Tryz.f39, Code.hide, Code.key, g, gH, gr, ux, ux2, udr, g2, g3, ci, k2, hp, hp2, drop_upd_under, under2, gD', encV, encVs, encKs]
   | some e =>
    simp only [encO_some, orNone] at *
    simp -implicitDefEqProofs (maxSteps := 1000000) [Tryz.f39, Code.hide, Code.key, g, gH, gr, ux, ux2, udr, g2, g3, ci, k2, hp, hp2, drop_upd_under, under2, gD', encV, encVs, encKs]
  ·have hp2 : ¬ 0 < o.n := by omega
   rw [hX]
   simp only [mrdM, mrd, encOne, intsA, List.map_cons, List.map_nil, nl1, nl2, nl3, nl4, nl5, nl6, nl7, zV, val0, encV, encVs, encKs] at g gH g2 g3 gr ⊢
   rw [eq_39]
   cases e1 with
   | none =>
    simp only [encO_none, orNone] at *
    simp -implicitDefEqProofs (maxSteps := 1000000) [Tryz.f39, Code.hide, Code.key, g, gH, gr, ux, ux2, udr, g2, g3, ci, k2, hp, hp2, drop_upd_under, under2, gD', encV, encVs, encKs]
   | some e =>
    simp only [encO_some, orNone] at *
    simp -implicitDefEqProofs (maxSteps := 1000000) [Tryz.f39, Code.hide, Code.key, g, gH, gr, ux, ux2, udr, g2, g3, ci, k2, hp, hp2, drop_upd_under, under2, gD', encV, encVs, encKs]
 by_cases k3 : o.num = 3
 ·have hX : flatX o (readE s d takesV).unk = .mk 3 [] false o.n [] [] [] (readE s d takesV).unk := by simp [flatX, k3]
  have ci : (o.num : Int) = 3 := by omega
  rw [hX]
  simp only [mrdM, mrd, encOne, intsA, List.map_cons, List.map_nil, nl1, nl2, nl3, nl4, nl5, nl6, nl7, zV, val0, encV, encVs, encKs] at g gH g2 g3 gr ⊢
  rw [eq_39]
  cases e1 with
  | none =>
   simp only [encO_none, orNone] at *
   simp -implicitDefEqProofs (maxSteps := 1000000) [Tryz.f39, Code.hide, Code.key, g, gH, gr, ux, ux2, udr, g2, g3, ci, k3, drop_upd_under, under2, gD', encV, encVs, encKs]
  | some e =>
   simp only [encO_some, orNone] at *
   simp -implicitDefEqProofs (maxSteps := 1000000) [Tryz.f39, Code.hide, Code.key, g, gH, gr, ux, ux2, udr, g2, g3, ci, k3, drop_upd_under, under2, gD', encV, encVs, encKs]
 by_cases k4 : o.num = 4
 ·have hX : flatX o (readE s d takesV).unk = .mk 4 [] false o.n [] [] [] (readE s d takesV).unk := by simp [flatX, k4]
  have ci : (o.num : Int) = 4 := by omega
  rw [hX]
  simp only [mrdM, mrd, encOne, intsA, List.map_cons, List.map_nil, nl1, nl2, nl3, nl4, nl5, nl6, nl7, zV, val0, encV, encVs, encKs] at g gH g2 g3 gr ⊢
  rw [eq_39]
  cases e1 with
  | none =>
   simp only [encO_none, orNone] at *
   simp -implicitDefEqProofs (maxSteps := 1000000) [Tryz.f39, Code.hide, Code.key, g, gH, gr, ux, ux2, udr, g2, g3, ci, k4, drop_upd_under, under2, gD', encV, encVs, encKs]
  | some e =>
   simp only [encO_some, orNone] at *
   simp -implicitDefEqProofs (maxSteps := 1000000) [Tryz.f39, Code.hide, Code.key, g, gH, gr, ux, ux2, udr, g2, g3, ci, k4, drop_upd_under, under2, gD', encV, encVs, encKs]
 ·have hX : flatX o (readE s d takesV).unk = .mk o.num [] false 0 [] [] [] (readE s d takesV).unk := by simp [flatX, k1, k7, k2, k3, k4]
  have c1 : ¬ (o.num : Int) = 1 := by omega
  have c2 : ¬ (o.num : Int) = 2 := by omega
  have c3 : ¬ (o.num : Int) = 3 := by omega
  have c4 : ¬ (o.num : Int) = 4 := by omega
  have c5 : ¬ (o.num : Int) = 5 := by omega
  have c6 : ¬ (o.num : Int) = 6 := by omega
  have c7 : ¬ (o.num : Int) = 7 := by omega
  rw [hX]
  simp only [mrdM, mrd, encOne, intsA, List.map_cons, List.map_nil, nl1, nl2, nl3, nl4, nl5, nl6, nl7, zV, val0, encV, encVs, encKs] at g gH g2 g3 gr ⊢
  rw [eq_39]
  cases e1 with
  | none =>
   simp only [encO_none, orNone] at *
   simp -implicitDefEqProofs (maxSteps := 1000000) [Tryz.f39, Code.hide, Code.key, g, gH, gr, ux, ux2, udr, g2, g3, c1, c2, c3, c4, c5, c6, c7, k1, k2, k3, k4, h5, h6, k7, drop_upd_under, under2, gD', encV, encVs, encKs]
  | some e =>
   simp only [encO_some, orNone] at *
   simp -implicitDefEqProofs (maxSteps := 1000000) [Tryz.f39, Code.hide, Code.key, g, gH, gr, ux, ux2, udr, g2, g3, c1, c2, c3, c4, c5, c6, c7, k1, k2, k3, k4, h5, h6, k7, drop_upd_under, under2, gD', encV, encVs, encKs]
theorem unm_listV {s : List UInt8} (hb : s.length ≤ 549755813888) {d : Int} (hd0 : 0 ≤ d) (hd : d ≤ 9223372036854775807) (p : Id) (h : Heap) (e1 : Option Err) (he1 : e1 = checkO s.length 1 (readE s d takesV).err (readE s d takesV).recs) (o : OneR) (hgo : oneR [1, 2, 3, 4, 5, 6, 7] (readE s d takesV).recs = o) (hn : o.num = 5)
  {rd : List UInt8 → Val × Option Err} (hrd : ∀ t : List UInt8, t.length ≤ s.length → 0 ≤ d - 1 → ∀ (q : Id) (h : Heap), callW E q 39 [.str t, .int .i64 (d - 1 - 1)] h = some (.tuple [.agg (encV (rd t).1), encO (rd t).2], dropFrom q 0 h))
  (y : (List Val × List UInt8) × Option Err) (hy : someR rd o.all.flatten (d - 1) = y) (v : Val × Option Err) (hv : v = orNone val0 ((.mk 5 [] false 0 y.1.1 [] y.1.2 (readE s d takesV).unk), failO s.length 5 e1 y.2)) :
  callW E p 39 [.str s, .int .i64 d] h = some (.tuple [.agg (encV v.1), encO v.2], dropFrom p 0 h) := by
 obtain ⟨hf1, hf2, hf3, hf4⟩ := readE_facts (s := s) (d := d) (t := takesV)
 obtain ⟨H, g, gH, gD⟩ := mread_ok (s := s) (by omega) hd (t := takesV) takes_ok (1 :: p) (upd h (36 :: 0 :: p) zV)
 have hsh : Short 1099511627776 (readE s d takesV).recs := fun r hr => Nat.le_trans (hf2 r hr) (by omega)
 have g2 := fun k (hk : 1 ≠ k) h hh => check_ok (num := 1) (e0 := (readE s d takesV).err) (u := (readE s d takesV).unk) (d := d) (en := s.length) (by omega) hsh (p := k :: p) (id := 82 :: 0 :: 1 :: p) (Apart.own2 hk) (h := h) hh
 have g3 := fun k (hk : 1 ≠ k) h hh => one_ok (nums := [1, 2, 3, 4, 5, 6, 7]) (by simp) (rs := (readE s d takesV).recs) (by omega) (e0 := encO e1) (u := .str (readE s d takesV).unk) (dd := .int .i64 d) (en := .int .i64 s.length) (p := k :: p) (id := 82 :: 0 :: 1 :: p) (Apart.own2 hk) (h := h) hh
 have gr : H (36 :: 0 :: p) = some zV := by
  have e1 := congrFun gD (36 :: 0 :: p)
  simpa using e1
 have gD' : dropFrom p 0 H = dropFrom p 0 h := by
  have e1 := congrArg (dropFrom p 0) gD
  simpa using e1
 have ne1 : ∀ t k, ¬ (t :: k :: p) = (82 :: 0 :: 1 :: p) := fun t k e => by have := congrArg List.length e; simp at this
 have ux : ∀ (h : Heap) (cs : List A) (t k : Nat), upd h (82 :: 0 :: 1 :: p) cs (t :: k :: p) = h (t :: k :: p) := fun h cs t k => by simp only [upd, if_neg (ne1 t k)]
 have ux2 : ∀ (h : Heap) (cs : List A) (t k : Nat), upd h (t :: k :: p) cs (82 :: 0 :: 1 :: p) = h (82 :: 0 :: 1 :: p) := fun h cs t k => by simp only [upd, if_neg (Ne.symm (ne1 t k))]
 have udr : ∀ (k : Nat) (h : Heap), 1 ≠ k → dropFrom (k :: p) 0 h (82 :: 0 :: 1 :: p) = h (82 :: 0 :: 1 :: p) := fun k h hk => drop_other ((Apart.own2 hk).at_ 0)
 rw [← he1] at g2
 rw [hgo] at g3
 have nl6 : ((6 : Nat) : Int) = 6 := rfl
 have nl7 : ((7 : Nat) : Int) = 7 := rfl
 have hol := oneR_all [1, 2, 3, 4, 5, 6, 7] (readE s d takesV).recs ⟨0, 0, [], []⟩
 have hstr := readE_str (s := s) (d := d) (t := takesV)
 have hgo2 : (readE s d takesV).recs.foldl (stepOne [1, 2, 3, 4, 5, 6, 7]) ⟨0, 0, [], []⟩ = o := hgo
 rw [hgo2] at hol
 simp only [List.flatten_nil, List.length_nil, Nat.zero_add] at hol
 have hread : ∀ (j : Nat) (q : Id) (h : Heap), Apart q (85 :: 0 :: j :: p) → h (85 :: 0 :: j :: p) = some [.fn 39 []] → callW E q 106 [.str o.all.flatten, .int .i64 (d - 1), .ptr (85 :: 0 :: j :: p) 0] h = some (.tuple [.agg [.slice (y.1.1.map encV) none, .str y.1.2], encO y.2], dropFrom q 0 h) := by
  intro j q h a hc
  have e := listsV1_ok (s := o.all.flatten) (by omega) (d := d - 1) (by omega) (rd := rd) (fun t ht h0 => hrd t (by omega) h0) a hc
  rw [hy] at e
  exact e
 have g4 := fun k h => listsV_ok (f := 39) (k :: p) h
 have g5 := fun k j (hk : 1 ≠ k) (hj : j ≠ k) h hh hc => innerSV_ok hd0 hd (o := o) (by omega) (by omega) (hread j) (e0 := e1) (u := .str (readE s d takesV).unk) (en := s.length) (l := growing (45, 5) (recsA (readE s d takesV).recs)) (p := k :: p) (id := 82 :: 0 :: 1 :: p) (Apart.own2 hk) (Apart.own2 hj) (h := h) hh hc
 have ne4 : ∀ t k T j, ¬ (t :: k :: p) = (T :: 0 :: j :: p) := fun t k T j e => by have := congrArg List.length e; simp at this
 have ux4 : ∀ (h : Heap) (cs : List A) (t k T j : Nat), upd h (T :: 0 :: j :: p) cs (t :: k :: p) = h (t :: k :: p) := fun h cs t k T j => by simp only [upd, if_neg (ne4 t k T j)]
 have ux5 : ∀ (h : Heap) (cs : List A) (t k T j : Nat), upd h (t :: k :: p) cs (T :: 0 :: j :: p) = h (T :: 0 :: j :: p) := fun h cs t k T j => by simp only [upd, if_neg (Ne.symm (ne4 t k T j))]
 have ux6 : ∀ (h : Heap) (cs : List A) (j : Nat), upd h (85 :: 0 :: j :: p) cs (82 :: 0 :: 1 :: p) = h (82 :: 0 :: 1 :: p) := fun h cs j => by simp [upd]
 have udr4 : ∀ (k j T : Nat) (h : Heap), j ≠ k → dropFrom (k :: p) 0 h (T :: 0 :: j :: p) = h (T :: 0 :: j :: p) := fun k j T h hk => drop_other ((Apart.own2 hk).at_ 0)
 have ci : (o.num : Int) = 5 := by omega
 have hfe : failO s.length (o.num : Int) e1 y.2 = failO s.length 5 e1 y.2 := by rw [ci]
 simp only [mrdM, mrd, encOne, intsA, List.map_cons, List.map_nil, nl1, nl2, nl3, nl4, nl5, nl6, nl7, zV, val0] at g gH g2 g3 g5 gr ⊢
 rw [hfe] at g5
 simp only [ci] at g5
 rw [hv, eq_39]
 cases hE : failO s.length 5 e1 y.2 with
 | none =>
  rw [hE] at g5
  simp only [encO_none, orNone] at *
  simp -implicitDefEqProofs (maxSteps := 1000000) [Tryz.f39, Code.hide, Code.key, g, gH, gr, ux, ux2, udr, ux4, ux5, udr4, g2, g3, g4, g5, hfe, ux6, ci, hn, drop_upd_under, under2, gD', encV, encVs, encKs]
 | some e =>
  rw [hE] at g5
  simp only [encO_some, orNone] at *
  simp -implicitDefEqProofs (maxSteps := 1000000) [Tryz.f39, Code.hide, Code.key, g, gH, gr, ux, ux2, udr, ux4, ux5, udr4, g2, g3, g4, g5, hfe, ux6, ci, hn, drop_upd_under, under2, gD', encV, encVs, encKs]
  simp [val0, encV, encVs, encKs]
theorem unm_listK {s : List UInt8} (hb : s.length ≤ 549755813888) {d : Int} (hd0 : 0 ≤ d) (hd : d ≤ 9223372036854775807) (p : Id) (h : Heap) (e1 : Option Err) (he1 : e1 = checkO s.length 1 (readE s d takesV).err (readE s d takesV).recs) (o : OneR) (hgo : oneR [1, 2, 3, 4, 5, 6, 7] (readE s d takesV).recs = o) (hn : o.num = 6)
  {rd : List UInt8 → KV × Option Err} (hrd : ∀ t : List UInt8, t.length ≤ s.length → 0 ≤ d - 1 → ∀ (q : Id) (h : Heap), callW E q 17 [.str t, .int .i64 (d - 1 - 1)] h = some (.tuple [.agg (encK (rd t).1), encO (rd t).2], dropFrom q 0 h))
  (y : (List KV × List UInt8) × Option Err) (hy : someR rd o.all.flatten (d - 1) = y) (v : Val × Option Err) (hv : v = orNone val0 ((.mk 6 [] false 0 [] y.1.1 y.1.2 (readE s d takesV).unk), failO s.length 6 e1 y.2)) :
  callW E p 39 [.str s, .int .i64 d] h = some (.tuple [.agg (encV v.1), encO v.2], dropFrom p 0 h) := by
 obtain ⟨hf1, hf2, hf3, hf4⟩ := readE_facts (s := s) (d := d) (t := takesV)
 obtain ⟨H, g, gH, gD⟩ := mread_ok (s := s) (by omega) hd (t := takesV) takes_ok (1 :: p) (upd h (36 :: 0 :: p) zV)
 have hsh : Short 1099511627776 (readE s d takesV).recs := fun r hr => Nat.le_trans (hf2 r hr) (by omega)
 have g2 := fun k (hk : 1 ≠ k) h hh => check_ok (num := 1) (e0 := (readE s d takesV).err) (u := (readE s d takesV).unk) (d := d) (en := s.length) (by omega) hsh (p := k :: p) (id := 82 :: 0 :: 1 :: p) (Apart.own2 hk) (h := h) hh
 have g3 := fun k (hk : 1 ≠ k) h hh => one_ok (nums := [1, 2, 3, 4, 5, 6, 7]) (by simp) (rs := (readE s d takesV).recs) (by omega) (e0 := encO e1) (u := .str (readE s d takesV).unk) (dd := .int .i64 d) (en := .int .i64 s.length) (p := k :: p) (id := 82 :: 0 :: 1 :: p) (Apart.own2 hk) (h := h) hh
 have gr : H (36 :: 0 :: p) = some zV := by
  have e1 := congrFun gD (36 :: 0 :: p)
  simpa using e1
 have gD' : dropFrom p 0 H = dropFrom p 0 h := by
  have e1 := congrArg (dropFrom p 0) gD
  simpa using e1
 have ne1 : ∀ t k, ¬ (t :: k :: p) = (82 :: 0 :: 1 :: p) := fun t k e => by have := congrArg List.length e; simp at this
 have ux : ∀ (h : Heap) (cs : List A) (t k : Nat), upd h (82 :: 0 :: 1 :: p) cs (t :: k :: p) = h (t :: k :: p) := fun h cs t k => by simp only [upd, if_neg (ne1 t k)]
 have ux2 : ∀ (h : Heap) (cs : List A) (t k : Nat), upd h (t :: k :: p) cs (82 :: 0 :: 1 :: p) = h (82 :: 0 :: 1 :: p) := fun h cs t k => by simp only [upd, if_neg (Ne.symm (ne1 t k))]
 have udr : ∀ (k : Nat) (h : Heap), 1 ≠ k → dropFrom (k :: p) 0 h (82 :: 0 :: 1 :: p) = h (82 :: 0 :: 1 :: p) := fun k h hk => drop_other ((Apart.own2 hk).at_ 0)
 rw [← he1] at g2
 rw [hgo] at g3
 have nl6 : ((6 : Nat) : Int) = 6 := rfl
 have nl7 : ((7 : Nat) : Int) = 7 := rfl
 have hol := oneR_all [1, 2, 3, 4, 5, 6, 7] (readE s d takesV).recs ⟨0, 0, [], []⟩
 have hstr := readE_str (s := s) (d := d) (t := takesV)
 have hgo2 : (readE s d takesV).recs.foldl (stepOne [1, 2, 3, 4, 5, 6, 7]) ⟨0, 0, [], []⟩ = o := hgo
 rw [hgo2] at hol
 simp only [List.flatten_nil, List.length_nil, Nat.zero_add] at hol
 have hread : ∀ (j : Nat) (q : Id) (h : Heap), Apart q (49 :: 0 :: j :: p) → h (49 :: 0 :: j :: p) = some [.fn 17 []] → callW E q 110 [.str o.all.flatten, .int .i64 (d - 1), .ptr (49 :: 0 :: j :: p) 0] h = some (.tuple [.agg [.slice (y.1.1.map encK) none, .str y.1.2], encO y.2], dropFrom q 0 h) := by
  intro j q h a hc
  have e := listsK1_ok (s := o.all.flatten) (by omega) (d := d - 1) (by omega) (rd := rd) (fun t ht h0 => hrd t (by omega) h0) a hc
  rw [hy] at e
  exact e
 have g4 := fun k h => listsK_ok (f := 17) (k :: p) h
 have g5 := fun k j (hk : 1 ≠ k) (hj : j ≠ k) h hh hc => innerSK_ok hd0 hd (o := o) (by omega) (by omega) (hread j) (e0 := e1) (u := .str (readE s d takesV).unk) (en := s.length) (l := growing (45, 5) (recsA (readE s d takesV).recs)) (p := k :: p) (id := 82 :: 0 :: 1 :: p) (Apart.own2 hk) (Apart.own2 hj) (h := h) hh hc
 have ne4 : ∀ t k T j, ¬ (t :: k :: p) = (T :: 0 :: j :: p) := fun t k T j e => by have := congrArg List.length e; simp at this
 have ux4 : ∀ (h : Heap) (cs : List A) (t k T j : Nat), upd h (T :: 0 :: j :: p) cs (t :: k :: p) = h (t :: k :: p) := fun h cs t k T j => by simp only [upd, if_neg (ne4 t k T j)]
 have ux5 : ∀ (h : Heap) (cs : List A) (t k T j : Nat), upd h (t :: k :: p) cs (T :: 0 :: j :: p) = h (T :: 0 :: j :: p) := fun h cs t k T j => by simp only [upd, if_neg (Ne.symm (ne4 t k T j))]
 have ux6 : ∀ (h : Heap) (cs : List A) (j : Nat), upd h (49 :: 0 :: j :: p) cs (82 :: 0 :: 1 :: p) = h (82 :: 0 :: 1 :: p) := fun h cs j => by simp [upd]
 have udr4 : ∀ (k j T : Nat) (h : Heap), j ≠ k → dropFrom (k :: p) 0 h (T :: 0 :: j :: p) = h (T :: 0 :: j :: p) := fun k j T h hk => drop_other ((Apart.own2 hk).at_ 0)
 have ci : (o.num : Int) = 6 := by omega
 have hfe : failO s.length (o.num : Int) e1 y.2 = failO s.length 6 e1 y.2 := by rw [ci]
 simp only [mrdM, mrd, encOne, intsA, List.map_cons, List.map_nil, nl1, nl2, nl3, nl4, nl5, nl6, nl7, zV, val0] at g gH g2 g3 g5 gr ⊢
 rw [hfe] at g5
 simp only [ci] at g5
 rw [hv, eq_39]
 cases hE : failO s.length 6 e1 y.2 with
 | none =>
  rw [hE] at g5
  simp only [encO_none, orNone] at *
  simp -implicitDefEqProofs (maxSteps := 1000000) [Tryz.f39, Code.hide, Code.key, g, gH, gr, ux, ux2, udr, ux4, ux5, udr4, g2, g3, g4, g5, hfe, ux6, ci, hn, drop_upd_under, under2, gD', encV, encVs, encKs]
 | some e =>
  rw [hE] at g5
  simp only [encO_some, orNone] at *
  simp -implicitDefEqProofs (maxSteps := 1000000) [Tryz.f39, Code.hide, Code.key, g, gH, gr, ux, ux2, udr, ux4, ux5, udr4, g2, g3, g4, g5, hfe, ux6, ci, hn, drop_upd_under, under2, gD', encV, encVs, encKs]
  simp [val0, encV, encVs, encKs]
end Go.Ai.T

namespace Go.Ai.T
open Go Go.Proofs
set_option maxRecDepth 100000
set_option maxHeartbeats 4000000
def partO (num : Nat) : Option (List UInt8) → List Rec → Option (List UInt8)
 | o, [] => o
 | o, r :: rs => if r.num = num then partO num (some (o.getD [] ++ r.s)) rs else partO num o rs
def pofFr (id bid : Id) (f num : Nat) (v6 : A) (has : Bool) (rs : List Rec) (i : Nat) : Fr := ((((((((bot.set 18 (.int .i64 i)).set 17 (.int .i64 rs.length)).set 16 (.slice (recsA rs) none)).set 9 (.bool has)).set 8 (.ptr bid 0)).set 6 v6).set 2 (.fn f [])).set 1 (.int .i64 num)).set 0 (.ptr id 0)
theorem pof_loop {id : Id} {f num : Nat} {rs : List Rec} (hn : rs.length ≤ 1099511627776) :
  ∀ (rest : List Rec) (i : Nat) (o : Option (List UInt8)), rs.drop i = rest → i ≤ rs.length → (o.getD []).length + strLen rest ≤ 1099511627776 → ∃ k, ∀ (p : Id) (v6 : A) (kb c0 c : Nat) (h : Heap), kb < c0 → c0 ≤ c →
   h (53 :: kb :: p) = some (bld (53 :: kb :: p) o) →
  iterW E 38 p [0, 1, 2, 6, 8, 9, 16, 17, 18] L_38_4 c0 (pofFr id (53 :: kb :: p) f num v6 o.isSome rs i) c h =
   some (.exit 0, pofFr id (53 :: kb :: p) f num v6 (partO num o rest).isSome rs rs.length, c + k, upd (dropFrom p c0 h) (53 :: kb :: p) (bld (53 :: kb :: p) (partO num o rest))) := by
 intro rest
 induction rest with
 | nil =>
  intro i o hj hi2 hb
  refine ⟨0, fun p v6 kb c0 c h h2 h3 hx => ?_⟩
  obtain ⟨q1, q2, q3, q4, q5, q6⟩ := own_facts (p := p) 53 kb
  have hge := drop_end hj
  have hlen : i = rs.length := by omega
  subst hlen
  have hlt' : ¬ ((rs.length : Nat) : Int) < rs.length := by omega
  unfold pofFr
  rw [rd_38_4]
  generalize hr : execW E 38 p _ _ _ _ = e
  simp -implicitDefEqProofs (maxSteps := 1000000) [Tryz.f38, Code.loopAt, Code.key, hlt'] at hr
  subst hr
  have e3 : partO num o [] = o := rfl
  rw [e3, upd_id (h := dropFrom p c0 h) (by rw [q2 _ _ h2, hx])]
  simp
 | cons r rest ih =>
  intro i o hj hi2 hb
  obtain ⟨hlt, hbb, hbs⟩ := drop_facts hj
  rw [strLen_cons] at hb
  have hlt' : (i : Int) < rs.length := by omega
  have hw : IntKind.i64.wrap ((i : Int) + 1) = ((i + 1 : Nat) : Int) := by rw [wrap_i64 (by omega) (by omega)]; rfl
  have hrl : (recsA rs).length = rs.length := by simp [recsA]
  have hget? : (recsA rs)[i]? = some (recCells r) := by simp [recsA, hbb]
  have hget : ∀ hl, (recsA rs)[i]'hl = recCells r := fun hl => by rw [List.getElem?_eq_getElem hl] at hget?; exact Option.some.inj hget?
  by_cases hnum : r.num = num
  ·obtain ⟨k, gl⟩ := ih (i + 1) (some (o.getD [] ++ r.s)) hbs (by omega) (by simp; omega)
   refine ⟨2 + k, fun p v6 kb c0 c h h2 h3 hx => ?_⟩
   obtain ⟨q1, q2, q3, q4, q5, q6⟩ := own_facts (p := p) 53 kb
   have n0 : kb ≠ c := by omega
   have n1 : kb ≠ c + 1 := by omega
   have hnum' : (r.num : Int) = num := by omega
   have g2 := fun k h (hne : kb ≠ k) hh => sbwrite_ok (id := kb :: p) (T := 53) (Or.inl rfl) (o := o) (s := r.s) (by omega) (p := k :: p) (Apart.own hne) (h := h) hh
   have hc1 : c0 ≤ c + 1 := by omega
   have e := gl p v6 kb c0 (c + 2) (upd (dropFrom p c0 h) (53 :: kb :: p) (bld (53 :: kb :: p) (some (o.getD [] ++ r.s)))) h2 (by omega) (by simp)
   rw [q1 _ _ _ h2, drop_drop_self, upd_upd] at e
   have e3 : partO num o (r :: rest) = partO num (some (o.getD [] ++ r.s)) rest := by rw [partO, if_pos hnum]
   rw [e3]
   unfold pofFr at e ⊢
   rw [rd_38_4]
   generalize hr : execW E 38 p _ _ _ _ = ee
   simp -implicitDefEqProofs (maxSteps := 1000000) [-Int.natCast_add, Tryz.f38, Code.loopAt, Code.key, recCells, hx, q1, q2, q3, q4, q5, q6, n0, n1, g2, eq_true hnum, eq_true hnum', hlt, hlt', hrl, hget?, hget, hw] at hr
   subst hr
   simp [-Int.natCast_add]
   rw [q1 _ _ _ h2, drop_drop_cons hc1, drop_upd h3]
   simpa [-Int.natCast_add, Nat.add_assoc] using e
  ·obtain ⟨k, gl⟩ := ih (i + 1) o hbs (by omega) (by omega)
   refine ⟨1 + k, fun p v6 kb c0 c h h2 h3 hx => ?_⟩
   obtain ⟨q1, q2, q3, q4, q5, q6⟩ := own_facts (p := p) 53 kb
   have hnum' : ¬ (r.num : Int) = num := by omega
   have e := gl p v6 kb c0 (c + 1) (dropFrom p c0 h) h2 (by omega) (by rw [q2 _ _ h2, hx])
   rw [drop_drop_self] at e
   have e3 : partO num o (r :: rest) = partO num o rest := by rw [partO, if_neg hnum]
   rw [e3]
   unfold pofFr at e ⊢
   rw [rd_38_4]
   generalize hr : execW E 38 p _ _ _ _ = ee
   simp -implicitDefEqProofs (maxSteps := 1000000) [-Int.natCast_add, Tryz.f38, Code.loopAt, Code.key, recCells, hnum, hnum', hlt, hlt', hrl, hget?, hget, hw] at hr
   subst hr
   simp [-Int.natCast_add]
   rw [drop_upd h3]
   simpa [-Int.natCast_add, Nat.add_assoc] using e
theorem pof_yes {id : Id} {f num : Nat} {rs : List Rec} (hn : rs.length ≤ 1099511627776) (hst : strLen rs ≤ 1099511627776) {d : Int} (hd0 : 0 ≤ d) (hd : d ≤ 9223372036854775807) {t : List UInt8} (hp : partO num none rs = some t) (htl : t.length ≤ 1099511627776) {x : Val} {e1 : Option Err}
  (hread : ∀ (q : Id) (h : Heap), callW E q f [.str t, .int .i64 (d - 1)] h = some (.tuple [.agg (encV x), encO e1], dropFrom q 0 h)) {e0 : Option Err} {u : A} {en : Nat} {p : Id} (a : Apart p id) {h : Heap} (hh : h id = some [encO e0, u, .int .i64 d, .int .i64 en, growing (45, 5) (recsA rs)]) :
  callW E p 38 [.ptr id 0, .int .i64 num, .fn f []] h = some (.tuple [.agg (encV x), .bool true], upd (dropFrom p 0 h) id [encO (failO en num e0 e1), u, .int .i64 d, .int .i64 en, growing (45, 5) (recsA rs)]) := by
 obtain ⟨f1, f2, f3, f4, f5, f6⟩ := a.facts
 obtain ⟨k, gl⟩ := pof_loop (id := id) (f := f) (num := num) hn rs 0 none rfl (Nat.zero_le _) (by simpa using hst)
 rw [hp] at gl
 have hbn : ∀ id, bld id none = [.nilp, .nils] := fun _ => rfl
 have g := fun v6 h => gl p v6 1 2 2 h (by omega) (Nat.le_refl _)
 have g3 := fun k h (hh : h (53 :: 1 :: p) = some (bld (53 :: 1 :: p) (some t))) => sbstring_ok (o := some t) (by unfold maxStr; simp; omega) (p := k :: p) (h := h) hh
 have g4 := fun k h hh => partV_ok (num := num) hd0 hd hread (e0 := e0) (u := u) (l := growing (45, 5) (recsA rs)) (en := en) (a.sub k) (h := h) hh
 have hrl : (recsA rs).length = rs.length := by simp [recsA]
 obtain ⟨cs, hcs, hsh⟩ := flatV x
 rw [hcs] at g4 ⊢
 obtain ⟨k0, s0, b0, n0, l0, m0, i0, u0, rfl⟩ := hsh
 simp only [pofFr, hbn, nat0, Option.isSome_none, Option.isSome_some, Option.getD_some] at g g3
 rw [eq_38]
 simp -implicitDefEqProofs (maxSteps := 1000000) [Tryz.f38, Code.hide, Code.key, hh, f1, f2, f3, f4, f5, f6, hrl, g, g3, g4]
theorem pof_no {id : Id} {f num : Nat} {rs : List Rec} (hn : rs.length ≤ 1099511627776) (hst : strLen rs ≤ 1099511627776) (hp : partO num none rs = none)
  {e0 u dd en : A} {p : Id} (a : Apart p id) {h : Heap} (hh : h id = some [e0, u, dd, en, growing (45, 5) (recsA rs)]) :
  callW E p 38 [.ptr id 0, .int .i64 num, .fn f []] h = some (.tuple [.agg (encV val0), .bool false], dropFrom p 0 h) := by
 obtain ⟨f1, f2, f3, f4, f5, f6⟩ := a.facts
 obtain ⟨k, gl⟩ := pof_loop (id := id) (f := f) (num := num) hn rs 0 none rfl (Nat.zero_le _) (by simpa using hst)
 rw [hp] at gl
 have hbn : ∀ id, bld id none = [.nilp, .nils] := fun _ => rfl
 have g := fun v6 h => gl p v6 1 2 2 h (by omega) (Nat.le_refl _)
 have hrl : (recsA rs).length = rs.length := by simp [recsA]
 simp only [pofFr, hbn, nat0, Option.isSome_none] at g
 rw [eq_38]
 simp -implicitDefEqProofs (maxSteps := 1000000) [Tryz.f38, Code.hide, Code.key, hh, f1, f2, f3, f4, f5, f6, hrl, g, val0, encV, encVs, encKs]
end Go.Ai.T

namespace Go.Ai.T
open Go Go.Proofs
set_option maxRecDepth 100000
set_option maxHeartbeats 4000000
theorem unmk_no {s : List UInt8} (hb : s.length ≤ 549755813888) {d : Int} (hd : d ≤ 9223372036854775807) (p : Id) (h : Heap) (e1 : Option Err) (he1 : e1 = checkO s.length 1 (readE s d takesK).err (readE s d takesK).recs) (hp : partO 2 none (readE s d takesK).recs = none) :
  callW E p 17 [.str s, .int .i64 d] h = some (.tuple [.agg (encK (orNone kv0 (KV.mk (lastR 1 (readE s d takesK).recs).s false val0 (readE s d takesK).unk, e1)).1), encO (orNone kv0 (KV.mk (lastR 1 (readE s d takesK).recs).s false val0 (readE s d takesK).unk, e1)).2], dropFrom p 0 h) := by
 obtain ⟨hf1, hf2, hf3, hf4⟩ := readE_facts (s := s) (d := d) (t := takesK)
 obtain ⟨H, g, gH, gD⟩ := mread_ok (s := s) (by omega) hd (t := takesK) takesKey_ok (1 :: p) (upd h (38 :: 0 :: p) zK)
 have hsh : Short 1099511627776 (readE s d takesK).recs := fun r hr => Nat.le_trans (hf2 r hr) (by omega)
 have hst := readE_str (s := s) (d := d) (t := takesK)
 have g2 := fun k (hk : 1 ≠ k) h hh => text_ok (num := 1) (e0 := (readE s d takesK).err) (u := (readE s d takesK).unk) (d := d) (en := s.length) (by omega) hsh (p := k :: p) (id := 82 :: 0 :: 1 :: p) (Apart.own2 hk) (h := h) hh
 have g3 := fun k (hk : 1 ≠ k) h hh => pof_no (f := 39) (num := 2) (rs := (readE s d takesK).recs) (by omega) (by omega) hp (e0 := encO e1) (u := .str (readE s d takesK).unk) (dd := .int .i64 d) (en := .int .i64 s.length) (p := k :: p) (id := 82 :: 0 :: 1 :: p) (Apart.own2 hk) (h := h) hh
 have gr : H (38 :: 0 :: p) = some zK := by
  have e1 := congrFun gD (38 :: 0 :: p)
  simpa using e1
 have gD' : dropFrom p 0 H = dropFrom p 0 h := by
  have e1 := congrArg (dropFrom p 0) gD
  simpa using e1
 have ne1 : ∀ t k, ¬ (t :: k :: p) = (82 :: 0 :: 1 :: p) := fun t k e => by have := congrArg List.length e; simp at this
 have ux : ∀ (h : Heap) (cs : List A) (t k : Nat), upd h (82 :: 0 :: 1 :: p) cs (t :: k :: p) = h (t :: k :: p) := fun h cs t k => by simp only [upd, if_neg (ne1 t k)]
 have ux2 : ∀ (h : Heap) (cs : List A) (t k : Nat), upd h (t :: k :: p) cs (82 :: 0 :: 1 :: p) = h (82 :: 0 :: 1 :: p) := fun h cs t k => by simp only [upd, if_neg (Ne.symm (ne1 t k))]
 have udr : ∀ (k : Nat) (h : Heap), 1 ≠ k → dropFrom (k :: p) 0 h (82 :: 0 :: 1 :: p) = h (82 :: 0 :: 1 :: p) := fun k h hk => drop_other ((Apart.own2 hk).at_ 0)
 rw [← he1] at g2
 simp only [mrdM, mrd, nl1, nl2, zV, zK, val0, kv0, encK, encV, encVs, encKs, List.cons_append, List.nil_append] at g gH g2 g3 gr ⊢
 rw [eq_17]
 cases e1 with
 | none =>
  simp only [encO_none, orNone] at *
  simp -implicitDefEqProofs (maxSteps := 1000000) [Tryz.f17, Code.hide, Code.key, g, gH, gr, ux, ux2, udr, g2, g3, drop_upd_under, under2, gD', encK, encV, encVs, encKs, sameAt, beqL_refl]
 | some e =>
  simp only [encO_some, orNone] at *
  simp -implicitDefEqProofs (maxSteps := 1000000) [Tryz.f17, Code.hide, Code.key, g, gH, gr, ux, ux2, udr, g2, g3, drop_upd_under, under2, gD', encK, encV, encVs, encKs, sameAt, beqL_refl]
theorem unmk_yes {s : List UInt8} (hb : s.length ≤ 549755813888) {d : Int} (hd0 : 0 ≤ d) (hd : d ≤ 9223372036854775807) (p : Id) (h : Heap) (e1 : Option Err) (he1 : e1 = checkO s.length 1 (readE s d takesK).err (readE s d takesK).recs) {t : List UInt8} (hp : partO 2 none (readE s d takesK).recs = some t) (htl : t.length ≤ 1099511627776) {y : Val × Option Err}
  (hread : ∀ (q : Id) (h : Heap), callW E q 39 [.str t, .int .i64 (d - 1)] h = some (.tuple [.agg (encV y.1), encO y.2], dropFrom q 0 h)) (v : KV × Option Err) (hv : v = orNone kv0 (KV.mk (lastR 1 (readE s d takesK).recs).s true y.1 (readE s d takesK).unk, failO s.length 2 e1 y.2)) :
  callW E p 17 [.str s, .int .i64 d] h = some (.tuple [.agg (encK v.1), encO v.2], dropFrom p 0 h) := by
 obtain ⟨hf1, hf2, hf3, hf4⟩ := readE_facts (s := s) (d := d) (t := takesK)
 obtain ⟨H, g, gH, gD⟩ := mread_ok (s := s) (by omega) hd (t := takesK) takesKey_ok (1 :: p) (upd h (38 :: 0 :: p) zK)
 have hsh : Short 1099511627776 (readE s d takesK).recs := fun r hr => Nat.le_trans (hf2 r hr) (by omega)
 have hst := readE_str (s := s) (d := d) (t := takesK)
 have g2 := fun k (hk : 1 ≠ k) h hh => text_ok (num := 1) (e0 := (readE s d takesK).err) (u := (readE s d takesK).unk) (d := d) (en := s.length) (by omega) hsh (p := k :: p) (id := 82 :: 0 :: 1 :: p) (Apart.own2 hk) (h := h) hh
 have g3 := fun k (hk : 1 ≠ k) h hh => pof_yes (f := 39) (num := 2) (rs := (readE s d takesK).recs) (by omega) (by omega) hd0 hd hp htl hread (e0 := e1) (u := .str (readE s d takesK).unk) (en := s.length) (p := k :: p) (id := 82 :: 0 :: 1 :: p) (Apart.own2 hk) (h := h) hh
 have gr : H (38 :: 0 :: p) = some zK := by
  have e1 := congrFun gD (38 :: 0 :: p)
  simpa using e1
 have gD' : dropFrom p 0 H = dropFrom p 0 h := by
  have e1 := congrArg (dropFrom p 0) gD
  simpa using e1
 have ne1 : ∀ t k, ¬ (t :: k :: p) = (82 :: 0 :: 1 :: p) := fun t k e => by have := congrArg List.length e; simp at this
 have ux : ∀ (h : Heap) (cs : List A) (t k : Nat), upd h (82 :: 0 :: 1 :: p) cs (t :: k :: p) = h (t :: k :: p) := fun h cs t k => by simp only [upd, if_neg (ne1 t k)]
 have ux2 : ∀ (h : Heap) (cs : List A) (t k : Nat), upd h (t :: k :: p) cs (82 :: 0 :: 1 :: p) = h (82 :: 0 :: 1 :: p) := fun h cs t k => by simp only [upd, if_neg (Ne.symm (ne1 t k))]
 have udr : ∀ (k : Nat) (h : Heap), 1 ≠ k → dropFrom (k :: p) 0 h (82 :: 0 :: 1 :: p) = h (82 :: 0 :: 1 :: p) := fun k h hk => drop_other ((Apart.own2 hk).at_ 0)
 rw [← he1] at g2
 obtain ⟨yv, ye⟩ := y
 cases yv with
 | mk k0 s0 b0 n0 l0 m0 i0 u0 =>
 have nl2' : ((2 : Nat) : Int) = 2 := rfl
 simp only [mrdM, mrd, nl1, nl2, zV, zK, val0, kv0, encK, encV, encVs, encKs, List.cons_append, List.nil_append] at g gH g2 g3 gr ⊢
 rw [hv, eq_17]
 cases hE : failO s.length 2 e1 ye with
 | none =>
  simp only [hE] at g3
  simp only [encO_none, orNone] at *
  simp -implicitDefEqProofs (maxSteps := 1000000) [Tryz.f17, Code.hide, Code.key, g, gH, gr, ux, ux2, udr, g2, g3, hE, drop_upd_under, under2, gD', encK, encV, encVs, encKs, sameAt, beqL_refl]
 | some e =>
  simp only [hE] at g3
  simp only [encO_some, orNone] at *
  simp -implicitDefEqProofs (maxSteps := 1000000) [Tryz.f17, Code.hide, Code.key, g, gH, gr, ux, ux2, udr, g2, g3, hE, drop_upd_under, under2, gD', encK, encV, encVs, encKs, sameAt, beqL_refl]
  simp [kv0, val0, encK, encV, encVs, encKs]
end Go.Ai.T

namespace Go.Ai.T
open Go Go.Proofs
set_option maxRecDepth 100000
set_option maxHeartbeats 4000000
theorem partO_eq (num : Nat) : ∀ (rs : List Rec) (o : Option (List UInt8)), partO num o rs = if (rs.any fun r => r.num == num) = true then some (o.getD [] ++ joinR num rs) else o
 | [], o => by simp [partO]
 | r :: rs, o => by
  rw [partO]
  by_cases h : r.num = num
  ·rw [if_pos h, partO_eq num rs]
   by_cases h2 : (rs.any fun r => r.num == num) = true
   ·rw [if_pos h2]; simp [h, joinR]
   ·rw [if_neg h2]
    have h3 : joinR num rs = [] := by
     unfold joinR
     rw [List.filter_eq_nil_iff.2 (fun x hx hc => h2 (List.any_eq_true.2 ⟨x, hx, hc⟩))]; rfl
    simp [h, joinR] at h3 ⊢
    exact h3
  ·rw [if_neg h, partO_eq num rs]
   have h' : (r.num == num) = false := by simpa using h
   simp [h', joinR]
theorem unm_neg (d : Int) (hd0 : d < 0) (s : List UInt8) (hb : s.length ≤ 549755813888) :
  (∀ (p : Id) (h : Heap), callW E p 39 [.str s, .int .i64 d] h = some (.tuple [.agg (encV (readV s d).1), encO (readV s d).2], dropFrom p 0 h)) ∧
  (∀ (p : Id) (h : Heap), callW E p 17 [.str s, .int .i64 d] h = some (.tuple [.agg (encK (readK s d).1), encO (readK s d).2], dropFrom p 0 h)) := by
 have hV : readE s d takesV = ⟨some (.at_ 0 (.fld 0 (.code 6))), [], []⟩ := by simp [readE, hd0]
 have hK : readE s d takesK = ⟨some (.at_ 0 (.fld 0 (.code 6))), [], []⟩ := by simp [readE, hd0]
 refine ⟨fun p h => ?_, fun p h => ?_⟩
 ·have e := unm_flat (d := d) hb (by omega) p h (some (.at_ 0 (.fld 0 (.code 6)))) (by rw [hV]; rfl) ⟨0, 0, [], []⟩ (by rw [hV]; rfl) (by simp) (by simp)
  rw [readV, if_pos hd0, hV]
  exact e
 ·have e := unmk_no (d := d) hb (by omega) p h (some (.at_ 0 (.fld 0 (.code 6)))) (by rw [hK]; rfl) (by rw [hK]; rfl)
  rw [readK, if_pos hd0, hK]
  exact e
theorem unm_all : ∀ (m : Nat) (d : Int), (d + 1).toNat ≤ m → d ≤ 9223372036854775807 → ∀ s : List UInt8, s.length ≤ 549755813888 →
  (∀ (p : Id) (h : Heap), callW E p 39 [.str s, .int .i64 d] h = some (.tuple [.agg (encV (readV s d).1), encO (readV s d).2], dropFrom p 0 h)) ∧
  (∀ (p : Id) (h : Heap), callW E p 17 [.str s, .int .i64 d] h = some (.tuple [.agg (encK (readK s d).1), encO (readK s d).2], dropFrom p 0 h)) := by
 intro m
 induction m with
 | zero =>
  intro d hm hd s hb
  exact unm_neg d (by omega) s hb
 | succ m ih =>
  intro d hm hd s hb
  by_cases hd0 : d < 0
  ·exact unm_neg d hd0 s hb
  ·have hst := readE_str (s := s) (d := d) (t := takesK)
   refine ⟨fun p h => ?_, fun p h => ?_⟩
   ·rw [readV, if_neg hd0]
    dsimp only
    generalize hgo : oneR [1, 2, 3, 4, 5, 6, 7] (readE s d takesV).recs = o
    generalize he1 : checkO s.length 1 (readE s d takesV).err (readE s d takesV).recs = e1
    by_cases h5 : o.num = 5
    ·have e := unm_listV hb (by omega) hd p h e1 he1.symm o hgo h5 (rd := fun t => readV t (d - 2)) (fun t ht h1 q h => by rw [show d - 1 - 1 = d - 2 by omega]; exact (ih (d - 2) (by omega) (by omega) t (by omega)).1 q h) _ rfl _ rfl
     simpa [h5] using e
    by_cases h6 : o.num = 6
    ·have e := unm_listK hb (by omega) hd p h e1 he1.symm o hgo h6 (rd := fun t => readK t (d - 2)) (fun t ht h1 q h => by rw [show d - 1 - 1 = d - 2 by omega]; exact (ih (d - 2) (by omega) (by omega) t (by omega)).2 q h) _ rfl _ rfl
     simpa [h6] using e
    have e := unm_flat hb hd p h e1 he1.symm o hgo h5 h6
    unfold flatX at e
    simp only [h5, h6, if_false]
    by_cases a1 : o.num = 1 ∨ o.num = 7
    ·simpa [a1] using e
    by_cases a2 : o.num = 2
    ·simpa [a1, a2] using e
    by_cases a3 : o.num = 3 ∨ o.num = 4
    ·simpa [a1, a2, a3] using e
    ·simpa [a1, a2, a3] using e
   ·rw [readK, if_neg hd0]
    dsimp only
    have hp := partO_eq 2 (readE s d takesK).recs none
    by_cases ha : ((readE s d takesK).recs.any fun r => r.num == 2) = true
    ·rw [if_pos ha] at hp
     have hj := joinR_len 2 (readE s d takesK).recs
     simp only [Option.getD_none, List.nil_append] at hp
     have e := unmk_yes hb (by omega) hd p h _ rfl hp (by omega) (y := readV (joinR 2 (readE s d takesK).recs) (d - 1)) (fun q h => (ih (d - 1) (by omega) (by omega) _ (by omega)).1 q h) _ rfl
     simpa [ha] using e
    ·rw [if_neg ha] at hp
     have e := unmk_no hb hd p h _ rfl hp
     have hf : ∀ e1 : Option Err, failO s.length 2 e1 none = e1 := fun e1 => by cases e1 <;> rfl
     simpa [ha, hf] using e
end Go.Ai.T

