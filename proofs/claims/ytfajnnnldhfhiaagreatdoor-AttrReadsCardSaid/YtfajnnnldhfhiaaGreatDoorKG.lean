/- Part KG of the proof that a law of this program answers yes at every input: no conditions beyond the given statement. -/
import Derived.Test.YtfajnnnldhfhiaaGreatDoorKE
import Derived.Test.YtfajnnnldhfhiaaGreatDoorKM
set_option linter.unusedSimpArgs false
set_option linter.unusedVariables false
set_option linter.all false
namespace Go.Ai.T
open Go Go.Proofs
set_option maxRecDepth 100000
set_option maxHeartbeats 4000000
def encE (e : Err) : A := encErr 47 76 185 e
def encO : Option Err → A
 | none => .nili
 | some e => encE e
@[simp] theorem encO_none : encO none = .nili := rfl
@[simp] theorem encO_some (e : Err) : encO (some e) = encE e := rfl
theorem encE_code (c : Int) : encE (.code c) = .iface 47 (.int .i64 c) := rfl
theorem encE_at (n : Int) (e : Err) : encE (.at_ n e) = .iface 76 (.ref [.int .i64 n, encE e] 0) := rfl
theorem encE_fld (n : Int) (e : Err) : encE (.fld n e) = .iface 185 (.ref [.int .i64 n, encE e] 0) := rfl
theorem encE_iface (e : Err) : ∃ t a, encE e = .iface t a := by
 cases e <;> exact ⟨_, _, rfl⟩
@[simp] theorem encE_weak (e : Err) : (encE e).weak = encE e := by obtain ⟨t, a, h⟩ := encE_iface e; rw [h]; rfl
@[simp] theorem encE_weak1 (e : Err) : (encE e).weak1 = encE e := by obtain ⟨t, a, h⟩ := encE_iface e; rw [h]; rfl
@[simp] theorem encE_noOwn (e : Err) : (encE e).noOwn = encE e := by obtain ⟨t, a, h⟩ := encE_iface e; rw [h]; rfl
@[simp] theorem encE_noOwn1 (e : Err) : (encE e).noOwn1 = encE e := by obtain ⟨t, a, h⟩ := encE_iface e; rw [h]; rfl
@[simp] theorem encE_cells (e : Err) : (encE e).cells = some [encE e] := by obtain ⟨t, a, h⟩ := encE_iface e; rw [h]; rfl
@[simp] theorem encE_stored (e : Err) : (encE e).stored = some [encE e] := by obtain ⟨t, a, h⟩ := encE_iface e; rw [h]; rfl
@[simp] theorem encE_weakR (e : Err) : (encE e).weakR = encE e := by obtain ⟨t, a, h⟩ := encE_iface e; rw [h]; rfl
@[simp] theorem encO_weak (e : Option Err) : (encO e).weak = encO e := by cases e <;> simp
@[simp] theorem encO_weak1 (e : Option Err) : (encO e).weak1 = encO e := by cases e <;> simp
@[simp] theorem encO_noOwn (e : Option Err) : (encO e).noOwn = encO e := by cases e <;> simp
@[simp] theorem encO_noOwn1 (e : Option Err) : (encO e).noOwn1 = encO e := by cases e <;> simp
@[simp] theorem encO_cells (e : Option Err) : (encO e).cells = some [encO e] := by cases e <;> simp
@[simp] theorem encO_stored (e : Option Err) : (encO e).stored = some [encO e] := by cases e <;> simp
@[simp] theorem encO_weakR (e : Option Err) : (encO e).weakR = encO e := by cases e <;> simp
@[simp] theorem eql_err {t : Nat} {e : Err} : binA E.P .eql t true (encE e) .nili = if kindT E.P t = .iface then some (.bool false) else none := by obtain ⟨t, a, h⟩ := encE_iface e; rw [h]; exact bin_ieql2
@[simp] theorem neq_err {t : Nat} {e : Err} : binA E.P .neq t true (encE e) .nili = if kindT E.P t = .iface then some (.bool true) else none := by obtain ⟨t, a, h⟩ := encE_iface e; rw [h]; exact bin_ineq2
@[simp] theorem eql_opt {t : Nat} {e : Option Err} : binA E.P .eql t true (encO e) .nili = if kindT E.P t = .iface then some (.bool e.isNone) else none := by cases e <;> simp
@[simp] theorem neq_opt {t : Nat} {e : Option Err} : binA E.P .neq t true (encO e) .nili = if kindT E.P t = .iface then some (.bool e.isSome) else none := by cases e <;> simp
theorem at_ok (n : Int) (e : Err) (p : Id) (h : Heap) : callW E p 12 [.int .i64 n, encE e] h = some (encE (.at_ n e), dropFrom p 0 h) := by
 rw [eq_12]
 simp -implicitDefEqProofs (maxSteps := 1000000) [Tryz.f12, Code.key]
 rw [encE_at]
theorem in_ok (n : Int) (e : Err) (p : Id) (h : Heap) : callW E p 99 [.int .i64 n, encE e] h = some (encE (.fld n e), dropFrom p 0 h) := by
 rw [eq_99]
 simp -implicitDefEqProofs (maxSteps := 1000000) [Tryz.f99, Code.key]
 rw [encE_fld]
theorem put_loop {p : Id} {c0 : Nat} (k : Nat) : ∀ (n : Nat) (bs : List UInt8), n < 128 ^ (k + 1) → bs.length + k ≤ 1000 → ∀ (c : Nat) (h : Heap),
  iterW E 48 p [0, 3] L_48_2 c0 ((bot.set 3 (growing (5, 1) (bytesA bs))).set 0 (.int .u64 n)) c h = some (.exit 0, (bot.set 3 (growing (5, 1) (bytesA (bs ++ putInit n)))).set 0 (.int .u64 (putLast n)), c, dropFrom p c0 h) := by
 induction k with
 | zero =>
  intro n bs hn hb c h
  rw [rd_48_2]
  have h128 : ¬ (128 : Int) ≤ n := by omega
  generalize hr : execW E 48 p _ _ _ _ = e
  simp -implicitDefEqProofs (maxSteps := 1000000) [Tryz.f48, Code.loopAt, Code.key, h128] at hr
  subst hr
  rw [putInit, putLast, if_pos (by omega), if_pos (by omega)]
  simp
 | succ k ih =>
  intro n bs hn hb c h
  rw [rd_48_2]
  generalize hr : execW E 48 p _ _ _ _ = e
  by_cases h128 : (128 : Int) ≤ n
  ·have hmax : bs.length + 1 ≤ maxStr := by simp only [maxStr]; omega
   have hmax2 : bs.length ≤ 140737488355327 := by omega
   simp -implicitDefEqProofs (maxSteps := 1000000) [Tryz.f48, Code.loopAt, Code.key, h128, IntKind.bits, hmax, hmax2] at hr
   subst hr
   rw [wrap_u8_nat, or128 _ (by omega), bytesA_one (b := UInt8.ofNat (n % 128 + 128)) (by simp; omega), bytesA_append, bytes_growing, fdiv_128]
   have g := ih (n / 128) (bs ++ [UInt8.ofNat (n % 128 + 128)]) (by rw [Nat.pow_succ] at hn; omega) (by simp; omega) c (dropFrom p c0 h)
   rw [putInit.eq_def n, putLast.eq_def n, if_neg (by omega), if_neg (by omega)]
   simpa using g
  ·simp -implicitDefEqProofs (maxSteps := 1000000) [Tryz.f48, Code.loopAt, Code.key, h128] at hr
   subst hr
   rw [putInit, putLast, if_pos (by omega), if_pos (by omega)]
   simp
theorem put_ok {n : Nat} (hn : n < 18446744073709551616) (p : Id) (h : Heap) : callW E p 48 [.int .u64 n] h = some (.str (putV n), dropFrom p 0 h) := by
 have h1 := putLast_lt n
 have h2 := putInit_len n 9 (by omega)
 have hm1 : (putInit n).length ≤ 140737488355327 := by omega
 have hm2 : (putInit n).length + 1 ≤ maxStr := by simp only [maxStr]; omega
 have g := fun h => put_loop (p := p) (c0 := 0) 9 n [] (by omega) (by simp) 0 h
 simp only [bytesA_nil, growing_nil, List.nil_append] at g
 rw [eq_48]
 simp -implicitDefEqProofs (maxSteps := 1000000) [Tryz.f48, Code.hide, Code.key, g, hm1, hm2]
 rw [wrap_u8_nat, bytesA_one (b := UInt8.ofNat (putLast n)) (by simp), bytesA_append]
 simp [putV]
def vreadX : Except Int (Nat × Nat) → Ex × A × A × A
 | .ok (n, k) => (.ret, .int .u64 n, .int .i64 k, .nili)
 | .error c => if c = 1 then (.exit 0, .int .u64 0, .int .i64 0, .nili) else (.ret, .int .u64 0, .int .i64 0, encE (.code c))
theorem vread_loop {p : Id} {c0 : Nat} {s : List UInt8} (hs : s.length ≤ maxStr) {m : Int} (hm1 : m ≤ s.length) (hm3 : m = s.length ∨ m = 10) : ∀ (rest : List UInt8) (i acc : Nat), s.drop i = rest → i ≤ 9 → acc < 2 ^ (7 * i) → ∃ i' acc' : Nat, ∀ (c : Nat) (h : Heap),
  iterW E 142 p [0, 2, 3, 4, 5, 10, 11] L_142_3 c0 (((((((bot.set 11 (.int .i64 i)).set 10 (.int .i64 m)).set 5 (.int .u64 acc)).set 4 .nili).set 3 (.int .i64 0)).set 2 (.int .u64 0)).set 0 (.str s)) c h =
   some ((vreadX (vgo i acc rest)).1, ((((((bot.set 11 (.int .i64 i')).set 10 (.int .i64 m)).set 5 (.int .u64 acc')).set 4 (vreadX (vgo i acc rest)).2.2.2).set 3 (vreadX (vgo i acc rest)).2.2.1).set 2 (vreadX (vgo i acc rest)).2.1).set 0 (.str s), c, dropFrom p c0 h) := by
 intro rest
 induction rest with
 | nil =>
  intro i acc hj hi ha
  refine ⟨i, acc, fun c h => ?_⟩
  rw [rd_142_3]
  have h1 : ¬ (i : Int) < m := by
   have := drop_end hj
   omega
  generalize hr : execW E 142 p _ _ _ _ = e
  simp -implicitDefEqProofs (maxSteps := 1000000) [Tryz.f142, Code.loopAt, Code.key, h1] at hr
  subst hr
  simp [vgo, vreadX]
 | cons b bs ih =>
  intro i acc hj hi ha
  obtain ⟨hlt, hb, hbs⟩ := drop_facts hj
  have h1 : (i : Int) < m := by omega
  have hb256 : b.toNat < 256 := b.toNat_lt
  have hw := wrap_succ hlt hs
  have hw7 : IntKind.i64.wrap (7 * (i : Int)) = 7 * (i : Int) := wrap_i64 (by omega) (by omega)
  have hp : 2 ^ (7 * (i + 1)) = 128 * 2 ^ (7 * i) := by rw [show 7 * (i + 1) = 7 * i + 7 by omega, Nat.pow_add]; omega
  have hmm : b.toNat % 128 * 2 ^ (7 * i) ≤ 127 * 2 ^ (7 * i) := Nat.mul_le_mul_right _ (by omega)
  have hn7 : ¬ 7 * (i : Int) < 0 := by omega
  have hmin : min (7 * (i : Int)).toNat 64 = 7 * i := by omega
  have hand := andNot128 b.toNat hb256
  have hw8 : IntKind.u64.wrap ((b.toNat % 128 : Nat) : Int) = ((b.toNat % 128 : Nat) : Int) := wrap_u64 (by omega) (by omega)
  have step : ¬ (i = 9 ∧ 1 < b.toNat) → b.toNat % 128 * 2 ^ (7 * i) < 18446744073709551616 ∧ acc < 18446744073709551616 := by
   intro h9
   rcases Nat.lt_or_ge i 9 with h8 | h8
   ·have : 2 ^ (7 * i) ≤ 2 ^ 56 := Nat.pow_le_pow_right (by omega) (by omega)
    omega
   ·have hi9 : i = 9 := by omega
    subst hi9
    have : b.toNat ≤ 1 := by omega
    have hm' : b.toNat % 128 * 2 ^ (7 * 9) ≤ 1 * 2 ^ (7 * 9) := Nat.mul_le_mul_right _ (by omega)
    omega
  rw [vgo]
  by_cases h9 : i = 9 ∧ 1 < b.toNat
  ·rw [if_pos h9]
   obtain ⟨rfl, h91⟩ := h9
   refine ⟨9, acc, fun c h => ?_⟩
   rw [rd_142_3]
   have h91' : (1 : Int) < b.toNat := by omega
   have h1' : (9 : Int) < m := h1
   generalize hr : execW E 142 p _ _ _ _ = e
   simp -implicitDefEqProofs (maxSteps := 1000000) [Tryz.f142, Code.loopAt, Code.key, h1', hb, h91', h91] at hr
   subst hr
   simp [vreadX, encE_code]
  ·rw [if_neg h9]
   obtain ⟨hs1, hs2⟩ := step h9
   have hsh : IntKind.u64.wrap (((b.toNat % 128 : Nat) : Int) * 2 ^ (7 * i)) = ((b.toNat % 128 * 2 ^ (7 * i) : Nat) : Int) := by
    have e : (((b.toNat % 128 : Nat) : Int) * 2 ^ (7 * i)) = ((b.toNat % 128 * 2 ^ (7 * i) : Nat) : Int) := by push_cast; rfl
    rw [e]
    exact wrap_u64 (by omega) (by omega)
   have hor : bitsA .or .u64 (acc : Int) ((b.toNat % 128 * 2 ^ (7 * i) : Nat) : Int) = ((acc + b.toNat % 128 * 2 ^ (7 * i) : Nat) : Int) := by
    rw [bitsA_or_u64 _ _ hs2 hs1, or_shift _ _ _ ha]
   have hbig : bitsA .or .u64 (acc : Int) (IntKind.u64.wrap (IntKind.u64.wrap ((b.toNat : Int) % 128) * 2 ^ (7 * i))) = (acc : Int) + (b.toNat : Int) % 128 * 2 ^ (7 * i) := by
    have e0 : ((b.toNat : Int) % 128) = ((b.toNat % 128 : Nat) : Int) := by omega
    rw [e0, hw8, hsh, hor]
    push_cast; rfl
   have hi9 : (i : Int) = 9 → ¬ (1 : Int) < b.toNat := by intro h h2; exact h9 ⟨by omega, by omega⟩
   have hmin2 : min (7 * i) 64 = 7 * i := by omega
   by_cases hc : b.toNat < 128
   ·rw [if_pos hc]
    refine ⟨i, acc + b.toNat % 128 * 2 ^ (7 * i), fun c h => ?_⟩
    rw [rd_142_3]
    have hc' : (b.toNat : Int) < 128 := by omega
    generalize hr : execW E 142 p _ _ _ _ = e
    by_cases hi : (i : Int) = 9
    ·simp -implicitDefEqProofs (maxSteps := 1000000) [Tryz.f142, Code.loopAt, Code.key, h1, hb, hw7, hn7, hmin, hmin2, hand, hbig, hc', hw, eq_true hi, eq_true (show i = 9 by omega), hi9 hi, IntKind.bits] at hr
     subst hr
     simp [vreadX]
    ·simp -implicitDefEqProofs (maxSteps := 1000000) [Tryz.f142, Code.loopAt, Code.key, h1, hb, hw7, hn7, hmin, hmin2, hand, hbig, hc', hw, hi, show ¬ i = 9 by omega, IntKind.bits] at hr
     subst hr
     simp [vreadX]
   ·rw [if_neg hc]
    have hi : i < 9 := by omega
    obtain ⟨i', acc', g⟩ := ih (i + 1) (acc + b.toNat % 128 * 2 ^ (7 * i)) hbs (by omega) (by omega)
    refine ⟨i', acc', fun c h => ?_⟩
    rw [rd_142_3]
    have hc' : ¬ (b.toNat : Int) < 128 := by omega
    generalize hr : execW E 142 p _ _ _ _ = e
    simp -implicitDefEqProofs (maxSteps := 1000000) [Tryz.f142, Code.loopAt, Code.key, h1, hb, hw7, hn7, hmin, hmin2, hand, hbig, hc', hw, show ¬ (i : Int) = 9 by omega, show ¬ i = 9 by omega, IntKind.bits] at hr
    subst hr
    simpa using g c (dropFrom p c0 h)
def encRead : Except Int (Nat × Nat) → A
 | .ok (n, k) => .tuple [.int .u64 n, .int .i64 k, .nili]
 | .error c => .tuple [.int .u64 0, .int .i64 0, encE (.code c)]
theorem vread_ok {s : List UInt8} (hs : s.length ≤ maxStr) (p : Id) (h : Heap) : callW E p 142 [.str s] h = some (encRead (vread s), dropFrom p 0 h) := by
 obtain ⟨i', acc', g⟩ := vread_loop (p := p) (c0 := 0) hs (m := if (10 : Int) < s.length then 10 else s.length) (by split <;> omega) (by split <;> simp) s 0 0 rfl (by omega) (by omega)
 have hv : vgo 0 0 s = vread s := rfl
 rw [hv, nat0] at g
 rw [eq_142]
 cases hr : vread s with
 | ok r =>
  obtain ⟨n, k⟩ := r
  rw [hr] at g
  simp only [vreadX] at g
  simp -implicitDefEqProofs (maxSteps := 1000000) [Tryz.f142, Code.hide, Code.key, g, encRead]
 | error c =>
  rw [hr] at g
  by_cases hc : c = 1
  ·subst hc
   simp only [vreadX, if_true] at g
   simp -implicitDefEqProofs (maxSteps := 1000000) [Tryz.f142, Code.hide, Code.key, g, encRead, encE_code]
  ·simp only [vreadX, if_neg hc] at g
   simp -implicitDefEqProofs (maxSteps := 1000000) [Tryz.f142, Code.hide, Code.key, g, encRead]
end Go.Ai.T

namespace Go.Ai.T
open Go Go.Proofs
set_option maxRecDepth 100000
set_option maxHeartbeats 4000000
def encGet : Except Err (Nat × Nat) → A
 | .ok (n, k) => .tuple [.int .u64 n, .int .i64 k, .nili]
 | .error e => .tuple [.int .u64 0, .int .i64 0, encE e]
theorem get_ok {s : List UInt8} (hs : s.length ≤ maxStr) {q : Nat} (hq : q ≤ s.length) (p : Id) (h : Heap) : callW E p 128 [.str s, .int .i64 q] h = some (encGet (vgetE s q), dropFrom p 0 h) := by
 have hq0 : ¬ (q : Int) < 0 := by omega
 have hq1 : ¬ (s.length : Int) < q := by omega
 have g := vread_ok (s := s.drop q) (by simp; omega)
 rw [eq_128]
 unfold vgetE
 cases hr : vread (s.drop q) with
 | ok r =>
  obtain ⟨n, k⟩ := r
  have hk := vread_lt hr
  have hm := hs; unfold maxStr at hm
  have hk1 : k ≤ s.length - q := by simpa using hk.2.2.1
  have hw : IntKind.i64.wrap ((q : Int) + k) = ((q + k : Nat) : Int) := by rw [wrap_i64 (by omega) (by omega)]; rfl
  simp only [hr, encRead] at g
  simp -implicitDefEqProofs (maxSteps := 1000000) [Tryz.f128, Code.key, g, hq0, hq1, hq, hw, encGet]
 | error c =>
  simp only [hr, encRead] at g
  simp -implicitDefEqProofs (maxSteps := 1000000) [Tryz.f128, Code.key, g, hq0, hq1, hq, encGet, at_ok]
theorem upd_id {h : Heap} {id : Id} {cs : List A} (hh : h id = some cs) : upd h id cs = h := by
 funext i; simp only [upd]
 split
 ·rename_i e; rw [e, hh]
 ·rfl
def rdr (s : List UInt8) (q : Nat) (e : Option Err) (d : Int) : List A := [.str s, .int .i64 q, encO e, .int .i64 d]
theorem varint_ok {s : List UInt8} (hs : s.length ≤ maxStr) {q : Nat} (hq : q ≤ s.length) {d : Int} {n e : Nat} (hv : vgetE s q = .ok (n, e)) {p id : Id} (a : Apart p id) {h : Heap} (hh : h id = some (rdr s q none d)) :
  callW E p 93 [.ptr id 0] h = some (.int .u64 n, upd (dropFrom p 0 h) id (rdr s e none d)) := by
 obtain ⟨f1, f2, f3, f4, f5, f6⟩ := a.facts
 have g := get_ok hs hq
 simp only [hv, encGet] at g
 simp only [rdr, encO_none] at hh ⊢
 rw [eq_93]
 simp -implicitDefEqProofs (maxSteps := 1000000) [Tryz.f93, Code.key, g, hh, f1, f2, f3, f4, f5, f6]
theorem varint_err {s : List UInt8} (hs : s.length ≤ maxStr) {q : Nat} (hq : q ≤ s.length) {d : Int} {e : Err} (hv : vgetE s q = .error e) {p id : Id} (a : Apart p id) {h : Heap} (hh : h id = some (rdr s q none d)) :
  callW E p 93 [.ptr id 0] h = some (.int .u64 0, upd (dropFrom p 0 h) id (rdr s q (some e) d)) := by
 obtain ⟨f1, f2, f3, f4, f5, f6⟩ := a.facts
 have g := get_ok hs hq
 simp only [hv, encGet] at g
 simp only [rdr, encO_none, encO_some] at hh ⊢
 rw [eq_93]
 simp -implicitDefEqProofs (maxSteps := 1000000) [Tryz.f93, Code.key, g, hh, f1, f2, f3, f4, f5, f6]
theorem varint_no {s : List UInt8} {q : Nat} {d : Int} {e : Err} {p id : Id} (a : Apart p id) {h : Heap} (hh : h id = some (rdr s q (some e) d)) :
  callW E p 93 [.ptr id 0] h = some (.int .u64 0, upd (dropFrom p 0 h) id (rdr s q (some e) d)) := by
 obtain ⟨f1, f2, f3, f4, f5, f6⟩ := a.facts
 simp only [rdr, encO_some] at hh ⊢
 rw [eq_93]
 simp -implicitDefEqProofs (maxSteps := 1000000) [Tryz.f93, Code.key, hh, f1, f2, f3, f4, f5, f6]
 exact (upd_id (by rw [f2, hh])).symm
theorem fails_ok {s : List UInt8} {q : Nat} {d : Int} {n : Int} {e : Err} {p id : Id} (a : Apart p id) {h : Heap} (hh : h id = some (rdr s q none d)) :
  callW E p 94 [.ptr id 0, .int .i64 n, encE e] h = some (.tuple [], upd (dropFrom p 0 h) id (rdr s q (some (.at_ n e)) d)) := by
 obtain ⟨f1, f2, f3, f4, f5, f6⟩ := a.facts
 simp only [rdr, encO_none, encO_some] at hh ⊢
 rw [eq_94]
 simp -implicitDefEqProofs (maxSteps := 1000000) [Tryz.f94, Code.key, hh, f1, f2, f3, f4, f5, f6, at_ok]
theorem fails_no {s : List UInt8} {q : Nat} {d : Int} {n : Int} {e x : Err} {p id : Id} (a : Apart p id) {h : Heap} (hh : h id = some (rdr s q (some x) d)) :
  callW E p 94 [.ptr id 0, .int .i64 n, encE e] h = some (.tuple [], upd (dropFrom p 0 h) id (rdr s q (some x) d)) := by
 obtain ⟨f1, f2, f3, f4, f5, f6⟩ := a.facts
 simp only [rdr, encO_none, encO_some] at hh ⊢
 rw [eq_94]
 simp -implicitDefEqProofs (maxSteps := 1000000) [Tryz.f94, Code.key, hh, f1, f2, f3, f4, f5, f6, at_ok]
 exact (upd_id (by rw [f2, hh])).symm
theorem fails_lit {s : List UInt8} {q : Nat} {d : Int} {n c : Int} {p id : Id} (a : Apart p id) {h : Heap} (hh : h id = some [.str s, .int .i64 q, .nili, .int .i64 d]) :
  callW E p 94 [.ptr id 0, .int .i64 n, .iface 47 (.int .i64 c)] h = some (.tuple [], upd (dropFrom p 0 h) id [.str s, .int .i64 q, encE (.at_ n (.code c)), .int .i64 d]) := fails_ok (e := .code c) a hh
theorem take_ok' {s : List UInt8} (hs : s.length ≤ maxStr) {q : Nat} (hq : q ≤ s.length) {d : Int} {n e : Nat} {t : List UInt8} (hv : takeE s q n = .ok (t, e)) {p id : Id} (a : Apart p id) {h : Heap} (hh : h id = some (rdr s q none d)) :
  callW E p 96 [.ptr id 0, .int .u64 n] h = some (.str t, upd (dropFrom p 0 h) id (rdr s e none d)) := by
 obtain ⟨f1, f2, f3, f4, f5, f6⟩ := a.facts
 obtain ⟨rfl, he, hl, rfl⟩ := takeE_lt hv hq
 have hs' := hs; unfold maxStr at hs'
 have hw1 : IntKind.i64.wrap ((s.length : Int) - q) = ((s.length - q : Nat) : Int) := by rw [wrap_i64 (by omega) (by omega)]; omega
 have hw2 : IntKind.u64.wrap ((s.length - q : Nat) : Int) = ((s.length - q : Nat) : Int) := wrap_u64 (by omega) (by omega)
 have hw3 : IntKind.i64.wrap (n : Int) = n := wrap_i64 (by omega) (by omega)
 have hw4 : IntKind.i64.wrap ((q : Int) + n) = ((q + n : Nat) : Int) := by rw [wrap_i64 (by omega) (by omega)]; rfl
 have hw5 : IntKind.i64.wrap (((q + n : Nat) : Int) - n) = (q : Int) := by rw [wrap_i64 (by omega) (by omega)]; omega
 have hlt : ¬ ((s.length - q : Nat) : Int) < n := by omega
 have hlt' : ¬ (s.length - q < n) := by omega
 simp only [rdr, encO_none, encO_some] at hh ⊢
 rw [eq_96]
 simp -implicitDefEqProofs (maxSteps := 1000000) [Tryz.f96, Code.key, hh, f1, f2, f3, f4, f5, f6, hw1, hw2, hw3, hw4, hw5, hlt, hlt']
 have hw6 : IntKind.i64.wrap (q : Int) = q := wrap_i64 (by omega) (by omega)
 rw [hw6]
 refine ⟨⟨by omega, by omega⟩, ⟨by omega, by omega⟩, ?_⟩
 rw [show ((q : Int) + n).toNat = q + n by omega, show (q : Int).toNat = q by omega, List.drop_take, Nat.add_sub_cancel_left]
theorem take_err {s : List UInt8} (hs : s.length ≤ maxStr) {q : Nat} (hq : q ≤ s.length) {d : Int} {n : Nat} {x : Err} (hv : takeE s q n = .error x) {p id : Id} (a : Apart p id) {h : Heap} (hh : h id = some (rdr s q none d)) :
  callW E p 96 [.ptr id 0, .int .u64 n] h = some (.str [], upd (dropFrom p 0 h) id (rdr s q (some x) d)) := by
 obtain ⟨f1, f2, f3, f4, f5, f6⟩ := a.facts
 unfold takeE at hv
 split at hv
 ·rename_i hlt
  simp only [Except.error.injEq] at hv
  subst hv
  have hs' := hs; unfold maxStr at hs'
  have hw1 : IntKind.i64.wrap ((s.length : Int) - q) = ((s.length - q : Nat) : Int) := by rw [wrap_i64 (by omega) (by omega)]; omega
  have hw2 : IntKind.u64.wrap ((s.length - q : Nat) : Int) = ((s.length - q : Nat) : Int) := wrap_u64 (by omega) (by omega)
  have hlt' : ((s.length - q : Nat) : Int) < n := by omega
  have g := fun k h => fails_lit (h := h) (c := 1) (n := q) (d := d) (s := s) (q := q) (a.sub k)
  simp only [rdr, encO_none, encO_some] at hh ⊢
  rw [eq_96]
  simp -implicitDefEqProofs (maxSteps := 1000000) [Tryz.f96, Code.key, hh, f1, f2, f3, f4, f5, f6, hw1, hw2, hlt, hlt', g]
 ·cases hv
theorem take_no {s : List UInt8} {q : Nat} {d : Int} {n : Nat} {x : Err} {p id : Id} (a : Apart p id) {h : Heap} (hh : h id = some (rdr s q (some x) d)) :
  callW E p 96 [.ptr id 0, .int .u64 n] h = some (.str [], upd (dropFrom p 0 h) id (rdr s q (some x) d)) := by
 obtain ⟨f1, f2, f3, f4, f5, f6⟩ := a.facts
 simp only [rdr, encO_none, encO_some] at hh ⊢
 rw [eq_96]
 simp -implicitDefEqProofs (maxSteps := 1000000) [Tryz.f96, Code.key, hh, f1, f2, f3, f4, f5, f6]
 exact (upd_id (by rw [f2, hh])).symm
theorem little_loop {p : Id} {c0 : Nat} {t : List UInt8} (ht : t.length ≤ 8) : ∀ (rest : List UInt8) (i acc : Nat), t.drop i = rest → acc < 2 ^ (8 * i) → ∀ (c : Nat) (h : Heap),
  iterW E 95 p [5, 12, 13, 14] L_95_3 c0 ((((bot.set 14 (.int .i64 i)).set 13 (.int .i64 t.length)).set 12 (.slice (bytesA t) none)).set 5 (.int .u64 acc)) c h =
   some (.exit 0, ((((bot.set 14 (.int .i64 (max i t.length : Nat))).set 13 (.int .i64 t.length)).set 12 (.slice (bytesA t) none)).set 5 (.int .u64 (acc + leN rest * 2 ^ (8 * i) : Nat))), c, dropFrom p c0 h) := by
 intro rest
 induction rest with
 | nil =>
  intro i acc hj ha c h
  rw [rd_95_3]
  have h1 : ¬ (i : Int) < t.length := drop_end hj
  have h2 : max i t.length = i := by omega
  generalize hr : execW E 95 p _ _ _ _ = e
  simp -implicitDefEqProofs (maxSteps := 1000000) [Tryz.f95, Code.loopAt, Code.key, h1] at hr
  subst hr
  simp [leN, h2]
 | cons b bs ih =>
  intro i acc hj ha c h
  obtain ⟨hlt, hb, hbs⟩ := drop_facts hj
  have h1 : (i : Int) < t.length := by omega
  have hb256 : b.toNat < 256 := b.toNat_lt
  have hw : IntKind.i64.wrap ((i : Int) + 1) = ((i + 1 : Nat) : Int) := by rw [wrap_i64 (by omega) (by omega)]; rfl
  have hw7 : IntKind.i64.wrap (8 * (i : Int)) = 8 * (i : Int) := wrap_i64 (by omega) (by omega)
  have hn7 : ¬ 8 * (i : Int) < 0 := by omega
  have hmin : min (8 * (i : Int)).toNat 64 = 8 * i := by omega
  have hp : 2 ^ (8 * (i + 1)) = 256 * 2 ^ (8 * i) := by rw [show 8 * (i + 1) = 8 * i + 8 by omega, Nat.pow_add]; omega
  have hp2 : 2 ^ (8 * (i + 1)) ≤ 2 ^ 64 := Nat.pow_le_pow_right (by omega) (by omega)
  have hmm : b.toNat * 2 ^ (8 * i) ≤ 255 * 2 ^ (8 * i) := Nat.mul_le_mul_right _ (by omega)
  have hs1 : b.toNat * 2 ^ (8 * i) < 18446744073709551616 := by omega
  have hs2 : acc < 18446744073709551616 := by omega
  have hsh : IntKind.u64.wrap ((b.toNat : Int) * 2 ^ (8 * i)) = ((b.toNat * 2 ^ (8 * i) : Nat) : Int) := by
   have e : ((b.toNat : Int) * 2 ^ (8 * i)) = ((b.toNat * 2 ^ (8 * i) : Nat) : Int) := by push_cast; rfl
   rw [e]
   exact wrap_u64 (by omega) (by omega)
  have hor : bitsA .or .u64 (acc : Int) ((b.toNat * 2 ^ (8 * i) : Nat) : Int) = ((acc + b.toNat * 2 ^ (8 * i) : Nat) : Int) := by
   rw [bitsA_or_u64 _ _ hs2 hs1, or_shift _ _ _ ha]
  have hor2 : bitsA .or .u64 (acc : Int) ((b.toNat : Int) * 2 ^ (8 * i)) = ((acc + b.toNat * 2 ^ (8 * i) : Nat) : Int) := by
   rw [← hor]; push_cast; rfl
  have hwb : IntKind.u64.wrap (b.toNat : Int) = b.toNat := wrap_u64 (by omega) (by omega)
  have g := ih (i + 1) (acc + b.toNat * 2 ^ (8 * i)) hbs (by omega) c (dropFrom p c0 h)
  have hmax : max (i + 1) t.length = max i t.length := by omega
  have hle : acc + b.toNat * 2 ^ (8 * i) + leN bs * 2 ^ (8 * (i + 1)) = acc + leN (b :: bs) * 2 ^ (8 * i) := by
   rw [hp, leN, Nat.add_mul, ← Nat.mul_assoc, Nat.mul_comm (leN bs) 256]; omega
  rw [hmax, hle] at g
  rw [rd_95_3]
  generalize hr : execW E 95 p _ _ _ _ = e
  have hbb : (bytesA t)[i]? = some [.int .u8 b.toNat] := by simp [bytesA, hb]
  have hget : ∀ hl, (bytesA t)[i]'hl = [.int .u8 b.toNat] := fun hl => by rw [List.getElem?_eq_getElem hl] at hbb; exact Option.some.inj hbb
  simp -implicitDefEqProofs (maxSteps := 1000000) [-Int.natCast_add, Tryz.f95, Code.loopAt, Code.key, h1, hbb, hget, hb, hw, hw7, hn7, hmin, hsh, hor, hor2, hwb, hlt, IntKind.bits] at hr
  subst hr
  simpa [-Int.natCast_add] using g
theorem little_ok {s : List UInt8} (hs : s.length ≤ maxStr) {q : Nat} (hq : q ≤ s.length) {d : Int} {w e : Nat} (hw : w ≤ 8) {t : List UInt8} (hv : takeE s q w = .ok (t, e)) {p id : Id} (a : Apart p id) {h : Heap} (hh : h id = some (rdr s q none d)) :
  callW E p 95 [.ptr id 0, .int .i64 w] h = some (.int .u64 (leN t), upd (dropFrom p 0 h) id (rdr s e none d)) := by
 obtain ⟨f1, f2, f3, f4, f5, f6⟩ := a.facts
 have g := fun k h hh => take_ok' (h := h) hs hq (d := d) hv (a.sub k) hh
 have ht := (takeE_lt hv hq).2.2.1
 have gl := fun h => little_loop (p := p) (c0 := 1) (t := t) (by omega) t 0 0 rfl (by simp) 1 h
 simp only [Nat.mul_zero, Nat.pow_zero, Nat.mul_one, Nat.zero_add, nat0] at gl
 simp only [rdr, encO_none, encO_some] at hh g ⊢
 have hw : IntKind.u64.wrap (w : Int) = (w : Int) := wrap_u64 (by omega) (by omega)
 rw [eq_95]
 simp -implicitDefEqProofs (maxSteps := 1000000) [Tryz.f95, Code.key, Code.hide, hh, f1, f2, f3, f4, f5, f6, g, hw, gl]
theorem little_err {s : List UInt8} (hs : s.length ≤ maxStr) {q : Nat} (hq : q ≤ s.length) {d : Int} {w : Nat} (hw : w ≤ 8) {x : Err} (hv : takeE s q w = .error x) {p id : Id} (a : Apart p id) {h : Heap} (hh : h id = some (rdr s q none d)) :
  callW E p 95 [.ptr id 0, .int .i64 w] h = some (.int .u64 0, upd (dropFrom p 0 h) id (rdr s q (some x) d)) := by
 obtain ⟨f1, f2, f3, f4, f5, f6⟩ := a.facts
 have g := fun k h hh => take_err (h := h) hs hq (d := d) hv (a.sub k) hh
 have gl := fun h => little_loop (p := p) (c0 := 1) (t := []) (by simp) [] 0 0 rfl (by simp) 1 h
 simp only [Nat.mul_zero, Nat.pow_zero, Nat.mul_one, Nat.zero_add, nat0, leN, bytesA_nil, List.length_nil, Nat.max_self, Nat.zero_mul] at gl
 simp only [rdr, encO_none, encO_some] at hh g ⊢
 have hw : IntKind.u64.wrap (w : Int) = (w : Int) := wrap_u64 (by omega) (by omega)
 rw [eq_95]
 simp -implicitDefEqProofs (maxSteps := 1000000) [Tryz.f95, Code.key, Code.hide, hh, f1, f2, f3, f4, f5, f6, g, hw, gl]
theorem bitsA_and_u64 (a b : Nat) (ha : a < 18446744073709551616) (hb : b < 18446744073709551616) : bitsA .and .u64 (a : Int) (b : Int) = ((a &&& b : Nat) : Int) := by
 have h : a &&& b < 18446744073709551616 := Nat.and_lt_two_pow (n := 64) a (by simpa using hb)
 have e : ∀ x : Nat, x < 18446744073709551616 → (BitVec.ofInt 64 (x : Int)).toNat = x := by
  intro x hx
  simp only [BitVec.toNat_ofInt]
  omega
 show IntKind.u64.wrap (((BitVec.ofInt 64 (a : Int)) &&& (BitVec.ofInt 64 (b : Int))).toNat : Int) = _
 rw [BitVec.toNat_and, e a ha, e b hb]
 exact wrap_u64 (by omega) (by omega)
theorem and7 (n : Nat) (h : n < 18446744073709551616) : bitsA .and .u64 (n : Int) 7 = ((n % 8 : Nat) : Int) := by
 have := bitsA_and_u64 n 7 h (by omega)
 rw [show (7 : Nat) = 2 ^ 3 - 1 from rfl, Nat.and_two_pow_sub_one_eq_mod] at this
 exact this
theorem and29 (n : Nat) (h : n < 18446744073709551616) : bitsA .and .u64 (n : Int) 536870911 = ((n % 536870912 : Nat) : Int) := by
 have := bitsA_and_u64 n 536870911 h (by omega)
 rw [show (536870911 : Nat) = 2 ^ 29 - 1 from rfl, Nat.and_two_pow_sub_one_eq_mod] at this
 exact this
theorem wrap0 : IntKind.i64.wrap 0 = 0 := rfl
theorem tag_ok {s : List UInt8} (hs : s.length ≤ maxStr) {q : Nat} (hq : q ≤ s.length) {d : Int} {num kind e : Nat} (hv : tagE s q = .ok (num, kind, e)) {p id : Id} (a : Apart p id) {h : Heap} (hh : h id = some (rdr s q none d)) :
  callW E p 51 [.ptr id 0] h = some (.tuple [.int .i64 num, .int .i64 kind], upd (dropFrom p 0 h) id (rdr s e none d)) := by
 obtain ⟨f1, f2, f3, f4, f5, f6⟩ := a.facts
 unfold tagE at hv
 split at hv
 ·cases hv
 ·rename_i n e' hg
  split at hv
  ·cases hv
  ·rename_i hr
   simp only [Except.ok.injEq, Prod.mk.injEq] at hv
   obtain ⟨rfl, rfl, rfl⟩ := hv
   have hn := (vgetE_lt hg hq).1
   have g := fun k h hh => varint_ok (h := h) hs hq (d := d) hg (a.sub k) hh
   have h1 : ((n : Int).fdiv 8) = ((n / 8 : Nat) : Int) := fdiv_nat n 8
   have h2 : ¬ ((n / 8 : Nat) : Int) < 1 := by omega
   have h3 : ¬ (536870911 : Int) < ((n / 8 : Nat) : Int) := by omega
   have h4 := and29 (n / 8) (by omega)
   rw [Nat.mod_eq_of_lt (by omega)] at h4
   have h5 := and7 n hn
   have h6 : IntKind.i64.wrap ((n / 8 : Nat) : Int) = ((n / 8 : Nat) : Int) := wrap_i64 (by omega) (by omega)
   have h7 : IntKind.i64.wrap ((n % 8 : Nat) : Int) = ((n % 8 : Nat) : Int) := wrap_i64 (by omega) (by omega)
   simp only [rdr, encO_none, encO_some] at hh g ⊢
   rw [eq_51]
   simp -implicitDefEqProofs (maxSteps := 1000000) [-Int.natCast_ediv, -Int.natCast_emod, Tryz.f51, Code.key, hh, f1, f2, f3, f4, f5, f6, g, IntKind.bits, h1, h2, h3, h4, h5, h6, h7]
theorem tag_err {s : List UInt8} (hs : s.length ≤ maxStr) {q : Nat} (hq : q ≤ s.length) {d : Int} {x : Err} (hv : tagE s q = .error x) : ∃ q' num kind : Nat, ∀ {p id : Id} (a : Apart p id) {h : Heap} (hh : h id = some (rdr s q none d)),
  callW E p 51 [.ptr id 0] h = some (.tuple [.int .i64 num, .int .i64 kind], upd (dropFrom p 0 h) id (rdr s q' (some x) d)) := by
 unfold tagE at hv
 split at hv
 ·rename_i e hg
  simp only [Except.error.injEq] at hv
  subst hv
  refine ⟨q, 0, 0, fun {p id} a {h} hh => ?_⟩
  obtain ⟨f1, f2, f3, f4, f5, f6⟩ := a.facts
  have g := fun k h hh => varint_err (h := h) hs hq (d := d) hg (a.sub k) hh
  have h4 := and29 0 (by omega)
  have h5 := and7 0 (by omega)
  have h6 : Int.fdiv 0 8 = 0 := rfl
  simp only [nat0, Nat.zero_mod] at h4 h5
  simp only [rdr, encO_none, encO_some] at hh g ⊢
  rw [eq_51]
  simp -implicitDefEqProofs (maxSteps := 1000000) [Tryz.f51, Code.key, hh, f1, f2, f3, f4, f5, f6, g, IntKind.bits, h4, h5, h6, wrap0]
 ·rename_i n e' hg
  split at hv
  ·rename_i hr
   simp only [Except.error.injEq] at hv
   subst hv
   refine ⟨e', n / 8 % 536870912, n % 8, fun {p id} a {h} hh => ?_⟩
   obtain ⟨f1, f2, f3, f4, f5, f6⟩ := a.facts
   have hn := (vgetE_lt hg hq).1
   have g := fun k h hh => varint_ok (h := h) hs hq (d := d) hg (a.sub k) hh
   have gf := fun k h => fails_lit (h := h) (c := 3) (n := q) (d := d) (s := s) (q := e') (a.sub k)
   have h1 : ((n : Int).fdiv 8) = ((n / 8 : Nat) : Int) := fdiv_nat n 8
   have h4 := and29 (n / 8) (by omega)
   have h5 := and7 n hn
   have h6 : IntKind.i64.wrap ((n / 8 % 536870912 : Nat) : Int) = ((n / 8 % 536870912 : Nat) : Int) := wrap_i64 (by omega) (by omega)
   have h7 : IntKind.i64.wrap ((n % 8 : Nat) : Int) = ((n % 8 : Nat) : Int) := wrap_i64 (by omega) (by omega)
   simp only [rdr, encO_none, encO_some] at hh g ⊢
   rw [eq_51]
   by_cases h2 : ((n / 8 : Nat) : Int) < 1
   ·simp -implicitDefEqProofs (maxSteps := 1000000) [-Int.natCast_ediv, -Int.natCast_emod, Tryz.f51, Code.key, hh, f1, f2, f3, f4, f5, f6, g, gf, IntKind.bits, h1, h2, h4, h5, h6, h7]
   ·have h3 : (536870911 : Int) < ((n / 8 : Nat) : Int) := by omega
    simp -implicitDefEqProofs (maxSteps := 1000000) [-Int.natCast_ediv, -Int.natCast_emod, Tryz.f51, Code.key, hh, f1, f2, f3, f4, f5, f6, g, gf, IntKind.bits, h1, h2, h3, h4, h5, h6, h7]
  ·cases hv
def recC (num kind n : Int) (s raw : List UInt8) : List A := [.int .i64 num, .int .i64 kind, .int .u64 n, .str s, .str raw]
def GroupY (s : List UInt8) (q : Nat) : Prop := ∀ (d : Int), d ≤ 9223372036854775807 → ∀ (num e : Nat), groupE s d num q = .ok e → ∀ {p id : Id}, Apart p id → ∀ {h : Heap}, h id = some (rdr s q none d) →
  callW E p 97 [.ptr id 0, .int .i64 num] h = some (.tuple [], upd (dropFrom p 0 h) id (rdr s e none d))
def GroupN (s : List UInt8) (q : Nat) : Prop := ∀ (d : Int), d ≤ 9223372036854775807 → ∀ (num : Nat) (x : Err), groupE s d num q = .error x → ∃ q', ∀ {p id : Id}, Apart p id → ∀ {h : Heap}, h id = some (rdr s q none d) →
  callW E p 97 [.ptr id 0, .int .i64 num] h = some (.tuple [], upd (dropFrom p 0 h) id (rdr s q' (some x) d))
def RestY (s : List UInt8) (q : Nat) : Prop := ∀ (d : Int), d ≤ 9223372036854775807 → ∀ (num kind t n e : Nat) (bs : List UInt8), bodyE s d num kind t q = .ok (n, bs, e) → ∀ {p id xid : Id}, Apart p id → Apart p xid → id ≠ xid → ∀ {h : Heap}, h id = some (rdr s q none d) → h xid = some (recC num kind 0 [] []) →
  callW E p 52 [.ptr id 0, .ptr xid 0, .int .i64 t] h = some (.tuple [], upd (upd (dropFrom p 0 h) id (rdr s e none d)) xid (recC num kind n bs []))
def RestN (s : List UInt8) (q : Nat) : Prop := ∀ (d : Int), d ≤ 9223372036854775807 → ∀ (num kind t : Nat) (x : Err), bodyE s d num kind t q = .error x → ∃ q' xs, ∀ {p id xid : Id}, Apart p id → Apart p xid → id ≠ xid → ∀ {h : Heap}, h id = some (rdr s q none d) → h xid = some (recC num kind 0 [] []) →
  callW E p 52 [.ptr id 0, .ptr xid 0, .int .i64 t] h = some (.tuple [], upd (upd (dropFrom p 0 h) id (rdr s q' (some x) d)) xid xs)
theorem upd_comm {h : Heap} {i j : Id} {a b : List A} (hij : i ≠ j) : upd (upd h i a) j b = upd (upd h j b) i a := by
 funext k
 simp only [upd]
 by_cases h1 : k = i
 ·subst h1; simp [hij]
 ·simp [h1]
theorem nl1 : ((1 : Nat) : Int) = 1 := rfl
theorem nl2 : ((2 : Nat) : Int) = 2 := rfl
theorem nl3 : ((3 : Nat) : Int) = 3 := rfl
theorem nl4 : ((4 : Nat) : Int) = 4 := rfl
theorem nl5 : ((5 : Nat) : Int) = 5 := rfl
theorem nl8 : ((8 : Nat) : Int) = 8 := rfl
theorem wl4 : IntKind.i64.wrap 4 = 4 := rfl
theorem wl8 : IntKind.i64.wrap 8 = 8 := rfl
theorem rest_y {s : List UInt8} (hs : s.length ≤ maxStr) {q : Nat} (hq : q ≤ s.length) (hg : GroupY s q) : RestY s q := by
 intro d hd num kind t n e bs hv p id xid a b hne h hh hx
 obtain ⟨f1, f2, f3, f4, f5, f6⟩ := a.facts
 obtain ⟨x1, x2, x3, x4, x5, x6⟩ := b.facts
 have u1 : ∀ (h : Heap) (cs : List A), upd h id cs xid = h xid := fun h cs => by simp [upd, hne.symm]
 have u2 : ∀ (h : Heap) (cs : List A), upd h xid cs id = h id := fun h cs => by simp [upd, hne]
 simp only [rdr, recC, encO_none] at hh hx ⊢
 rw [bodyE] at hv
 rw [eq_52]
 split at hv
 ·rename_i hk
  subst hk
  obtain ⟨⟨n', e'⟩, h1, h2⟩ := map_ok hv
  simp only [Prod.mk.injEq] at h2
  obtain ⟨rfl, rfl, rfl⟩ := h2
  have g := fun k h hh => varint_ok (h := h) hs hq (d := d) h1 (a.sub k) hh
  simp only [rdr, encO_none, nat0] at g hx ⊢
  simp -implicitDefEqProofs (maxSteps := 1000000) [Tryz.f52, Code.key, hh, hx, f1, f2, f3, f4, f5, f6, x1, x2, x3, x4, x5, x6, u1, u2, wl4, wl8, g]
 split at hv
 ·rename_i hk
  subst hk
  obtain ⟨⟨n', e'⟩, h1, h2⟩ := map_ok hv
  simp only [Prod.mk.injEq] at h2
  obtain ⟨rfl, rfl, rfl⟩ := h2
  have g := fun k h hh => little_ok (h := h) hs hq (d := d) (by omega) h1 (a.sub k) hh
  simp only [rdr, encO_none, nl1, nl2, nl3, nl4, nl5, nl8] at g hx ⊢
  simp -implicitDefEqProofs (maxSteps := 1000000) [Tryz.f52, Code.key, hh, hx, f1, f2, f3, f4, f5, f6, x1, x2, x3, x4, x5, x6, u1, u2, wl4, wl8, g]
 split at hv
 ·rename_i hk
  subst hk
  obtain ⟨⟨n', e'⟩, h1, h2⟩ := map_ok hv
  simp only [Prod.mk.injEq] at h2
  obtain ⟨rfl, rfl, rfl⟩ := h2
  have g := fun k h hh => little_ok (h := h) hs hq (d := d) (by omega) h1 (a.sub k) hh
  simp only [rdr, encO_none, nl1, nl2, nl3, nl4, nl5, nl8] at g hx ⊢
  simp -implicitDefEqProofs (maxSteps := 1000000) [Tryz.f52, Code.key, hh, hx, f1, f2, f3, f4, f5, f6, x1, x2, x3, x4, x5, x6, u1, u2, wl4, wl8, g]
 split at hv
 ·rename_i hk
  subst hk
  split at hv
  ·cases hv
  ·rename_i n1 e1 hv1
   obtain ⟨⟨n', e'⟩, h1, h2⟩ := map_ok hv
   simp only [Prod.mk.injEq] at h2
   obtain ⟨rfl, rfl, rfl⟩ := h2
   have g := fun k h hh => varint_ok (h := h) hs hq (d := d) hv1 (a.sub k) hh
   have g2 := fun k h hh => take_ok' (h := h) hs (vgetE_lt hv1 hq).2.2.1 (d := d) h1 (a.sub k) hh
   simp only [rdr, encO_none, nl1, nl2, nl3, nl4, nl5, nl8] at g g2 hx ⊢
   simp -implicitDefEqProofs (maxSteps := 1000000) [Tryz.f52, Code.key, hh, hx, f1, f2, f3, f4, f5, f6, x1, x2, x3, x4, x5, x6, u1, u2, wl4, wl8, g, g2]
 split at hv
 ·rename_i hk
  subst hk
  obtain ⟨e', h1, h2⟩ := map_ok hv
  simp only [Prod.mk.injEq] at h2
  obtain ⟨rfl, rfl, rfl⟩ := h2
  have g := fun k h hh => hg d hd _ _ h1 (a.sub k) (h := h) hh
  simp only [rdr, encO_none, nl1, nl2, nl3, nl4, nl5, nl8] at g hx ⊢
  simp -implicitDefEqProofs (maxSteps := 1000000) [Tryz.f52, Code.key, hh, hx, f1, f2, f3, f4, f5, f6, x1, x2, x3, x4, x5, x6, u1, u2, wl4, wl8, g]
  exact (upd_id (by rw [u1, x2, hx])).symm
 ·cases hv
theorem rest_n {s : List UInt8} (hs : s.length ≤ maxStr) {q : Nat} (hq : q ≤ s.length) (hg : GroupN s q) : RestN s q := by
 intro d hd num kind t x hv
 rw [bodyE] at hv
 split at hv
 ·rename_i hk
  subst hk
  have h1 := map_err hv
  refine ⟨q, recC num 0 0 [] [], ?_⟩
  intro p id xid a b hne h hh hx
  obtain ⟨f1, f2, f3, f4, f5, f6⟩ := a.facts
  obtain ⟨x1, x2, x3, x4, x5, x6⟩ := b.facts
  have u1 : ∀ (h : Heap) (cs : List A), upd h id cs xid = h xid := fun h cs => by simp [upd, hne.symm]
  have u2 : ∀ (h : Heap) (cs : List A), upd h xid cs id = h id := fun h cs => by simp [upd, hne]
  have g := fun k h hh => varint_err (h := h) hs hq (d := d) h1 (a.sub k) hh
  simp only [rdr, recC, encO_none, encO_some, nat0] at g hh hx ⊢
  rw [eq_52]
  simp -implicitDefEqProofs (maxSteps := 1000000) [Tryz.f52, Code.key, hh, hx, f1, f2, f3, f4, f5, f6, x1, x2, x3, x4, x5, x6, u1, u2, wl4, wl8, g]
 split at hv
 ·rename_i hk
  subst hk
  have h1 := map_err hv
  refine ⟨q, recC num 1 0 [] [], ?_⟩
  intro p id xid a b hne h hh hx
  obtain ⟨f1, f2, f3, f4, f5, f6⟩ := a.facts
  obtain ⟨x1, x2, x3, x4, x5, x6⟩ := b.facts
  have u1 : ∀ (h : Heap) (cs : List A), upd h id cs xid = h xid := fun h cs => by simp [upd, hne.symm]
  have u2 : ∀ (h : Heap) (cs : List A), upd h xid cs id = h id := fun h cs => by simp [upd, hne]
  have g := fun k h hh => little_err (h := h) hs hq (d := d) (by omega) h1 (a.sub k) hh
  simp only [rdr, recC, encO_none, encO_some, nl1, nl2, nl3, nl4, nl5, nl8] at g hh hx ⊢
  rw [eq_52]
  simp -implicitDefEqProofs (maxSteps := 1000000) [Tryz.f52, Code.key, hh, hx, f1, f2, f3, f4, f5, f6, x1, x2, x3, x4, x5, x6, u1, u2, wl4, wl8, g]
 split at hv
 ·rename_i hk
  subst hk
  have h1 := map_err hv
  refine ⟨q, recC num 5 0 [] [], ?_⟩
  intro p id xid a b hne h hh hx
  obtain ⟨f1, f2, f3, f4, f5, f6⟩ := a.facts
  obtain ⟨x1, x2, x3, x4, x5, x6⟩ := b.facts
  have u1 : ∀ (h : Heap) (cs : List A), upd h id cs xid = h xid := fun h cs => by simp [upd, hne.symm]
  have u2 : ∀ (h : Heap) (cs : List A), upd h xid cs id = h id := fun h cs => by simp [upd, hne]
  have g := fun k h hh => little_err (h := h) hs hq (d := d) (by omega) h1 (a.sub k) hh
  simp only [rdr, recC, encO_none, encO_some, nl1, nl2, nl3, nl4, nl5, nl8] at g hh hx ⊢
  rw [eq_52]
  simp -implicitDefEqProofs (maxSteps := 1000000) [Tryz.f52, Code.key, hh, hx, f1, f2, f3, f4, f5, f6, x1, x2, x3, x4, x5, x6, u1, u2, wl4, wl8, g]
 split at hv
 ·rename_i hk
  subst hk
  split at hv
  ·rename_i e1 hv1
   simp only [Except.error.injEq] at hv
   subst hv
   refine ⟨q, recC num 2 0 [] [], ?_⟩
   intro p id xid a b hne h hh hx
   obtain ⟨f1, f2, f3, f4, f5, f6⟩ := a.facts
   obtain ⟨x1, x2, x3, x4, x5, x6⟩ := b.facts
   have u1 : ∀ (h : Heap) (cs : List A), upd h id cs xid = h xid := fun h cs => by simp [upd, hne.symm]
   have u2 : ∀ (h : Heap) (cs : List A), upd h xid cs id = h id := fun h cs => by simp [upd, hne]
   have g := fun k h hh => varint_err (h := h) hs hq (d := d) hv1 (a.sub k) hh
   have g2 := fun k h hh => take_no (h := h) (s := s) (q := q) (d := d) (n := 0) (x := e1) (a.sub k) hh
   simp only [rdr, recC, encO_none, encO_some, nat0, nl1, nl2, nl3, nl4, nl5, nl8] at g g2 hh hx ⊢
   rw [eq_52]
   simp -implicitDefEqProofs (maxSteps := 1000000) [Tryz.f52, Code.key, hh, hx, f1, f2, f3, f4, f5, f6, x1, x2, x3, x4, x5, x6, u1, u2, wl4, wl8, g, g2]
  ·rename_i n1 e1 hv1
   have h1 := map_err hv
   refine ⟨e1, recC num 2 0 [] [], ?_⟩
   intro p id xid a b hne h hh hx
   obtain ⟨f1, f2, f3, f4, f5, f6⟩ := a.facts
   obtain ⟨x1, x2, x3, x4, x5, x6⟩ := b.facts
   have u1 : ∀ (h : Heap) (cs : List A), upd h id cs xid = h xid := fun h cs => by simp [upd, hne.symm]
   have u2 : ∀ (h : Heap) (cs : List A), upd h xid cs id = h id := fun h cs => by simp [upd, hne]
   have g := fun k h hh => varint_ok (h := h) hs hq (d := d) hv1 (a.sub k) hh
   have g2 := fun k h hh => take_err (h := h) hs (vgetE_lt hv1 hq).2.2.1 (d := d) h1 (a.sub k) hh
   simp only [rdr, recC, encO_none, encO_some, nl1, nl2, nl3, nl4, nl5, nl8] at g g2 hh hx ⊢
   rw [eq_52]
   simp -implicitDefEqProofs (maxSteps := 1000000) [Tryz.f52, Code.key, hh, hx, f1, f2, f3, f4, f5, f6, x1, x2, x3, x4, x5, x6, u1, u2, wl4, wl8, g, g2]
 split at hv
 ·rename_i hk
  subst hk
  have h1 := map_err hv
  obtain ⟨q', gg⟩ := hg d hd _ _ h1
  refine ⟨q', recC num 3 0 [] [], ?_⟩
  intro p id xid a b hne h hh hx
  obtain ⟨f1, f2, f3, f4, f5, f6⟩ := a.facts
  obtain ⟨x1, x2, x3, x4, x5, x6⟩ := b.facts
  have u1 : ∀ (h : Heap) (cs : List A), upd h id cs xid = h xid := fun h cs => by simp [upd, hne.symm]
  have u2 : ∀ (h : Heap) (cs : List A), upd h xid cs id = h id := fun h cs => by simp [upd, hne]
  have g := fun k h hh => gg (a.sub k) (h := h) hh
  simp only [rdr, recC, encO_none, encO_some, nl1, nl2, nl3, nl4, nl5, nl8] at g hh hx ⊢
  rw [eq_52]
  simp -implicitDefEqProofs (maxSteps := 1000000) [Tryz.f52, Code.key, hh, hx, f1, f2, f3, f4, f5, f6, x1, x2, x3, x4, x5, x6, u1, u2, wl4, wl8, g]
  exact (upd_id (by rw [u1, x2, hx])).symm
 ·rename_i k0 k1 k5 k2 k3
  simp only [Except.error.injEq] at hv
  subst hv
  refine ⟨q, recC num kind 0 [] [], ?_⟩
  intro p id xid a b hne h hh hx
  obtain ⟨f1, f2, f3, f4, f5, f6⟩ := a.facts
  obtain ⟨x1, x2, x3, x4, x5, x6⟩ := b.facts
  have u1 : ∀ (h : Heap) (cs : List A), upd h id cs xid = h xid := fun h cs => by simp [upd, hne.symm]
  have u2 : ∀ (h : Heap) (cs : List A), upd h xid cs id = h id := fun h cs => by simp [upd, hne]
  have g := fun k h => fails_lit (h := h) (c := 3) (n := t) (d := d) (s := s) (q := q) (a.sub k)
  have z0 : ¬ (kind : Int) = 0 := by omega
  have z1 : ¬ (kind : Int) = 1 := by omega
  have z2 : ¬ (kind : Int) = 2 := by omega
  have z3 : ¬ (kind : Int) = 3 := by omega
  have z5 : ¬ (kind : Int) = 5 := by omega
  simp only [rdr, recC, encO_none, encO_some] at g hh hx ⊢
  rw [eq_52]
  simp -implicitDefEqProofs (maxSteps := 1000000) [Tryz.f52, Code.key, hh, hx, f1, f2, f3, f4, f5, f6, x1, x2, x3, x4, x5, x6, u1, u2, wl4, wl8, g, k0, k1, k5, k2, k3, z0, z1, z2, z3, z5]
  exact (upd_id (by rw [u1, x2, hx])).symm
def LoopY (s : List UInt8) (q : Nat) : Prop := ∀ (d : Int), d ≤ 9223372036854775807 → ∀ (num e : Nat), loopE s d num q = .ok e → ∃ k, ∀ {p id : Id}, Apart p id → ∀ {c0 c : Nat}, c0 ≤ c → ∀ {h : Heap}, h id = some (rdr s q none d) →
  iterW E 97 p [0, 1] L_97_3 c0 ((bot.set 1 (.int .i64 num)).set 0 (.ptr id 0)) c h = some (.exit 0, (bot.set 1 (.int .i64 num)).set 0 (.ptr id 0), c + k, upd (dropFrom p c0 h) id (rdr s e none d))
def LoopN (s : List UInt8) (q : Nat) : Prop := ∀ (d : Int), d ≤ 9223372036854775807 → ∀ (num : Nat) (x : Err), loopE s d num q = .error x → ∃ k q', ∀ {p id : Id}, Apart p id → ∀ {c0 c : Nat}, c0 ≤ c → ∀ {h : Heap}, h id = some (rdr s q none d) →
  iterW E 97 p [0, 1] L_97_3 c0 ((bot.set 1 (.int .i64 num)).set 0 (.ptr id 0)) c h = some (.exit 0, (bot.set 1 (.int .i64 num)).set 0 (.ptr id 0), c + k, upd (dropFrom p c0 h) id (rdr s q' (some x) d))
theorem loop_y {s : List UInt8} (hs : s.length ≤ maxStr) {q : Nat} (hq : q ≤ s.length) (hr : ∀ q1, q < q1 → q1 ≤ s.length → RestY s q1) (hl : ∀ q1, q < q1 → q1 ≤ s.length → LoopY s q1) : LoopY s q := by
 intro d hd num e hv
 cases ht : tagE s q with
 | error x => rw [loopE_err ht] at hv; cases hv
 | ok r =>
  obtain ⟨n, kind, q1⟩ := r
  have b1 := tagE_lt ht
  have hs' := hs; unfold maxStr at hs'
  have gt := fun k {p id : Id} (a : Apart p id) h hh => tag_ok (h := h) hs hq (d := d) ht (a.sub k) hh
  rw [loopE_ok ht] at hv
  split at hv
  ·rename_i hk
   subst hk
   split at hv
   ·rename_i hn
    subst hn
    simp only [Except.ok.injEq] at hv
    subst hv
    refine ⟨1, fun {p id} a {c0 c} hc {h} hh => ?_⟩
    obtain ⟨f1, f2, f3, f4, f5, f6⟩ := a.facts
    have g := fun k => gt k a
    simp only [rdr, encO_none] at g hh ⊢
    rw [rd_97_3]
    generalize hr : execW E 97 p _ _ _ _ = e
    simp -implicitDefEqProofs (maxSteps := 1000000) [Tryz.f97, Code.loopAt, Code.key, hh, f1, f2, f3, f4, f5, f6, g, hc] at hr
    subst hr
    simp [f1, f2, f3, f4, hc]
   ·cases hv
  ·rename_i hk4
   split at hv
   ·cases hv
   ·rename_i n2 b2 q2 hb
    have b2' := bodyE_lt hb b1.2.1
    rw [if_pos (by omega)] at hv
    have gr := fun (p id xid : Id) (a : Apart p id) (b : Apart p xid) (hne : id ≠ xid) (h : Heap) hh hx => hr q1 b1.1 b1.2.1 d hd _ _ _ _ _ _ hb a b hne (h := h) hh hx
    obtain ⟨k, gl⟩ := hl q2 (by omega) b2'.2.1 d hd num e hv
    refine ⟨3 + k, fun {p id} a {c0 c} hc {h} hh => ?_⟩
    obtain ⟨f1, f2, f3, f4, f5, f6⟩ := a.facts
    have g := fun k => gt k a
    have g2 := fun t k j (hkj : k ≠ j) h hh => gr (j :: p) id (t :: k :: p) (a.sub j) (Apart.own hkj) (a.ne t k) h hh
    have g3 := fun h => gl (p := p) (id := id) a (c0 := c0) (c := c + 3) (by omega) (h := h)
    have hk4' : ¬ (kind : Int) = 4 := by omega
    simp only [rdr, recC, encO_none] at g g2 g3 hh ⊢
    rw [rd_97_3]
    generalize hr : execW E 97 p _ _ _ _ = e
    simp -implicitDefEqProofs (maxSteps := 1000000) [Tryz.f97, Code.loopAt, Code.key, hh, f1, f2, f3, f4, f5, f6, g, g2, hc, hk4, hk4'] at hr
    subst hr
    simp [f1, f2, f3, f4, hc]
    rw [show c + 1 + 1 + 1 = c + 3 from rfl, drop_upd (by omega), f1, drop_drop_cons (by omega), drop_upd (by omega), f1, drop_drop_cons (by omega), upd_upd, g3 _ (by simp [upd]), f1, drop_drop_self, upd_upd, Nat.add_assoc]
theorem loop_stop {s : List UInt8} {q num : Nat} {d : Int} {x : Err} {p id : Id} (a : Apart p id) {c0 c : Nat} {h : Heap} (hh : h id = some (rdr s q (some x) d)) :
  iterW E 97 p [0, 1] L_97_3 c0 ((bot.set 1 (.int .i64 num)).set 0 (.ptr id 0)) c h = some (.exit 0, (bot.set 1 (.int .i64 num)).set 0 (.ptr id 0), c, dropFrom p c0 h) := by
 obtain ⟨f1, f2, f3, f4, f5, f6⟩ := a.facts
 simp only [rdr, encO_some] at hh ⊢
 rw [rd_97_3]
 generalize hr : execW E 97 p _ _ _ _ = e
 simp -implicitDefEqProofs (maxSteps := 1000000) [Tryz.f97, Code.loopAt, Code.key, hh, f1, f2, f3, f4, f5, f6, a] at hr
 subst hr
 simp
theorem little_no {s : List UInt8} {q : Nat} {d : Int} {w : Nat} (hw : w ≤ 8) {x : Err} {p id : Id} (a : Apart p id) {h : Heap} (hh : h id = some (rdr s q (some x) d)) :
  callW E p 95 [.ptr id 0, .int .i64 w] h = some (.int .u64 0, upd (dropFrom p 0 h) id (rdr s q (some x) d)) := by
 obtain ⟨f1, f2, f3, f4, f5, f6⟩ := a.facts
 have g := fun k h hh => take_no (h := h) (s := s) (q := q) (d := d) (n := w) (x := x) (a.sub k) hh
 have gl := fun h => little_loop (p := p) (c0 := 1) (t := []) (by simp) [] 0 0 rfl (by simp) 1 h
 simp only [Nat.mul_zero, Nat.pow_zero, Nat.mul_one, Nat.zero_add, nat0, leN, bytesA_nil, List.length_nil, Nat.max_self, Nat.zero_mul] at gl
 simp only [rdr, encO_none, encO_some] at hh g ⊢
 have hw : IntKind.u64.wrap (w : Int) = (w : Int) := wrap_u64 (by omega) (by omega)
 rw [eq_95]
 simp -implicitDefEqProofs (maxSteps := 1000000) [Tryz.f95, Code.key, Code.hide, hh, f1, f2, f3, f4, f5, f6, g, hw, gl]
theorem group_no {s : List UInt8} {q num : Nat} {d : Int} (hd : d ≤ 9223372036854775807) {x : Err} {p id : Id} (a : Apart p id) {h : Heap} (hh : h id = some (rdr s q (some x) d)) :
  callW E p 97 [.ptr id 0, .int .i64 num] h = some (.tuple [], upd (dropFrom p 0 h) id (rdr s q (some x) d)) := by
 obtain ⟨f1, f2, f3, f4, f5, f6⟩ := a.facts
 by_cases h1 : d < 1
 ·have g := fun k h => fails_no (h := h) (s := s) (q := q) (d := d) (n := q) (e := .code 6) (x := x) (a.sub k)
  simp only [rdr, encO_none, encO_some, encE_code] at hh g ⊢
  rw [eq_97]
  simp -implicitDefEqProofs (maxSteps := 1000000) [Tryz.f97, Code.key, Code.hide, hh, f1, f2, f3, f4, f5, f6, g, h1]
 ·have g := fun c0 c h => loop_stop (h := h) (s := s) (q := q) (num := num) (d := d - 1) (x := x) (c0 := c0) (c := c) a
  have w1 : IntKind.i64.wrap (d - 1) = d - 1 := wrap_i64 (by omega) (by omega)
  have w2 : IntKind.i64.wrap d = d := wrap_i64 (by omega) (by omega)
  have w3 : d - 1 + 1 = d := by omega
  simp only [rdr, encO_none, encO_some] at hh g ⊢
  rw [eq_97]
  simp -implicitDefEqProofs (maxSteps := 1000000) [Tryz.f97, Code.key, Code.hide, hh, f1, f2, f3, f4, f5, f6, g, h1, w1, w2, w3]
theorem rest_no {s : List UInt8} {q num kind t : Nat} {d : Int} (hd : d ≤ 9223372036854775807) {x : Err} {p id xid : Id} (a : Apart p id) (b : Apart p xid) (hne : id ≠ xid) {h : Heap} (hh : h id = some (rdr s q (some x) d)) (hx : h xid = some (recC num kind 0 [] [])) :
  callW E p 52 [.ptr id 0, .ptr xid 0, .int .i64 t] h = some (.tuple [], upd (upd (dropFrom p 0 h) id (rdr s q (some x) d)) xid (recC num kind 0 [] [])) := by
 obtain ⟨f1, f2, f3, f4, f5, f6⟩ := a.facts
 obtain ⟨x1, x2, x3, x4, x5, x6⟩ := b.facts
 have u1 : ∀ (h : Heap) (cs : List A), upd h id cs xid = h xid := fun h cs => by simp [upd, hne.symm]
 have u2 : ∀ (h : Heap) (cs : List A), upd h xid cs id = h id := fun h cs => by simp [upd, hne]
 by_cases k0 : kind = 0
 ·subst k0
  have g := fun k h hh => varint_no (h := h) (s := s) (q := q) (d := d) (e := x) (a.sub k) hh
  simp only [rdr, recC, encO_some, nat0] at g hh hx ⊢
  rw [eq_52]
  simp -implicitDefEqProofs (maxSteps := 1000000) [Tryz.f52, Code.key, hh, hx, f1, f2, f3, f4, f5, f6, x1, x2, x3, x4, x5, x6, u1, u2, wl4, wl8, g]
 by_cases k1 : kind = 1
 ·subst k1
  have g := fun k h hh => little_no (h := h) (s := s) (q := q) (d := d) (w := 8) (x := x) (by omega) (a.sub k) hh
  simp only [rdr, recC, encO_some, nl1, nl2, nl3, nl4, nl5, nl8] at g hh hx ⊢
  rw [eq_52]
  simp -implicitDefEqProofs (maxSteps := 1000000) [Tryz.f52, Code.key, hh, hx, f1, f2, f3, f4, f5, f6, x1, x2, x3, x4, x5, x6, u1, u2, wl4, wl8, g]
 by_cases k5 : kind = 5
 ·subst k5
  have g := fun k h hh => little_no (h := h) (s := s) (q := q) (d := d) (w := 4) (x := x) (by omega) (a.sub k) hh
  simp only [rdr, recC, encO_some, nl1, nl2, nl3, nl4, nl5, nl8] at g hh hx ⊢
  rw [eq_52]
  simp -implicitDefEqProofs (maxSteps := 1000000) [Tryz.f52, Code.key, hh, hx, f1, f2, f3, f4, f5, f6, x1, x2, x3, x4, x5, x6, u1, u2, wl4, wl8, g]
 by_cases k2 : kind = 2
 ·subst k2
  have g := fun k h hh => varint_no (h := h) (s := s) (q := q) (d := d) (e := x) (a.sub k) hh
  have g2 := fun k h hh => take_no (h := h) (s := s) (q := q) (d := d) (n := 0) (x := x) (a.sub k) hh
  simp only [rdr, recC, encO_some, nat0, nl1, nl2, nl3, nl4, nl5, nl8] at g g2 hh hx ⊢
  rw [eq_52]
  simp -implicitDefEqProofs (maxSteps := 1000000) [Tryz.f52, Code.key, hh, hx, f1, f2, f3, f4, f5, f6, x1, x2, x3, x4, x5, x6, u1, u2, wl4, wl8, g, g2]
 by_cases k3 : kind = 3
 ·subst k3
  have g := fun k h hh => group_no (h := h) (s := s) (q := q) (d := d) (num := num) (x := x) hd (a.sub k) hh
  simp only [rdr, recC, encO_some, nl1, nl2, nl3, nl4, nl5, nl8] at g hh hx ⊢
  rw [eq_52]
  simp -implicitDefEqProofs (maxSteps := 1000000) [Tryz.f52, Code.key, hh, hx, f1, f2, f3, f4, f5, f6, x1, x2, x3, x4, x5, x6, u1, u2, wl4, wl8, g]
  exact (upd_id (by rw [u1, x2, hx])).symm
 ·have g := fun k h => fails_no (h := h) (s := s) (q := q) (d := d) (n := t) (e := .code 3) (x := x) (a.sub k)
  have z0 : ¬ (kind : Int) = 0 := by omega
  have z1 : ¬ (kind : Int) = 1 := by omega
  have z2 : ¬ (kind : Int) = 2 := by omega
  have z3 : ¬ (kind : Int) = 3 := by omega
  have z5 : ¬ (kind : Int) = 5 := by omega
  simp only [rdr, recC, encO_none, encO_some, encE_code] at g hh hx ⊢
  rw [eq_52]
  simp -implicitDefEqProofs (maxSteps := 1000000) [Tryz.f52, Code.key, hh, hx, f1, f2, f3, f4, f5, f6, x1, x2, x3, x4, x5, x6, u1, u2, wl4, wl8, g, k0, k1, k5, k2, k3, z0, z1, z2, z3, z5]
  exact (upd_id (by rw [u1, x2, hx])).symm
theorem loop_n {s : List UInt8} (hs : s.length ≤ maxStr) {q : Nat} (hq : q ≤ s.length) (hy : ∀ q1, q < q1 → q1 ≤ s.length → RestY s q1) (hn : ∀ q1, q < q1 → q1 ≤ s.length → RestN s q1) (hl : ∀ q1, q < q1 → q1 ≤ s.length → LoopN s q1) : LoopN s q := by
 intro d hd num x hv
 cases ht : tagE s q with
 | error x1 =>
  rw [loopE_err ht] at hv
  simp only [Except.error.injEq] at hv
  subst hv
  obtain ⟨q', n', k', gt⟩ := tag_err hs hq (d := d) ht
  refine ⟨3, q', fun {p id} a {c0 c} hc {h} hh => ?_⟩
  obtain ⟨f1, f2, f3, f4, f5, f6⟩ := a.facts
  have g := fun k h hh => gt (p := k :: p) (id := id) (a.sub k) (h := h) hh
  have g2 := fun t k j (hkj : k ≠ j) h hh => rest_no (s := s) (q := q') (num := n') (kind := k') (t := q) (x := x1) hd (p := j :: p) (id := id) (xid := t :: k :: p) (a.sub j) (Apart.own hkj) (a.ne t k) (h := h) hh
  have g3 := fun h => loop_stop (s := s) (q := q') (num := num) (d := d) (x := x1) (p := p) (id := id) a (c0 := c0) (c := c + 3) (h := h)
  simp only [rdr, recC, encO_none, encO_some] at g g2 g3 hh ⊢
  rw [rd_97_3]
  generalize hr : execW E 97 p _ _ _ _ = e
  simp -implicitDefEqProofs (maxSteps := 1000000) [Tryz.f97, Code.loopAt, Code.key, hh, f1, f2, f3, f4, f5, f6, g, g2, hc] at hr
  subst hr
  simp [f1, f2, f3, f4, hc]
  rw [show c + 1 + 1 + 1 = c + 3 from rfl, drop_upd (by omega), f1, drop_drop_cons (by omega), drop_upd (by omega), f1, drop_drop_cons (by omega), upd_upd, g3 _ (by simp [upd]), f1, drop_drop_self]
 | ok r =>
  obtain ⟨n, kind, q1⟩ := r
  have b1 := tagE_lt ht
  have hs' := hs; unfold maxStr at hs'
  have gt := fun k {p id : Id} (a : Apart p id) h hh => tag_ok (h := h) hs hq (d := d) ht (a.sub k) hh
  rw [loopE_ok ht] at hv
  split at hv
  ·rename_i hk
   subst hk
   split at hv
   ·cases hv
   ·rename_i hnn
    simp only [Except.error.injEq] at hv
    subst hv
    refine ⟨2, q1, fun {p id} a {c0 c} hc {h} hh => ?_⟩
    obtain ⟨f1, f2, f3, f4, f5, f6⟩ := a.facts
    have g := fun k => gt k a
    have gf := fun k h => fails_lit (h := h) (c := 3) (n := q) (d := d) (s := s) (q := q1) (a.sub k)
    have hnn' : ¬ (n : Int) = num := by omega
    simp only [rdr, encO_none, encO_some] at g gf hh ⊢
    rw [rd_97_3]
    generalize hr : execW E 97 p _ _ _ _ = e
    simp -implicitDefEqProofs (maxSteps := 1000000) [Tryz.f97, Code.loopAt, Code.key, hh, f1, f2, f3, f4, f5, f6, g, gf, hc, hnn, hnn'] at hr
    subst hr
    simp [f1, f2, f3, f4, hc]
    rw [drop_drop_cons (by omega), drop_drop_cons hc]
  ·rename_i hk4
   have hk4' : ¬ (kind : Int) = 4 := by omega
   split at hv
   ·rename_i x1 hb
    simp only [Except.error.injEq] at hv
    subst hv
    obtain ⟨q2, xs, gr⟩ := hn q1 b1.1 b1.2.1 d hd _ _ _ _ hb
    refine ⟨3, q2, fun {p id} a {c0 c} hc {h} hh => ?_⟩
    obtain ⟨f1, f2, f3, f4, f5, f6⟩ := a.facts
    have g := fun k => gt k a
    have g2 := fun t k j (hkj : k ≠ j) h hh => gr (p := j :: p) (id := id) (xid := t :: k :: p) (a.sub j) (Apart.own hkj) (a.ne t k) (h := h) hh
    have g3 := fun h => loop_stop (s := s) (q := q2) (num := num) (d := d) (x := x1) (p := p) (id := id) a (c0 := c0) (c := c + 3) (h := h)
    simp only [rdr, recC, encO_none, encO_some] at g g2 g3 hh ⊢
    rw [rd_97_3]
    generalize hr : execW E 97 p _ _ _ _ = e
    simp -implicitDefEqProofs (maxSteps := 1000000) [Tryz.f97, Code.loopAt, Code.key, hh, f1, f2, f3, f4, f5, f6, g, g2, hc, hk4, hk4'] at hr
    subst hr
    simp [f1, f2, f3, f4, hc]
    rw [show c + 1 + 1 + 1 = c + 3 from rfl, drop_upd (by omega), f1, drop_drop_cons (by omega), drop_upd (by omega), f1, drop_drop_cons (by omega), upd_upd, g3 _ (by simp [upd]), f1, drop_drop_self]
   ·rename_i n2 b2 q2 hb
    have b2' := bodyE_lt hb b1.2.1
    rw [if_pos (by omega)] at hv
    have gr := fun (p id xid : Id) (a : Apart p id) (b : Apart p xid) (hne : id ≠ xid) (h : Heap) hh hx => hy q1 b1.1 b1.2.1 d hd _ _ _ _ _ _ hb a b hne (h := h) hh hx
    obtain ⟨k, q3, gl⟩ := hl q2 (by omega) b2'.2.1 d hd num x hv
    refine ⟨3 + k, q3, fun {p id} a {c0 c} hc {h} hh => ?_⟩
    obtain ⟨f1, f2, f3, f4, f5, f6⟩ := a.facts
    have g := fun k => gt k a
    have g2 := fun t k j (hkj : k ≠ j) h hh => gr (j :: p) id (t :: k :: p) (a.sub j) (Apart.own hkj) (a.ne t k) h hh
    have g3 := fun h => gl (p := p) (id := id) a (c0 := c0) (c := c + 3) (by omega) (h := h)
    simp only [rdr, recC, encO_none, encO_some] at g g2 g3 hh ⊢
    rw [rd_97_3]
    generalize hr : execW E 97 p _ _ _ _ = e
    simp -implicitDefEqProofs (maxSteps := 1000000) [Tryz.f97, Code.loopAt, Code.key, hh, f1, f2, f3, f4, f5, f6, g, g2, hc, hk4, hk4'] at hr
    subst hr
    simp [f1, f2, f3, f4, hc]
    rw [show c + 1 + 1 + 1 = c + 3 from rfl, drop_upd (by omega), f1, drop_drop_cons (by omega), drop_upd (by omega), f1, drop_drop_cons (by omega), upd_upd, g3 _ (by simp [upd]), f1, drop_drop_self, upd_upd, Nat.add_assoc]
theorem group_y {s : List UInt8} {q : Nat} (hl : LoopY s q) : GroupY s q := by
 intro d hd num e hv p id a h hh
 obtain ⟨f1, f2, f3, f4, f5, f6⟩ := a.facts
 rw [groupE] at hv
 split at hv
 ·cases hv
 ·rename_i h1
  obtain ⟨k, gl⟩ := hl (d - 1) (by omega) num e hv
  have g := fun h => gl (p := p) (id := id) a (c0 := 0) (c := 0) (Nat.le_refl 0) (h := h)
  have w1 : IntKind.i64.wrap (d - 1) = d - 1 := wrap_i64 (by omega) (by omega)
  have w2 : IntKind.i64.wrap d = d := wrap_i64 (by omega) (by omega)
  have w3 : d - 1 + 1 = d := by omega
  simp only [rdr, encO_none, encO_some, Nat.zero_add] at hh g ⊢
  rw [eq_97]
  simp -implicitDefEqProofs (maxSteps := 1000000) [Tryz.f97, Code.key, Code.hide, hh, f1, f2, f3, f4, f5, f6, g, h1, w1, w2, w3]
theorem group_n {s : List UInt8} {q : Nat} (hl : LoopN s q) : GroupN s q := by
 intro d hd num x hv
 rw [groupE] at hv
 split at hv
 ·rename_i h1
  simp only [Except.error.injEq] at hv
  subst hv
  refine ⟨q, fun {p id} a {h} hh => ?_⟩
  obtain ⟨f1, f2, f3, f4, f5, f6⟩ := a.facts
  have g := fun k h => fails_lit (h := h) (s := s) (q := q) (d := d) (n := q) (c := 6) (a.sub k)
  simp only [rdr, encO_none, encO_some] at hh g ⊢
  rw [eq_97]
  simp -implicitDefEqProofs (maxSteps := 1000000) [Tryz.f97, Code.key, Code.hide, hh, f1, f2, f3, f4, f5, f6, g, h1]
 ·rename_i h1
  obtain ⟨k, q', gl⟩ := hl (d - 1) (by omega) num x hv
  refine ⟨q', fun {p id} a {h} hh => ?_⟩
  obtain ⟨f1, f2, f3, f4, f5, f6⟩ := a.facts
  have g := fun h => gl (p := p) (id := id) a (c0 := 0) (c := 0) (Nat.le_refl 0) (h := h)
  have w1 : IntKind.i64.wrap (d - 1) = d - 1 := wrap_i64 (by omega) (by omega)
  have w2 : IntKind.i64.wrap d = d := wrap_i64 (by omega) (by omega)
  have w3 : d - 1 + 1 = d := by omega
  simp only [rdr, encO_none, encO_some, Nat.zero_add] at hh g ⊢
  rw [eq_97]
  simp -implicitDefEqProofs (maxSteps := 1000000) [Tryz.f97, Code.key, Code.hide, hh, f1, f2, f3, f4, f5, f6, g, h1, w1, w2, w3]
theorem rest_all {s : List UInt8} (hs : s.length ≤ maxStr) : ∀ m q, s.length + 1 - q ≤ m → q ≤ s.length → LoopY s q ∧ LoopN s q ∧ RestY s q ∧ RestN s q := by
 intro m
 induction m with
 | zero => intro q hm hq; omega
 | succ m ih =>
  intro q hm hq
  have ly := loop_y hs hq (fun q1 h1 h2 => (ih q1 (by omega) h2).2.2.1) (fun q1 h1 h2 => (ih q1 (by omega) h2).1)
  have ln := loop_n hs hq (fun q1 h1 h2 => (ih q1 (by omega) h2).2.2.1) (fun q1 h1 h2 => (ih q1 (by omega) h2).2.2.2) (fun q1 h1 h2 => (ih q1 (by omega) h2).2.1)
  exact ⟨ly, ln, rest_y hs hq (group_y ly), rest_n hs hq (group_n ln)⟩
theorem restY {s : List UInt8} (hs : s.length ≤ maxStr) {q : Nat} (hq : q ≤ s.length) : RestY s q := (rest_all hs _ q (Nat.le_refl _) hq).2.2.1
theorem restN {s : List UInt8} (hs : s.length ≤ maxStr) {q : Nat} (hq : q ≤ s.length) : RestN s q := (rest_all hs _ q (Nat.le_refl _) hq).2.2.2
def encRec (r : Rec) : A := .agg [.int .i64 r.num, .int .i64 r.kind, .int .u64 r.n, .str r.s, .str r.raw]
theorem record_ok {s : List UInt8} (hs : s.length ≤ maxStr) {q : Nat} (hq : q ≤ s.length) {d : Int} (hd : d ≤ 9223372036854775807) {r : Rec} {e : Nat} (hv : recE s d q = .ok (r, e)) {p id : Id} (a : Apart p id) {h : Heap} (hh : h id = some (rdr s q none d)) :
  callW E p 28 [.ptr id 0] h = some (encRec r, upd (dropFrom p 0 h) id (rdr s e none d)) := by
 obtain ⟨f1, f2, f3, f4, f5, f6⟩ := a.facts
 unfold recE at hv
 split at hv
 ·cases hv
 ·rename_i num kind q1 ht
  have b1 := tagE_lt ht
  obtain ⟨⟨n, bs, e'⟩, hb, h2⟩ := map_ok hv
  simp only [Prod.mk.injEq] at h2
  obtain ⟨rfl, rfl⟩ := h2
  have b2 := bodyE_lt hb b1.2.1
  have hs' := hs; unfold maxStr at hs'
  have g := fun k h hh => tag_ok (h := h) hs hq (d := d) ht (a.sub k) hh
  have g2 := fun t k j (hkj : k ≠ j) h hh hx => restY hs b1.2.1 d hd _ _ _ _ _ _ hb (p := j :: p) (id := id) (xid := t :: k :: p) (a.sub j) (Apart.own hkj) (a.ne t k) (h := h) hh hx
  simp only [rdr, recC, encO_none, encO_some, encRec] at hh g g2 ⊢
  rw [eq_28]
  simp -implicitDefEqProofs (maxSteps := 1000000) [Tryz.f28, Code.key, Code.hide, hh, f1, f2, f3, f4, f5, f6, g, g2]
  exact ⟨by omega, by omega, List.drop_take⟩
theorem record_err {s : List UInt8} (hs : s.length ≤ maxStr) {q : Nat} (hq : q ≤ s.length) {d : Int} (hd : d ≤ 9223372036854775807) {x : Err} (hv : recE s d q = .error x) : ∃ q', ∀ {p id : Id} (_ : Apart p id) {h : Heap} (_ : h id = some (rdr s q none d)),
  callW E p 28 [.ptr id 0] h = some (.agg [.int .i64 0, .int .i64 0, .int .u64 0, .str [], .str []], upd (dropFrom p 0 h) id (rdr s q' (some x) d)) := by
 unfold recE at hv
 split at hv
 ·rename_i x1 ht
  simp only [Except.error.injEq] at hv
  subst hv
  obtain ⟨q', n', k', gt⟩ := tag_err hs hq (d := d) ht
  refine ⟨q', fun {p id} a {h} hh => ?_⟩
  obtain ⟨f1, f2, f3, f4, f5, f6⟩ := a.facts
  have g := fun k h hh => gt (p := k :: p) (id := id) (a.sub k) (h := h) hh
  simp only [rdr, encO_none, encO_some] at hh g ⊢
  rw [eq_28]
  simp -implicitDefEqProofs (maxSteps := 1000000) [Tryz.f28, Code.key, Code.hide, hh, f1, f2, f3, f4, f5, f6, g]
 ·rename_i num kind q1 ht
  have b1 := tagE_lt ht
  have hb := map_err hv
  obtain ⟨q', xs, gr⟩ := restN hs b1.2.1 d hd _ _ _ _ hb
  refine ⟨q', fun {p id} a {h} hh => ?_⟩
  obtain ⟨f1, f2, f3, f4, f5, f6⟩ := a.facts
  have g := fun k h hh => tag_ok (h := h) hs hq (d := d) ht (a.sub k) hh
  have g2 := fun t k j (hkj : k ≠ j) h hh hx => gr (p := j :: p) (id := id) (xid := t :: k :: p) (a.sub j) (Apart.own hkj) (a.ne t k) (h := h) hh hx
  simp only [rdr, recC, encO_none, encO_some] at hh g g2 ⊢
  rw [eq_28]
  simp -implicitDefEqProofs (maxSteps := 1000000) [Tryz.f28, Code.key, Code.hide, hh, f1, f2, f3, f4, f5, f6, g, g2]
  done
theorem own_facts {p : Id} (t k0 : Nat) : (∀ (c0 : Nat) (h : Heap) (cs : List A), k0 < c0 → dropFrom p c0 (upd h (t :: k0 :: p) cs) = upd (dropFrom p c0 h) (t :: k0 :: p) cs) ∧
  (∀ (c0 : Nat) (h : Heap), k0 < c0 → dropFrom p c0 h (t :: k0 :: p) = h (t :: k0 :: p)) ∧
  (∀ (j : Nat) (h : Heap) (cs : List A), k0 ≠ j → dropFrom (j :: p) 0 (upd h (t :: k0 :: p) cs) = upd (dropFrom (j :: p) 0 h) (t :: k0 :: p) cs) ∧
  (∀ (j : Nat) (h : Heap), k0 ≠ j → dropFrom (j :: p) 0 h (t :: k0 :: p) = h (t :: k0 :: p)) ∧
  (∀ (h : Heap) (t' k : Nat) (cs : List A), k0 ≠ k → upd h (t' :: k :: p) cs (t :: k0 :: p) = h (t :: k0 :: p)) ∧
  (∀ (h : Heap) (t' k : Nat) (cs : List A), k0 ≠ k → upd h (t :: k0 :: p) cs (t' :: k :: p) = h (t' :: k :: p)) := by
 refine ⟨fun c0 h cs hk => drop_upd_other (by simp; omega), fun c0 h hk => by rw [drop_own, if_neg (by omega)], fun j h cs hk => drop_upd_other (by simp [hk]), fun j h hk => by rw [drop_sib, if_neg hk], fun h t' k cs hk => ?_, fun h t' k cs hk => ?_⟩
 ·simp [upd, hk]
 ·simp [upd, Ne.symm hk]
def recCells (r : Rec) : List A := [.int .i64 r.num, .int .i64 r.kind, .int .u64 r.n, .str r.s, .str r.raw]
def recsA (rs : List Rec) : List (List A) := rs.map recCells
def allFr (s : List UInt8) (id : Id) (rs : List Rec) (r4 r5 : A) : Fr := ((((bot.set 7 (.ptr id 0)).set 6 (growing (45, 5) (recsA rs))).set 5 r5).set 4 r4).set 0 (.str s)
theorem all_loop_y {s : List UInt8} (hb : s.length ≤ 1099511627776) {d : Int} (hd : d ≤ 9223372036854775807) : ∀ q, q ≤ s.length → ∀ (rs out : List Rec), rs.length ≤ q → allE s d q = .ok out → ∃ k, ∀ {p : Id} {t k0 c0 c : Nat}, k0 < c0 → c0 ≤ c → ∀ {h : Heap}, h (t :: k0 :: p) = some (rdr s q none d) →
  iterW E 11 p [0, 4, 5, 6, 7] L_11_3 c0 (allFr s (t :: k0 :: p) rs .nils .nili) c h = some (.exit 0, allFr s (t :: k0 :: p) (rs ++ out) .nils .nili, c + k, upd (dropFrom p c0 h) (t :: k0 :: p) (rdr s s.length none d)) := by
 have hs : s.length ≤ maxStr := by unfold maxStr; omega
 refine rec_ind fun q hq ih rs out hrs hv => ?_
 by_cases hlt : q < s.length
 ·cases hr : recE s d q with
  | error x => rw [allE_err hlt hr] at hv; cases hv
  | ok re =>
   obtain ⟨r, e⟩ := re
   have b1 := recE_lt hr
   rw [allE_ok hr] at hv
   obtain ⟨out', hv', rfl⟩ := map_ok hv
   obtain ⟨k, gl⟩ := ih e b1.1 b1.2.1 (rs ++ [r]) out' (by simp; omega) hv'
   refine ⟨2 + k, fun {p t k0 c0 c} hk hc {h} hh => ?_⟩
   obtain ⟨o1, o2, o3, o4, o5, o6⟩ := own_facts (p := p) t k0
   have g := fun h hh => record_ok (h := h) hs hq hd hr (p := c :: p) (id := t :: k0 :: p) (Apart.own (by omega)) hh
   have n0 : k0 ≠ c := by omega
   have n1 : k0 ≠ c + 1 := by omega
   have hlt' : (q : Int) < s.length := by omega
   have hl1 : (recsA rs).length = rs.length := by simp [recsA]
   have hmax : (recsA rs).length + 1 ≤ maxStr := by unfold maxStr; omega
   have hmax2 : ((recsA rs).length + 1) * 56 ≤ 140737488355328 := by omega
   simp only [rdr, encO_none, encO_some, encRec, allFr] at hh g gl ⊢
   rw [rd_11_3]
   generalize hr : execW E 11 p _ _ _ _ = e
   simp -implicitDefEqProofs (maxSteps := 1000000) [Tryz.f11, Code.loopAt, Code.key, hh, o1, o2, o3, o4, o5, o6, g, n0, n1, hlt', hk, hlt, hmax, hmax2] at hr
   subst hr
   simp [o1, o2, hk]
   have e6 : A.slice (recsA rs ++ [[.int .i64 r.num, .int .i64 r.kind, .int .u64 r.n, .str r.s, .str r.raw]]) (some (45, 5)) = growing (45, 5) (recsA (rs ++ [r])) := by
    rw [slice_growing]; simp [recsA, recCells]
   rw [e6, show c + 1 + 1 = c + 2 from rfl, drop_upd (by omega), o1 _ _ _ hk, drop_drop_cons (by omega), gl hk (by omega) (by simp [upd]), o1 _ _ _ hk, drop_drop_self, upd_upd]
   simp [Nat.add_assoc]
 ·rw [allE_end hlt] at hv
  simp only [Except.ok.injEq] at hv
  subst hv
  have hqe : s.length = q := by omega
  refine ⟨0, fun {p t k0 c0 c} hk hc {h} hh => ?_⟩
  obtain ⟨o1, o2, o3, o4, o5, o6⟩ := own_facts (p := p) t k0
  have hlt' : ¬ (q : Int) < s.length := by omega
  simp only [rdr, encO_none, encO_some, encRec, allFr] at hh ⊢
  rw [rd_11_3]
  generalize hr : execW E 11 p _ _ _ _ = e
  simp -implicitDefEqProofs (maxSteps := 1000000) [Tryz.f11, Code.loopAt, Code.key, hh, o1, o2, o3, o4, o5, o6, hlt', hk, hlt] at hr
  subst hr
  simp [o1, o2, hk]
  exact (upd_id (by rw [o2 _ _ hk, hh, hqe])).symm
theorem all_loop_n {s : List UInt8} (hb : s.length ≤ 1099511627776) {d : Int} (hd : d ≤ 9223372036854775807) {x : Err} : ∀ q, q ≤ s.length → ∀ (rs : List Rec), rs.length ≤ q → allE s d q = .error x → ∃ k q' rs', ∀ {p : Id} {t k0 c0 c : Nat}, k0 < c0 → c0 ≤ c → ∀ {h : Heap}, h (t :: k0 :: p) = some (rdr s q none d) →
  iterW E 11 p [0, 4, 5, 6, 7] L_11_3 c0 (allFr s (t :: k0 :: p) rs .nils .nili) c h = some (.ret, allFr s (t :: k0 :: p) rs' .nils (encE x), c + k, upd (dropFrom p c0 h) (t :: k0 :: p) (rdr s q' (some x) d)) := by
 have hs : s.length ≤ maxStr := by unfold maxStr; omega
 refine rec_ind fun q hq ih rs hrs hv => ?_
 by_cases hlt : q < s.length
 ·cases hr : recE s d q with
  | error x' =>
   rw [allE_err hlt hr] at hv
   simp only [Except.error.injEq] at hv
   subst hv
   obtain ⟨q', gr⟩ := record_err hs hq hd hr
   refine ⟨2, q', rs, fun {p t k0 c0 c} hk hc {h} hh => ?_⟩
   obtain ⟨o1, o2, o3, o4, o5, o6⟩ := own_facts (p := p) t k0
   have g := fun h hh => gr (h := h) (p := c :: p) (id := t :: k0 :: p) (Apart.own (by omega)) hh
   have n0 : k0 ≠ c := by omega
   have n1 : k0 ≠ c + 1 := by omega
   have hlt' : (q : Int) < s.length := by omega
   simp only [rdr, encO_none, encO_some, encRec, allFr] at hh g ⊢
   rw [rd_11_3]
   generalize hr : execW E 11 p _ _ _ _ = e
   simp -implicitDefEqProofs (maxSteps := 1000000) [Tryz.f11, Code.loopAt, Code.key, hh, o1, o2, o3, o4, o5, o6, g, n0, n1, hlt', hk, hlt] at hr
   subst hr
   simp [o1, o2, hk]
   rw [drop_upd (by omega), o1 _ _ _ hk, drop_drop_cons (by omega)]
  | ok re =>
   obtain ⟨r, e⟩ := re
   have b1 := recE_lt hr
   rw [allE_ok hr] at hv
   have hv' := map_err hv
   obtain ⟨k, q', rs', gl⟩ := ih e b1.1 b1.2.1 (rs ++ [r]) (by simp; omega) hv'
   refine ⟨2 + k, q', rs', fun {p t k0 c0 c} hk hc {h} hh => ?_⟩
   obtain ⟨o1, o2, o3, o4, o5, o6⟩ := own_facts (p := p) t k0
   have g := fun h hh => record_ok (h := h) hs hq hd hr (p := c :: p) (id := t :: k0 :: p) (Apart.own (by omega)) hh
   have n0 : k0 ≠ c := by omega
   have n1 : k0 ≠ c + 1 := by omega
   have hlt' : (q : Int) < s.length := by omega
   have hl1 : (recsA rs).length = rs.length := by simp [recsA]
   have hmax : (recsA rs).length + 1 ≤ maxStr := by unfold maxStr; omega
   have hmax2 : ((recsA rs).length + 1) * 56 ≤ 140737488355328 := by omega
   simp only [rdr, encO_none, encO_some, encRec, allFr] at hh g gl ⊢
   rw [rd_11_3]
   generalize hr : execW E 11 p _ _ _ _ = e
   simp -implicitDefEqProofs (maxSteps := 1000000) [Tryz.f11, Code.loopAt, Code.key, hh, o1, o2, o3, o4, o5, o6, g, n0, n1, hlt', hk, hlt, hmax, hmax2] at hr
   subst hr
   simp [o1, o2, hk]
   have e6 : A.slice (recsA rs ++ [[.int .i64 r.num, .int .i64 r.kind, .int .u64 r.n, .str r.s, .str r.raw]]) (some (45, 5)) = growing (45, 5) (recsA (rs ++ [r])) := by
    rw [slice_growing]; simp [recsA, recCells]
   rw [e6, show c + 1 + 1 = c + 2 from rfl, drop_upd (by omega), o1 _ _ _ hk, drop_drop_cons (by omega), gl hk (by omega) (by simp [upd]), o1 _ _ _ hk, drop_drop_self, upd_upd]
   simp [Nat.add_assoc]
 ·rw [allE_end hlt] at hv; cases hv
def encAll : Except Err (List Rec) → A
 | .ok rs => .tuple [.slice (recsA rs) none, .nili]
 | .error e => .tuple [.slice [] none, encE e]
theorem all_ok {s : List UInt8} (hb : s.length ≤ 1099511627776) {d : Int} (hd : d ≤ 9223372036854775807) (p : Id) (h : Heap) : callW E p 11 [.str s, .int .i64 d] h = some (encAll (allE s d 0), dropFrom p 0 h) := by
 rw [eq_11]
 cases hv : allE s d 0 with
 | ok out =>
  obtain ⟨k, gl⟩ := all_loop_y hb hd 0 (Nat.zero_le _) [] out (Nat.le_refl _) hv
  have g := fun t k0 c0 c hk hc h hh => gl (p := p) (t := t) (k0 := k0) (c0 := c0) (c := c) hk hc (h := h) hh
  simp only [rdr, encO_none, allFr, recsA, List.map_nil, growing_nil, nat0, List.nil_append] at g
  simp -implicitDefEqProofs (maxSteps := 1000000) [Tryz.f11, Code.hide, Code.key, g, encAll, recsA]
  done
 | error x =>
  obtain ⟨k, q', rs', gl⟩ := all_loop_n hb hd 0 (Nat.zero_le _) [] (Nat.le_refl _) hv
  have g := fun t k0 c0 c hk hc h hh => gl (p := p) (t := t) (k0 := k0) (c0 := c0) (c := c) hk hc (h := h) hh
  simp only [rdr, encO_none, encO_some, allFr, recsA, List.map_nil, growing_nil, nat0, List.nil_append] at g
  simp -implicitDefEqProofs (maxSteps := 1000000) [Tryz.f11, Code.hide, Code.key, g, encAll, recsA]
  done
end Go.Ai.T

namespace Go.Ai.T
open Go Go.Proofs
set_option maxRecDepth 100000
set_option maxHeartbeats 4000000
theorem follows_ok (c : Nat) (p : Id) (h : Heap) : callW E p 156 [.int .u8 c] h = some (.bool (uFol c), dropFrom p 0 h) := by
 rw [eq_156]
 by_cases h1 : (128 : Int) ≤ c
 ·by_cases h2 : (c : Int) ≤ 191
  ·simp -implicitDefEqProofs (maxSteps := 1000000) [Tryz.f156, Code.key, h1, h2]
   simp [uFol]; omega
  ·simp -implicitDefEqProofs (maxSteps := 1000000) [Tryz.f156, Code.key, h1, h2]
   simp [uFol]; omega
 ·simp -implicitDefEqProofs (maxSteps := 1000000) [Tryz.f156, Code.key, h1]
  simp [uFol]; omega
theorem size_ok (c : Nat) (p : Id) (h : Heap) : callW E p 154 [.int .u8 c] h = some (.int .i64 (uSize c), dropFrom p 0 h) := by
 rw [eq_154]
 have w2 : IntKind.i64.wrap 2 = 2 := rfl
 have w3 : IntKind.i64.wrap 3 = 3 := rfl
 have w4 : IntKind.i64.wrap 4 = 4 := rfl
 have w1 : IntKind.i64.wrap 1 = 1 := rfl
 by_cases h1 : (244 : Int) < c
 ·have e : uSize c = 0 := by unfold uSize; (repeat' split) <;> omega
  rw [e]
  simp -implicitDefEqProofs (maxSteps := 1000000) [Tryz.f154, Code.key, h1]
 have k2 : ¬ (c : Int) < 194 ∨ (c : Int) < 194 := by omega
 by_cases h2 : (240 : Int) ≤ c
 ·have e : uSize c = 4 := by unfold uSize; (repeat' split) <;> omega
  rw [e]
  have a1 : (128 : Int) ≤ c := by omega
  have a2 : ¬ (c : Int) < 194 := by omega
  simp -implicitDefEqProofs (maxSteps := 1000000) [Tryz.f154, Code.key, h1, h2, a1, a2, w1, w2, w3, w4]
 by_cases h3 : (224 : Int) ≤ c
 ·have e : uSize c = 3 := by unfold uSize; (repeat' split) <;> omega
  rw [e]
  have a1 : (128 : Int) ≤ c := by omega
  have a2 : ¬ (c : Int) < 194 := by omega
  simp -implicitDefEqProofs (maxSteps := 1000000) [Tryz.f154, Code.key, h1, h2, h3, a1, a2, w1, w2, w3, w4]
 by_cases h4 : (194 : Int) ≤ c
 ·have e : uSize c = 2 := by unfold uSize; (repeat' split) <;> omega
  rw [e]
  have a1 : (128 : Int) ≤ c := by omega
  have a2 : ¬ (c : Int) < 194 := by omega
  simp -implicitDefEqProofs (maxSteps := 1000000) [Tryz.f154, Code.key, h1, h2, h3, h4, a1, a2, w1, w2, w3, w4]
 by_cases h5 : (128 : Int) ≤ c
 ·have e : uSize c = 0 := by unfold uSize; (repeat' split) <;> omega
  rw [e]
  have a2 : (c : Int) < 194 := by omega
  simp -implicitDefEqProofs (maxSteps := 1000000) [Tryz.f154, Code.key, h1, h2, h3, h4, h5, a2, w1, w2, w3, w4]
 ·have e : uSize c = 1 := by unfold uSize; (repeat' split) <;> omega
  rw [e]
  simp -implicitDefEqProofs (maxSteps := 1000000) [Tryz.f154, Code.key, h1, h2, h3, h4, h5, w1, w2, w3, w4]
theorem second_ok (f c : Nat) (p : Id) (h : Heap) : callW E p 155 [.int .u8 f, .int .u8 c] h = some (.bool (uSec f c), dropFrom p 0 h) := by
 rw [eq_155]
 have g := follows_ok c
 by_cases h1 : f = 224
 ·subst h1
  by_cases a : (160 : Int) ≤ c
  ·simp -implicitDefEqProofs (maxSteps := 1000000) [Tryz.f155, Code.key, a, g]
   unfold uFol uSec; exact decide_eq_decide.2 (by simp [uLo, uHi]; omega)
  ·simp -implicitDefEqProofs (maxSteps := 1000000) [Tryz.f155, Code.key, a, g]
   simp [uSec, uFol, uLo, uHi]; omega
 by_cases h2 : f = 237
 ·subst h2
  by_cases a : (c : Int) ≤ 159
  ·simp -implicitDefEqProofs (maxSteps := 1000000) [Tryz.f155, Code.key, a, g]
   unfold uFol uSec; exact decide_eq_decide.2 (by simp [uLo, uHi]; omega)
  ·simp -implicitDefEqProofs (maxSteps := 1000000) [Tryz.f155, Code.key, a, g]
   simp [uSec, uFol, uLo, uHi]; omega
 by_cases h3 : f = 240
 ·subst h3
  by_cases a : (144 : Int) ≤ c
  ·simp -implicitDefEqProofs (maxSteps := 1000000) [Tryz.f155, Code.key, a, g]
   unfold uFol uSec; exact decide_eq_decide.2 (by simp [uLo, uHi]; omega)
  ·simp -implicitDefEqProofs (maxSteps := 1000000) [Tryz.f155, Code.key, a, g]
   simp [uSec, uFol, uLo, uHi]; omega
 by_cases h4 : f = 244
 ·subst h4
  by_cases a : (c : Int) ≤ 143
  ·simp -implicitDefEqProofs (maxSteps := 1000000) [Tryz.f155, Code.key, a, g]
   unfold uFol uSec; exact decide_eq_decide.2 (by simp [uLo, uHi]; omega)
  ·simp -implicitDefEqProofs (maxSteps := 1000000) [Tryz.f155, Code.key, a, g]
   simp [uSec, uFol, uLo, uHi]; omega
 ·have b1 : ¬ (f : Int) = 224 := by omega
  have b2 : ¬ (f : Int) = 237 := by omega
  have b3 : ¬ (f : Int) = 240 := by omega
  have b4 : ¬ (f : Int) = 244 := by omega
  simp -implicitDefEqProofs (maxSteps := 1000000) [Tryz.f155, Code.key, b1, b2, b3, b4, h1, h2, h3, h4, g]
  simp [uSec, uFol, uLo, uHi, h1, h2, h3, h4]
theorem usign_loop {s : List UInt8} (hs : s.length ≤ maxStr) {n : Nat} (hn : n ≤ s.length) : ∀ (rest : List UInt8) (i : Nat), (s.take n).drop i = rest → ∃ k i' : Nat, ∀ (p : Id) (c0 c : Nat) (h : Heap), c0 ≤ c →
  iterW E 148 p [0, 2, 3, 4] L_148_5 c0 ((((bot.set 4 (.int .i64 i)).set 3 (.int .i64 n)).set 2 (.int .i64 0)).set 0 (.str s)) c h =
   some (if rest.all uF = true then .exit 0 else .ret, (((bot.set 4 (.int .i64 i')).set 3 (.int .i64 n)).set 2 (.int .i64 0)).set 0 (.str s), c + k, dropFrom p c0 h) := by
 intro rest
 induction rest with
 | nil =>
  intro i hj
  refine ⟨0, i, fun p c0 c h hc => ?_⟩
  have h1 : ¬ (i : Int) < n := by have := drop_end hj; simp at this; omega
  rw [rd_148_5]
  generalize hr : execW E 148 p _ _ _ _ = e
  simp -implicitDefEqProofs (maxSteps := 1000000) [Tryz.f148, Code.loopAt, Code.key, h1] at hr
  subst hr
  simp
 | cons b bs ih =>
  intro i hj
  obtain ⟨hlt, hb, hbs⟩ := drop_facts hj
  simp only [List.length_take] at hlt
  have h1 : (i : Int) < n := by omega
  have h2 : i < s.length := by omega
  have hb' : s[i]? = some b := by rw [← hb, List.getElem?_take]; simp; omega
  have hget : ∀ hl, s[i]'hl = b := fun hl => by rw [List.getElem?_eq_getElem hl] at hb'; exact Option.some.inj hb'
  have hw := wrap_succ h2 hs
  have g := follows_ok b.toNat
  by_cases hf : uFol b.toNat = true
  ·obtain ⟨k, i', gl⟩ := ih (i + 1) hbs
   refine ⟨1 + k, i', fun p c0 c h hc => ?_⟩
   rw [rd_148_5]
   generalize hr : execW E 148 p _ _ _ _ = e
   simp -implicitDefEqProofs (maxSteps := 1000000) [Tryz.f148, Code.loopAt, Code.key, h1, hb', hget, h2, g, hf, hw] at hr
   subst hr
   have e := gl p c0 (c + 1) (dropFrom p c0 h) (by omega)
   have hu : uF b = true := hf
   simpa [-List.all_eq_true, drop_drop_cons hc, hu, Nat.add_assoc] using e
  ·refine ⟨1, i, fun p c0 c h hc => ?_⟩
   rw [rd_148_5]
   generalize hr : execW E 148 p _ _ _ _ = e
   simp -implicitDefEqProofs (maxSteps := 1000000) [Tryz.f148, Code.loopAt, Code.key, h1, hb', hget, h2, g, hf, hw] at hr
   subst hr
   have hu : uF b = false := by simpa [uF] using hf
   simp [-List.all_eq_true, hu, hc, drop_drop_cons hc]
theorem usign_ok {s : List UInt8} (hs : s.length ≤ maxStr) (hne : s ≠ []) (p : Id) (h : Heap) : callW E p 148 [.str s] h = some (.int .i64 (uSign s), dropFrom p 0 h) := by
 cases s with
 | nil => exact absurd rfl hne
 | cons c cs =>
  have g := size_ok c.toNat
  rw [eq_148]
  by_cases h1 : cs.length + 1 < uSize c.toNat
  ·have h1' : (cs.length : Int) + 1 < uSize c.toNat := by omega
   have hu : uSign (c :: cs) = 0 := by rw [uSign_eq, if_pos h1]
   rw [hu]
   simp -implicitDefEqProofs (maxSteps := 1000000) [Tryz.f148, Code.hide, Code.key, g, h1, h1']
  ·have h1' : ¬ (cs.length : Int) + 1 < uSize c.toNat := by omega
   obtain ⟨k, i', gl⟩ := usign_loop hs (n := uSize c.toNat) (by simp; omega) _ 2 rfl
   have hw2 : ((2 : Nat) : Int) = 2 := rfl
   simp only [hw2] at gl
   by_cases h2 : 1 < uSize c.toNat
   ·have h2' : (1 : Int) < uSize c.toNat := by omega
    cases cs with
    | nil => simp at h1; omega
    | cons c1 cs =>
     have g2 := second_ok c.toNat c1.toNat
     have h1c : ¬ (cs.length + 1 + 1 < uSize c.toNat) := h1
     have h1d : ¬ ((cs.length : Int) + 1 + 1 < uSize c.toNat) := by omega
     by_cases h3 : uSec c.toNat c1.toNat = true
     ·by_cases h4 : (List.drop 2 (List.take (uSize c.toNat) (c :: c1 :: cs))).all uF = true
      ·have hu : uSign (c :: c1 :: cs) = uSize c.toNat := by
        rw [uSign_eq, if_neg h1, if_neg (by simp [h3]), if_pos h4]
       rw [hu]
       simp only [h4, if_true] at gl
       simp -implicitDefEqProofs (maxSteps := 1000000) [-List.all_eq_true, Tryz.f148, Code.hide, Code.key, g, h1, h1', h2, h2', h1c, h1d, h3, g2, gl]
      ·have hu : uSign (c :: c1 :: cs) = 0 := by
        rw [uSign_eq, if_neg h1, if_neg (by simp [h3]), if_neg h4]
       rw [hu]
       simp only [if_neg h4] at gl
       simp -implicitDefEqProofs (maxSteps := 1000000) [-List.all_eq_true, Tryz.f148, Code.hide, Code.key, g, h1, h1', h2, h2', h1c, h1d, h3, g2, gl]
     ·have hu : uSign (c :: c1 :: cs) = 0 := by
       rw [uSign_eq, if_neg h1, if_pos ⟨h2, by simpa using h3⟩]
      rw [hu]
      simp -implicitDefEqProofs (maxSteps := 1000000) [-List.all_eq_true, Tryz.f148, Code.hide, Code.key, g, h1, h1', h2, h2', h1c, h1d, h3, g2]
   ·have h2' : ¬ (1 : Int) < uSize c.toNat := by omega
    have h4 : (List.drop 2 (List.take (uSize c.toNat) (c :: cs))).all uF = true := by
     rw [List.drop_eq_nil_of_le (by simp; omega)]; rfl
    have hu : uSign (c :: cs) = uSize c.toNat := by
     rw [uSign_eq, if_neg h1, if_neg (fun x => h2 x.1), if_pos h4]
    rw [hu]
    simp only [h4, if_true] at gl
    simp -implicitDefEqProofs (maxSteps := 1000000) [-List.all_eq_true, Tryz.f148, Code.hide, Code.key, g, h1, h1', h2, h2', gl]
theorem uwhole_loop {s : List UInt8} (hs : s.length ≤ maxStr) : ∀ q, q ≤ s.length → ∃ k, ∀ (p : Id) (c0 c : Nat) (h : Heap), c0 ≤ c →
  iterW E 134 p [0, 1, 5] L_134_2 c0 (((bot.set 5 (.int .i64 q)).set 1 (.int .i64 s.length)).set 0 (.str s)) c h =
   some (.exit 0, ((bot.set 5 (.int .i64 (uWhole s q))).set 1 (.int .i64 s.length)).set 0 (.str s), c + k, dropFrom p c0 h) := by
 refine rec_ind fun q hq ih => ?_
 have hs' := hs; unfold maxStr at hs'
 by_cases hlt : q < s.length
 ·have hlt' : (q : Int) < s.length := by omega
  have hne : s.drop q ≠ [] := by intro e; have := congrArg List.length e; simp at this; omega
  have hl : (s.drop q).length ≤ maxStr := by simp; omega
  have g := usign_ok hl hne
  have hle := uSign_le (s.drop q)
  simp only [List.length_drop] at hle
  have hw1 : IntKind.i64.wrap ((s.length : Int) - q) = ((s.length - q : Nat) : Int) := by rw [wrap_i64 (by omega) (by omega)]; omega
  have hw2 : IntKind.i64.wrap ((q : Int) + uSign (s.drop q)) = ((q + uSign (s.drop q) : Nat) : Int) := by rw [wrap_i64 (by omega) (by omega)]; rfl
  have hgt : ¬ ((s.length - q : Nat) : Int) < uSign (s.drop q) := by omega
  have hgt2 : ¬ (s.length - q < uSign (s.drop q)) := by omega
  by_cases h0 : uSign (s.drop q) = 0
  ·have e0 : uWhole s q = q := by rw [uWhole, dif_neg (fun x => x.2 h0)]
   refine ⟨1, fun p c0 c h hc => ?_⟩
   rw [e0, rd_134_2]
   rw [h0] at g
   generalize hr : execW E 134 p _ _ _ _ = e
   simp -implicitDefEqProofs (maxSteps := 1000000) [Tryz.f134, Code.loopAt, Code.key, hlt, hlt', hq, g] at hr
   subst hr
   simp [drop_drop_cons hc]
  ·have e0 : uWhole s q = uWhole s (q + uSign (s.drop q)) := by rw [uWhole, dif_pos ⟨hlt, h0⟩]
   have h0' : ¬ (uSign (s.drop q) : Int) = 0 := by omega
   obtain ⟨k, gl⟩ := ih (q + uSign (s.drop q)) (by omega) (by omega)
   refine ⟨1 + k, fun p c0 c h hc => ?_⟩
   rw [e0, rd_134_2]
   generalize hr : execW E 134 p _ _ _ _ = e
   simp -implicitDefEqProofs (maxSteps := 1000000) [Tryz.f134, Code.loopAt, Code.key, hlt, hlt', hq, g, h0, h0', hw1, hw2, hgt, hgt2] at hr
   subst hr
   have e := gl p c0 (c + 1) (dropFrom p c0 h) (by omega)
   simpa [drop_drop_cons hc, Nat.add_assoc] using e
 ·have hlt' : ¬ (q : Int) < s.length := by omega
  have e0 : uWhole s q = q := by rw [uWhole, dif_neg (fun x => hlt x.1)]
  refine ⟨0, fun p c0 c h hc => ?_⟩
  rw [e0, rd_134_2]
  generalize hr : execW E 134 p _ _ _ _ = e
  simp -implicitDefEqProofs (maxSteps := 1000000) [Tryz.f134, Code.loopAt, Code.key, hlt, hlt', hq] at hr
  subst hr
  simp
theorem uwhole_ok {s : List UInt8} (hs : s.length ≤ maxStr) (p : Id) (h : Heap) : callW E p 134 [.str s, .int .i64 s.length] h = some (.int .i64 (uWhole s 0), dropFrom p 0 h) := by
 obtain ⟨k, gl⟩ := uwhole_loop hs 0 (Nat.zero_le _)
 simp only [nat0] at gl
 rw [eq_134]
 simp -implicitDefEqProofs (maxSteps := 1000000) [Tryz.f134, Code.hide, Code.key, gl]
def badI : Option Nat → Int
 | none => -1
 | some n => n
theorem ubad_ok {s : List UInt8} (hs : s.length ≤ maxStr) (p : Id) (h : Heap) : callW E p 114 [.str s] h = some (.int .i64 (badI (uBad s)), dropFrom p 0 h) := by
 have g := uwhole_ok hs
 rw [eq_114]
 unfold uBad
 by_cases h1 : uWhole s 0 = s.length
 ·rw [if_pos h1]
  rw [h1] at g
  simp -implicitDefEqProofs (maxSteps := 1000000) [Tryz.f114, Code.key, g, badI]
 ·rw [if_neg h1]
  have h2 : ¬ (uWhole s 0 : Int) = s.length := by omega
  simp -implicitDefEqProofs (maxSteps := 1000000) [Tryz.f114, Code.key, g, badI, h1, h2]
theorem uvalid_ok {s : List UInt8} (hs : s.length ≤ maxStr) (p : Id) (h : Heap) : callW E p 73 [.str s] h = some (.bool (uBad s).isNone, dropFrom p 0 h) := by
 have g := ubad_ok hs
 rw [eq_73]
 cases hb : uBad s with
 | none =>
  rw [hb] at g
  simp only [badI] at g
  simp -implicitDefEqProofs (maxSteps := 1000000) [Tryz.f73, Code.key, g]
 | some n =>
  rw [hb] at g
  have : ¬ (n : Int) < 0 := by omega
  simp only [badI] at g
  simp -implicitDefEqProofs (maxSteps := 1000000) [Tryz.f73, Code.key, g, this]
theorem ucheck_ok {s : List UInt8} (hs : s.length ≤ maxStr) (p : Id) (h : Heap) : callW E p 100 [.str s] h = some (encO (uErr s), dropFrom p 0 h) := by
 have g := ubad_ok hs
 rw [eq_100]
 unfold uErr
 cases hb : uBad s with
 | none =>
  rw [hb] at g
  simp only [badI] at g
  simp -implicitDefEqProofs (maxSteps := 1000000) [Tryz.f100, Code.key, g]
 | some n =>
  rw [hb] at g
  have h1 : (0 : Int) ≤ n := by omega
  have g2 := fun p h => at_ok n (.code 5) p h
  simp only [badI, encE_code] at g g2
  simp -implicitDefEqProofs (maxSteps := 1000000) [Tryz.f100, Code.key, g, h1, g2]
end Go.Ai.T

namespace Go.Ai.T
open Go Go.Proofs
set_option maxRecDepth 100000
set_option maxHeartbeats 4000000
def rsFr (s : List UInt8) (q n lo hi i : Nat) : Fr := ((((((bot.set 9 (.int .i64 i)).set 8 (.int .u8 hi)).set 7 (.int .u8 lo)).set 6 (.int .i64 n)).set 4 (.int .i64 0)).set 1 (.int .i64 q)).set 0 (.str s)
theorem rsign_loop {s : List UInt8} (hb : s.length ≤ 1099511627776) {q n : Nat} (hq : q < s.length) (hn : n ≤ 4) : ∀ (m i lo hi : Nat), i + m = n → ∃ lo' hi' i' : Nat, ∀ (p : Id) (c0 c : Nat) (h : Heap),
  iterW E 110 p [0, 1, 4, 6, 7, 8, 9] L_110_22 c0 (rsFr s q n lo hi i) c h =
   some (if okRest m (s.drop (q + i)) lo hi = true then .exit 2 else .ret, rsFr s q n lo' hi' i', c, dropFrom p c0 h) := by
 intro m
 induction m with
 | zero =>
  intro i lo hi hi'
  refine ⟨lo, hi, i, fun p c0 c h => ?_⟩
  have h1 : ¬ (i : Int) < n := by omega
  unfold rsFr
  rw [rd_110_22]
  generalize hr : execW E 110 p _ _ _ _ = e
  simp -implicitDefEqProofs (maxSteps := 1000000) [Tryz.f110, Code.loopAt, Code.key, h1] at hr
  subst hr
  simp [okRest]
 | succ m ih =>
  intro i lo hi hi'
  have h1 : (i : Int) < n := by omega
  have hw1 : IntKind.i64.wrap ((q : Int) + i) = ((q + i : Nat) : Int) := by rw [wrap_i64 (by omega) (by omega)]; rfl
  have hw2 : IntKind.i64.wrap ((i : Int) + 1) = ((i + 1 : Nat) : Int) := by rw [wrap_i64 (by omega) (by omega)]; rfl
  unfold rsFr at ih ⊢
  cases hd : s.drop (q + i) with
  | nil =>
   have h2 : ((s.length : Nat) : Int) ≤ ((q + i : Nat) : Int) := by have := congrArg List.length hd; simp at this; omega
   refine ⟨lo, hi, i, fun p c0 c h => ?_⟩
   rw [rd_110_22]
   generalize hr : execW E 110 p _ _ _ _ = e
   simp -implicitDefEqProofs (maxSteps := 1000000) [-Int.natCast_add, Tryz.f110, Code.loopAt, Code.key, h1, hw1, h2] at hr
   subst hr
   simp [okRest]
  | cons b bs =>
   obtain ⟨hlt, hbb, hbs⟩ := drop_facts hd
   have h2 : ¬ ((s.length : Nat) : Int) ≤ ((q + i : Nat) : Int) := by omega
   have hget : ∀ hl, s[q + i]'hl = b := fun hl => by rw [List.getElem?_eq_getElem hl] at hbb; exact Option.some.inj hbb
   by_cases h3 : (b.toNat : Int) < lo
   ·refine ⟨lo, hi, i, fun p c0 c h => ?_⟩
    rw [rd_110_22]
    generalize hr : execW E 110 p _ _ _ _ = e
    simp -implicitDefEqProofs (maxSteps := 1000000) [-Int.natCast_add, Tryz.f110, Code.loopAt, Code.key, h1, hw1, h2, hlt, hget, hbb, h3] at hr
    subst hr
    have : ¬ lo ≤ b.toNat := by omega
    simp [okRest, this]
   by_cases h4 : (hi : Int) < b.toNat
   ·refine ⟨lo, hi, i, fun p c0 c h => ?_⟩
    rw [rd_110_22]
    generalize hr : execW E 110 p _ _ _ _ = e
    simp -implicitDefEqProofs (maxSteps := 1000000) [-Int.natCast_add, Tryz.f110, Code.loopAt, Code.key, h1, hw1, h2, hlt, hget, hbb, h3, h4] at hr
    subst hr
    have : ¬ b.toNat ≤ hi := by omega
    simp [okRest, this]
   ·obtain ⟨lo', hi2, i', gl⟩ := ih (i + 1) 128 191 (by omega)
    refine ⟨lo', hi2, i', fun p c0 c h => ?_⟩
    rw [rd_110_22]
    generalize hr : execW E 110 p _ _ _ _ = e
    simp -implicitDefEqProofs (maxSteps := 1000000) [-Int.natCast_add, Tryz.f110, Code.loopAt, Code.key, h1, hw1, hw2, h2, hlt, hget, hbb, h3, h4] at hr
    subst hr
    have e1 : lo ≤ b.toNat ∧ b.toNat ≤ hi := by omega
    have hbs' : s.drop (q + (i + 1)) = bs := hbs
    have e := gl p c0 c (dropFrom p c0 h)
    rw [hbs'] at e
    simpa [-Int.natCast_add, okRest, e1] using e
theorem rsign_ok {s : List UInt8} (hb : s.length ≤ 1099511627776) {q : Nat} (hq : q < s.length) (p : Id) (h : Heap) : callW E p 110 [.str s, .int .i64 q] h = some (.int .i64 (uSign (s.drop q)), dropFrom p 0 h) := by
 obtain ⟨c, hc⟩ : ∃ c, s[q]? = some c := ⟨_, List.getElem?_eq_getElem hq⟩
 have hget : ∀ hl, s[q]'hl = c := fun hl => by rw [List.getElem?_eq_getElem hl] at hc; exact Option.some.inj hc
 have hd : s.drop q = c :: s.drop (q + 1) := by rw [List.drop_eq_getElem_cons hq, hget]
 rw [eq_110, hd, uSign_ref]
 have c256 : c.toNat < 256 := c.toNat_lt
 have x1 : ((128 : Nat) : Int) = 128 := rfl
 have x2 : ((191 : Nat) : Int) = 191 := rfl
 have x3 : ((160 : Nat) : Int) = 160 := rfl
 have x4 : ((159 : Nat) : Int) = 159 := rfl
 have x5 : ((144 : Nat) : Int) = 144 := rfl
 have x6 : ((143 : Nat) : Int) = 143 := rfl
 by_cases h1 : (c.toNat : Int) < 128
 ·have e : uSize c.toNat = 1 := by unfold uSize; (repeat' split) <;> omega
  rw [e]
  simp -implicitDefEqProofs (maxSteps := 1000000) [Tryz.f110, Code.hide, Code.key, h1, hc, hget, hq]
 by_cases k : 194 ≤ c.toNat ∧ c.toNat ≤ 223
 ·have e : uSize c.toNat = 2 := by unfold uSize; (repeat' split) <;> omega
  have e1 : uLo c.toNat = 128 := by unfold uLo; (repeat' split) <;> omega
  have e2 : uHi c.toNat = 191 := by unfold uHi; (repeat' split) <;> omega
  have n0 : ¬ (c.toNat : Int) < 128 := by omega
  have n1 : 194 ≤ (c.toNat : Int) := by omega
  have n2 : (c.toNat : Int) ≤ 223 := by omega
  have n3 : ¬ (c.toNat : Int) = 224 := by omega
  have n4 : ¬ (c.toNat : Int) = 237 := by omega
  have n5 : ¬ (c.toNat : Int) = 240 := by omega
  have n6 : ¬ (c.toNat : Int) = 244 := by omega
  obtain ⟨lo', hi', i', gl⟩ := rsign_loop hb hq (n := 2) (by omega) 1 1 128 191 rfl
  simp only [rsFr, nl1, nl2, nl3, nl4, x1, x2, x3, x4, x5, x6] at gl
  rw [e, e1, e2]
  by_cases hk : okRest 1 (s.drop (q + 1)) 128 191 = true
  ·simp only [hk, if_true] at gl
   simp -implicitDefEqProofs (maxSteps := 1000000) [Tryz.f110, Code.hide, Code.key, hc, hget, hq, n0, n1, n2, n3, n4, n5, n6, gl, hk]
  ·simp only [if_neg hk] at gl
   simp -implicitDefEqProofs (maxSteps := 1000000) [Tryz.f110, Code.hide, Code.key, hc, hget, hq, n0, n1, n2, n3, n4, n5, n6, gl, hk]
 by_cases k : c.toNat = 224
 ·have e : uSize c.toNat = 3 := by unfold uSize; (repeat' split) <;> omega
  have e1 : uLo c.toNat = 160 := by unfold uLo; (repeat' split) <;> omega
  have e2 : uHi c.toNat = 191 := by unfold uHi; (repeat' split) <;> omega
  have n0 : (c.toNat : Int) = 224 := by omega
  obtain ⟨lo', hi', i', gl⟩ := rsign_loop hb hq (n := 3) (by omega) 2 1 160 191 rfl
  simp only [rsFr, nl1, nl2, nl3, nl4, x1, x2, x3, x4, x5, x6] at gl
  rw [e, e1, e2]
  by_cases hk : okRest 2 (s.drop (q + 1)) 160 191 = true
  ·simp only [hk, if_true] at gl
   simp -implicitDefEqProofs (maxSteps := 1000000) [Tryz.f110, Code.hide, Code.key, hc, hget, hq, n0, gl, hk]
  ·simp only [if_neg hk] at gl
   simp -implicitDefEqProofs (maxSteps := 1000000) [Tryz.f110, Code.hide, Code.key, hc, hget, hq, n0, gl, hk]
 by_cases k : c.toNat = 237
 ·have e : uSize c.toNat = 3 := by unfold uSize; (repeat' split) <;> omega
  have e1 : uLo c.toNat = 128 := by unfold uLo; (repeat' split) <;> omega
  have e2 : uHi c.toNat = 159 := by unfold uHi; (repeat' split) <;> omega
  have n0 : (c.toNat : Int) = 237 := by omega
  obtain ⟨lo', hi', i', gl⟩ := rsign_loop hb hq (n := 3) (by omega) 2 1 128 159 rfl
  simp only [rsFr, nl1, nl2, nl3, nl4, x1, x2, x3, x4, x5, x6] at gl
  rw [e, e1, e2]
  by_cases hk : okRest 2 (s.drop (q + 1)) 128 159 = true
  ·simp only [hk, if_true] at gl
   simp -implicitDefEqProofs (maxSteps := 1000000) [Tryz.f110, Code.hide, Code.key, hc, hget, hq, n0, gl, hk]
  ·simp only [if_neg hk] at gl
   simp -implicitDefEqProofs (maxSteps := 1000000) [Tryz.f110, Code.hide, Code.key, hc, hget, hq, n0, gl, hk]
 by_cases k : 224 < c.toNat ∧ c.toNat ≤ 239 ∧ c.toNat ≠ 237
 ·have e : uSize c.toNat = 3 := by unfold uSize; (repeat' split) <;> omega
  have e1 : uLo c.toNat = 128 := by unfold uLo; (repeat' split) <;> omega
  have e2 : uHi c.toNat = 191 := by unfold uHi; (repeat' split) <;> omega
  have n0 : ¬ (c.toNat : Int) < 128 := by omega
  have n1 : 194 ≤ (c.toNat : Int) := by omega
  have n2 : ¬ (c.toNat : Int) ≤ 223 := by omega
  have n3 : 224 ≤ (c.toNat : Int) := by omega
  have n4 : (c.toNat : Int) ≤ 239 := by omega
  have n5 : ¬ (c.toNat : Int) = 224 := by omega
  have n6 : ¬ (c.toNat : Int) = 237 := by omega
  have n7 : ¬ (c.toNat : Int) = 240 := by omega
  have n8 : ¬ (c.toNat : Int) = 244 := by omega
  obtain ⟨lo', hi', i', gl⟩ := rsign_loop hb hq (n := 3) (by omega) 2 1 128 191 rfl
  simp only [rsFr, nl1, nl2, nl3, nl4, x1, x2, x3, x4, x5, x6] at gl
  rw [e, e1, e2]
  by_cases hk : okRest 2 (s.drop (q + 1)) 128 191 = true
  ·simp only [hk, if_true] at gl
   simp -implicitDefEqProofs (maxSteps := 1000000) [Tryz.f110, Code.hide, Code.key, hc, hget, hq, n0, n1, n2, n3, n4, n5, n6, n7, n8, gl, hk]
  ·simp only [if_neg hk] at gl
   simp -implicitDefEqProofs (maxSteps := 1000000) [Tryz.f110, Code.hide, Code.key, hc, hget, hq, n0, n1, n2, n3, n4, n5, n6, n7, n8, gl, hk]
 by_cases k : c.toNat = 240
 ·have e : uSize c.toNat = 4 := by unfold uSize; (repeat' split) <;> omega
  have e1 : uLo c.toNat = 144 := by unfold uLo; (repeat' split) <;> omega
  have e2 : uHi c.toNat = 191 := by unfold uHi; (repeat' split) <;> omega
  have n0 : (c.toNat : Int) = 240 := by omega
  obtain ⟨lo', hi', i', gl⟩ := rsign_loop hb hq (n := 4) (by omega) 3 1 144 191 rfl
  simp only [rsFr, nl1, nl2, nl3, nl4, x1, x2, x3, x4, x5, x6] at gl
  rw [e, e1, e2]
  by_cases hk : okRest 3 (s.drop (q + 1)) 144 191 = true
  ·simp only [hk, if_true] at gl
   simp -implicitDefEqProofs (maxSteps := 1000000) [Tryz.f110, Code.hide, Code.key, hc, hget, hq, n0, gl, hk]
  ·simp only [if_neg hk] at gl
   simp -implicitDefEqProofs (maxSteps := 1000000) [Tryz.f110, Code.hide, Code.key, hc, hget, hq, n0, gl, hk]
 by_cases k : c.toNat = 244
 ·have e : uSize c.toNat = 4 := by unfold uSize; (repeat' split) <;> omega
  have e1 : uLo c.toNat = 128 := by unfold uLo; (repeat' split) <;> omega
  have e2 : uHi c.toNat = 143 := by unfold uHi; (repeat' split) <;> omega
  have n0 : (c.toNat : Int) = 244 := by omega
  obtain ⟨lo', hi', i', gl⟩ := rsign_loop hb hq (n := 4) (by omega) 3 1 128 143 rfl
  simp only [rsFr, nl1, nl2, nl3, nl4, x1, x2, x3, x4, x5, x6] at gl
  rw [e, e1, e2]
  by_cases hk : okRest 3 (s.drop (q + 1)) 128 143 = true
  ·simp only [hk, if_true] at gl
   simp -implicitDefEqProofs (maxSteps := 1000000) [Tryz.f110, Code.hide, Code.key, hc, hget, hq, n0, gl, hk]
  ·simp only [if_neg hk] at gl
   simp -implicitDefEqProofs (maxSteps := 1000000) [Tryz.f110, Code.hide, Code.key, hc, hget, hq, n0, gl, hk]
 by_cases k : 240 < c.toNat ∧ c.toNat < 244
 ·have e : uSize c.toNat = 4 := by unfold uSize; (repeat' split) <;> omega
  have e1 : uLo c.toNat = 128 := by unfold uLo; (repeat' split) <;> omega
  have e2 : uHi c.toNat = 191 := by unfold uHi; (repeat' split) <;> omega
  have n0 : ¬ (c.toNat : Int) < 128 := by omega
  have n1 : 194 ≤ (c.toNat : Int) := by omega
  have n2 : ¬ (c.toNat : Int) ≤ 223 := by omega
  have n3 : 224 ≤ (c.toNat : Int) := by omega
  have n4 : ¬ (c.toNat : Int) ≤ 239 := by omega
  have n5 : 240 ≤ (c.toNat : Int) := by omega
  have n6 : (c.toNat : Int) ≤ 244 := by omega
  have n7 : ¬ (c.toNat : Int) = 224 := by omega
  have n8 : ¬ (c.toNat : Int) = 237 := by omega
  have n9 : ¬ (c.toNat : Int) = 240 := by omega
  have n10 : ¬ (c.toNat : Int) = 244 := by omega
  obtain ⟨lo', hi', i', gl⟩ := rsign_loop hb hq (n := 4) (by omega) 3 1 128 191 rfl
  simp only [rsFr, nl1, nl2, nl3, nl4, x1, x2, x3, x4, x5, x6] at gl
  rw [e, e1, e2]
  by_cases hk : okRest 3 (s.drop (q + 1)) 128 191 = true
  ·simp only [hk, if_true] at gl
   simp -implicitDefEqProofs (maxSteps := 1000000) [Tryz.f110, Code.hide, Code.key, hc, hget, hq, n0, n1, n2, n3, n4, n5, n6, n7, n8, n9, n10, gl, hk]
  ·simp only [if_neg hk] at gl
   simp -implicitDefEqProofs (maxSteps := 1000000) [Tryz.f110, Code.hide, Code.key, hc, hget, hq, n0, n1, n2, n3, n4, n5, n6, n7, n8, n9, n10, gl, hk]
 have e : uSize c.toNat = 0 := by unfold uSize; (repeat' split) <;> omega
 rw [e]
 by_cases k : c.toNat < 194
 ·have n1 : ¬ (194 : Int) ≤ c.toNat := by omega
  have n2 : ¬ (224 : Int) ≤ c.toNat := by omega
  have n3 : ¬ (240 : Int) ≤ c.toNat := by omega
  simp -implicitDefEqProofs (maxSteps := 1000000) [Tryz.f110, Code.hide, Code.key, hc, hget, hq, h1, n1, n2, n3]
 ·have n1 : (194 : Int) ≤ c.toNat := by omega
  have n2 : ¬ (c.toNat : Int) ≤ 223 := by omega
  have n3 : (224 : Int) ≤ c.toNat := by omega
  have n4 : ¬ (c.toNat : Int) ≤ 239 := by omega
  have n5 : (240 : Int) ≤ c.toNat := by omega
  have n6 : ¬ (c.toNat : Int) ≤ 244 := by omega
  simp -implicitDefEqProofs (maxSteps := 1000000) [Tryz.f110, Code.hide, Code.key, hc, hget, hq, h1, n1, n2, n3, n4, n5, n6]
theorem rbad_loop {s : List UInt8} (hb : s.length ≤ 1099511627776) : ∀ q, q ≤ s.length → ∃ k i' r, ∀ (p : Id) (c0 c : Nat) (h : Heap), c0 ≤ c →
  iterW E 66 p [0, 2, 3] L_66_2 c0 (((bot.set 3 (.int .i64 q)).set 2 (.int .i64 0)).set 0 (.str s)) c h =
   some (if uWhole s q = s.length then .exit 0 else .ret, ((bot.set 3 (.int .i64 i')).set 2 (.int .i64 r)).set 0 (.str s), c + k, dropFrom p c0 h) ∧ (uWhole s q ≠ s.length → r = (uWhole s q : Int)) := by
 refine rec_ind fun q hq ih => ?_
 by_cases hlt : q < s.length
 ·have hlt' : (q : Int) < s.length := by omega
  have g := rsign_ok hb hlt
  have hle := uSign_le (s.drop q)
  simp only [List.length_drop] at hle
  have hw2 : IntKind.i64.wrap ((q : Int) + uSign (s.drop q)) = ((q + uSign (s.drop q) : Nat) : Int) := by rw [wrap_i64 (by omega) (by omega)]; rfl
  by_cases h0 : uSign (s.drop q) = 0
  ·have e0 : uWhole s q = q := by rw [uWhole, dif_neg (fun x => x.2 h0)]
   refine ⟨1, q, q, fun p c0 c h hc => ⟨?_, fun _ => by rw [e0]⟩⟩
   rw [e0, rd_66_2, if_neg (by omega)]
   rw [h0] at g
   generalize hr : execW E 66 p _ _ _ _ = e
   simp -implicitDefEqProofs (maxSteps := 1000000) [Tryz.f66, Code.loopAt, Code.key, hlt, hlt', hq, g] at hr
   subst hr
   simp [drop_drop_cons hc]
  ·have e0 : uWhole s q = uWhole s (q + uSign (s.drop q)) := by rw [uWhole, dif_pos ⟨hlt, h0⟩]
   have h0' : ¬ (uSign (s.drop q) : Int) = 0 := by omega
   obtain ⟨k, i', r, gl⟩ := ih (q + uSign (s.drop q)) (by omega) (by omega)
   refine ⟨1 + k, i', r, fun p c0 c h hc => ⟨?_, fun hx => by rw [e0] at hx ⊢; exact (gl p c0 c h hc).2 hx⟩⟩
   rw [e0, rd_66_2]
   generalize hr : execW E 66 p _ _ _ _ = e
   simp -implicitDefEqProofs (maxSteps := 1000000) [Tryz.f66, Code.loopAt, Code.key, hlt, hlt', hq, g, h0, h0', hw2] at hr
   subst hr
   have e := (gl p c0 (c + 1) (dropFrom p c0 h) (by omega)).1
   simpa [drop_drop_cons hc, Nat.add_assoc] using e
 ·have hlt' : ¬ (q : Int) < s.length := by omega
  have e0 : uWhole s q = q := by rw [uWhole, dif_neg (fun x => hlt x.1)]
  refine ⟨0, q, 0, fun p c0 c h hc => ⟨?_, fun hx => by omega⟩⟩
  rw [e0, rd_66_2, if_pos (by omega)]
  generalize hr : execW E 66 p _ _ _ _ = e
  simp -implicitDefEqProofs (maxSteps := 1000000) [Tryz.f66, Code.loopAt, Code.key, hlt, hlt', hq] at hr
  subst hr
  simp
theorem rbad_ok {s : List UInt8} (hb : s.length ≤ 1099511627776) (p : Id) (h : Heap) : callW E p 66 [.str s] h = some (.int .i64 (badI (uBad s)), dropFrom p 0 h) := by
 obtain ⟨k, i', r, gl⟩ := rbad_loop hb 0 (Nat.zero_le _)
 have hr := fun (hc : uWhole s 0 ≠ s.length) => (gl p 0 0 h (Nat.le_refl 0)).2 hc
 have g := fun p c0 c h hc => (gl p c0 c h hc).1
 simp only [nat0] at g
 rw [eq_66]
 unfold uBad
 by_cases h1 : uWhole s 0 = s.length
 ·rw [if_pos h1]
  simp only [if_pos h1] at g
  simp -implicitDefEqProofs (maxSteps := 1000000) [Tryz.f66, Code.hide, Code.key, g, badI]
 ·rw [if_neg h1]
  simp only [if_neg h1] at g
  have := hr h1
  simp -implicitDefEqProofs (maxSteps := 1000000) [Tryz.f66, Code.hide, Code.key, g, badI, this]
theorem rtext_ok {s : List UInt8} (hb : s.length ≤ 1099511627776) (p : Id) (h : Heap) : callW E p 37 [.str s] h = some (.bool (uBad s).isNone, dropFrom p 0 h) := by
 have g := rbad_ok hb
 rw [eq_37]
 cases hx : uBad s with
 | none =>
  rw [hx] at g
  simp only [badI] at g
  simp -implicitDefEqProofs (maxSteps := 1000000) [Tryz.f37, Code.key, g]
 | some n =>
  rw [hx] at g
  have : ¬ (n : Int) < 0 := by omega
  simp only [badI] at g
  simp -implicitDefEqProofs (maxSteps := 1000000) [Tryz.f37, Code.key, g, this]
end Go.Ai.T

namespace Go.Ai.T
open Go Go.Proofs
set_option maxRecDepth 100000
set_option maxHeartbeats 4000000
def rgetX (q : Nat) : Except Int (Nat × Nat) → A × A × A
 | .ok (n, k) => (.int .u64 n, .int .i64 (q + k : Nat), .int .i64 0)
 | .error c => (.int .u64 0, .int .i64 0, .int .i64 c)
def rgFr (s : List UInt8) (q i acc : Nat) (r : A × A × A) : Fr := ((((((bot.set 8 (.int .i64 i)).set 7 (.int .u64 acc)).set 6 r.2.2).set 5 r.2.1).set 4 r.1).set 1 (.int .i64 q)).set 0 (.str s)
theorem rget_loop {s : List UInt8} (hb : s.length ≤ 1099511627776) {q : Nat} (hq : q ≤ s.length) : ∀ (rest : List UInt8) (i acc : Nat), s.drop (q + i) = rest → i ≤ 9 → acc < 2 ^ (7 * i) → ∃ i' acc' : Nat, ∀ (p : Id) (c0 c : Nat) (h : Heap),
  iterW E 63 p [0, 1, 4, 5, 6, 7, 8] L_63_5 c0 (rgFr s q i acc (.int .u64 0, .int .i64 0, .int .i64 0)) c h =
   some (.ret, rgFr s q i' acc' (rgetX q (vgo i acc rest)), c, dropFrom p c0 h) := by
 intro rest
 induction rest with
 | nil =>
  intro i acc hj hi ha
  refine ⟨i, acc, fun p c0 c h => ?_⟩
  have h1 : (i : Int) < 10 := by omega
  have hw1 : IntKind.i64.wrap ((q : Int) + i) = ((q + i : Nat) : Int) := by rw [wrap_i64 (by omega) (by omega)]; rfl
  have h2 : ((s.length : Nat) : Int) ≤ ((q + i : Nat) : Int) := by have := congrArg List.length hj; simp at this; omega
  unfold rgFr
  rw [rd_63_5]
  generalize hr : execW E 63 p _ _ _ _ = e
  simp -implicitDefEqProofs (maxSteps := 1000000) [-Int.natCast_add, Tryz.f63, Code.loopAt, Code.key, h1, hw1, h2] at hr
  subst hr
  simp [vgo, rgetX]
 | cons b bs ih =>
  intro i acc hj hi ha
  obtain ⟨hlt, hbb, hbs⟩ := drop_facts hj
  have hget : ∀ hl, s[q + i]'hl = b := fun hl => by rw [List.getElem?_eq_getElem hl] at hbb; exact Option.some.inj hbb
  have h1 : (i : Int) < 10 := by omega
  have hw1 : IntKind.i64.wrap ((q : Int) + i) = ((q + i : Nat) : Int) := by rw [wrap_i64 (by omega) (by omega)]; rfl
  have hw2 : IntKind.i64.wrap ((i : Int) + 1) = ((i + 1 : Nat) : Int) := by rw [wrap_i64 (by omega) (by omega)]; rfl
  have hw3 : IntKind.i64.wrap (((q + i : Nat) : Int) + 1) = ((q + (i + 1) : Nat) : Int) := by rw [wrap_i64 (by omega) (by omega)]; rfl
  have h2 : ¬ ((s.length : Nat) : Int) ≤ ((q + i : Nat) : Int) := by omega
  have hb256 : b.toNat < 256 := b.toNat_lt
  have hw7 : IntKind.i64.wrap (7 * (i : Int)) = 7 * (i : Int) := wrap_i64 (by omega) (by omega)
  have hwu : IntKind.u64.wrap (7 * (i : Int)) = 7 * (i : Int) := wrap_u64 (by omega) (by omega)
  have hp : 2 ^ (7 * (i + 1)) = 128 * 2 ^ (7 * i) := by rw [show 7 * (i + 1) = 7 * i + 7 by omega, Nat.pow_add]; omega
  have hmm : b.toNat % 128 * 2 ^ (7 * i) ≤ 127 * 2 ^ (7 * i) := Nat.mul_le_mul_right _ (by omega)
  have hn7 : ¬ 7 * (i : Int) < 0 := by omega
  have hmin : min (7 * (i : Int)).toNat 64 = 7 * i := by omega
  have hmin2 : min (7 * i) 64 = 7 * i := by omega
  have hand : bitsA .and .u8 (b.toNat : Int) 127 = ((b.toNat % 128 : Nat) : Int) := by
   have : ∀ m : Fin 256, bitsA .and .u8 (m.val : Int) 127 = ((m.val % 128 : Nat) : Int) := by decide +kernel
   exact this ⟨b.toNat, hb256⟩
  have hw8 : IntKind.u64.wrap ((b.toNat % 128 : Nat) : Int) = ((b.toNat % 128 : Nat) : Int) := wrap_u64 (by omega) (by omega)
  rw [vgo]
  unfold rgFr at ih ⊢
  by_cases h9 : i = 9 ∧ 1 < b.toNat
  ·rw [if_pos h9]
   obtain ⟨rfl, h91⟩ := h9
   refine ⟨9, acc, fun p c0 c h => ?_⟩
   rw [rd_63_5]
   have h91' : (1 : Int) < b.toNat := by omega
   have x9 : ((9 : Nat) : Int) = 9 := rfl
   simp only [x9] at hw1 ⊢
   generalize hr : execW E 63 p _ _ _ _ = e
   simp -implicitDefEqProofs (maxSteps := 1000000) [-Int.natCast_add, Tryz.f63, Code.loopAt, Code.key, hw1, h2, hlt, hget, hbb, h91', h91] at hr
   subst hr
   simp [rgetX]
  ·rw [if_neg h9]
   have step : b.toNat % 128 * 2 ^ (7 * i) < 18446744073709551616 ∧ acc < 18446744073709551616 := by
    rcases Nat.lt_or_ge i 9 with h8 | h8
    ·have : 2 ^ (7 * i) ≤ 2 ^ 56 := Nat.pow_le_pow_right (by omega) (by omega)
     omega
    ·have hi9 : i = 9 := by omega
     subst hi9
     have : b.toNat ≤ 1 := by omega
     have hm' : b.toNat % 128 * 2 ^ (7 * 9) ≤ 1 * 2 ^ (7 * 9) := Nat.mul_le_mul_right _ (by omega)
     omega
   obtain ⟨hs1, hs2⟩ := step
   have hsh : IntKind.u64.wrap (((b.toNat % 128 : Nat) : Int) * 2 ^ (7 * i)) = ((b.toNat % 128 * 2 ^ (7 * i) : Nat) : Int) := by
    have e : (((b.toNat % 128 : Nat) : Int) * 2 ^ (7 * i)) = ((b.toNat % 128 * 2 ^ (7 * i) : Nat) : Int) := by push_cast; rfl
    rw [e]
    exact wrap_u64 (by omega) (by omega)
   have hor : bitsA .or .u64 (acc : Int) ((b.toNat % 128 * 2 ^ (7 * i) : Nat) : Int) = ((acc + b.toNat % 128 * 2 ^ (7 * i) : Nat) : Int) := by
    rw [bitsA_or_u64 _ _ hs2 hs1, or_shift _ _ _ ha]
   have hi9 : (i : Int) = 9 → ¬ (1 : Int) < b.toNat := by intro h h2; exact h9 ⟨by omega, by omega⟩
   by_cases hc : b.toNat < 128
   ·rw [if_pos hc]
    refine ⟨i, acc + b.toNat % 128 * 2 ^ (7 * i), fun p c0 c h => ?_⟩
    rw [rd_63_5]
    have hc' : (b.toNat : Int) < 128 := by omega
    generalize hr : execW E 63 p _ _ _ _ = e
    by_cases hi : (i : Int) = 9
    ·simp -implicitDefEqProofs (maxSteps := 1000000) [-Int.natCast_add, -Int.natCast_emod, -Int.natCast_mul, Tryz.f63, Code.loopAt, Code.key, h1, hw1, h2, hlt, hget, hbb, hw7, hwu, hw8, hw3, hn7, hmin, hmin2, hand, hsh, hor, hc', eq_true hi, eq_true (show i = 9 by omega), hi9 hi, IntKind.bits] at hr
     subst hr
     simp [-Int.natCast_add, rgetX]
     done
    ·simp -implicitDefEqProofs (maxSteps := 1000000) [-Int.natCast_add, -Int.natCast_emod, -Int.natCast_mul, Tryz.f63, Code.loopAt, Code.key, h1, hw1, h2, hlt, hget, hbb, hw7, hwu, hw8, hw3, hn7, hmin, hmin2, hand, hsh, hor, hc', hi, show ¬ i = 9 by omega, IntKind.bits] at hr
     subst hr
     simp [-Int.natCast_add, rgetX]
   ·rw [if_neg hc]
    have hi : i < 9 := by omega
    obtain ⟨i', acc', g⟩ := ih (i + 1) (acc + b.toNat % 128 * 2 ^ (7 * i)) hbs (by omega) (by omega)
    refine ⟨i', acc', fun p c0 c h => ?_⟩
    rw [rd_63_5]
    have hc' : ¬ (b.toNat : Int) < 128 := by omega
    generalize hr : execW E 63 p _ _ _ _ = e
    simp -implicitDefEqProofs (maxSteps := 1000000) [-Int.natCast_add, -Int.natCast_emod, -Int.natCast_mul, Tryz.f63, Code.loopAt, Code.key, h1, hw1, hw2, h2, hlt, hget, hbb, hw7, hwu, hw8, hw3, hn7, hmin, hmin2, hand, hsh, hor, hc', show ¬ (i : Int) = 9 by omega, show ¬ i = 9 by omega, IntKind.bits] at hr
    subst hr
    simpa [-Int.natCast_add] using g p c0 c (dropFrom p c0 h)
def encRGet (q : Nat) (r : Except Int (Nat × Nat)) : A := .tuple [(rgetX q r).1, (rgetX q r).2.1, (rgetX q r).2.2]
theorem rget_ok {s : List UInt8} (hb : s.length ≤ 1099511627776) {q : Nat} (hq : q ≤ s.length) (p : Id) (h : Heap) : callW E p 63 [.str s, .int .i64 q] h = some (encRGet q (vread (s.drop q)), dropFrom p 0 h) := by
 obtain ⟨i', acc', gl⟩ := rget_loop hb hq _ 0 0 rfl (by omega) (by omega)
 have hq0 : ¬ (q : Int) < 0 := by omega
 have hq1 : ¬ (s.length : Int) < q := by omega
 simp only [rgFr, nat0, Nat.add_zero] at gl
 have hv : vgo 0 0 (s.drop q) = vread (s.drop q) := rfl
 rw [hv] at gl
 rw [eq_63]
 cases hr : vread (s.drop q) with
 | ok r =>
  obtain ⟨n, k⟩ := r
  rw [hr] at gl
  simp only [rgetX] at gl
  simp -implicitDefEqProofs (maxSteps := 1000000) [-Int.natCast_add, Tryz.f63, Code.hide, Code.key, gl, hq, hq0, hq1, encRGet, rgetX]
 | error c =>
  rw [hr] at gl
  simp only [rgetX] at gl
  simp -implicitDefEqProofs (maxSteps := 1000000) [-Int.natCast_add, Tryz.f63, Code.hide, Code.key, gl, hq, hq0, hq1, encRGet, rgetX]
theorem rfixed_loop {s : List UInt8} (h8 : s.length ≤ 8) : ∀ j, j ≤ s.length → ∀ (p : Id) (c0 c : Nat) (h : Heap),
  iterW E 64 p [0, 3, 4] L_64_3 c0 (((bot.set 4 (.int .i64 ((j : Int) - 1))).set 3 (.int .u64 (leN (s.drop j)))).set 0 (.str s)) c h =
   some (.exit 0, ((bot.set 4 (.int .i64 (-1))).set 3 (.int .u64 (leN s))).set 0 (.str s), c, dropFrom p c0 h) := by
 intro j
 induction j with
 | zero =>
  intro hj p c0 c h
  rw [rd_64_3]
  generalize hr : execW E 64 p _ _ _ _ = e
  simp -implicitDefEqProofs (maxSteps := 1000000) [Tryz.f64, Code.loopAt, Code.key] at hr
  subst hr
  simp
 | succ j ih =>
  intro hj p c0 c h
  obtain ⟨b, hb⟩ : ∃ b, s[j]? = some b := ⟨_, List.getElem?_eq_getElem (by omega)⟩
  have hlt : j < s.length := by omega
  have hget : ∀ hl, s[j]'hl = b := fun hl => by rw [List.getElem?_eq_getElem hl] at hb; exact Option.some.inj hb
  have hd : s.drop j = b :: s.drop (j + 1) := by rw [List.drop_eq_getElem_cons hlt, hget]
  have hle : leN (s.drop j) = leN (s.drop (j + 1)) * 256 + b.toNat := by rw [hd, leN]; omega
  have hlt2 := leN_lt (s.drop (j + 1))
  simp only [List.length_drop] at hlt2
  have hp : 256 ^ (s.length - (j + 1)) ≤ 256 ^ 7 := Nat.pow_le_pow_right (by omega) (by omega)
  have hb256 : b.toNat < 256 := b.toNat_lt
  have hj1 : ((j + 1 : Nat) : Int) - 1 = j := by omega
  have hj0 : (0 : Int) ≤ j := by omega
  have hw1 : IntKind.i64.wrap ((j : Int) - 1) = (j : Int) - 1 := wrap_i64 (by omega) (by omega)
  have hw2 : IntKind.u64.wrap (b.toNat : Int) = b.toNat := wrap_u64 (by omega) (by omega)
  have hsh : IntKind.u64.wrap ((leN (s.drop (j + 1)) : Int) * 256) = ((leN (s.drop (j + 1)) * 256 : Nat) : Int) := by rw [wrap_u64 (by omega) (by omega)]; rfl
  have hor : bitsA .or .u64 ((leN (s.drop (j + 1)) * 256 : Nat) : Int) (b.toNat : Int) = ((leN (s.drop j) : Nat) : Int) := by
   rw [bitsA_or_u64 _ _ (by omega) (by omega), Nat.or_comm, show (256 : Nat) = 2 ^ 8 from rfl, or_shift _ _ _ (by omega), hle]
   congr 1; omega
  rw [hj1, rd_64_3]
  generalize hr : execW E 64 p _ _ _ _ = e
  simp -implicitDefEqProofs (maxSteps := 1000000) [-Int.natCast_mul, Tryz.f64, Code.loopAt, Code.key, hj0, hlt, hb, hget, hw1, hw2, hsh, hor, IntKind.bits] at hr
  subst hr
  simpa using ih (by omega) p c0 c (dropFrom p c0 h)
theorem rfixed_ok {s : List UInt8} (h8 : s.length ≤ 8) (p : Id) (h : Heap) : callW E p 64 [.str s] h = some (.int .u64 (leN s), dropFrom p 0 h) := by
 have gl := rfixed_loop h8 s.length (Nat.le_refl _)
 simp only [List.drop_length, leN, nat0] at gl
 have hw1 : IntKind.i64.wrap ((s.length : Int) - 1) = (s.length : Int) - 1 := wrap_i64 (by omega) (by omega)
 rw [eq_64]
 simp -implicitDefEqProofs (maxSteps := 1000000) [Tryz.f64, Code.hide, Code.key, gl, hw1]
theorem tag_parts {s : List UInt8} {q num kind q1 : Nat} (h : tagE s q = .ok (num, kind, q1)) : ∃ n k, vread (s.drop q) = .ok (n, k) ∧ num = n / 8 ∧ kind = n % 8 ∧ q1 = q + k := by
 unfold tagE at h
 split at h
 ·cases h
 ·rename_i n q' hg
  split at h
  ·cases h
  ·simp only [Except.ok.injEq, Prod.mk.injEq] at h
   obtain ⟨rfl, rfl, rfl⟩ := h
   unfold vgetE at hg
   split at hg
   ·rename_i n' k hr
    simp only [Except.ok.injEq, Prod.mk.injEq] at hg
    obtain ⟨rfl, rfl⟩ := hg
    exact ⟨n', k, hr, rfl, rfl, rfl⟩
   ·cases hg
theorem vget_parts {s : List UInt8} {q n q1 : Nat} (h : vgetE s q = .ok (n, q1)) : ∃ k, vread (s.drop q) = .ok (n, k) ∧ q1 = q + k := by
 unfold vgetE at h
 split at h
 ·rename_i n' k hr
  simp only [Except.ok.injEq, Prod.mk.injEq] at h
  obtain ⟨rfl, rfl⟩ := h
  exact ⟨k, hr, rfl⟩
 ·cases h
def rNone : A := .tuple [.agg [.int .i64 0, .int .i64 0, .int .u64 0, .str [], .str []], .int .i64 0, .bool false]
def NextY (s : List UInt8) (q : Nat) : Prop := ∀ (d : Int), d ≤ 9223372036854775807 → ∀ (r : Rec) (e : Nat), recE s d q = .ok (r, e) → ∀ (p : Id) (h : Heap), callW E p 34 [.str s, .int .i64 q, .int .i64 d] h = some (.tuple [encRec r, .int .i64 e, .bool true], dropFrom p 0 h)
def NextN (s : List UInt8) (q : Nat) : Prop := ∀ (d : Int), d ≤ 9223372036854775807 → ∀ (x : Err), recE s d q = .error x → ∀ (p : Id) (h : Heap), callW E p 34 [.str s, .int .i64 q, .int .i64 d] h = some (rNone, dropFrom p 0 h)
def RGroupY (s : List UInt8) (q : Nat) : Prop := ∀ (d : Int), d ≤ 9223372036854775807 → ∀ (num e : Nat), 1 ≤ num → num ≤ 536870911 → groupE s d num q = .ok e → ∀ (p : Id) (h : Heap), callW E p 65 [.str s, .int .i64 q, .int .i64 num, .int .i64 d] h = some (.tuple [.int .i64 e, .bool true], dropFrom p 0 h)
def RGroupN (s : List UInt8) (q : Nat) : Prop := ∀ (d : Int), d ≤ 9223372036854775807 → ∀ (num : Nat) (x : Err), 1 ≤ num → num ≤ 536870911 → groupE s d num q = .error x → ∃ v : Int, ∀ (p : Id) (h : Heap), callW E p 65 [.str s, .int .i64 q, .int .i64 num, .int .i64 d] h = some (.tuple [.int .i64 v, .bool false], dropFrom p 0 h)
theorem next_y {s : List UInt8} (hb : s.length ≤ 1099511627776) {q : Nat} (hq : q ≤ s.length) (hg : ∀ q1, q < q1 → q1 ≤ s.length → RGroupY s q1) : NextY s q := by
 intro d hd r e hv p h
 have hs' : s.length ≤ maxStr := by unfold maxStr; omega
 unfold recE at hv
 split at hv
 ·cases hv
 rename_i num kind q1 ht
 have b1 := tagE_lt ht
 obtain ⟨⟨nn, bs, e'⟩, hbd, h2⟩ := map_ok hv
 simp only [Prod.mk.injEq] at h2
 obtain ⟨rfl, rfl⟩ := h2
 have b2 := bodyE_lt hbd b1.2.1
 -- the tag
 obtain ⟨n, k, hvr, hnum, hkind, hq1⟩ := tag_parts ht
 have hn := (vread_lt hvr).1
 have g := rget_ok hb hq
 rw [hvr] at g
 simp only [encRGet, rgetX] at g
 have t1 : ((n : Int).fdiv 8) = ((n / 8 : Nat) : Int) := fdiv_nat n 8
 have t2 : ¬ ((n / 8 : Nat) : Int) < 1 := by omega
 have t3 : ¬ (536870912 : Int) ≤ ((n / 8 : Nat) : Int) := by omega
 have t5 := and7 n hn
 have t6 : IntKind.i64.wrap ((n / 8 : Nat) : Int) = ((n / 8 : Nat) : Int) := wrap_i64 (by omega) (by omega)
 have t7 : IntKind.i64.wrap ((n % 8 : Nat) : Int) = ((n % 8 : Nat) : Int) := wrap_i64 (by omega) (by omega)
 rw [← hnum, ← hkind] at *
 have q1' : q + k = q1 := hq1.symm
 rw [q1'] at g
 have c1 : ¬ (e' : Int) < q := by omega
 have hraw : List.drop q (List.take e' s) = List.take (e' - q) (List.drop q s) := List.drop_take
 rw [bodyE] at hbd
 rw [eq_34]
 split at hbd
 ·rename_i hk
  obtain ⟨⟨n', e2⟩, h1, h2⟩ := map_ok hbd
  simp only [Prod.mk.injEq] at h2
  obtain ⟨rfl, rfl, rfl⟩ := h2
  obtain ⟨k2, hv2, rfl⟩ := vget_parts h1
  have g2 := rget_ok hb b1.2.1
  rw [hv2] at g2
  simp only [encRGet, rgetX] at g2
  rw [hk] at t5 t7 ⊢
  simp only [nat0] at t5 t7 ⊢
  simp -implicitDefEqProofs (maxSteps := 1000000) [IntKind.bits, -Int.natCast_ediv, -Int.natCast_emod, -Int.natCast_add, Tryz.f34, Code.key, g, g2, t1, t2, t3, t5, t6, t7, encRec]
  exact ⟨by omega, by omega, hraw⟩
 split at hbd
 ·rename_i hk
  obtain ⟨⟨tt, e2⟩, h1, h2⟩ := map_ok hbd
  simp only [Prod.mk.injEq] at h2
  obtain ⟨rfl, rfl, rfl⟩ := h2
  obtain ⟨he2, hle2, hlen, htt⟩ := takeE_lt h1 b1.2.1
  have g2 := rfixed_ok (s := tt) (by omega)
  have w1 : IntKind.i64.wrap ((s.length : Int) - q1) = ((s.length - q1 : Nat) : Int) := by rw [wrap_i64 (by omega) (by omega)]; omega
  have w2 : IntKind.i64.wrap ((q1 : Int) + 8) = ((q1 + 8 : Nat) : Int) := by rw [wrap_i64 (by omega) (by omega)]; rfl
  have w3 : ¬ ((s.length - q1 : Nat) : Int) < 8 := by omega
  have w4 : ¬ (s.length - q1 < 8) := by omega
  have hsub : List.drop q1 (List.take (q1 + 8) s) = tt := by rw [List.drop_take, Nat.add_sub_cancel_left, ← htt]
  have w5 : q1 + 8 ≤ s.length := by omega
  rw [hk] at t5 t7 ⊢
  simp only [nl1, nl5, he2] at t5 t7 hraw ⊢
  simp -implicitDefEqProofs (maxSteps := 1000000) [IntKind.bits, -Int.natCast_ediv, -Int.natCast_emod, -Int.natCast_add, Tryz.f34, Code.key, g, t1, t2, t3, t5, t6, t7, encRec, g2, w1, w2, w3, w4, w5, hsub]
  exact ⟨by omega, hraw⟩
 split at hbd
 ·rename_i hk
  obtain ⟨⟨tt, e2⟩, h1, h2⟩ := map_ok hbd
  simp only [Prod.mk.injEq] at h2
  obtain ⟨rfl, rfl, rfl⟩ := h2
  obtain ⟨he2, hle2, hlen, htt⟩ := takeE_lt h1 b1.2.1
  have g2 := rfixed_ok (s := tt) (by omega)
  have w1 : IntKind.i64.wrap ((s.length : Int) - q1) = ((s.length - q1 : Nat) : Int) := by rw [wrap_i64 (by omega) (by omega)]; omega
  have w2 : IntKind.i64.wrap ((q1 : Int) + 4) = ((q1 + 4 : Nat) : Int) := by rw [wrap_i64 (by omega) (by omega)]; rfl
  have w3 : ¬ ((s.length - q1 : Nat) : Int) < 4 := by omega
  have w4 : ¬ (s.length - q1 < 4) := by omega
  have hsub : List.drop q1 (List.take (q1 + 4) s) = tt := by rw [List.drop_take, Nat.add_sub_cancel_left, ← htt]
  have w5 : q1 + 4 ≤ s.length := by omega
  rw [hk] at t5 t7 ⊢
  simp only [nl1, nl5, he2] at t5 t7 hraw ⊢
  simp -implicitDefEqProofs (maxSteps := 1000000) [IntKind.bits, -Int.natCast_ediv, -Int.natCast_emod, -Int.natCast_add, Tryz.f34, Code.key, g, t1, t2, t3, t5, t6, t7, encRec, g2, w1, w2, w3, w4, w5, hsub]
  exact ⟨by omega, hraw⟩
 split at hbd
 ·rename_i hk
  split at hbd
  ·cases hbd
  rename_i n2 q2 hv2
  obtain ⟨⟨tt, e2⟩, h1, h2⟩ := map_ok hbd
  simp only [Prod.mk.injEq] at h2
  obtain ⟨rfl, rfl, rfl⟩ := h2
  have b3 := vgetE_lt hv2 b1.2.1
  obtain ⟨he2, hle2, hlen, htt⟩ := takeE_lt h1 b3.2.2.1
  obtain ⟨k2, hv3, hq2⟩ := vget_parts hv2
  have g2 := rget_ok hb b1.2.1
  rw [hv3] at g2
  simp only [encRGet, rgetX] at g2
  rw [← hq2] at g2
  have w1 : IntKind.i64.wrap ((s.length : Int) - q2) = ((s.length - q2 : Nat) : Int) := by rw [wrap_i64 (by omega) (by omega)]; omega
  have w2 : IntKind.u64.wrap ((s.length - q2 : Nat) : Int) = ((s.length - q2 : Nat) : Int) := wrap_u64 (by omega) (by omega)
  have w3 : IntKind.i64.wrap (n2 : Int) = n2 := wrap_i64 (by omega) (by omega)
  have w4 : IntKind.i64.wrap ((q2 : Int) + n2) = ((q2 + n2 : Nat) : Int) := by rw [wrap_i64 (by omega) (by omega)]; rfl
  have w5 : ¬ ((s.length - q2 : Nat) : Int) < n2 := by omega
  have w6 : ¬ (s.length - q2 < n2) := by omega
  have hsub : List.drop q2 (List.take (q2 + n2) s) = tt := by rw [List.drop_take, Nat.add_sub_cancel_left, ← htt]
  have w7 : q2 + n2 ≤ s.length := by omega
  rw [hk] at t5 t7 ⊢
  simp only [nl2, he2] at t5 t7 hraw ⊢
  simp -implicitDefEqProofs (maxSteps := 1000000) [IntKind.bits, -Int.natCast_ediv, -Int.natCast_emod, -Int.natCast_add, Tryz.f34, Code.key, g, t1, t2, t3, t5, t6, t7, encRec, g2, w1, w2, w3, w4, w5, w6, w7, hsub]
  exact ⟨by omega, hraw⟩
 split at hbd
 ·rename_i hk
  obtain ⟨e2, h1, h2⟩ := map_ok hbd
  simp only [Prod.mk.injEq] at h2
  obtain ⟨rfl, rfl, rfl⟩ := h2
  have g2 := hg q1 b1.1 b1.2.1 d hd num e2 b1.2.2.2.1 b1.2.2.2.2.1 h1
  rw [hk] at t5 t7 ⊢
  simp only [nl3] at t5 t7 hraw ⊢
  simp -implicitDefEqProofs (maxSteps := 1000000) [IntKind.bits, -Int.natCast_ediv, -Int.natCast_emod, -Int.natCast_add, Tryz.f34, Code.key, g, t1, t2, t3, t5, t6, t7, encRec, g2]
  exact ⟨by omega, by omega, hraw⟩
 ·cases hbd
theorem vget_err {s : List UInt8} {q : Nat} {x : Err} (h : vgetE s q = .error x) : ∃ c, vread (s.drop q) = .error c ∧ c ≠ 0 := by
 unfold vgetE at h
 split at h
 ·cases h
 ·rename_i c hr
  refine ⟨c, hr, ?_⟩
  have := vgo_err _ _ _ _ hr
  omega
theorem next_n {s : List UInt8} (hb : s.length ≤ 1099511627776) {q : Nat} (hq : q ≤ s.length) (hg : ∀ q1, q < q1 → q1 ≤ s.length → RGroupN s q1) : NextN s q := by
 intro d hd x hv p h
 have hs' : s.length ≤ maxStr := by unfold maxStr; omega
 have g := rget_ok hb hq
 unfold recE at hv
 rw [eq_34]
 split at hv
 ·rename_i x1 ht
  unfold tagE at ht
  split at ht
  ·rename_i x2 hvg
   obtain ⟨c, hc, hc0⟩ := vget_err hvg
   rw [hc] at g
   simp only [encRGet, rgetX] at g
   simp -implicitDefEqProofs (maxSteps := 1000000) [Tryz.f34, Code.key, g, hc0, rNone]
  ·rename_i n q1 hvg
   have hn := (vgetE_lt hvg hq).1
   obtain ⟨k, hvr, hq1⟩ := vget_parts hvg
   rw [hvr] at g
   simp only [encRGet, rgetX] at g
   rw [← hq1] at g
   have t1 : ((n : Int).fdiv 8) = ((n / 8 : Nat) : Int) := fdiv_nat n 8
   split at ht
   ·rename_i hbad
    by_cases t2 : ((n / 8 : Nat) : Int) < 1
    ·simp -implicitDefEqProofs (maxSteps := 1000000) [IntKind.bits, -Int.natCast_ediv, -Int.natCast_emod, -Int.natCast_add, Tryz.f34, Code.key, g, t1, rNone, t2]
    ·have t3 : (536870912 : Int) ≤ ((n / 8 : Nat) : Int) := by omega
     simp -implicitDefEqProofs (maxSteps := 1000000) [IntKind.bits, -Int.natCast_ediv, -Int.natCast_emod, -Int.natCast_add, Tryz.f34, Code.key, g, t1, rNone, t2, t3]
   ·cases ht
 rename_i num kind q1 ht
 have b1 := tagE_lt ht
 have hbd := map_err hv
 obtain ⟨n, k, hvr, hnum, hkind, hq1⟩ := tag_parts ht
 have hn := (vread_lt hvr).1
 rw [hvr] at g
 simp only [encRGet, rgetX] at g
 have t1 : ((n : Int).fdiv 8) = ((n / 8 : Nat) : Int) := fdiv_nat n 8
 have t2 : ¬ ((n / 8 : Nat) : Int) < 1 := by omega
 have t3 : ¬ (536870912 : Int) ≤ ((n / 8 : Nat) : Int) := by omega
 have t5 := and7 n hn
 have t6 : IntKind.i64.wrap ((n / 8 : Nat) : Int) = ((n / 8 : Nat) : Int) := wrap_i64 (by omega) (by omega)
 have t7 : IntKind.i64.wrap ((n % 8 : Nat) : Int) = ((n % 8 : Nat) : Int) := wrap_i64 (by omega) (by omega)
 rw [← hnum, ← hkind] at *
 have q1' : q + k = q1 := hq1.symm
 rw [q1'] at g
 rw [bodyE] at hbd
 split at hbd
 ·rename_i hk
  obtain ⟨c, hc, hc0⟩ := vget_err (map_err hbd)
  have g2 := rget_ok hb b1.2.1
  rw [hc] at g2
  simp only [encRGet, rgetX] at g2
  rw [hk] at t5 t7
  simp only [nat0] at t5 t7
  simp -implicitDefEqProofs (maxSteps := 1000000) [IntKind.bits, -Int.natCast_ediv, -Int.natCast_emod, -Int.natCast_add, Tryz.f34, Code.key, g, t1, t2, t3, t5, t6, t7, rNone, g2, hc0]
 split at hbd
 ·rename_i hk
  have h1 := map_err hbd
  unfold takeE at h1
  split at h1
  ·rename_i hlt
   have w1 : IntKind.i64.wrap ((s.length : Int) - q1) = ((s.length - q1 : Nat) : Int) := by rw [wrap_i64 (by omega) (by omega)]; omega
   have w3 : ((s.length - q1 : Nat) : Int) < 8 := by omega
   rw [hk] at t5 t7
   simp only [nl1, nl5] at t5 t7
   simp -implicitDefEqProofs (maxSteps := 1000000) [IntKind.bits, -Int.natCast_ediv, -Int.natCast_emod, -Int.natCast_add, Tryz.f34, Code.key, g, t1, t2, t3, t5, t6, t7, rNone, w1, w3, hlt]
  ·cases h1
 split at hbd
 ·rename_i hk
  have h1 := map_err hbd
  unfold takeE at h1
  split at h1
  ·rename_i hlt
   have w1 : IntKind.i64.wrap ((s.length : Int) - q1) = ((s.length - q1 : Nat) : Int) := by rw [wrap_i64 (by omega) (by omega)]; omega
   have w3 : ((s.length - q1 : Nat) : Int) < 4 := by omega
   rw [hk] at t5 t7
   simp only [nl1, nl5] at t5 t7
   simp -implicitDefEqProofs (maxSteps := 1000000) [IntKind.bits, -Int.natCast_ediv, -Int.natCast_emod, -Int.natCast_add, Tryz.f34, Code.key, g, t1, t2, t3, t5, t6, t7, rNone, w1, w3, hlt]
  ·cases h1
 split at hbd
 ·rename_i hk
  have g2 := rget_ok hb b1.2.1
  split at hbd
  ·rename_i x2 hv2
   obtain ⟨c, hc, hc0⟩ := vget_err hv2
   rw [hc] at g2
   simp only [encRGet, rgetX] at g2
   rw [hk] at t5 t7
   simp only [nl2] at t5 t7
   simp -implicitDefEqProofs (maxSteps := 1000000) [IntKind.bits, -Int.natCast_ediv, -Int.natCast_emod, -Int.natCast_add, Tryz.f34, Code.key, g, t1, t2, t3, t5, t6, t7, rNone, g2, hc0]
  ·rename_i n2 q2 hv2
   have h1 := map_err hbd
   have b3 := vgetE_lt hv2 b1.2.1
   obtain ⟨k2, hv3, hq2⟩ := vget_parts hv2
   rw [hv3] at g2
   simp only [encRGet, rgetX] at g2
   rw [← hq2] at g2
   unfold takeE at h1
   split at h1
   ·rename_i hlt
    have w1 : IntKind.i64.wrap ((s.length : Int) - q2) = ((s.length - q2 : Nat) : Int) := by rw [wrap_i64 (by omega) (by omega)]; omega
    have w2 : IntKind.u64.wrap ((s.length - q2 : Nat) : Int) = ((s.length - q2 : Nat) : Int) := wrap_u64 (by omega) (by omega)
    have w5 : ((s.length - q2 : Nat) : Int) < n2 := by omega
    rw [hk] at t5 t7
    simp only [nl2] at t5 t7
    simp -implicitDefEqProofs (maxSteps := 1000000) [IntKind.bits, -Int.natCast_ediv, -Int.natCast_emod, -Int.natCast_add, Tryz.f34, Code.key, g, t1, t2, t3, t5, t6, t7, rNone, g2, w1, w2, w5, hlt]
   ·cases h1
 split at hbd
 ·rename_i hk
  obtain ⟨v, gg⟩ := hg q1 b1.1 b1.2.1 d hd num x b1.2.2.2.1 b1.2.2.2.2.1 (map_err hbd)
  rw [hk] at t5 t7
  simp only [nl3] at t5 t7
  simp -implicitDefEqProofs (maxSteps := 1000000) [IntKind.bits, -Int.natCast_ediv, -Int.natCast_emod, -Int.natCast_add, Tryz.f34, Code.key, g, t1, t2, t3, t5, t6, t7, rNone, gg]
 ·rename_i k0 k1 k5 k2 k3
  have z0 : ¬ (kind : Int) = 0 := by omega
  have z1 : ¬ (kind : Int) = 1 := by omega
  have z2 : ¬ (kind : Int) = 2 := by omega
  have z3 : ¬ (kind : Int) = 3 := by omega
  have z5 : ¬ (kind : Int) = 5 := by omega
  simp -implicitDefEqProofs (maxSteps := 1000000) [IntKind.bits, -Int.natCast_ediv, -Int.natCast_emod, -Int.natCast_add, Tryz.f34, Code.key, g, t1, t2, t3, t5, t6, t7, rNone, k0, k1, k5, k2, k3, z0, z1, z2, z3, z5]
def rgrFr (s : List UInt8) (q num : Nat) (d : Int) (r ok : A) : Fr := (((((bot.set 9 ok).set 8 r).set 3 (.int .i64 d)).set 2 (.int .i64 num)).set 1 (.int .i64 q)).set 0 (.str s)
def RLoopY (s : List UInt8) (q : Nat) : Prop := ∀ (d : Int), 1 ≤ d → d ≤ 9223372036854775807 → ∀ (num e : Nat), 1 ≤ num → num ≤ 536870911 → loopE s (d - 1) num q = .ok e → ∃ k q' : Nat, ∀ (p : Id) (c0 c : Nat) (h : Heap), c0 ≤ c →
  iterW E 65 p [0, 1, 2, 3, 8, 9] L_65_3 c0 (rgrFr s q num d (.int .i64 0) (.bool false)) c h = some (.ret, rgrFr s q' num d (.int .i64 e) (.bool true), c + k, dropFrom p c0 h)
def RLoopN (s : List UInt8) (q : Nat) : Prop := ∀ (d : Int), 1 ≤ d → d ≤ 9223372036854775807 → ∀ (num : Nat) (x : Err), 1 ≤ num → num ≤ 536870911 → loopE s (d - 1) num q = .error x → ∃ (k q' : Nat) (v : Int), ∀ (p : Id) (c0 c : Nat) (h : Heap), c0 ≤ c →
  iterW E 65 p [0, 1, 2, 3, 8, 9] L_65_3 c0 (rgrFr s q num d (.int .i64 0) (.bool false)) c h = some (.ret, rgrFr s q' num d (.int .i64 v) (.bool false), c + k, dropFrom p c0 h)
theorem recE_of {s : List UInt8} {d : Int} {q n kind q1 m q2 : Nat} {bs : List UInt8} (ht : tagE s q = .ok (n, kind, q1)) (hb : bodyE s d n kind q q1 = .ok (m, bs, q2)) : ∃ r, recE s d q = .ok (r, q2) := by
 unfold recE; rw [ht]; dsimp only; rw [hb]; exact ⟨_, rfl⟩
theorem recE_of_err {s : List UInt8} {d : Int} {q n kind q1 : Nat} {x : Err} (ht : tagE s q = .ok (n, kind, q1)) (hb : bodyE s d n kind q q1 = .error x) : recE s d q = .error x := by
 unfold recE; rw [ht]; dsimp only; rw [hb]; rfl
theorem recE_of_tag {s : List UInt8} {d : Int} {q : Nat} {x : Err} (ht : tagE s q = .error x) : recE s d q = .error x := by
 unfold recE; rw [ht]
theorem rloop_y {s : List UInt8} (hb : s.length ≤ 1099511627776) {q : Nat} (hq : q ≤ s.length) (hy : NextY s q) (hl : ∀ q1, q < q1 → q1 ≤ s.length → RLoopY s q1) : RLoopY s q := by
 intro d hd1 hd num e hn1 hn2 hv
 have g := rget_ok hb hq
 have w1 : IntKind.i64.wrap (d - 1) = d - 1 := wrap_i64 (by omega) (by omega)
 cases ht : tagE s q with
 | error x => rw [loopE_err ht] at hv; cases hv
 | ok r =>
  obtain ⟨n, kind, q1⟩ := r
  have b1 := tagE_lt ht
  obtain ⟨m, k, hvr, hnum, hkind, hq1⟩ := tag_parts ht
  have hn := (vread_lt hvr).1
  rw [hvr] at g
  simp only [encRGet, rgetX] at g
  rw [← hq1] at g
  have t1 : ((m : Int).fdiv 8) = ((m / 8 : Nat) : Int) := fdiv_nat m 8
  have t5 := and7 m hn
  rw [← hnum] at t1
  rw [← hkind] at t5
  rw [loopE_ok ht] at hv
  unfold rgrFr
  split at hv
  ·rename_i hk
   split at hv
   ·rename_i hnn
    simp only [Except.ok.injEq] at hv
    rw [← hv]
    rw [hk] at t5
    rw [hnn] at t1
    have w2 : IntKind.u64.wrap (num : Int) = num := wrap_u64 (by omega) (by omega)
    simp only [nl4] at t5
    refine ⟨1, q, fun p c0 c h hc => ?_⟩
    rw [rd_65_3]
    generalize hr : execW E 65 p _ _ _ _ = e
    simp -implicitDefEqProofs (maxSteps := 1000000) [IntKind.bits, -Int.natCast_ediv, -Int.natCast_emod, -Int.natCast_add, Tryz.f65, Code.loopAt, Code.key, encRec, g, t1, t5, w1, w2] at hr
    subst hr
    simp [drop_drop_cons hc]
   ·cases hv
  ·rename_i hk4
   have hk4' : ¬ (kind : Int) = 4 := by omega
   split at hv
   ·cases hv
   ·rename_i n2 b2 q2 hbd
    have b2' := bodyE_lt hbd b1.2.1
    rw [if_pos (by omega)] at hv
    obtain ⟨r, hr⟩ := recE_of ht hbd
    have g2 := hy (d - 1) (by omega) r q2 hr
    obtain ⟨k2, q', gl⟩ := hl q2 (by omega) b2'.2.1 d hd1 hd num e hn1 hn2 hv
    unfold rgrFr at gl
    refine ⟨3 + k2, q', fun p c0 c h hc => ?_⟩
    rw [rd_65_3]
    generalize hr : execW E 65 p _ _ _ _ = e
    simp -implicitDefEqProofs (maxSteps := 1000000) [IntKind.bits, -Int.natCast_ediv, -Int.natCast_emod, -Int.natCast_add, Tryz.f65, Code.loopAt, Code.key, encRec, g, t1, t5, w1, g2, hk4, hk4'] at hr
    subst hr
    have e := gl p c0 (c + 3) (dropFrom p c0 h) (by omega)
    have hc1 : c0 ≤ c + 1 := by omega
    have hc2 : c0 ≤ c + 2 := by omega
    simpa [drop_drop_cons hc, drop_drop_cons hc1, drop_upd hc2, Nat.add_assoc] using e
theorem rloop_n {s : List UInt8} (hb : s.length ≤ 1099511627776) {q : Nat} (hq : q ≤ s.length) (hy : NextY s q) (hnx : NextN s q) (hl : ∀ q1, q < q1 → q1 ≤ s.length → RLoopN s q1) : RLoopN s q := by
 intro d hd1 hd num x hn1 hn2 hv
 have g := rget_ok hb hq
 have w1 : IntKind.i64.wrap (d - 1) = d - 1 := wrap_i64 (by omega) (by omega)
 have w2 : IntKind.u64.wrap (num : Int) = num := wrap_u64 (by omega) (by omega)
 unfold rgrFr
 cases ht : tagE s q with
 | error x1 =>
  have g2 := hnx (d - 1) (by omega) x1 (recE_of_tag ht)
  unfold tagE at ht
  split at ht
  ·rename_i x2 hvg
   obtain ⟨c', hc', hc0⟩ := vget_err hvg
   rw [hc'] at g
   simp only [encRGet, rgetX] at g
   refine ⟨1, q, 0, fun p c0 c h hc => ?_⟩
   rw [rd_65_3]
   generalize hr : execW E 65 p _ _ _ _ = e
   simp -implicitDefEqProofs (maxSteps := 1000000) [IntKind.bits, -Int.natCast_ediv, -Int.natCast_emod, -Int.natCast_add, Tryz.f65, Code.loopAt, Code.key, encRec, g, hc0] at hr
   subst hr
   simp [drop_drop_cons hc]
  ·rename_i m q1 hvg
   have hn := (vgetE_lt hvg hq).1
   obtain ⟨k, hvr, hq1⟩ := vget_parts hvg
   rw [hvr] at g
   simp only [encRGet, rgetX] at g
   rw [← hq1] at g
   have t1 : ((m : Int).fdiv 8) = ((m / 8 : Nat) : Int) := fdiv_nat m 8
   have t5 := and7 m hn
   split at ht
   ·rename_i hbad
    by_cases hk : m % 8 = 4
    ·rw [hk] at t5
     simp only [nl4] at t5
     have n1 : ¬ ((m / 8 : Nat) : Int) = num := by omega
     have n2 : ¬ m / 8 = num := by omega
     refine ⟨1, q, q1, fun p c0 c h hc => ?_⟩
     rw [rd_65_3]
     generalize hr : execW E 65 p _ _ _ _ = e
     simp -implicitDefEqProofs (maxSteps := 1000000) [IntKind.bits, -Int.natCast_ediv, -Int.natCast_emod, -Int.natCast_add, Tryz.f65, Code.loopAt, Code.key, encRec, g, t1, t5, w2, n1, n2] at hr
     subst hr
     simp [drop_drop_cons hc]
    ·have hk' : ¬ ((m % 8 : Nat) : Int) = 4 := by omega
     refine ⟨3, q, 0, fun p c0 c h hc => ?_⟩
     have hc1 : c0 ≤ c + 1 := by omega
     have hc2 : c0 ≤ c + 2 := by omega
     simp only [rNone] at g2
     rw [rd_65_3]
     generalize hr : execW E 65 p _ _ _ _ = e
     simp -implicitDefEqProofs (maxSteps := 1000000) [IntKind.bits, -Int.natCast_ediv, -Int.natCast_emod, -Int.natCast_add, Tryz.f65, Code.loopAt, Code.key, encRec, g, t1, t5, w1, w2, hk, hk', g2] at hr
     subst hr
     simp [drop_drop_cons hc, drop_drop_cons hc1, drop_upd hc2]
   ·cases ht
 | ok r =>
  obtain ⟨n, kind, q1⟩ := r
  have b1 := tagE_lt ht
  obtain ⟨m, k, hvr, hnum, hkind, hq1⟩ := tag_parts ht
  have hn := (vread_lt hvr).1
  rw [hvr] at g
  simp only [encRGet, rgetX] at g
  rw [← hq1] at g
  have t1 : ((m : Int).fdiv 8) = ((m / 8 : Nat) : Int) := fdiv_nat m 8
  have t5 := and7 m hn
  rw [← hnum] at t1
  rw [← hkind] at t5
  rw [loopE_ok ht] at hv
  split at hv
  ·rename_i hk
   split at hv
   ·cases hv
   ·rename_i hnn
    rw [hk] at t5
    have hnn' : ¬ (n : Int) = num := by omega
    simp only [nl4] at t5
    refine ⟨1, q, q1, fun p c0 c h hc => ?_⟩
    rw [rd_65_3]
    generalize hr : execW E 65 p _ _ _ _ = e
    simp -implicitDefEqProofs (maxSteps := 1000000) [IntKind.bits, -Int.natCast_ediv, -Int.natCast_emod, -Int.natCast_add, Tryz.f65, Code.loopAt, Code.key, encRec, g, t1, t5, w1, w2, hnn, hnn'] at hr
    subst hr
    simp [drop_drop_cons hc]
  ·rename_i hk4
   have hk4' : ¬ (kind : Int) = 4 := by omega
   split at hv
   ·rename_i x1 hbd
    have g2 := hnx (d - 1) (by omega) x1 (recE_of_err ht hbd)
    refine ⟨3, q, 0, fun p c0 c h hc => ?_⟩
    have hc1 : c0 ≤ c + 1 := by omega
    have hc2 : c0 ≤ c + 2 := by omega
    simp only [rNone] at g2
    rw [rd_65_3]
    generalize hr : execW E 65 p _ _ _ _ = e
    simp -implicitDefEqProofs (maxSteps := 1000000) [IntKind.bits, -Int.natCast_ediv, -Int.natCast_emod, -Int.natCast_add, Tryz.f65, Code.loopAt, Code.key, encRec, g, t1, t5, w1, w2, hk4, hk4', g2] at hr
    subst hr
    simp [drop_drop_cons hc, drop_drop_cons hc1, drop_upd hc2]
   ·rename_i n2 b2 q2 hbd
    have b2' := bodyE_lt hbd b1.2.1
    rw [if_pos (by omega)] at hv
    obtain ⟨r, hr⟩ := recE_of ht hbd
    have g2 := hy (d - 1) (by omega) r q2 hr
    obtain ⟨k2, q', v, gl⟩ := hl q2 (by omega) b2'.2.1 d hd1 hd num x hn1 hn2 hv
    unfold rgrFr at gl
    refine ⟨3 + k2, q', v, fun p c0 c h hc => ?_⟩
    rw [rd_65_3]
    generalize hr : execW E 65 p _ _ _ _ = e
    simp -implicitDefEqProofs (maxSteps := 1000000) [IntKind.bits, -Int.natCast_ediv, -Int.natCast_emod, -Int.natCast_add, Tryz.f65, Code.loopAt, Code.key, encRec, g, t1, t5, w1, g2, hk4, hk4'] at hr
    subst hr
    have e := gl p c0 (c + 3) (dropFrom p c0 h) (by omega)
    have hc1 : c0 ≤ c + 1 := by omega
    have hc2 : c0 ≤ c + 2 := by omega
    simpa [drop_drop_cons hc, drop_drop_cons hc1, drop_upd hc2, Nat.add_assoc] using e
theorem rgroup_y {s : List UInt8} {q : Nat} (hl : RLoopY s q) : RGroupY s q := by
 intro d hd num e hn1 hn2 hv p h
 rw [groupE] at hv
 split at hv
 ·cases hv
 ·rename_i h1
  obtain ⟨k, q', gl⟩ := hl d (by omega) hd num e hn1 hn2 hv
  have g := fun p c0 c h hc => gl p c0 c h hc
  simp only [rgrFr] at g
  rw [eq_65]
  simp -implicitDefEqProofs (maxSteps := 1000000) [Tryz.f65, Code.key, Code.hide, g, h1]
theorem rgroup_n {s : List UInt8} {q : Nat} (hl : RLoopN s q) : RGroupN s q := by
 intro d hd num x hn1 hn2 hv
 rw [groupE] at hv
 split at hv
 ·rename_i h1
  refine ⟨0, fun p h => ?_⟩
  rw [eq_65]
  simp -implicitDefEqProofs (maxSteps := 1000000) [Tryz.f65, Code.key, Code.hide, h1]
 ·rename_i h1
  obtain ⟨k, q', v, gl⟩ := hl d (by omega) hd num x hn1 hn2 hv
  refine ⟨v, fun p h => ?_⟩
  have g := fun p c0 c h hc => gl p c0 c h hc
  simp only [rgrFr] at g
  rw [eq_65]
  simp -implicitDefEqProofs (maxSteps := 1000000) [Tryz.f65, Code.key, Code.hide, g, h1]
theorem next_all {s : List UInt8} (hb : s.length ≤ 1099511627776) : ∀ m q, s.length + 1 - q ≤ m → q ≤ s.length → NextY s q ∧ NextN s q ∧ RLoopY s q ∧ RLoopN s q := by
 intro m
 induction m with
 | zero => intro q hm hq; omega
 | succ m ih =>
  intro q hm hq
  have ny := next_y hb hq (fun q1 h1 h2 => rgroup_y (ih q1 (by omega) h2).2.2.1)
  have nn := next_n hb hq (fun q1 h1 h2 => rgroup_n (ih q1 (by omega) h2).2.2.2)
  exact ⟨ny, nn, rloop_y hb hq ny (fun q1 h1 h2 => (ih q1 (by omega) h2).2.2.1), rloop_n hb hq ny nn (fun q1 h1 h2 => (ih q1 (by omega) h2).2.2.2)⟩
theorem nextY {s : List UInt8} (hb : s.length ≤ 1099511627776) {q : Nat} (hq : q ≤ s.length) : NextY s q := (next_all hb _ q (Nat.le_refl _) hq).1
theorem nextN {s : List UInt8} (hb : s.length ≤ 1099511627776) {q : Nat} (hq : q ≤ s.length) : NextN s q := (next_all hb _ q (Nat.le_refl _) hq).2.1
def rallFr (s : List UInt8) (d : Int) (q : Nat) (rs : List Rec) (ok : A) : Fr := (((((bot.set 7 (.int .i64 q)).set 6 (growing (55, 5) (recsA rs))).set 5 ok).set 4 .nils).set 1 (.int .i64 d)).set 0 (.str s)
theorem rall_loop {s : List UInt8} (hb : s.length ≤ 1099511627776) {d : Int} (hd : d ≤ 9223372036854775807) : ∀ q, q ≤ s.length → ∀ (rs : List Rec), rs.length ≤ q → ∃ k q' rs', (∀ out, allE s d q = .ok out → rs' = rs ++ out) ∧ ∀ (p : Id) (c0 c : Nat) (h : Heap), c0 ≤ c →
  iterW E 14 p [0, 1, 4, 5, 6, 7] L_14_3 c0 (rallFr s d q rs (.bool false)) c h = some (match allE s d q with | .ok _ => .exit 0 | .error _ => .ret, rallFr s d q' rs' (.bool false), c + k, dropFrom p c0 h) := by
 refine rec_ind fun q hq ih rs hrs => ?_
 by_cases hlt : q < s.length
 ·have hlt' : (q : Int) < s.length := by omega
  cases hr : recE s d q with
  | error x =>
   have g := nextN hb hq d hd x hr
   have hE := allE_err hlt hr
   refine ⟨2, q, rs, fun out ho => (by rw [hE] at ho; cases ho), fun p c0 c h hc => ?_⟩
   have hc1 : c0 ≤ c + 1 := by omega
   rw [hE]
   simp only [rNone] at g
   unfold rallFr
   rw [rd_14_3]
   generalize hr : execW E 14 p _ _ _ _ = e
   simp -implicitDefEqProofs (maxSteps := 1000000) [-Int.natCast_add, Tryz.f14, Code.loopAt, Code.key, encRec, g, hlt, hlt'] at hr
   subst hr
   simp [drop_drop_cons hc, drop_upd hc1]
  | ok re =>
   obtain ⟨r, e⟩ := re
   have b1 := recE_lt hr
   have g := nextY hb hq d hd r e hr
   obtain ⟨k, q', rs', hout, gl⟩ := ih e b1.1 b1.2.1 (rs ++ [r]) (by simp; omega)
   have hl1 : (recsA rs).length = rs.length := by simp [recsA]
   have hmax : (recsA rs).length + 1 ≤ maxStr := by unfold maxStr; omega
   have hmax2 : ((recsA rs).length + 1) * 56 ≤ 140737488355328 := by omega
   have hE := allE_ok hr
   refine ⟨2 + k, q', rs', fun out ho => ?_, fun p c0 c h hc => ?_⟩
   ·rw [hE] at ho
    obtain ⟨out', ho', rfl⟩ := map_ok ho
    rw [hout out' ho']; simp
   have hc1 : c0 ≤ c + 1 := by omega
   have hE2 : (match allE s d q with | .ok _ => Ex.exit 0 | .error _ => Ex.ret) = (match allE s d e with | .ok _ => Ex.exit 0 | .error _ => Ex.ret) := by
    rw [hE]; cases allE s d e <;> rfl
   rw [hE2]
   unfold rallFr at gl ⊢
   rw [rd_14_3]
   generalize hr : execW E 14 p _ _ _ _ = ee
   simp -implicitDefEqProofs (maxSteps := 1000000) [-Int.natCast_add, Tryz.f14, Code.loopAt, Code.key, encRec, g, hlt, hlt', hmax, hmax2] at hr
   subst hr
   have e6 : A.slice (recsA rs ++ [[.int .i64 r.num, .int .i64 r.kind, .int .u64 r.n, .str r.s, .str r.raw]]) (some (55, 5)) = growing (55, 5) (recsA (rs ++ [r])) := by
    rw [slice_growing]; simp [recsA, recCells]
   have e := gl p c0 (c + 2) (dropFrom p c0 h) (by omega)
   simpa [drop_drop_cons hc, drop_upd hc1, e6, Nat.add_assoc] using e
 ·have hlt' : ¬ (q : Int) < s.length := by omega
  have hE := allE_end (d := d) hlt
  refine ⟨0, q, rs, fun out ho => (by rw [hE] at ho; cases ho; simp), fun p c0 c h hc => ?_⟩
  rw [hE]
  unfold rallFr
  rw [rd_14_3]
  generalize hr : execW E 14 p _ _ _ _ = e
  simp -implicitDefEqProofs (maxSteps := 1000000) [-Int.natCast_add, Tryz.f14, Code.loopAt, Code.key, encRec, hlt, hlt'] at hr
  subst hr
  simp
def encRAll : Except Err (List Rec) → A
 | .ok rs => .tuple [.slice (recsA rs) none, .bool true]
 | .error _ => .tuple [.slice [] none, .bool false]
theorem rall_ok {s : List UInt8} (hb : s.length ≤ 1099511627776) {d : Int} (hd : d ≤ 9223372036854775807) (p : Id) (h : Heap) : callW E p 14 [.str s, .int .i64 d] h = some (encRAll (allE s d 0), dropFrom p 0 h) := by
 obtain ⟨k, q', rs', hout, gl⟩ := rall_loop hb hd 0 (Nat.zero_le _) [] (Nat.le_refl _)
 rw [eq_14]
 cases hv : allE s d 0 with
 | ok out =>
  have ho := hout out hv
  have g := gl
  rw [hv] at g
  simp only [rallFr, recsA, List.map_nil, growing_nil, nat0, ho, List.nil_append] at g
  simp -implicitDefEqProofs (maxSteps := 1000000) [Tryz.f14, Code.hide, Code.key, g, encRAll, recsA]
 | error x =>
  have g := gl
  rw [hv] at g
  simp only [rallFr, recsA, List.map_nil, growing_nil, nat0] at g
  simp -implicitDefEqProofs (maxSteps := 1000000) [Tryz.f14, Code.hide, Code.key, g, encRAll, recsA]
end Go.Ai.T

namespace Go.Ai.T
open Go Go.Proofs
set_option maxRecDepth 100000
set_option maxHeartbeats 4000000
theorem as_prim (p : Id) (args : List A) (h : Heap) : callW E p 129 args h = errorsAs 47 76 185 [(184, 76)] p args h := callW_prim rfl
theorem place_ok (e : Err) (p : Id) (h : Heap) : callW E p 98 [encE e] h = some (.tuple [.int .i64 (e.place.getD 0), .bool e.place.isSome], dropFrom p 0 h) := by
 have g := chain_place (tc := 47) (tw := 76) (tf := 185) (by decide) (by decide) (by decide) e _ (Nat.le_succ _)
 have ge : ∀ e, encErr 47 76 185 e = encE e := fun _ => rfl
 simp only [ge, Nat.succ_eq_add_one] at g
 rw [eq_98, place_first]
 cases hf : e.first with
 | none =>
  rw [hf] at g
  simp only [Option.map_none] at g
  simp -implicitDefEqProofs (maxSteps := 1000000) [Tryz.f98, Code.key, as_prim, errorsAs, g]
 | some r =>
  obtain ⟨n, x⟩ := r
  rw [hf] at g
  simp only [Option.map_some] at g
  simp -implicitDefEqProofs (maxSteps := 1000000) [Tryz.f98, Code.key, as_prim, errorsAs, g]
end Go.Ai.T

namespace Go.Ai.T
open Go Go.Proofs
set_option maxRecDepth 100000
set_option maxHeartbeats 4000000
theorem mfails_ok {e0 e1 : Option Err} {u dd l : A} {en : Nat} {num : Int} {p id : Id} (a : Apart p id) {h : Heap} (hh : h id = some [encO e0, u, dd, .int .i64 en, l]) :
  callW E p 53 [.ptr id 0, .int .i64 num, encO e1] h = some (.tuple [], upd (dropFrom p 0 h) id [encO (failO en num e0 e1), u, dd, .int .i64 en, l]) := by
 obtain ⟨f1, f2, f3, f4, f5, f6⟩ := a.facts
 rw [eq_53]
 cases e0 with
 | some x =>
  simp only [encO_some, failO] at hh ⊢
  simp -implicitDefEqProofs (maxSteps := 1000000) [Tryz.f53, Code.key, hh, f1, f2, f3, f4, f5, f6]
  exact (upd_id (by rw [f2, hh])).symm
 | none => cases e1 with
  | none =>
   simp only [encO_none, failO] at hh ⊢
   simp -implicitDefEqProofs (maxSteps := 1000000) [Tryz.f53, Code.key, hh, f1, f2, f3, f4, f5, f6]
   exact (upd_id (by rw [f2, hh])).symm
  | some e =>
   have g := place_ok e
   have g2 := at_ok
   have g3 := in_ok
   simp only [encO_none, encO_some, failO, failE] at hh ⊢
   simp -implicitDefEqProofs (maxSteps := 1000000) [Tryz.f53, Code.key, hh, f1, f2, f3, f4, f5, f6, g, g2, g3]
   have e2 : (if (en : Int) < (if e.place.getD 0 < 0 then 0 else e.place.getD 0) then (en : Int) else if e.place.getD 0 < 0 then 0 else e.place.getD 0) = min (max (e.place.getD 0) 0) en := by (repeat' split) <;> omega
   rw [e2]
end Go.Ai.T

namespace Go.Ai.T
open Go Go.Proofs
set_option maxRecDepth 100000
set_option maxHeartbeats 4000000
def bld (id : Id) : Option (List UInt8) → List A
 | none => [.nilp, .nils]
 | some bs => [.ptr id 0, .slice (bytesA bs) (some (5, 1))]
def bld1 (id : Id) : Option (List UInt8) → List A
 | none => [.ptr id 0, .nils]
 | some bs => [.ptr id 0, .slice (bytesA bs) (some (5, 1))]
theorem sbcheck_ok {id : Id} {T : Nat} (hT : T = 65 ∨ T = 140) {o : Option (List UInt8)} {p : Id} {h : Heap} (hh : h (T :: id) = some (bld (T :: id) o)) :
  callW E p 46 [.ptr (T :: id) 0] h = some (.tuple [], upd h (T :: id) (bld1 (T :: id) o)) := by
 have hc : [65, 140].contains T = true := by rcases hT with rfl | rfl <;> rfl
 rw [callW_prim (g := builderCheck [65, 140]) rfl]
 unfold builderCheck
 cases o with
 | none =>
  simp only [hh, bld, bld1]
  rcases hT with rfl | rfl <;> simp [ownPlace]
 | some bs =>
  simp only [hh, bld, bld1]
  rcases hT with rfl | rfl <;> simp [ownPlace]
theorem unbytes_ok (bs : List UInt8) : unbytes (bytesA bs) = some bs := by
 induction bs with
 | nil => rfl
 | cons b bs ih => simp [bytesA, unbytes] at *; simp [ih, UInt8.toNat_lt]; have := b.toNat_lt; omega
theorem sbstring_ok {id : Id} {o : Option (List UInt8)} (hb : (o.getD []).length ≤ maxStr) {p : Id} {h : Heap} (hh : h id = some (bld id o)) :
  callW E p 25 [.ptr id 0] h = some (.str (o.getD []), h) := by
 rw [callW_prim (g := builderString 5) rfl]
 unfold builderString
 cases o with
 | none => simp [hh, bld]
 | some bs =>
  simp only [hh, bld]
  simp only [Option.getD_some] at hb ⊢
  simp [unbytes_ok, hb]
theorem sbwrite_ok {id : Id} {T : Nat} (hT : T = 65 ∨ T = 140) {o : Option (List UInt8)} {s : List UInt8} (hb : (o.getD []).length + s.length ≤ 70368744177664) {p : Id} (a : Apart p (T :: id)) {h : Heap} (hh : h (T :: id) = some (bld (T :: id) o)) :
  callW E p 23 [.ptr (T :: id) 0, .str s] h = some (.tuple [.int .i64 s.length, .nili], upd (dropFrom p 0 h) (T :: id) (bld (T :: id) (some (o.getD [] ++ s)))) := by
 obtain ⟨f1, f2, f3, f4, f5, f6⟩ := a.facts
 have hl2 : (bytesA s).length = s.length := by simp [bytesA]
 have g := fun k h (hh : h (T :: id) = some (bld (T :: id) o)) => sbcheck_ok hT (p := k :: p) (h := h) hh
 cases o with
 | none =>
  simp only [Option.getD_none, List.length_nil, Nat.zero_add, List.nil_append] at hb ⊢
  have h1 : s.length ≤ 140737488355328 := by omega
  have h2 : s.length ≤ maxStr := by unfold maxStr; omega
  simp only [bld, bld1] at hh g ⊢
  rw [eq_23]
  simp -implicitDefEqProofs (maxSteps := 1000000) [Tryz.f23, Code.key, hh, f1, f2, f3, f4, f5, f6, g, hl2, h1, h2]
 | some bs =>
  simp only [Option.getD_some] at hb ⊢
  have hl : (bytesA bs).length = bs.length := by simp [bytesA]
  have h1 : bs.length + s.length ≤ 140737488355328 := by omega
  have h2 : bs.length + s.length ≤ maxStr := by unfold maxStr; omega
  simp only [bld, bld1] at hh g ⊢
  rw [eq_23]
  simp -implicitDefEqProofs (maxSteps := 1000000) [Tryz.f23, Code.key, hh, f1, f2, f3, f4, f5, f6, g, hl, hl2, h1, h2]
end Go.Ai.T

namespace Go.Ai.T
open Go Go.Proofs
set_option maxRecDepth 100000
set_option maxHeartbeats 4000000
theorem fields_ok {s : List UInt8} (hb : s.length ≤ 1099511627776) {d : Int} (hd : d ≤ 9223372036854775807) (p : Id) (h : Heap) : callW E p 35 [.str s, .int .i64 d] h = some (encRAll (fieldsE s d), dropFrom p 0 h) := by
 have g := rall_ok hb hd
 rw [eq_35]
 unfold fieldsE
 by_cases h0 : d < 0
 ·rw [if_pos h0]
  simp -implicitDefEqProofs (maxSteps := 1000000) [Tryz.f35, Code.key, h0, encRAll]
 ·rw [if_neg h0]
  cases hv : allE s d 0 with
  | ok rs =>
   rw [hv] at g
   simp only [encRAll] at g
   simp -implicitDefEqProofs (maxSteps := 1000000) [Tryz.f35, Code.key, h0, encRAll, g]
  | error x =>
   rw [hv] at g
   simp only [encRAll] at g
   simp -implicitDefEqProofs (maxSteps := 1000000) [Tryz.f35, Code.key, h0, encRAll, g]
theorem values_ok (p : Id) (h : Heap) : callW E p 67 [] h = some (.slice (intsA [10, 16, 24, 33, 42, 50, 58]) none, dropFrom p 0 h) := by
 rw [eq_67]
 simp -implicitDefEqProofs (maxSteps := 1000000) [Tryz.f67, Code.key, intsA]
theorem rlists_ok (p : Id) (h : Heap) : callW E p 17 [] h = some (.slice (intsA [10]) none, dropFrom p 0 h) := by
 rw [eq_17]
 simp -implicitDefEqProofs (maxSteps := 1000000) [Tryz.f17, Code.key, intsA]
theorem pairs_ok (p : Id) (h : Heap) : callW E p 36 [] h = some (.slice (intsA [10, 18]) none, dropFrom p 0 h) := by
 rw [eq_36]
 simp -implicitDefEqProofs (maxSteps := 1000000) [Tryz.f36, Code.key, intsA]
theorem takesR_loop {tb : List Nat} (hn : tb.length ≤ 1099511627776) (hsm : ∀ n ∈ tb, n ≤ 1099511627776) {r : Rec} : ∀ (rest : List Nat) (i : Nat), tb.drop i = rest → i ≤ tb.length → ∃ i' : Nat, ∀ (p : Id) (kr c0 c : Nat) (h : Heap), kr < c0 → c0 ≤ c → h (55 :: kr :: p) = some (recCells r) →
  iterW E 16 p [0, 3, 4, 5] L_16_2 c0 ((((bot.set 5 (.int .i64 i)).set 4 (.bool false)).set 3 (.ptr (55 :: kr :: p) 0)).set 0 (.slice (intsA tb) none)) c h =
   some (if tabR rest r.num r.kind = true then .ret else .exit 0, ((((bot.set 5 (.int .i64 i')).set 4 (.bool (tabR rest r.num r.kind))).set 3 (.ptr (55 :: kr :: p) 0)).set 0 (.slice (intsA tb) none)), c, dropFrom p c0 h) := by
 intro rest
 induction rest with
 | nil =>
  intro i hj hi
  refine ⟨i, fun p kr c0 c h h1 h2 hx => ?_⟩
  have hlt' : ¬ (i : Int) < tb.length := drop_end hj
  rw [rd_16_2]
  generalize hr : execW E 16 p _ _ _ _ = e
  simp -implicitDefEqProofs (maxSteps := 1000000) [Tryz.f16, Code.loopAt, Code.key, hlt', intsA] at hr
  subst hr
  simp [tabR, intsA]
 | cons n rest ih =>
  intro i hj hi
  obtain ⟨hlt, hbb, hbs⟩ := drop_facts hj
  have hlt' : (i : Int) < tb.length := by omega
  have hw : IntKind.i64.wrap ((i : Int) + 1) = ((i + 1 : Nat) : Int) := by rw [wrap_i64 (by omega) (by omega)]; rfl
  have hrl : (intsA tb).length = tb.length := by simp [intsA]
  have hget? : (intsA tb)[i]? = some [.int .i64 n] := by simp [intsA, hbb]
  have hget : ∀ hl, (intsA tb)[i]'hl = [.int .i64 n] := fun hl => by rw [List.getElem?_eq_getElem hl] at hget?; exact Option.some.inj hget?
  have hns := hsm n (List.mem_of_getElem? hbb)
  have t1 : Int.tdiv (n : Int) 8 = ((n / 8 : Nat) : Int) := rfl
  have t2 : Int.tmod (n : Int) 8 = ((n % 8 : Nat) : Int) := rfl
  have t3 : IntKind.i64.wrap ((n / 8 : Nat) : Int) = ((n / 8 : Nat) : Int) := wrap_i64 (by omega) (by omega)
  have t4 : IntKind.i64.wrap ((n % 8 : Nat) : Int) = ((n % 8 : Nat) : Int) := wrap_i64 (by omega) (by omega)
  by_cases hm : n / 8 = r.num ∧ n % 8 = r.kind
  ·refine ⟨i, fun p kr c0 c h h1 h2 hx => ?_⟩
   obtain ⟨m1, m2⟩ := hm
   have m1' : ((n / 8 : Nat) : Int) = r.num := by omega
   have m2' : ((n % 8 : Nat) : Int) = r.kind := by omega
   have e : tabR (n :: rest) r.num r.kind = true := by simp [tabR, m1, m2]
   rw [e, rd_16_2]
   simp only [recCells] at hx
   generalize hr : execW E 16 p _ _ _ _ = e
   simp -implicitDefEqProofs (maxSteps := 1000000) [-Int.natCast_ediv, -Int.natCast_emod, Tryz.f16, Code.loopAt, Code.key, hx, hlt, hlt', hrl, hget?, hget, t1, t2, t3, t4, eq_true m1', eq_true m2', eq_true m1, eq_true m2] at hr
   subst hr
   simp
   done
  ·obtain ⟨i', gl⟩ := ih (i + 1) hbs (by omega)
   refine ⟨i', fun p kr c0 c h h1 h2 hx => ?_⟩
   obtain ⟨q1, q2, q3, q4, q5, q6⟩ := own_facts (p := p) 55 kr
   have e0 : tabR (n :: rest) r.num r.kind = tabR rest r.num r.kind := by
    have : (n / 8 == r.num && n % 8 == r.kind) = false := by simpa using hm
    simp [tabR, this]
   have e := gl p kr c0 c (dropFrom p c0 h) h1 h2 (by rw [q2 _ _ h1, hx])
   rw [drop_drop_self] at e
   rw [e0]
   simp only [recCells] at hx
   by_cases m1 : n / 8 = r.num
   ·have m2 : ¬ n % 8 = r.kind := fun x => hm ⟨m1, x⟩
    have m1' : ((n / 8 : Nat) : Int) = r.num := by omega
    have m2' : ¬ ((n % 8 : Nat) : Int) = r.kind := by omega
    rw [rd_16_2]
    generalize hr : execW E 16 p _ _ _ _ = ee
    simp -implicitDefEqProofs (maxSteps := 1000000) [-Int.natCast_add, -Int.natCast_ediv, -Int.natCast_emod, Tryz.f16, Code.loopAt, Code.key, hx, hlt, hlt', hrl, hget?, hget, hw, t1, t2, t3, t4, eq_true m1', m2', eq_true m1, m2] at hr
    subst hr
    simpa [-Int.natCast_add] using e
   ·have m1' : ¬ ((n / 8 : Nat) : Int) = r.num := by omega
    rw [rd_16_2]
    generalize hr : execW E 16 p _ _ _ _ = ee
    simp -implicitDefEqProofs (maxSteps := 1000000) [-Int.natCast_add, -Int.natCast_ediv, -Int.natCast_emod, Tryz.f16, Code.loopAt, Code.key, hx, hlt, hlt', hrl, hget?, hget, hw, t1, t2, t3, t4, m1', m1] at hr
    subst hr
    simpa [-Int.natCast_add] using e
theorem takesR_ok {tb : List Nat} (hn : tb.length ≤ 1099511627776) (hsm : ∀ n ∈ tb, n ≤ 1099511627776) (r : Rec) (p : Id) (h : Heap) : callW E p 16 [.slice (intsA tb) none, encRec r] h = some (.bool (tabR tb r.num r.kind), dropFrom p 0 h) := by
 obtain ⟨i', gl⟩ := takesR_loop hn hsm (r := r) tb 0 rfl (Nat.zero_le _)
 have g := fun h => gl p 0 1 1 h (by omega) (Nat.le_refl _)
 simp only [recCells, nat0] at g
 rw [eq_16]
 cases ht : tabR tb r.num r.kind with
 | true =>
  rw [ht] at g
  simp only [if_true] at g
  simp -implicitDefEqProofs (maxSteps := 1000000) [Tryz.f16, Code.hide, Code.key, encRec, g]
 | false =>
  rw [ht] at g
  simp only [Bool.false_eq_true, if_false] at g
  simp -implicitDefEqProofs (maxSteps := 1000000) [Tryz.f16, Code.hide, Code.key, encRec, g]
theorem tabV (num kind : Nat) (h : kind < 8) : tabR [10, 16, 24, 33, 42, 50, 58] num kind = takesV num kind := by
 rcases Nat.lt_or_ge num 8 with h8 | h8
 ·have : ∀ n : Fin 8, ∀ k : Fin 8, tabR [10, 16, 24, 33, 42, 50, 58] n.val k.val = takesV n.val k.val := by decide
  exact this ⟨num, h8⟩ ⟨kind, h⟩
 ·have e1 : takesV num kind = false := by
   unfold takesV
   split <;> first | omega | rfl
  rw [e1]
  simp [tabR]; omega
theorem tabL (num kind : Nat) (h : kind < 8) : tabR [10] num kind = loneT num kind := by
 simp [tabR, loneT]
 rw [Bool.eq_iff_iff]; simp; omega
theorem tabK (num kind : Nat) (h : kind < 8) : tabR [10, 18] num kind = takesK num kind := by
 simp [tabR, takesK]
 rw [Bool.eq_iff_iff]; simp; omega
theorem fieldsE_neg {s : List UInt8} {d : Int} (h : d < 0) : fieldsE s d = .error (.code 6) := by unfold fieldsE; rw [if_pos h]
theorem fieldsE_facts {s : List UInt8} {d : Int} {rs : List Rec} (h : fieldsE s d = .ok rs) : 0 ≤ d ∧ rs.length ≤ s.length ∧ rawLen rs = s.length ∧ strLen rs ≤ s.length ∧ (∀ r ∈ rs, r.kind < 8) ∧ Short s.length rs := by
 unfold fieldsE at h
 split at h
 ·cases h
 ·have h1 := allE_raw 0 (Nat.zero_le _) rs h
  have h2 := allE_short 0 (Nat.zero_le _) rs h
  have h3 := allE_mem 0 (Nat.zero_le _) rs h
  have h4 := allE_str 0 (Nat.zero_le _) rs h
  exact ⟨by omega, by omega, by omega, by omega, fun r hr => (h3 r hr).2.2.1, h2⟩
end Go.Ai.T

