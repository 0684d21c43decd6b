/- Part KL of the proof that a law of this program answers yes at every input: no conditions beyond the given statement. -/
import Derived.Test.YtceklkdnejcanaaGreatDoorKE
import Derived.Test.YtceklkdnejcanaaGreatDoorKM
import Derived.Test.YtceklkdnejcanaaGreatDoorKG
import Derived.Test.YtceklkdnejcanaaGreatDoorKI
import Derived.Test.YtceklkdnejcanaaGreatDoorKP
import Derived.Test.YtceklkdnejcanaaGreatDoorKH
import Derived.Test.YtceklkdnejcanaaGreatDoorKQ
set_option linter.unusedSimpArgs false
set_option linter.unusedVariables false
set_option linter.all false
namespace Go.Ai.T
open Go Go.Proofs
set_option maxRecDepth 100000
set_option maxHeartbeats 4000000
theorem and127 (n : Nat) (h : n < 18446744073709551616) : bitsA .and .u64 (n : Int) 127 = ((n % 128 : Nat) : Int) := by
 have := bitsA_and_u64 n 127 h (by omega)
 rw [show (127 : Nat) = 2 ^ 7 - 1 from rfl, Nat.and_two_pow_sub_one_eq_mod] at this
 exact this
theorem or128u (m : Nat) (h : m < 128) : bitsA .or .u64 (m : Int) 128 = ((m + 128 : Nat) : Int) := by
 have := bitsA_or_u64 m 128 (by omega) (by omega)
 have h2 := or_shift m 1 7 (by omega)
 simp at h2
 rw [h2] at this
 exact this
theorem qvarint_loop {p : Id} {c0 : Nat} (k : Nat) : ∀ (n : Nat) (bs : List UInt8), n < 128 ^ (k + 1) → n < 18446744073709551616 → bs.length + k ≤ 1000 → ∀ (c : Nat) (h : Heap),
  iterW E 111 p [0, 3] L_111_2 c0 ((bot.set 3 (growing (5, 1) (bytesA bs))).set 0 (.int .u64 n)) c h = some (.exit 0, (bot.set 3 (growing (5, 1) (bytesA (bs ++ putInit n)))).set 0 (.int .u64 (putLast n)), c, dropFrom p c0 h) := by
 induction k with
 | zero =>
  intro n bs hn hn2 hb c h
  rw [rd_111_2]
  have h128 : ¬ (127 : Int) < n := by omega
  generalize hr : execW E 111 p _ _ _ _ = e
  simp -implicitDefEqProofs (maxSteps := 1000000) [Tryz.f111, Code.loopAt, Code.key, h128] at hr
  subst hr
  rw [putInit, putLast, if_pos (by omega), if_pos (by omega)]
  simp
 | succ k ih =>
  intro n bs hn hn2 hb c h
  rw [rd_111_2]
  generalize hr : execW E 111 p _ _ _ _ = e
  by_cases h128 : (127 : Int) < n
  ·have hmax : bs.length + 1 ≤ maxStr := by simp only [maxStr]; omega
   have hmax2 : bs.length ≤ 140737488355327 := by omega
   have a1 := and127 n hn2
   have a2 := or128u (n % 128) (by omega)
   simp -implicitDefEqProofs (maxSteps := 1000000) [-Int.natCast_emod, -Int.natCast_add, Tryz.f111, Code.loopAt, Code.key, h128, IntKind.bits, hmax, hmax2, a1, a2] at hr
   subst hr
   rw [wrap_u8_nat, bytesA_one (b := UInt8.ofNat (n % 128 + 128)) (by simp [UInt8.toNat_ofNat']), bytesA_append, bytes_growing, fdiv_128]
   have g := ih (n / 128) (bs ++ [UInt8.ofNat (n % 128 + 128)]) (by rw [Nat.pow_succ] at hn; omega) (by omega) (by simp; omega) c (dropFrom p c0 h)
   rw [putInit.eq_def n, putLast.eq_def n, if_neg (by omega), if_neg (by omega)]
   simpa using g
  ·simp -implicitDefEqProofs (maxSteps := 1000000) [Tryz.f111, Code.loopAt, Code.key, h128] at hr
   subst hr
   rw [putInit, putLast, if_pos (by omega), if_pos (by omega)]
   simp
theorem qvarint_ok {n : Nat} (hn : n < 18446744073709551616) (p : Id) (h : Heap) : callW E p 111 [.int .u64 n] h = some (.str (putV n), dropFrom p 0 h) := by
 have h1 := putLast_lt n
 have h2 := putInit_len n 9 (by omega)
 have hm1 : (putInit n).length ≤ 140737488355327 := by omega
 have hm2 : (putInit n).length + 1 ≤ maxStr := by simp only [maxStr]; omega
 have g := fun h => qvarint_loop (p := p) (c0 := 0) 9 n [] (by omega) hn (by simp) 0 h
 simp only [bytesA_nil, growing_nil, List.nil_append] at g
 rw [eq_111]
 simp -implicitDefEqProofs (maxSteps := 1000000) [Tryz.f111, Code.hide, Code.key, g, hm1, hm2]
 rw [wrap_u8_nat, bytesA_one (b := UInt8.ofNat (putLast n)) (by simp), bytesA_append]
 simp [putV]
theorem qtag_ok {num kind : Nat} (h1 : 1 ≤ num) (h2 : num ≤ 536870911) (h3 : kind ≤ 5) (p : Id) (h : Heap) : callW E p 110 [.int .i64 num, .int .i64 kind] h = some (.str (tagB num kind), dropFrom p 0 h) := by
 have g := fun q h => qvarint_ok (n := num * 8 + kind) (by omega) q h
 have c1 : ¬ (num : Int) < 1 := by omega
 have c2 : ¬ (536870912 : Int) ≤ num := by omega
 have c3 : ¬ (kind : Int) < 0 := by omega
 have c4 : ¬ (5 : Int) < kind := by omega
 have w1 : IntKind.u64.wrap (num : Int) = num := wrap_u64 (by omega) (by omega)
 have w2 : IntKind.u64.wrap (kind : Int) = kind := wrap_u64 (by omega) (by omega)
 have w3 : IntKind.u64.wrap ((num : Int) * 8) = ((num * 8 : Nat) : Int) := by rw [wrap_u64 (by omega) (by omega)]; omega
 have w4 := tag_bits (num := num) (kind := kind) h2 (by omega)
 have c5 : ¬ 536870912 ≤ num := by omega
 have c6 : ¬ num = 0 := by omega
 have c7 : ¬ 5 < kind := by omega
 rw [eq_110]
 simp -implicitDefEqProofs (maxSteps := 1000000) [-Int.natCast_add, -Int.natCast_mul, Tryz.f110, Code.key, c1, c2, c3, c4, c5, c6, c7, w1, w2, w3, w4, g, tagB, IntKind.bits]
theorem qeight_ok {n : Nat} (p : Id) (h : Heap) : callW E p 156 [.int .u64 n] h = some (.str (leB 8 n), dropFrom p 0 h) := by
 have f0 : Int.fdiv (n : Int) 1 = n := by simp
 have f1 : Int.fdiv (n : Int) 256 = ((n / 256 : Nat) : Int) := fdiv_nat n 256
 have f2 : Int.fdiv (n : Int) 65536 = ((n / 65536 : Nat) : Int) := fdiv_nat n 65536
 have f3 : Int.fdiv (n : Int) 16777216 = ((n / 16777216 : Nat) : Int) := fdiv_nat n 16777216
 have f4 : Int.fdiv (n : Int) 4294967296 = ((n / 4294967296 : Nat) : Int) := fdiv_nat n 4294967296
 have f5 : Int.fdiv (n : Int) 1099511627776 = ((n / 1099511627776 : Nat) : Int) := fdiv_nat n 1099511627776
 have f6 : Int.fdiv (n : Int) 281474976710656 = ((n / 281474976710656 : Nat) : Int) := fdiv_nat n 281474976710656
 have f7 : Int.fdiv (n : Int) 72057594037927936 = ((n / 72057594037927936 : Nat) : Int) := fdiv_nat n 72057594037927936
 have ub : ∀ (m : Nat) (xs : List (List A)), unbytes ([A.int .u8 ((m % 256 : Nat) : Int)] :: xs) = (unbytes xs).map (UInt8.ofNat (m % 256) :: ·) := fun m xs => by
  rw [unbytes, if_pos (by omega)]; rfl
 have ub0 : unbytes [] = some [] := rfl
 have hm : 8 ≤ maxStr := by unfold maxStr; omega
 have w (n : Int) (h1 : 0 ≤ n) (h2 : n ≤ 18446744073709551615) : IntKind.u64.wrap n = n := wrap_u64 h1 h2
 rw [eq_156, leB8]
 simp -implicitDefEqProofs (maxSteps := 1000000) [-Int.natCast_emod, -Int.natCast_ediv, Tryz.f156, Code.hide, Code.loopAt, Code.key, rd_156_3, IntKind.bits, f0, f1, f2, f3, f4, f5, f6, f7, wrap_u8_nat, ub, ub0, wrap_i64, w, maxStr]
theorem qnum_ok {num n : Nat} (h1 : 1 ≤ num) (h2 : num ≤ 536870911) (hn : n < 18446744073709551616) (p : Id) (h : Heap) : callW E p 81 [.int .i64 num, .int .u64 n] h = some (.str (numB num n), dropFrom p 0 h) := by
 have g := fun q h => qvarint_ok hn q h
 have hl := (putV_len hn).2
 have g2 := fun q h => qtag_ok h1 h2 (kind := 0) (by omega) q h
 have hl2 : (tagB num 0).length ≤ 10 := (putV_len (n := num * 8 + 0) (by omega)).2
 have hm : (tagB num 0).length + (putV n).length ≤ maxStr := by unfold maxStr; omega
 have hne := tagB_pos num 0
 simp only [nat0] at g2
 rw [eq_81]
 simp -implicitDefEqProofs (maxSteps := 1000000) [Tryz.f81, Code.key, g, g2, numB, hm, hne]
theorem qfixed_ok {num n : Nat} (h1 : 1 ≤ num) (h2 : num ≤ 536870911) (p : Id) (h : Heap) : callW E p 140 [.int .i64 num, .int .u64 n] h = some (.str (fixB num n), dropFrom p 0 h) := by
 have g := fun q h => qeight_ok (n := n) q h
 have g2 := fun q h => qtag_ok h1 h2 (kind := 1) (by omega) q h
 have hl2 : (tagB num 1).length ≤ 10 := (putV_len (n := num * 8 + 1) (by omega)).2
 have hm : (tagB num 1).length + 8 ≤ maxStr := by unfold maxStr; omega
 have hne := tagB_pos num 1
 simp only [nl1] at g2
 rw [eq_140]
 simp -implicitDefEqProofs (maxSteps := 1000000) [Tryz.f140, Code.key, g, g2, fixB, hm, hne, leB_len]
theorem qbytes_ok {num : Nat} (h1 : 1 ≤ num) (h2 : num ≤ 536870911) {s : List UInt8} (hs : s.length ≤ 549755813888) (p : Id) (h : Heap) : callW E p 79 [.int .i64 num, .str s] h = some (.str (bytesB num s), dropFrom p 0 h) := by
 have hn : s.length < 18446744073709551616 := by omega
 have g := fun q h => qvarint_ok hn q h
 have hl := (putV_len hn).2
 have w : IntKind.u64.wrap (s.length : Int) = s.length := wrap_u64 (by omega) (by omega)
 have g2 := fun q h => qtag_ok h1 h2 (kind := 2) (by omega) q h
 have hl2 : (tagB num 2).length ≤ 10 := (putV_len (n := num * 8 + 2) (by omega)).2
 have hm : (tagB num 2).length + (putV s.length).length ≤ maxStr := by unfold maxStr; omega
 have hm2 : (tagB num 2).length + (putV s.length).length + s.length ≤ maxStr := by unfold maxStr; omega
 have hm3 : (tagB num 2).length + ((putV s.length).length + s.length) ≤ maxStr := by unfold maxStr; omega
 have hne := tagB_pos num 2
 simp only [nl2] at g2
 rw [eq_79]
 simp -implicitDefEqProofs (maxSteps := 1000000) [Tryz.f79, Code.key, g, g2, hm, hm2, hm3, w, bytesB, hne]
theorem rputtext_ok {num : Nat} (h1 : 1 ≤ num) (h2 : num ≤ 536870911) {s : List UInt8} (hs : s.length ≤ 549755813888) (p : Id) (h : Heap) : callW E p 112 [.int .i64 num, .str s] h = some (.str (textB num s), dropFrom p 0 h) := by
 have g := fun q h => qbytes_ok h1 h2 hs q h
 rw [eq_112]
 unfold textB
 cases s with
 | nil => simp -implicitDefEqProofs (maxSteps := 1000000) [Tryz.f112, Code.key]
 | cons x xs => simp -implicitDefEqProofs (maxSteps := 1000000) [Tryz.f112, Code.key, g]
end Go.Ai.T

namespace Go.Ai.T
open Go Go.Proofs
set_option maxRecDepth 100000
set_option maxHeartbeats 4000000
def pkFr (num : Nat) (l : List KV) (s : List UInt8) (i : Nat) : Fr := ((((bot.set 6 (.int .i64 i)).set 5 (.str s)).set 1 (.slice (l.map encK) none)).set 0 (.int .i64 num))
theorem pk_loop {num : Nat} (h1 : 1 ≤ num) (h2 : num ≤ 536870911) {l : List KV} (hn : l.length ≤ maxStr) (hw : ∀ x ∈ l, ∀ (q : Id) (h : Heap), callW E q 80 [.agg (encK x)] h = some (.str (writeK x), dropFrom q 0 h)) :
  ∀ (t : List KV) (i : Nat) (s : List UInt8), l.drop i = t → i ≤ l.length → s.length + (partsN num writeK t).length ≤ 549755813888 → ∃ K, ∀ (p : Id) (c0 c : Nat) (h : Heap), c0 ≤ c →
  iterW E 50 p [0, 1, 5, 6] L_50_3 c0 (pkFr num l s i) c h = some (.exit 0, pkFr num l (s ++ partsN num writeK t) l.length, c + K, dropFrom p c0 h) := by
 intro t
 induction t with
 | nil =>
  intro i s hj hi hb
  have hlen : i = l.length := by have := drop_end hj; omega
  subst hlen
  refine ⟨0, fun p c0 c h hc => ?_⟩
  have hlt' : ¬ ((l.length : Nat) : Int) < l.length := by omega
  unfold pkFr
  rw [rd_50_3]
  generalize hr : execW E 50 p _ _ _ _ = e
  simp -implicitDefEqProofs (maxSteps := 1000000) [Tryz.f50, Code.loopAt, Code.key] at hr
  subst hr
  simp [partsN]
 | cons x t ih =>
  intro i s hj hi hb
  obtain ⟨hlt, hbb, hbs⟩ := drop_facts hj
  have hlt' : (i : Int) < l.length := by omega
  have hw1 : IntKind.i64.wrap ((i : Int) + 1) = ((i + 1 : Nat) : Int) := by rw [wrap_succ hlt hn]; rfl
  have hget? : (l.map encK)[i]? = some (encK x) := by simp [hbb]
  have hget : ∀ hl, (l.map encK)[i]'hl = encK x := fun hl => by rw [List.getElem?_eq_getElem hl] at hget?; exact Option.some.inj hget?
  have hgetl : ∀ hl, l[i]'hl = x := fun hl => by rw [List.getElem?_eq_getElem hl] at hbb; exact Option.some.inj hbb
  rw [partsN_cons, List.length_append] at hb
  have hbl := bytesB_len num (writeK x)
  have g := hw x (List.mem_of_getElem? hbb)
  have g2 := fun q h => qbytes_ok h1 h2 (s := writeK x) (by omega) q h
  have hm : s.length + (bytesB num (writeK x)).length ≤ maxStr := by unfold maxStr; omega
  obtain ⟨K, gl⟩ := ih (i + 1) (s ++ bytesB num (writeK x)) hbs (by omega) (by simp; omega)
  refine ⟨2 + K, fun p c0 c h hc => ?_⟩
  have e := gl p c0 (c + 2) (dropFrom p c0 h) (by omega)
  rw [partsN_cons]
  unfold pkFr at e ⊢
  rw [rd_50_3]
  generalize hr : execW E 50 p _ _ _ _ = ee
  simp -implicitDefEqProofs (maxSteps := 1000000) [-Int.natCast_add, Tryz.f50, Code.loopAt, Code.key, hlt, hlt', hget?, hget, hgetl, hbb, hw1, g, g2, hm] at hr
  subst hr
  simp [-Int.natCast_add]
  refine (iterW_congr rfl rfl (by omega) (by simp -implicitDefEqProofs (disch := omega) only [own_du, drop_drop_cons, drop_upd, drop_drop, drop_drop_self, upd_upd])).trans (e.trans ?_)
  rw [List.append_assoc]
  exact some5 rfl (by omega) (by simp -implicitDefEqProofs (disch := omega) only [own_du, drop_drop_cons, drop_upd, drop_drop, drop_drop_self, upd_upd])
theorem putkeys_ok {num : Nat} (h1 : 1 ≤ num) (h2 : num ≤ 536870911) {l : List KV} (hn : l.length ≤ maxStr) (hw : ∀ x ∈ l, ∀ (q : Id) (h : Heap), callW E q 80 [.agg (encK x)] h = some (.str (writeK x), dropFrom q 0 h)) (hb : (partsN num writeK l).length ≤ 549755813888) (p : Id) (h : Heap) :
  callW E p 50 [.int .i64 num, .slice (l.map encK) none] h = some (.str (partsN num writeK l), dropFrom p 0 h) := by
 obtain ⟨K, gl⟩ := pk_loop h1 h2 hn hw l 0 [] rfl (Nat.zero_le _) (by simpa using hb)
 have g := fun h => gl p 0 0 h (Nat.le_refl _)
 simp only [pkFr, nat0, List.nil_append] at g
 rw [eq_50]
 simp -implicitDefEqProofs (maxSteps := 1000000) [Tryz.f50, Code.hide, Code.key, g]
theorem pack_ok {l : List KV} (hn : l.length ≤ maxStr) (hw : ∀ x ∈ l, ∀ (q : Id) (h : Heap), callW E q 80 [.agg (encK x)] h = some (.str (writeK x), dropFrom q 0 h)) (hb : (partsK l).length ≤ 549755813888) (p : Id) (h : Heap) :
  callW E p 141 [.slice (l.map encK) none] h = some (.str (partsK l), dropFrom p 0 h) := by
 have e : partsN 1 writeK l = partsK l := (partsK_eq l).symm
 have g := fun q h => putkeys_ok (num := 1) (by omega) (by omega) hn hw (by rw [e]; exact hb) q h
 rw [e] at g
 simp only [nl1] at g
 rw [eq_141]
 simp -implicitDefEqProofs (maxSteps := 1000000) [Tryz.f141, Code.key, g]
def rvwFr (p : Id) (s : List UInt8) (i : Nat) : Fr := (((bot.set 6 (.int .i64 i)).set 5 (.str s)).set 1 (.ptr (64 :: 0 :: p) 0))
theorem rvw_loop {l : List Val} (hn : l.length ≤ maxStr) (hw : ∀ x ∈ l, ∀ (q : Id) (h : Heap), callW E q 113 [.agg (encV x)] h = some (.str (writeV x), dropFrom q 0 h)) {k s0 b n m i0 u : A} :
  ∀ (t : List Val) (i : Nat) (s : List UInt8), l.drop i = t → i ≤ l.length → s.length + (partsV t).length ≤ 549755813888 → ∃ K, ∀ (p : Id) (c0 c : Nat) (h : Heap), 0 < c0 → c0 ≤ c → h (64 :: 0 :: p) = some [k, s0, b, n, .slice (l.map encV) none, m, i0, u] →
  iterW E 113 p [1, 5, 6] L_113_17 c0 (rvwFr p s i) c h = some (.exit 1, rvwFr p (s ++ partsV t) l.length, c + K, dropFrom p c0 h) := by
 intro t
 induction t with
 | nil =>
  intro i s hj hi hb
  have hlen : i = l.length := by have := drop_end hj; omega
  subst hlen
  refine ⟨0, fun p c0 c h h0 hc hh => ?_⟩
  have hlt' : ¬ ((l.length : Nat) : Int) < l.length := by omega
  unfold rvwFr
  rw [rd_113_17]
  generalize hr : execW E 113 p _ _ _ _ = e
  simp -implicitDefEqProofs (maxSteps := 1000000) [Tryz.f113, Code.loopAt, Code.key, hh] at hr
  subst hr
  simp [partsV]
 | cons x t ih =>
  intro i s hj hi hb
  obtain ⟨hlt, hbb, hbs⟩ := drop_facts hj
  have hlt' : (i : Int) < l.length := by omega
  have hw1 : IntKind.i64.wrap ((i : Int) + 1) = ((i + 1 : Nat) : Int) := by rw [wrap_succ hlt hn]; rfl
  have hget? : (l.map encV)[i]? = some (encV x) := by simp [hbb]
  have hget : ∀ hl, (l.map encV)[i]'hl = encV x := fun hl => by rw [List.getElem?_eq_getElem hl] at hget?; exact Option.some.inj hget?
  have hgetl : ∀ hl, l[i]'hl = x := fun hl => by rw [List.getElem?_eq_getElem hl] at hbb; exact Option.some.inj hbb
  rw [partsV, List.length_append] at hb
  have hbl := bytesB_len 1 (writeV x)
  have g := hw x (List.mem_of_getElem? hbb)
  have g2 := fun q h => qbytes_ok (num := 1) (by omega) (by omega) (s := writeV x) (by omega) q h
  simp only [nl1] at g2
  have hm : s.length + (bytesB 1 (writeV x)).length ≤ maxStr := by unfold maxStr; omega
  obtain ⟨K, gl⟩ := ih (i + 1) (s ++ bytesB 1 (writeV x)) hbs (by omega) (by simp; omega)
  refine ⟨2 + K, fun p c0 c h h0 hc hh => ?_⟩
  obtain ⟨o1, o2, o3, o4, o5, o6⟩ := own_facts (p := p) 64 0
  have n0 : 0 ≠ c := by omega
  have n1 : 0 ≠ c + 1 := by omega
  have e := gl p c0 (c + 2) (dropFrom p c0 h) h0 (by omega) (by rw [o2 _ _ h0, hh])
  rw [partsV]
  unfold rvwFr at e ⊢
  rw [rd_113_17]
  generalize hr : execW E 113 p _ _ _ _ = ee
  simp -implicitDefEqProofs (maxSteps := 1000000) [-Int.natCast_add, Tryz.f113, Code.loopAt, Code.key, hh, o2, o4, n0, n1, hlt, hlt', hget?, hget, hgetl, hbb, hw1, g, g2, hm] at hr
  subst hr
  simp [-Int.natCast_add]
  refine (iterW_congr rfl rfl (by omega) (by simp -implicitDefEqProofs (disch := omega) only [own_du, drop_drop_cons, drop_upd, drop_drop, drop_drop_self, upd_upd])).trans (e.trans ?_)
  rw [List.append_assoc]
  exact some5 rfl (by omega) (by simp -implicitDefEqProofs (disch := omega) only [own_du, drop_drop_cons, drop_upd, drop_drop, drop_drop_self, upd_upd])
theorem rwrite_of {k : Int} {s : List UInt8} {b : Bool} {n : Nat} {l : List Val} {m : List KV} {i u : List UInt8} (hwf : (Val.mk k s b n l m i u).wf) (h2 : k = 2 → n = 0) (hl : (writeV (.mk k s b n l m i u)).length ≤ 549755813888)
  (hV : ∀ x ∈ l, (writeV x).length ≤ 549755813888 → ∀ (q : Id) (h : Heap), callW E q 113 [.agg (encV x)] h = some (.str (writeV x), dropFrom q 0 h))
  (hK : ∀ x ∈ m, (writeK x).length ≤ 549755813888 → ∀ (q : Id) (h : Heap), callW E q 80 [.agg (encK x)] h = some (.str (writeK x), dropFrom q 0 h)) (p : Id) (h : Heap) :
  callW E p 113 [.agg (encV (.mk k s b n l m i u))] h = some (.str (writeV (.mk k s b n l m i u)), dropFrom p 0 h) := by
 obtain ⟨hk, hs, hn, hll, hml, hil, hul, hwl, hwm⟩ := Val.wf_mk.1 hwf
 have nl6 : ((6 : Nat) : Int) = 6 := rfl
 have nl7 : ((7 : Nat) : Int) = 7 := rfl
 rw [writeV] at hl ⊢
 simp only [encV_mk]
 rw [List.length_append] at hl
 by_cases k1 : k = 1
 ·subst k1
  simp only [if_true] at hl ⊢
  have hbl := bytesB_len 1 s
  have g := fun q h => qbytes_ok (num := 1) (by omega) (by omega) (s := s) (by omega) q h
  have hm : (bytesB 1 s).length + u.length ≤ maxStr := by unfold maxStr; omega
  simp only [nl1] at g
  rw [eq_113]
  simp -implicitDefEqProofs (maxSteps := 1000000) [Tryz.f113, Code.hide, Code.key, g, hm]
 by_cases k7 : k = 7
 ·subst k7
  simp [-List.length_append] at hl ⊢
  have hbl := bytesB_len 7 s
  have g := fun q h => qbytes_ok (num := 7) (by omega) (by omega) (s := s) (by omega) q h
  have hm : (bytesB 7 s).length + u.length ≤ maxStr := by unfold maxStr; omega
  simp only [nl7] at g
  rw [eq_113]
  simp -implicitDefEqProofs (maxSteps := 1000000) [Tryz.f113, Code.hide, Code.key, g, hm]
 by_cases k2 : k = 2
 ·have hn0 := h2 k2
  subst k2 hn0
  simp [-List.length_append] at hl ⊢
  have g := fun q h => qnum_ok (num := 2) (n := if b = true then 1 else 0) (by omega) (by omega) (by split <;> omega) q h
  have hm : (numB 2 (if b = true then 1 else 0)).length + u.length ≤ maxStr := by unfold maxStr; omega
  rw [eq_113]
  cases b with
  | true =>
   simp only [nl1, nl2, if_true] at g hm
   simp -implicitDefEqProofs (maxSteps := 1000000) [Tryz.f113, Code.hide, Code.key, g, hm]
  | false =>
   simp only [nat0, nl2, Bool.false_eq_true, if_false] at g hm
   simp -implicitDefEqProofs (maxSteps := 1000000) [Tryz.f113, Code.hide, Code.key, g, hm]
 by_cases k3 : k = 3
 ·subst k3
  simp [-List.length_append] at hl ⊢
  have g := fun q h => qnum_ok (num := 3) (n := n) (by omega) (by omega) hn q h
  have hm : (numB 3 n).length + u.length ≤ maxStr := by unfold maxStr; omega
  simp only [nl3] at g
  rw [eq_113]
  simp -implicitDefEqProofs (maxSteps := 1000000) [Tryz.f113, Code.hide, Code.key, g, hm]
 by_cases k4 : k = 4
 ·subst k4
  simp [-List.length_append] at hl ⊢
  have g := fun q h => qfixed_ok (num := 4) (n := n) (by omega) (by omega) q h
  have hm : (fixB 4 n).length + u.length ≤ maxStr := by unfold maxStr; omega
  simp only [nl4] at g
  rw [eq_113]
  simp -implicitDefEqProofs (maxSteps := 1000000) [Tryz.f113, Code.hide, Code.key, g, hm]
 by_cases k5 : k = 5
 ·subst k5
  simp [-List.length_append] at hl ⊢
  have hbl := bytesB_len 5 (partsV l ++ i)
  have hbl2 := hbl
  rw [List.length_append] at hbl2
  have g := fun q h => qbytes_ok (num := 5) (by omega) (by omega) (s := partsV l ++ i) (by omega) q h
  have hm : (bytesB 5 (partsV l ++ i)).length + u.length ≤ maxStr := by unfold maxStr; omega
  have hm2 : (partsV l).length + i.length ≤ maxStr := by unfold maxStr; omega
  obtain ⟨K, gl⟩ := rvw_loop (k := .int .i64 5) (s0 := .str s) (b := .bool b) (n := .int .u64 n) (m := .slice (m.map encK) none) (i0 := .str i) (u := .str u) hll (fun x hx q h => hV x hx (by have := parts_len (wr := writeV) x hx; rw [← partsV_eq] at this; omega) q h) l 0 [] rfl (Nat.zero_le _) (by simp; omega)
  have gl' := fun h => gl p 1 1 h (by omega) (Nat.le_refl _)
  simp only [rvwFr, nat0, nl5, List.nil_append] at g gl'
  rw [eq_113]
  have nK : ¬ 0 = 1 + K := by omega
  simp -implicitDefEqProofs (maxSteps := 1000000) [Tryz.f113, Code.hide, Code.key, g, gl', hm, hm2, nK]
 by_cases k6 : k = 6
 ·subst k6
  simp [-List.length_append] at hl ⊢
  have hbl := bytesB_len 6 (partsK m ++ i)
  have hbl2 := hbl
  rw [List.length_append] at hbl2
  have g := fun q h => qbytes_ok (num := 6) (by omega) (by omega) (s := partsK m ++ i) (by omega) q h
  have hm : (bytesB 6 (partsK m ++ i)).length + u.length ≤ maxStr := by unfold maxStr; omega
  have hm2 : (partsK m).length + i.length ≤ maxStr := by unfold maxStr; omega
  have gp := fun q h => pack_ok (l := m) hml (fun x hx q h => hK x hx (by have := parts_len (wr := writeK) x hx; rw [← partsK_eq] at this; omega) q h) (by omega) q h
  simp only [nl6] at g
  rw [eq_113]
  simp -implicitDefEqProofs (maxSteps := 1000000) [Tryz.f113, Code.hide, Code.key, g, gp, hm, hm2]
 ·have hm : u.length ≤ maxStr := hul
  simp only [k1, k2, k3, k4, k5, k6, k7, if_false, List.length_nil, List.nil_append] at hl ⊢
  rw [eq_113]
  simp -implicitDefEqProofs (maxSteps := 1000000) [Tryz.f113, Code.hide, Code.key, k1, k2, k3, k4, k5, k6, k7, hm]
theorem rwriteKey0 {key : List UInt8} {v : Val} {u : List UInt8} (hl : (writeK (.mk key false v u)).length ≤ 549755813888) (p : Id) (h : Heap) :
  callW E p 80 [.agg (encK (.mk key false v u))] h = some (.str (writeK (.mk key false v u)), dropFrom p 0 h) := by
 rw [writeK] at hl ⊢
 rw [List.length_append, List.length_append] at hl
 have hkey : key.length ≤ 549755813888 := by
  unfold textB at hl
  split at hl
  ·rename_i he; subst he; simp
  ·have := bytesB_len 1 key; omega
 have g := fun q h => rputtext_ok (num := 1) (by omega) (by omega) hkey q h
 simp only [nl1] at g
 rw [eq_80]
 obtain ⟨cs, hcs, hsh⟩ := flatV v
 obtain ⟨k0, s0, b0, n0, l0, m0, i0, u0, rfl⟩ := hsh
 simp only [Bool.false_eq_true, if_false, List.length_nil, List.nil_append] at hl ⊢
 have hm : (textB 1 key).length + u.length ≤ maxStr := by unfold maxStr; omega
 simp -implicitDefEqProofs (maxSteps := 1000000) [Tryz.f80, Code.key, encK_mk, hcs, g, hm]
theorem rwriteKey_of {key : List UInt8} {has : Bool} {v : Val} {u : List UInt8} (hl : (writeK (.mk key has v u)).length ≤ 549755813888)
  (hV : (writeV v).length ≤ 549755813888 → ∀ (q : Id) (h : Heap), callW E q 113 [.agg (encV v)] h = some (.str (writeV v), dropFrom q 0 h)) (p : Id) (h : Heap) :
  callW E p 80 [.agg (encK (.mk key has v u))] h = some (.str (writeK (.mk key has v u)), dropFrom p 0 h) := by
 rw [writeK] at hl ⊢
 rw [List.length_append, List.length_append] at hl
 have hkey : key.length ≤ 549755813888 := by
  unfold textB at hl
  split at hl
  ·rename_i he; subst he; simp
  ·have := bytesB_len 1 key; omega
 have g := fun q h => rputtext_ok (num := 1) (by omega) (by omega) hkey q h
 simp only [nl1] at g
 rw [eq_80]
 obtain ⟨cs, hcs, hsh⟩ := flatV v
 rw [hcs] at hV
 obtain ⟨k0, s0, b0, n0, l0, m0, i0, u0, rfl⟩ := hsh
 cases has with
 | false =>
  simp only [Bool.false_eq_true, if_false, List.length_nil, List.nil_append] at hl ⊢
  have hm : (textB 1 key).length + u.length ≤ maxStr := by unfold maxStr; omega
  simp -implicitDefEqProofs (maxSteps := 1000000) [Tryz.f80, Code.key, encK_mk, hcs, g, hm]
 | true =>
  simp only [if_true] at hl ⊢
  have hbl := bytesB_len 2 (writeV v)
  have gv := hV (by omega)
  have g2 := fun q h => qbytes_ok (num := 2) (by omega) (by omega) (s := writeV v) (by omega) q h
  simp only [nl2] at g2
  have hm : (textB 1 key).length + (bytesB 2 (writeV v)).length ≤ maxStr := by unfold maxStr; omega
  have hm2 : (textB 1 key).length + ((bytesB 2 (writeV v)).length + u.length) ≤ maxStr := by unfold maxStr; omega
  have hm3 : (textB 1 key).length + (bytesB 2 (writeV v)).length + u.length ≤ maxStr := by unfold maxStr; omega
  simp -implicitDefEqProofs (maxSteps := 1000000) [Tryz.f80, Code.key, encK_mk, hcs, g, g2, gv, hm, hm2, hm3]
theorem rwrite_all : (∀ x : Val, x.wf → (writeV x).length ≤ 549755813888 → ∀ d : Int, mayV x d = true → ∀ (p : Id) (h : Heap), callW E p 113 [.agg (encV x)] h = some (.str (writeV x), dropFrom p 0 h)) ∧
  ∀ x : KV, x.wf → (writeK x).length ≤ 549755813888 → ∀ d : Int, mayK x d = true → ∀ (p : Id) (h : Heap), callW E p 80 [.agg (encK x)] h = some (.str (writeK x), dropFrom p 0 h) := by
 refine Val.ind2 ?_ ?_
 ·intro k s b n l m i u ihl ihm hwf hl d hm p h
  obtain ⟨hk, hs, hn, hll, hml, hil, hul, hwl, hwm⟩ := Val.wf_mk.1 hwf
  rw [mayV] at hm
  simp only [Bool.and_eq_true, decide_eq_true_eq] at hm
  obtain ⟨⟨⟨h0, hb⟩, hu⟩, hi⟩ := hm
  have hnil : (¬ (k = 5 ∨ k = 6) → l = [] ∧ m = []) ∧ (k = 2 → n = 0) := by
   unfold bareV at hb
   refine ⟨fun hk => ?_, fun hk => ?_⟩
   ·have k5 : ¬ k = 5 := fun e => hk (.inl e)
    have k6 : ¬ k = 6 := fun e => hk (.inr e)
    (repeat' split at hb) <;> simp at hb <;> first | contradiction | (clear ihl ihm hwl hwm hu hi hwf hl; simp_all; done)
   ·subst hk; simp at hb; exact hb.1.2
  have hch : (∀ x ∈ l, mayV x (d - 2) = true) ∧ ∀ x ∈ m, mayK x (d - 2) = true := by
   by_cases hk : k = 5 ∨ k = 6
   ·rw [if_pos hk] at hi
    simp only [Bool.and_eq_true, decide_eq_true_eq, mayVs_all, mayKs_all, List.all_eq_true] at hi
    exact ⟨hi.1.2, hi.2⟩
   ·obtain ⟨rfl, rfl⟩ := hnil.1 hk
    simp
  exact rwrite_of hwf hnil.2 hl (fun x hx hxl q h => ihl x hx (hwl x hx) hxl (d - 2) (hch.1 x hx) q h) (fun x hx hxl q h => ihm x hx (hwm x hx) hxl (d - 2) (hch.2 x hx) q h) p h
 ·intro key has v u ih hwf hl d hm p h
  obtain ⟨hkl, hul, hwv⟩ := KV.wf_mk.1 hwf
  rw [mayK] at hm
  simp only [Bool.and_eq_true, decide_eq_true_eq] at hm
  cases has with
  | true => exact rwriteKey_of hl (fun hvl q h => ih hwv hvl (d - 1) (by simpa using hm.2) q h) p h
  | false => exact rwriteKey0 hl p h
theorem rwriteV_ok {x : Val} (hw : x.wf) (hl : (writeV x).length ≤ 549755813888) {d : Int} (hm : mayV x d = true) (p : Id) (h : Heap) : callW E p 113 [.agg (encV x)] h = some (.str (writeV x), dropFrom p 0 h) := rwrite_all.1 x hw hl d hm p h
theorem rwriteK_ok {x : KV} (hw : x.wf) (hl : (writeK x).length ≤ 549755813888) {d : Int} (hm : mayK x d = true) (p : Id) (h : Heap) : callW E p 80 [.agg (encK x)] h = some (.str (writeK x), dropFrom p 0 h) := rwrite_all.2 x hw hl d hm p h
end Go.Ai.T

namespace Go.Ai.T
open Go Go.Proofs
set_option maxRecDepth 100000
set_option maxHeartbeats 4000000
def runFr (tb : List Nat) (ok : Bool) (rs : List Rec) (i : Nat) : Fr := (((((bot.set 9 (.int .i64 i)).set 8 (.bool ok)).set 7 (.slice (recsA rs) none)).set 6 (.bool false)).set 2 (.slice (intsA tb) none))
theorem run_loop {tb : List Nat} (hn : tb.length ≤ 1099511627776) (hsm : ∀ n ∈ tb, n ≤ 1099511627776) {t : Nat → Nat → Bool} (ht : ∀ num kind, kind < 8 → tabR tb num kind = t num kind) {ok : Bool} {rs : List Rec} (hrn : rs.length ≤ 1099511627776) (hk : ∀ r ∈ rs, r.kind < 8) :
  ∀ (rest : List Rec) (i : Nat), rs.drop i = rest → i ≤ rs.length → ∃ K i', ∀ (p : Id) (c0 c : Nat) (h : Heap), c0 ≤ c →
  iterW E 48 p [2, 6, 7, 8, 9] L_48_3 c0 (runFr tb ok rs i) c h =
   some (if (rest.all fun r => !t r.num r.kind) = true then .exit 0 else .ret, runFr tb ok rs i', c + K, dropFrom p c0 h) := by
 intro rest
 induction rest with
 | nil =>
  intro i hj hi
  have hlen : i = rs.length := by have := drop_end hj; omega
  subst hlen
  refine ⟨0, rs.length, fun p c0 c h h1 => ?_⟩
  have hlt' : ¬ ((rs.length : Nat) : Int) < rs.length := by omega
  have hrl : (recsA rs).length = rs.length := by simp [recsA]
  unfold runFr
  rw [rd_48_3]
  generalize hr : execW E 48 p _ _ _ _ = e
  simp -implicitDefEqProofs (maxSteps := 1000000) [Tryz.f48, Code.loopAt, Code.key, hrl] at hr
  subst hr
  simp
 | cons r rest ih =>
  intro i hj hi
  obtain ⟨hlt, hbb, hbs⟩ := drop_facts hj
  have hlt' : (i : Int) < rs.length := by omega
  have hw : IntKind.i64.wrap ((i : Int) + 1) = ((i + 1 : Nat) : Int) := by rw [wrap_i64 (by omega) (by omega)]; rfl
  have hrl : (recsA rs).length = rs.length := by simp [recsA]
  have hget? : (recsA rs)[i]? = some (recCells r) := by simp [recsA, hbb]
  have hget : ∀ hl, (recsA rs)[i]'hl = recCells r := fun hl => by rw [List.getElem?_eq_getElem hl] at hget?; exact Option.some.inj hget?
  have gt := fun q h => takesR_ok hn hsm r q h
  rw [ht _ _ (hk r (List.mem_of_getElem? hbb))] at gt
  simp only [encRec, recCells] at gt
  cases htr : t r.num r.kind with
  | true =>
   rw [htr] at gt
   refine ⟨1, i, fun p c0 c h h1 => ?_⟩
   have e : ((r :: rest).all fun r => !t r.num r.kind) = false := by simp [htr]
   rw [e]
   unfold runFr
   rw [rd_48_3]
   generalize hr : execW E 48 p _ _ _ _ = ee
   simp -implicitDefEqProofs (maxSteps := 1000000) [-Int.natCast_add, Tryz.f48, Code.loopAt, Code.key, recCells, gt, hlt, hlt', hrl, hget?, hget, hw] at hr
   subst hr
   simp [-Int.natCast_add]
   simp -implicitDefEqProofs (disch := omega) only [own_du, drop_drop_cons, drop_upd, drop_drop, drop_drop_self, upd_upd]
  | false =>
   rw [htr] at gt
   obtain ⟨K, i', gl⟩ := ih (i + 1) hbs (by omega)
   refine ⟨1 + K, i', fun p c0 c h h1 => ?_⟩
   have e : ((r :: rest).all fun r => !t r.num r.kind) = (rest.all fun r => !t r.num r.kind) := by simp [htr]
   rw [e]
   have e := gl p c0 (c + 1) (dropFrom p c0 h) (by omega)
   unfold runFr at e ⊢
   rw [rd_48_3]
   generalize hr : execW E 48 p _ _ _ _ = ee
   simp -implicitDefEqProofs (maxSteps := 1000000) [-Int.natCast_add, Tryz.f48, Code.loopAt, Code.key, recCells, gt, hlt, hlt', hrl, hget?, hget, hw] at hr
   subst hr
   simp [-Int.natCast_add, -List.all_eq_true]
   exact (iterW_congr rfl rfl (by omega) (by simp -implicitDefEqProofs (disch := omega) only [own_du, drop_drop_cons, drop_upd, drop_drop, drop_drop_self, upd_upd])).trans (e.trans (some5 rfl (by omega) (by simp -implicitDefEqProofs (disch := omega) only [own_du, drop_drop_cons, drop_upd, drop_drop, drop_drop_self, upd_upd])))
theorem runknown_ok {tb : List Nat} (hn : tb.length ≤ 1099511627776) (hsm : ∀ n ∈ tb, n ≤ 1099511627776) {t : Nat → Nat → Bool} (ht : ∀ num kind, kind < 8 → tabR tb num kind = t num kind) {s : List UInt8} (hb : s.length ≤ 1099511627776) {d : Int} (hd : d ≤ 9223372036854775807) (p : Id) (h : Heap) :
  callW E p 48 [.str s, .int .i64 d, .slice (intsA tb) none] h = some (.bool (decide (0 ≤ d) && restE t s d), dropFrom p 0 h) := by
 have gf := fun q h => fields_ok hb hd q h
 rw [eq_48]
 cases hv : fieldsE s d with
 | error x =>
  have e : (decide (0 ≤ d) && restE t s d) = false := by
   unfold fieldsE at hv
   split at hv
   ·simp; omega
   ·unfold restE; rw [hv]; simp
  rw [hv] at gf
  obtain ⟨K, i', gl⟩ := run_loop hn hsm ht (ok := false) (rs := []) (by simp) (by simp) [] 0 rfl (Nat.zero_le _)
  have g := fun h => gl p 1 1 h (Nat.le_refl _)
  simp only [encRAll, runFr, nat0, recsA, List.map_nil] at gf g
  rw [e]
  simp -implicitDefEqProofs (maxSteps := 1000000) [Tryz.f48, Code.hide, Code.key, gf, g]
 | ok rs =>
  obtain ⟨hd0, f1, f2, f3, f4, f5⟩ := fieldsE_facts hv
  have hall : allE s d 0 = .ok rs := by
   unfold fieldsE at hv
   rwa [if_neg (by omega)] at hv
  have e : (decide (0 ≤ d) && restE t s d) = rs.all fun r => !t r.num r.kind := by
   unfold restE; rw [hall]; simp [hd0]
  rw [hv] at gf
  obtain ⟨K, i', gl⟩ := run_loop hn hsm ht (ok := true) (rs := rs) (by omega) f4 rs 0 rfl (Nat.zero_le _)
  have g := fun h => gl p 1 1 h (Nat.le_refl _)
  simp only [encRAll, runFr, nat0] at gf g
  rw [e]
  cases hx : rs.all fun r => !t r.num r.kind with
  | true =>
   rw [hx] at g
   simp only [if_true] at g
   simp -implicitDefEqProofs (maxSteps := 1000000) [Tryz.f48, Code.hide, Code.key, gf, g]
  | false =>
   rw [hx] at g
   simp only [Bool.false_eq_true, if_false] at g
   simp -implicitDefEqProofs (maxSteps := 1000000) [Tryz.f48, Code.hide, Code.key, gf, g]
def rmkFr (d : Int) (l : List KV) (i : Nat) : Fr := ((((bot.set 5 (.int .i64 i)).set 4 (.bool false)).set 1 (.int .i64 d)).set 0 (.slice (l.map encK) none))
def rmvFr (p : Id) (d : Int) (_ : List Val) (i : Nat) : Fr := ((((bot.set 6 (.int .i64 i)).set 4 (.bool false)).set 2 (.ptr (64 :: 0 :: p) 0)).set 1 (.int .i64 d))
theorem rmayKs_loop {d : Int} {l : List KV} {k0 s0 b0 n0 m0 i0 u0 : A} (hn : l.length ≤ maxStr) (hd1 : -9223372036854775808 ≤ d) (hd2 : d ≤ 9223372036854775807) (hr : ∀ x ∈ l, ∀ (q : Id) (h : Heap), callW E q 78 [.agg (encK x), .int .i64 d] h = some (.bool (mayK x d), dropFrom q 0 h)) :
  ∀ (t : List KV) (i : Nat), l.drop i = t → i ≤ l.length → ∃ K i', ∀ (p : Id) (c0 c : Nat) (h : Heap), 0 < c0 ∨ 47 = 47 → c0 ≤ c → True →
  iterW E 47 p [0, 1, 4, 5] L_47_2 c0 (rmkFr d l i) c h = some (if (t.all fun x => mayK x d) = true then .exit 0 else .ret, rmkFr d l i', c + K, dropFrom p c0 h) := by
 intro t
 induction t with
 | nil =>
  intro i hj hi
  have hlen : i = l.length := by have := drop_end hj; omega
  subst hlen
  refine ⟨0, l.length, fun p c0 c h hc0 h1 hh => ?_⟩
  have hlt' : ¬ ((l.length : Nat) : Int) < l.length := by omega
  unfold rmkFr
  rw [rd_47_2]
  generalize hr : execW E 47 p _ _ _ _ = e
  simp -implicitDefEqProofs (maxSteps := 1000000) [Tryz.f47, Code.loopAt, Code.key, hh] at hr
  subst hr
  simp
 | cons x t ih =>
  intro i hj hi
  obtain ⟨hlt, hbb, hbs⟩ := drop_facts hj
  have hlt' : (i : Int) < l.length := by omega
  have hw1 : IntKind.i64.wrap ((i : Int) + 1) = ((i + 1 : Nat) : Int) := by rw [wrap_succ hlt hn]; rfl
  have hwe : IntKind.i64.wrap d = d := wrap_i64 hd1 hd2
  have hget? : (l.map encK)[i]? = some (encK x) := by simp [hbb]
  have hget : ∀ hl, (l.map encK)[i]'hl = encK x := fun hl => by rw [List.getElem?_eq_getElem hl] at hget?; exact Option.some.inj hget?
  have hgetl : ∀ hl, l[i]'hl = x := fun hl => by rw [List.getElem?_eq_getElem hl] at hbb; exact Option.some.inj hbb
  have g := hr x (List.mem_of_getElem? hbb)
  cases hv : mayK x d with
  | false =>
   refine ⟨1, i, fun p c0 c h hc0 h1 hh => ?_⟩
   obtain ⟨o1, o2, o3, o4, o5, o6⟩ := own_facts (p := p) 64 0
   have e : ((x :: t).all fun x => mayK x d) = false := by simp [hv]
   rw [e]
   rw [hv] at g
   unfold rmkFr
   rw [rd_47_2]
   generalize hr : execW E 47 p _ _ _ _ = ee
   simp -implicitDefEqProofs (maxSteps := 1000000) [-Int.natCast_add, Tryz.f47, Code.loopAt, Code.key, hlt, hlt', hget?, hget, hgetl, hbb, hw1, hwe, g, hh] at hr
   subst hr
   simp [-Int.natCast_add]
   simp -implicitDefEqProofs (disch := omega) only [own_du, drop_drop_cons, drop_upd, drop_drop, drop_drop_self, upd_upd]
  | true =>
   obtain ⟨K, i', gl⟩ := ih (i + 1) hbs (by omega)
   refine ⟨1 + K, i', fun p c0 c h hc0 h1 hh => ?_⟩
   obtain ⟨o1, o2, o3, o4, o5, o6⟩ := own_facts (p := p) 64 0
   have e : ((x :: t).all fun x => mayK x d) = (t.all fun x => mayK x d) := by simp [hv]
   rw [e]
   rw [hv] at g
   have e := gl p c0 (c + 1) (dropFrom p c0 h) hc0 (by omega) trivial
   unfold rmkFr at e ⊢
   rw [rd_47_2]
   generalize hr : execW E 47 p _ _ _ _ = ee
   simp -implicitDefEqProofs (maxSteps := 1000000) [-Int.natCast_add, Tryz.f47, Code.loopAt, Code.key, hlt, hlt', hget?, hget, hgetl, hbb, hw1, hwe, g, hh] at hr
   subst hr
   simp [-Int.natCast_add, -List.all_eq_true]
   exact (iterW_congr rfl rfl (by omega) (by simp -implicitDefEqProofs (disch := omega) only [own_du, drop_drop_cons, drop_upd, drop_drop, drop_drop_self, upd_upd])).trans (e.trans (some5 rfl (by omega) (by simp -implicitDefEqProofs (disch := omega) only [own_du, drop_drop_cons, drop_upd, drop_drop, drop_drop_self, upd_upd])))
theorem rmayVs_loop {d : Int} {l : List Val} {k0 s0 b0 n0 m0 i0 u0 : A} (hn : l.length ≤ maxStr) (hd1 : -9223372036854775808 ≤ (d - 2)) (hd2 : (d - 2) ≤ 9223372036854775807) (hr : ∀ x ∈ l, ∀ (q : Id) (h : Heap), callW E q 109 [.agg (encV x), .int .i64 (d - 2)] h = some (.bool (mayV x (d - 2)), dropFrom q 0 h)) :
  ∀ (t : List Val) (i : Nat), l.drop i = t → i ≤ l.length → ∃ K i', ∀ (p : Id) (c0 c : Nat) (h : Heap), 0 < c0 ∨ 109 = 47 → c0 ≤ c → h (64 :: 0 :: p) = some [k0, s0, b0, n0, .slice (l.map encV) none, m0, i0, u0] →
  iterW E 109 p [1, 2, 4, 6] L_109_9 c0 (rmvFr p d l i) c h = some (if (t.all fun x => mayV x (d - 2)) = true then .exit 0 else .ret, rmvFr p d l i', c + K, dropFrom p c0 h) := by
 intro t
 induction t with
 | nil =>
  intro i hj hi
  have hlen : i = l.length := by have := drop_end hj; omega
  subst hlen
  refine ⟨0, l.length, fun p c0 c h hc0 h1 hh => ?_⟩
  have hlt' : ¬ ((l.length : Nat) : Int) < l.length := by omega
  unfold rmvFr
  rw [rd_109_9]
  generalize hr : execW E 109 p _ _ _ _ = e
  simp -implicitDefEqProofs (maxSteps := 1000000) [Tryz.f109, Code.loopAt, Code.key, hh] at hr
  subst hr
  simp
 | cons x t ih =>
  intro i hj hi
  obtain ⟨hlt, hbb, hbs⟩ := drop_facts hj
  have hlt' : (i : Int) < l.length := by omega
  have hw1 : IntKind.i64.wrap ((i : Int) + 1) = ((i + 1 : Nat) : Int) := by rw [wrap_succ hlt hn]; rfl
  have hwe : IntKind.i64.wrap (d - 2) = (d - 2) := wrap_i64 hd1 hd2
  have hget? : (l.map encV)[i]? = some (encV x) := by simp [hbb]
  have hget : ∀ hl, (l.map encV)[i]'hl = encV x := fun hl => by rw [List.getElem?_eq_getElem hl] at hget?; exact Option.some.inj hget?
  have hgetl : ∀ hl, l[i]'hl = x := fun hl => by rw [List.getElem?_eq_getElem hl] at hbb; exact Option.some.inj hbb
  have g := hr x (List.mem_of_getElem? hbb)
  cases hv : mayV x (d - 2) with
  | false =>
   refine ⟨1, i, fun p c0 c h hc0 h1 hh => ?_⟩
   obtain ⟨o1, o2, o3, o4, o5, o6⟩ := own_facts (p := p) 64 0
   have e : ((x :: t).all fun x => mayV x (d - 2)) = false := by simp [hv]
   rw [e]
   rw [hv] at g
   unfold rmvFr
   rw [rd_109_9]
   generalize hr : execW E 109 p _ _ _ _ = ee
   simp -implicitDefEqProofs (maxSteps := 1000000) [-Int.natCast_add, Tryz.f109, Code.loopAt, Code.key, hlt, hlt', hget?, hget, hgetl, hbb, hw1, hwe, g, hh] at hr
   subst hr
   simp [-Int.natCast_add]
   simp -implicitDefEqProofs (disch := omega) only [own_du, drop_drop_cons, drop_upd, drop_drop, drop_drop_self, upd_upd]
  | true =>
   obtain ⟨K, i', gl⟩ := ih (i + 1) hbs (by omega)
   refine ⟨1 + K, i', fun p c0 c h hc0 h1 hh => ?_⟩
   obtain ⟨o1, o2, o3, o4, o5, o6⟩ := own_facts (p := p) 64 0
   have e : ((x :: t).all fun x => mayV x (d - 2)) = (t.all fun x => mayV x (d - 2)) := by simp [hv]
   rw [e]
   rw [hv] at g
   have e := gl p c0 (c + 1) (dropFrom p c0 h) hc0 (by omega) (by rw [o2 _ _ (by omega), hh])
   unfold rmvFr at e ⊢
   rw [rd_109_9]
   generalize hr : execW E 109 p _ _ _ _ = ee
   simp -implicitDefEqProofs (maxSteps := 1000000) [-Int.natCast_add, Tryz.f109, Code.loopAt, Code.key, hlt, hlt', hget?, hget, hgetl, hbb, hw1, hwe, g, hh] at hr
   subst hr
   simp [-Int.natCast_add, -List.all_eq_true]
   exact (iterW_congr rfl rfl (by omega) (by simp -implicitDefEqProofs (disch := omega) only [own_du, drop_drop_cons, drop_upd, drop_drop, drop_drop_self, upd_upd])).trans (e.trans (some5 rfl (by omega) (by simp -implicitDefEqProofs (disch := omega) only [own_du, drop_drop_cons, drop_upd, drop_drop, drop_drop_self, upd_upd])))
theorem rmayKs_of {d : Int} {l : List KV} (hn : l.length ≤ maxStr) (hd1 : -9223372036854775808 ≤ d) (hd2 : d ≤ 9223372036854775807) (hr : ∀ x ∈ l, ∀ (q : Id) (h : Heap), callW E q 78 [.agg (encK x), .int .i64 d] h = some (.bool (mayK x d), dropFrom q 0 h)) (p : Id) (h : Heap) :
  callW E p 47 [.slice (l.map encK) none, .int .i64 d] h = some (.bool (mayKs l d), dropFrom p 0 h) := by
 obtain ⟨K, i', gl⟩ := rmayKs_loop (k0 := .top) (s0 := .top) (b0 := .top) (n0 := .top) (m0 := .top) (i0 := .top) (u0 := .top) hn hd1 hd2 hr l 0 rfl (Nat.zero_le _)
 have g := fun h => gl p 0 0 h (.inr rfl) (Nat.le_refl _) trivial
 rw [mayKs_all]
 rw [eq_47]
 simp only [rmkFr, nat0] at g
 cases hx : l.all fun x => mayK x d with
 | true =>
  rw [hx] at g
  simp only [if_true] at g
  simp -implicitDefEqProofs (maxSteps := 1000000) [Tryz.f47, Code.hide, Code.key, g]
 | false =>
  rw [hx] at g
  simp only [Bool.false_eq_true, if_false] at g
  simp -implicitDefEqProofs (maxSteps := 1000000) [Tryz.f47, Code.hide, Code.key, g]
theorem rmay_of {k : Int} {s : List UInt8} {b : Bool} {n : Nat} {l : List Val} {m : List KV} {i u : List UInt8} (hwf : (Val.mk k s b n l m i u).wf) (hs : s.length ≤ 1099511627776) (hu : u.length ≤ 1099511627776) (hi : i.length ≤ 1099511627776) {d : Int} (hd2 : d ≤ 9223372036854775807)
  (hV : 1 ≤ d → ∀ x ∈ l, ∀ (q : Id) (h : Heap), callW E q 109 [.agg (encV x), .int .i64 (d - 2)] h = some (.bool (mayV x (d - 2)), dropFrom q 0 h))
  (hK : 1 ≤ d → ∀ x ∈ m, ∀ (q : Id) (h : Heap), callW E q 78 [.agg (encK x), .int .i64 (d - 2)] h = some (.bool (mayK x (d - 2)), dropFrom q 0 h)) (p : Id) (h : Heap) :
  callW E p 109 [.agg (encV (.mk k s b n l m i u)), .int .i64 d] h = some (.bool (mayV (.mk k s b n l m i u) d), dropFrom p 0 h) := by
 obtain ⟨hk, _, hn, hll, hml, hil, hul, hwl, hwm⟩ := Val.wf_mk.1 hwf
 have g1 := fun q h => rtext_ok hs q h
 change ∀ q h, callW E q 88 [.str s] h = some (.bool (textOk s), dropFrom q 0 h) at g1
 have g2 := fun q h => runknown_ok (tb := [10, 16, 24, 33, 42, 50, 58]) (by simp) (by simp) tabV hu hd2 q h
 rw [mayV]
 simp only [encV_mk]
 rw [eq_109]
 by_cases h0 : d < 0
 ·have e : decide (0 ≤ d) = false := by simp; omega
  rw [e]
  simp -implicitDefEqProofs (maxSteps := 1000000) [Tryz.f109, Code.hide, Code.key, h0]
 have e0 : decide (0 ≤ d) = true := by simp; omega
 rw [e0] at g2 ⊢
 have hwd : IntKind.i64.wrap (d - 1) = d - 1 := wrap_i64 (by omega) (by omega)
 have hwd2 : IntKind.i64.wrap (d - 2) = d - 2 := wrap_i64 (by omega) (by omega)
 by_cases kn : k < 0
 ·have eb : bareV (.mk k s b n l m i u) = false := by
   have k0 : ¬ k = 0 := by omega
   have k1 : ¬ k = 1 := by omega
   have k2 : ¬ k = 2 := by omega
   have k34 : ¬ (k = 3 ∨ k = 4) := by omega
   have k5 : ¬ k = 5 := by omega
   have k6 : ¬ k = 6 := by omega
   have k7 : ¬ k = 7 := by omega
   simp only [bareV, k0, k1, k2, k34, k5, k6, k7, if_false]
  rw [eb]
  simp -implicitDefEqProofs (maxSteps := 1000000) [Tryz.f109, Code.hide, Code.key, h0, kn]
 by_cases kp : 7 < k
 ·have eb : bareV (.mk k s b n l m i u) = false := by
   have k0 : ¬ k = 0 := by omega
   have k1 : ¬ k = 1 := by omega
   have k2 : ¬ k = 2 := by omega
   have k34 : ¬ (k = 3 ∨ k = 4) := by omega
   have k5 : ¬ k = 5 := by omega
   have k6 : ¬ k = 6 := by omega
   have k7 : ¬ k = 7 := by omega
   simp only [bareV, k0, k1, k2, k34, k5, k6, k7, if_false]
  rw [eb]
  simp -implicitDefEqProofs (maxSteps := 1000000) [Tryz.f109, Code.hide, Code.key, h0, kn, kp]
 cases hx : restE takesV u d with
 | false =>
  rw [hx] at g2
  simp -implicitDefEqProofs (maxSteps := 1000000) [Tryz.f109, Code.hide, Code.key, h0, kn, kp, g2, values_ok]
 | true =>
  rw [hx] at g2
  by_cases k0 : k = 0
  ·subst k0
   cases s with
   | cons x xs =>
    simp -implicitDefEqProofs (maxSteps := 1000000) [Tryz.f109, Code.hide, Code.key, h0, g2, values_ok, bareV]
   | nil =>
    cases b with
    | true =>
     simp -implicitDefEqProofs (maxSteps := 1000000) [Tryz.f109, Code.hide, Code.key, h0, g2, values_ok, bareV]
    | false =>
     by_cases hn0 : n = 0
     case neg =>
      have hn' : ¬ (n : Int) = 0 := by omega
      simp -implicitDefEqProofs (maxSteps := 1000000) [Tryz.f109, Code.hide, Code.key, h0, g2, values_ok, bareV, hn0, hn']
     subst hn0
     simp only [nat0]
     cases l with
     | cons y ys =>
      have e3 : 0 < ((y :: ys).map encV).length := by simp
      have e3' : ¬ ((y :: ys).map encV) = [] := by simp
      generalize (y :: ys).map encV = L at *
      simp -implicitDefEqProofs (maxSteps := 1000000) [Tryz.f109, Code.hide, Code.key, h0, g2, values_ok, bareV, e3, e3']
     | nil =>
      cases m with
      | cons y ys =>
       have e3 : 0 < ((y :: ys).map encK).length := by simp
       have e3' : ¬ ((y :: ys).map encK) = [] := by simp
       generalize (y :: ys).map encK = L at *
       simp -implicitDefEqProofs (maxSteps := 1000000) [Tryz.f109, Code.hide, Code.key, h0, g2, values_ok, bareV, e3, e3']
      | nil =>
       cases i with
       | cons x xs =>
        simp -implicitDefEqProofs (maxSteps := 1000000) [Tryz.f109, Code.hide, Code.key, h0, g2, values_ok, bareV]
       | nil =>
        obtain ⟨K, i', gl⟩ := rmayVs_loop (k0 := .int .i64 0) (s0 := .str []) (b0 := .bool false) (n0 := .int .u64 0) (m0 := .slice [] none) (i0 := .str []) (u0 := .str u) (d := d) (l := []) (by simp) (by omega) (by omega) (by simp) [] 0 rfl (Nat.zero_le _)
        have g := fun c h hh => gl p (c + 1) (c + 1) h (.inl (by omega)) (Nat.le_refl _) hh
        have g4 := fun q h => rmayKs_of (d := d - 2) (l := []) (by simp) (by omega) (by omega) (by simp) q h
        simp only [rmvFr, nat0, List.map_nil, List.all_nil, if_true, mayKs] at g g4
        simp -implicitDefEqProofs (maxSteps := 1000000) [Tryz.f109, Code.hide, Code.key, h0, g1, g2, values_ok, bareV, g, g4, hwd2]
  by_cases k1 : k = 1
  ·subst k1
   cases b with
   | true =>
    simp -implicitDefEqProofs (maxSteps := 1000000) [Tryz.f109, Code.hide, Code.key, h0, g2, values_ok, bareV]
   | false =>
    by_cases hn0 : n = 0
    case neg =>
     have hn' : ¬ (n : Int) = 0 := by omega
     simp -implicitDefEqProofs (maxSteps := 1000000) [Tryz.f109, Code.hide, Code.key, h0, g2, values_ok, bareV, hn0, hn']
    subst hn0
    simp only [nat0]
    cases l with
    | cons y ys =>
     have e3 : 0 < ((y :: ys).map encV).length := by simp
     have e3' : ¬ ((y :: ys).map encV) = [] := by simp
     generalize (y :: ys).map encV = L at *
     simp -implicitDefEqProofs (maxSteps := 1000000) [Tryz.f109, Code.hide, Code.key, h0, g2, values_ok, bareV, e3, e3']
    | nil =>
     cases m with
     | cons y ys =>
      have e3 : 0 < ((y :: ys).map encK).length := by simp
      have e3' : ¬ ((y :: ys).map encK) = [] := by simp
      generalize (y :: ys).map encK = L at *
      simp -implicitDefEqProofs (maxSteps := 1000000) [Tryz.f109, Code.hide, Code.key, h0, g2, values_ok, bareV, e3, e3']
     | nil =>
      cases i with
      | cons x xs =>
       simp -implicitDefEqProofs (maxSteps := 1000000) [Tryz.f109, Code.hide, Code.key, h0, g2, values_ok, bareV]
      | nil =>
       cases ht : textOk s with
       | false =>
        rw [ht] at g1
        simp -implicitDefEqProofs (maxSteps := 1000000) [Tryz.f109, Code.hide, Code.key, h0, g1, g2, values_ok, bareV, ht]
       | true =>
        rw [ht] at g1
        obtain ⟨K, i', gl⟩ := rmayVs_loop (k0 := .int .i64 1) (s0 := .str s) (b0 := .bool false) (n0 := .int .u64 0) (m0 := .slice [] none) (i0 := .str []) (u0 := .str u) (d := d) (l := []) (by simp) (by omega) (by omega) (by simp) [] 0 rfl (Nat.zero_le _)
        have g := fun c h hh => gl p (c + 1) (c + 1) h (.inl (by omega)) (Nat.le_refl _) hh
        have g4 := fun q h => rmayKs_of (d := d - 2) (l := []) (by simp) (by omega) (by omega) (by simp) q h
        simp only [rmvFr, nat0, List.map_nil, List.all_nil, if_true, mayKs] at g g4
        simp -implicitDefEqProofs (maxSteps := 1000000) [Tryz.f109, Code.hide, Code.key, h0, g1, g2, values_ok, bareV, g, g4, hwd2, ht]
  by_cases k2 : k = 2
  ·subst k2
   cases s with
   | cons x xs =>
    simp -implicitDefEqProofs (maxSteps := 1000000) [Tryz.f109, Code.hide, Code.key, h0, g2, values_ok, bareV]
   | nil =>
    by_cases hn0 : n = 0
    case neg =>
     have hn' : ¬ (n : Int) = 0 := by omega
     simp -implicitDefEqProofs (maxSteps := 1000000) [Tryz.f109, Code.hide, Code.key, h0, g2, values_ok, bareV, hn0, hn']
    subst hn0
    simp only [nat0]
    cases l with
    | cons y ys =>
     have e3 : 0 < ((y :: ys).map encV).length := by simp
     have e3' : ¬ ((y :: ys).map encV) = [] := by simp
     generalize (y :: ys).map encV = L at *
     simp -implicitDefEqProofs (maxSteps := 1000000) [Tryz.f109, Code.hide, Code.key, h0, g2, values_ok, bareV, e3, e3']
    | nil =>
     cases m with
     | cons y ys =>
      have e3 : 0 < ((y :: ys).map encK).length := by simp
      have e3' : ¬ ((y :: ys).map encK) = [] := by simp
      generalize (y :: ys).map encK = L at *
      simp -implicitDefEqProofs (maxSteps := 1000000) [Tryz.f109, Code.hide, Code.key, h0, g2, values_ok, bareV, e3, e3']
     | nil =>
      cases i with
      | cons x xs =>
       simp -implicitDefEqProofs (maxSteps := 1000000) [Tryz.f109, Code.hide, Code.key, h0, g2, values_ok, bareV]
      | nil =>
       obtain ⟨K, i', gl⟩ := rmayVs_loop (k0 := .int .i64 2) (s0 := .str []) (b0 := .bool b) (n0 := .int .u64 0) (m0 := .slice [] none) (i0 := .str []) (u0 := .str u) (d := d) (l := []) (by simp) (by omega) (by omega) (by simp) [] 0 rfl (Nat.zero_le _)
       have g := fun c h hh => gl p (c + 1) (c + 1) h (.inl (by omega)) (Nat.le_refl _) hh
       have g4 := fun q h => rmayKs_of (d := d - 2) (l := []) (by simp) (by omega) (by omega) (by simp) q h
       simp only [rmvFr, nat0, List.map_nil, List.all_nil, if_true, mayKs] at g g4
       simp -implicitDefEqProofs (maxSteps := 1000000) [Tryz.f109, Code.hide, Code.key, h0, g1, g2, values_ok, bareV, g, g4, hwd2]
  by_cases k3 : k = 3
  ·subst k3
   cases s with
   | cons x xs =>
    simp -implicitDefEqProofs (maxSteps := 1000000) [Tryz.f109, Code.hide, Code.key, h0, g2, values_ok, bareV]
   | nil =>
    cases b with
    | true =>
     simp -implicitDefEqProofs (maxSteps := 1000000) [Tryz.f109, Code.hide, Code.key, h0, g2, values_ok, bareV]
    | false =>
     cases l with
     | cons y ys =>
      have e3 : 0 < ((y :: ys).map encV).length := by simp
      have e3' : ¬ ((y :: ys).map encV) = [] := by simp
      generalize (y :: ys).map encV = L at *
      simp -implicitDefEqProofs (maxSteps := 1000000) [Tryz.f109, Code.hide, Code.key, h0, g2, values_ok, bareV, e3, e3']
     | nil =>
      cases m with
      | cons y ys =>
       have e3 : 0 < ((y :: ys).map encK).length := by simp
       have e3' : ¬ ((y :: ys).map encK) = [] := by simp
       generalize (y :: ys).map encK = L at *
       simp -implicitDefEqProofs (maxSteps := 1000000) [Tryz.f109, Code.hide, Code.key, h0, g2, values_ok, bareV, e3, e3']
      | nil =>
       cases i with
       | cons x xs =>
        simp -implicitDefEqProofs (maxSteps := 1000000) [Tryz.f109, Code.hide, Code.key, h0, g2, values_ok, bareV]
       | nil =>
        obtain ⟨K, i', gl⟩ := rmayVs_loop (k0 := .int .i64 3) (s0 := .str []) (b0 := .bool false) (n0 := .int .u64 n) (m0 := .slice [] none) (i0 := .str []) (u0 := .str u) (d := d) (l := []) (by simp) (by omega) (by omega) (by simp) [] 0 rfl (Nat.zero_le _)
        have g := fun c h hh => gl p (c + 1) (c + 1) h (.inl (by omega)) (Nat.le_refl _) hh
        have g4 := fun q h => rmayKs_of (d := d - 2) (l := []) (by simp) (by omega) (by omega) (by simp) q h
        simp only [rmvFr, nat0, List.map_nil, List.all_nil, if_true, mayKs] at g g4
        simp -implicitDefEqProofs (maxSteps := 1000000) [Tryz.f109, Code.hide, Code.key, h0, g1, g2, values_ok, bareV, g, g4, hwd2]
  by_cases k4 : k = 4
  ·subst k4
   cases s with
   | cons x xs =>
    simp -implicitDefEqProofs (maxSteps := 1000000) [Tryz.f109, Code.hide, Code.key, h0, g2, values_ok, bareV]
   | nil =>
    cases b with
    | true =>
     simp -implicitDefEqProofs (maxSteps := 1000000) [Tryz.f109, Code.hide, Code.key, h0, g2, values_ok, bareV]
    | false =>
     cases l with
     | cons y ys =>
      have e3 : 0 < ((y :: ys).map encV).length := by simp
      have e3' : ¬ ((y :: ys).map encV) = [] := by simp
      generalize (y :: ys).map encV = L at *
      simp -implicitDefEqProofs (maxSteps := 1000000) [Tryz.f109, Code.hide, Code.key, h0, g2, values_ok, bareV, e3, e3']
     | nil =>
      cases m with
      | cons y ys =>
       have e3 : 0 < ((y :: ys).map encK).length := by simp
       have e3' : ¬ ((y :: ys).map encK) = [] := by simp
       generalize (y :: ys).map encK = L at *
       simp -implicitDefEqProofs (maxSteps := 1000000) [Tryz.f109, Code.hide, Code.key, h0, g2, values_ok, bareV, e3, e3']
      | nil =>
       cases i with
       | cons x xs =>
        simp -implicitDefEqProofs (maxSteps := 1000000) [Tryz.f109, Code.hide, Code.key, h0, g2, values_ok, bareV]
       | nil =>
        obtain ⟨K, i', gl⟩ := rmayVs_loop (k0 := .int .i64 4) (s0 := .str []) (b0 := .bool false) (n0 := .int .u64 n) (m0 := .slice [] none) (i0 := .str []) (u0 := .str u) (d := d) (l := []) (by simp) (by omega) (by omega) (by simp) [] 0 rfl (Nat.zero_le _)
        have g := fun c h hh => gl p (c + 1) (c + 1) h (.inl (by omega)) (Nat.le_refl _) hh
        have g4 := fun q h => rmayKs_of (d := d - 2) (l := []) (by simp) (by omega) (by omega) (by simp) q h
        simp only [rmvFr, nat0, List.map_nil, List.all_nil, if_true, mayKs] at g g4
        simp -implicitDefEqProofs (maxSteps := 1000000) [Tryz.f109, Code.hide, Code.key, h0, g1, g2, values_ok, bareV, g, g4, hwd2]
  by_cases k5 : k = 5
  ·subst k5
   cases s with
   | cons x xs =>
    simp -implicitDefEqProofs (maxSteps := 1000000) [Tryz.f109, Code.hide, Code.key, h0, g2, values_ok, bareV]
   | nil =>
    cases b with
    | true =>
     simp -implicitDefEqProofs (maxSteps := 1000000) [Tryz.f109, Code.hide, Code.key, h0, g2, values_ok, bareV]
    | false =>
     by_cases hn0 : n = 0
     case neg =>
      have hn' : ¬ (n : Int) = 0 := by omega
      simp -implicitDefEqProofs (maxSteps := 1000000) [Tryz.f109, Code.hide, Code.key, h0, g2, values_ok, bareV, hn0, hn']
     subst hn0
     simp only [nat0]
     cases m with
     | cons y ys =>
      have e3 : 0 < ((y :: ys).map encK).length := by simp
      have e3' : ¬ ((y :: ys).map encK) = [] := by simp
      generalize (y :: ys).map encK = L at *
      simp -implicitDefEqProofs (maxSteps := 1000000) [Tryz.f109, Code.hide, Code.key, h0, g2, values_ok, bareV, e3, e3']
     | nil =>
      have g3 := fun q h => runknown_ok (tb := [10]) (by simp) (by simp) tabL hi (d := d - 1) (by omega) q h
      by_cases h1 : d < 1
      ·have e1 : decide (1 ≤ d) = false := by simp; omega
       have e2 : decide (0 ≤ d - 1) = false := by simp; omega
       rw [e2] at g3
       rw [e1]
       simp -implicitDefEqProofs (maxSteps := 1000000) [Tryz.f109, Code.hide, Code.key, h0, g2, g3, values_ok, rlists_ok, hwd, bareV]
      have e1 : decide (1 ≤ d) = true := by simp; omega
      have e2 : decide (0 ≤ d - 1) = true := by simp; omega
      rw [e2] at g3
      rw [e1]
      cases hy : restE loneT i (d - 1) with
      | false =>
       rw [hy] at g3
       simp -implicitDefEqProofs (maxSteps := 1000000) [Tryz.f109, Code.hide, Code.key, h0, g2, g3, values_ok, rlists_ok, hwd, bareV]
      | true =>
       rw [hy] at g3
       obtain ⟨K, i', gl⟩ := rmayVs_loop (k0 := .int .i64 5) (s0 := .str []) (b0 := .bool false) (n0 := .int .u64 0) (m0 := .slice ([]) none) (i0 := .str i) (u0 := .str u) (d := d) hll (by omega) (by omega) (hV (by omega)) l 0 rfl (Nat.zero_le _)
       have g := fun c h hh => gl p (c + 1) (c + 1) h (.inl (by omega)) (Nat.le_refl _) hh
       have g4 := fun q h => rmayKs_of (d := d - 2) (l := []) hml (by omega) (by omega) (hK (by omega)) q h
       rw [mayVs_all]
       simp only [rmvFr, nat0, List.map_nil] at g g4
       cases hz : l.all fun x => mayV x (d - 2) with
       | false =>
        rw [hz] at g
        simp only [Bool.false_eq_true, if_false] at g
        simp -implicitDefEqProofs (maxSteps := 1000000) [Tryz.f109, Code.hide, Code.key, h0, g2, g3, values_ok, rlists_ok, hwd, hwd2, bareV, g, g4]
       | true =>
        rw [hz] at g
        simp only [if_true] at g
        simp -implicitDefEqProofs (maxSteps := 1000000) [Tryz.f109, Code.hide, Code.key, h0, g2, g3, values_ok, rlists_ok, hwd, hwd2, bareV, g, g4]
  by_cases k6 : k = 6
  ·subst k6
   cases s with
   | cons x xs =>
    simp -implicitDefEqProofs (maxSteps := 1000000) [Tryz.f109, Code.hide, Code.key, h0, g2, values_ok, bareV]
   | nil =>
    cases b with
    | true =>
     simp -implicitDefEqProofs (maxSteps := 1000000) [Tryz.f109, Code.hide, Code.key, h0, g2, values_ok, bareV]
    | false =>
     by_cases hn0 : n = 0
     case neg =>
      have hn' : ¬ (n : Int) = 0 := by omega
      simp -implicitDefEqProofs (maxSteps := 1000000) [Tryz.f109, Code.hide, Code.key, h0, g2, values_ok, bareV, hn0, hn']
     subst hn0
     simp only [nat0]
     cases l with
     | cons y ys =>
      have e3 : 0 < ((y :: ys).map encV).length := by simp
      have e3' : ¬ ((y :: ys).map encV) = [] := by simp
      generalize (y :: ys).map encV = L at *
      simp -implicitDefEqProofs (maxSteps := 1000000) [Tryz.f109, Code.hide, Code.key, h0, g2, values_ok, bareV, e3, e3']
     | nil =>
      have g3 := fun q h => runknown_ok (tb := [10]) (by simp) (by simp) tabL hi (d := d - 1) (by omega) q h
      by_cases h1 : d < 1
      ·have e1 : decide (1 ≤ d) = false := by simp; omega
       have e2 : decide (0 ≤ d - 1) = false := by simp; omega
       rw [e2] at g3
       rw [e1]
       simp -implicitDefEqProofs (maxSteps := 1000000) [Tryz.f109, Code.hide, Code.key, h0, g2, g3, values_ok, rlists_ok, hwd, bareV]
      have e1 : decide (1 ≤ d) = true := by simp; omega
      have e2 : decide (0 ≤ d - 1) = true := by simp; omega
      rw [e2] at g3
      rw [e1]
      cases hy : restE loneT i (d - 1) with
      | false =>
       rw [hy] at g3
       simp -implicitDefEqProofs (maxSteps := 1000000) [Tryz.f109, Code.hide, Code.key, h0, g2, g3, values_ok, rlists_ok, hwd, bareV]
      | true =>
       rw [hy] at g3
       obtain ⟨K, i', gl⟩ := rmayVs_loop (k0 := .int .i64 6) (s0 := .str []) (b0 := .bool false) (n0 := .int .u64 0) (m0 := .slice (m.map encK) none) (i0 := .str i) (u0 := .str u) (d := d) hll (by omega) (by omega) (hV (by omega)) [] 0 rfl (Nat.zero_le _)
       have g := fun c h hh => gl p (c + 1) (c + 1) h (.inl (by omega)) (Nat.le_refl _) hh
       have g4 := fun q h => rmayKs_of (d := d - 2) (l := m) hml (by omega) (by omega) (hK (by omega)) q h
       rw [mayVs_all]
       simp only [rmvFr, nat0, List.map_nil] at g g4
       simp only [List.all_nil, if_true] at g
       simp -implicitDefEqProofs (maxSteps := 1000000) [Tryz.f109, Code.hide, Code.key, h0, g2, g3, values_ok, rlists_ok, hwd, hwd2, bareV, g, g4]
  by_cases k7 : k = 7
  ·subst k7
   cases b with
   | true =>
    simp -implicitDefEqProofs (maxSteps := 1000000) [Tryz.f109, Code.hide, Code.key, h0, g2, values_ok, bareV]
   | false =>
    by_cases hn0 : n = 0
    case neg =>
     have hn' : ¬ (n : Int) = 0 := by omega
     simp -implicitDefEqProofs (maxSteps := 1000000) [Tryz.f109, Code.hide, Code.key, h0, g2, values_ok, bareV, hn0, hn']
    subst hn0
    simp only [nat0]
    cases l with
    | cons y ys =>
     have e3 : 0 < ((y :: ys).map encV).length := by simp
     have e3' : ¬ ((y :: ys).map encV) = [] := by simp
     generalize (y :: ys).map encV = L at *
     simp -implicitDefEqProofs (maxSteps := 1000000) [Tryz.f109, Code.hide, Code.key, h0, g2, values_ok, bareV, e3, e3']
    | nil =>
     cases m with
     | cons y ys =>
      have e3 : 0 < ((y :: ys).map encK).length := by simp
      have e3' : ¬ ((y :: ys).map encK) = [] := by simp
      generalize (y :: ys).map encK = L at *
      simp -implicitDefEqProofs (maxSteps := 1000000) [Tryz.f109, Code.hide, Code.key, h0, g2, values_ok, bareV, e3, e3']
     | nil =>
      cases i with
      | cons x xs =>
       simp -implicitDefEqProofs (maxSteps := 1000000) [Tryz.f109, Code.hide, Code.key, h0, g2, values_ok, bareV]
      | nil =>
       obtain ⟨K, i', gl⟩ := rmayVs_loop (k0 := .int .i64 7) (s0 := .str s) (b0 := .bool false) (n0 := .int .u64 0) (m0 := .slice [] none) (i0 := .str []) (u0 := .str u) (d := d) (l := []) (by simp) (by omega) (by omega) (by simp) [] 0 rfl (Nat.zero_le _)
       have g := fun c h hh => gl p (c + 1) (c + 1) h (.inl (by omega)) (Nat.le_refl _) hh
       have g4 := fun q h => rmayKs_of (d := d - 2) (l := []) (by simp) (by omega) (by omega) (by simp) q h
       simp only [rmvFr, nat0, List.map_nil, List.all_nil, if_true, mayKs] at g g4
       simp -implicitDefEqProofs (maxSteps := 1000000) [Tryz.f109, Code.hide, Code.key, h0, g1, g2, values_ok, bareV, g, g4, hwd2]
  omega
theorem rmayKey_of {key : List UInt8} {has : Bool} {v : Val} {u : List UInt8} (hkl : key.length ≤ 1099511627776) (hvw : v.wf) (hu : u.length ≤ 1099511627776) {d : Int} (hd2 : d ≤ 9223372036854775807)
  (hV : ∀ e : Int, e ≤ d → (0 ≤ d → e = 0 ∨ e = d - 1) → 0 ≤ d → ∀ (q : Id) (h : Heap), callW E q 109 [.agg (encV v), .int .i64 e] h = some (.bool (mayV v e), dropFrom q 0 h)) (p : Id) (h : Heap) :
  callW E p 78 [.agg (encK (.mk key has v u)), .int .i64 d] h = some (.bool (mayK (.mk key has v u) d), dropFrom p 0 h) := by
 have g1 := fun q h => rtext_ok hkl q h
 change ∀ q h, callW E q 88 [.str key] h = some (.bool (textOk key), dropFrom q 0 h) at g1
 have g2 := fun q h => runknown_ok (tb := [10, 18]) (by simp) (by simp) tabK hu hd2 q h
 rw [mayK]
 rw [eq_78]
 by_cases h0 : d < 0
 ·have e : decide (0 ≤ d) = false := by simp; omega
  rw [e]
  obtain ⟨cs, hcs, hsh⟩ := flatV v
  simp only [encK_mk, hcs]
  obtain ⟨k0, s0, b0, n0, l0, m0, i0, u0, rfl⟩ := hsh
  simp -implicitDefEqProofs (maxSteps := 1000000) [Tryz.f78, Code.key, h0]
 have e0 : decide (0 ≤ d) = true := by simp; omega
 have hwd : IntKind.i64.wrap (d - 1) = d - 1 := wrap_i64 (by omega) (by omega)
 have gV := hV (d - 1) (by omega) (fun _ => .inr rfl) (by omega)
 have gZ := hV 0 (by omega) (fun _ => .inl rfl) (by omega)
 rw [e0] at g2 ⊢
 have hz : v.isZero = (mayV v 0 && v.kind == 0 && v.unk.isEmpty) := by
  rw [Bool.eq_iff_iff, Val.isZero_iff]
  constructor
  ·rintro rfl; simp [val0, mayV, bareV, restE_nil, Val.kind, Val.unk]
  ·intro hh
   obtain ⟨k, s, b, n, l, m, i, u'⟩ := v
   simp [Val.kind, Val.unk] at hh
   obtain ⟨⟨hm, rfl⟩, rfl⟩ := hh
   rw [mayV] at hm
   simp [bareV] at hm
   obtain ⟨⟨⟨⟨rfl, rfl⟩, rfl⟩, ⟨rfl, rfl⟩, rfl⟩, _⟩ := hm
   rfl
 cases ht : textOk key with
 | false =>
  rw [ht] at g1
  obtain ⟨cs, hcs, hsh⟩ := flatV v
  simp only [encK_mk, hcs]
  obtain ⟨k0, s0, b0, n0, l0, m0, i0, u0, rfl⟩ := hsh
  simp -implicitDefEqProofs (maxSteps := 1000000) [Tryz.f78, Code.key, h0, g1]
 | true =>
  rw [ht] at g1
  cases hx : restE takesK u d with
  | false =>
   rw [hx] at g2
   obtain ⟨cs, hcs, hsh⟩ := flatV v
   simp only [encK_mk, hcs]
   obtain ⟨k0, s0, b0, n0, l0, m0, i0, u0, rfl⟩ := hsh
   simp -implicitDefEqProofs (maxSteps := 1000000) [Tryz.f78, Code.key, h0, g1, g2, pairs_ok]
  | true =>
   rw [hx] at g2
   cases has with
   | true =>
    obtain ⟨cs, hcs, hsh⟩ := flatV v
    simp only [encK_mk, hcs] at gV ⊢
    obtain ⟨k0, s0, b0, n0, l0, m0, i0, u0, rfl⟩ := hsh
    simp -implicitDefEqProofs (maxSteps := 1000000) [Tryz.f78, Code.key, h0, g1, g2, pairs_ok, gV, hwd]
   | false =>
    rw [hz]
    obtain ⟨k, s, b, n, l, m, i, u'⟩ := v
    simp only [encV_mk, encK_mk, Val.kind, Val.unk] at gZ ⊢
    cases hm0 : mayV (.mk k s b n l m i u') 0 with
    | false =>
     rw [hm0] at gZ
     simp -implicitDefEqProofs (maxSteps := 1000000) [Tryz.f78, Code.key, h0, g1, g2, pairs_ok, gZ]
    | true =>
     rw [hm0] at gZ
     by_cases hk0 : k = 0
     ·subst hk0
      cases u' with
      | nil => simp -implicitDefEqProofs (maxSteps := 1000000) [Tryz.f78, Code.key, h0, g1, g2, pairs_ok, gZ]
      | cons x xs => simp -implicitDefEqProofs (maxSteps := 1000000) [Tryz.f78, Code.key, h0, g1, g2, pairs_ok, gZ]
     ·simp -implicitDefEqProofs (maxSteps := 1000000) [Tryz.f78, Code.key, h0, g1, g2, pairs_ok, gZ, hk0]
theorem rmay_all : (∀ x : Val, x.wf → x.sz ≤ 549755813888 → ∀ d : Int, d ≤ 9223372036854775807 → ∀ (p : Id) (h : Heap), callW E p 109 [.agg (encV x), .int .i64 d] h = some (.bool (mayV x d), dropFrom p 0 h)) ∧
  ∀ x : KV, x.wf → x.sz ≤ 549755813888 → ∀ d : Int, d ≤ 9223372036854775807 → ∀ (p : Id) (h : Heap), callW E p 78 [.agg (encK x), .int .i64 d] h = some (.bool (mayK x d), dropFrom p 0 h) := by
 refine Val.ind2 ?_ ?_
 ·intro k s b n l m i u ihl ihm hwf hsz d hd p h
  obtain ⟨hk, hs, hn, hll, hml, hil, hul, hwl, hwm⟩ := Val.wf_mk.1 hwf
  rw [Val.sz_mk] at hsz
  exact rmay_of hwf (by omega) (by omega) (by omega) hd (fun h1 x hx q h => ihl x hx (hwl x hx) (by have := Val.szs_mem hx; omega) (d - 2) (by omega) q h) (fun h1 x hx q h => ihm x hx (hwm x hx) (by have := KV.szs_mem hx; omega) (d - 2) (by omega) q h) p h
 ·intro key has v u ih hwf hsz d hd p h
  obtain ⟨hkl, hul, hwv⟩ := KV.wf_mk.1 hwf
  rw [KV.sz_mk] at hsz
  exact rmayKey_of (by omega) hwv (by omega) hd (fun e he _ h0 q h => ih hwv (by omega) e (by omega) q h) p h
theorem rmayV_ok {x : Val} (hw : x.wf) (hs : x.sz ≤ 549755813888) {d : Int} (hd : d ≤ 9223372036854775807) (p : Id) (h : Heap) : callW E p 109 [.agg (encV x), .int .i64 d] h = some (.bool (mayV x d), dropFrom p 0 h) := rmay_all.1 x hw hs d hd p h
theorem rmayK_ok {x : KV} (hw : x.wf) (hs : x.sz ≤ 549755813888) {d : Int} (hd : d ≤ 9223372036854775807) (p : Id) (h : Heap) : callW E p 78 [.agg (encK x), .int .i64 d] h = some (.bool (mayK x d), dropFrom p 0 h) := rmay_all.2 x hw hs d hd p h
end Go.Ai.T

namespace Go.Ai.T
open Go Go.Proofs
set_option maxRecDepth 100000
set_option maxHeartbeats 4000000
theorem rputvar_ok {num n : Nat} (h1 : 1 ≤ num) (h2 : num ≤ 536870911) (hn : n < 18446744073709551616) (p : Id) (h : Heap) : callW E p 51 [.int .i64 num, .int .u64 n] h = some (.str (varB num n), dropFrom p 0 h) := by
 have g := fun q h => qnum_ok h1 h2 hn q h
 rw [eq_51]
 unfold varB
 by_cases h0 : n = 0
 ·subst h0
  simp -implicitDefEqProofs (maxSteps := 1000000) [Tryz.f51, Code.key, nat0]
 ·have h0' : ¬ (n : Int) = 0 := by omega
  simp -implicitDefEqProofs (maxSteps := 1000000) [Tryz.f51, Code.key, g, h0, h0']
theorem rmayKs_ok {l : List KV} (hn : l.length ≤ maxStr) (hw : ∀ x ∈ l, x.wf) (hs : ∀ x ∈ l, x.sz ≤ 549755813888) {d : Int} (hd1 : -9223372036854775808 ≤ d) (hd : d ≤ 9223372036854775807) (p : Id) (h : Heap) : callW E p 47 [.slice (l.map encK) none, .int .i64 d] h = some (.bool (mayKs l d), dropFrom p 0 h) :=
 rmayKs_of hn hd1 hd (fun x hx q h => rmayK_ok (hw x hx) (hs x hx) hd q h) p h
theorem rputKeys_ok {num : Nat} (h1 : 1 ≤ num) (h2 : num ≤ 536870911) {l : List KV} (hn : l.length ≤ maxStr) (hw : ∀ x ∈ l, x.wf) (hb : (partsN num writeK l).length ≤ 549755813888) {d : Int} (hm : mayKs l d = true) (p : Id) (h : Heap) : callW E p 50 [.int .i64 num, .slice (l.map encK) none] h = some (.str (partsN num writeK l), dropFrom p 0 h) := by
 rw [mayKs_all, List.all_eq_true] at hm
 exact putkeys_ok h1 h2 hn (fun x hx q h => rwriteK_ok (hw x hx) (by have := partsN_mem (num := num) (wr := writeK) x hx; omega) (hm x hx) q h) hb p h
theorem crmayRs_ok {x : ResM} (hw : x.wf) (hs : x.sz ≤ 549755813888) {d : Int} (hd1 : -9223372036854775808 ≤ d) (hd : d ≤ 9223372036854775807) (p : Id) (h : Heap) : callW E p 20 [.agg (encRes x), .int .i64 d] h = some (.bool (mayRs x d), dropFrom p 0 h) := by
 obtain ⟨l, dr, u⟩ := x
 obtain ⟨hl, hwl, hdr, hu⟩ := hw
 dsimp only at hl hwl hdr hu
 unfold ResM.sz at hs
 dsimp only at hs
 have g4 := fun q h => runknown_ok (tb := [10, 16]) (by simp) (by simp) tabRs (s := u) (by omega) hd q h
 unfold mayRs encRes
 dsimp only
 rw [eq_20]
 by_cases h0 : d < 0
 ·have h0' : ¬ 0 ≤ d := by omega
  have e : decide (0 ≤ d) = false := by simp; omega
  rw [e]
  simp -implicitDefEqProofs (maxSteps := 1000000) [Tryz.f20, Code.key, h0, h0']
 have h0' : 0 ≤ d := by omega
 have e : decide (0 ≤ d) = true := by simp; omega
 have hwd : IntKind.i64.wrap (d - 1) = d - 1 := wrap_i64 (by omega) (by omega)
 have g3 := fun q h => rmayKs_ok hl hwl (fun a ha => by have := KV.szs_mem ha; omega) (d := d - 1) (by omega) (by omega) q h
 rw [e] at g4 ⊢
 generalize mayKs l (d - 1) = t3 at *
 generalize restE takesRs u d = t4 at *
 cases t3 with
 | false => simp -implicitDefEqProofs (maxSteps := 1000000) [Tryz.f20, Code.key, h0, h0', g3, hwd]
 | true => simp -implicitDefEqProofs (maxSteps := 1000000) [Tryz.f20, Code.key, h0, h0', g3, g4, hwd, resources_ok, sameAt, beqL_refl]
theorem crwriteRs_ok {x : ResM} (hw : x.wf) (hs : x.sz ≤ 549755813000) {d : Int} (hm : mayRs x d = true) (p : Id) (h : Heap) : callW E p 21 [.agg (encRes x)] h = some (.str (writeRs x), dropFrom p 0 h) := by
 have hlen := writeRs_le hw (by omega)
 obtain ⟨l, dr, u⟩ := x
 obtain ⟨hl, hwl, hdr, hu⟩ := hw
 dsimp only at hl hwl hdr hu
 unfold ResM.sz at hs hlen
 dsimp only at hs hlen
 unfold mayRs at hm
 simp only [Bool.and_eq_true, decide_eq_true_eq] at hm
 obtain ⟨⟨h0, hmk⟩, _⟩ := hm
 unfold writeRs at hlen ⊢
 simp only [List.length_append] at hlen
 have hcv : IntKind.u64.wrap (dr : Int) = dr := wrap_u64 (by omega) (by omega)
 have g3 := fun q h => rputKeys_ok (num := 1) (by omega) (by omega) hl hwl (by omega) hmk q h
 have g4 := fun q h => rputvar_ok (num := 2) (n := dr) (by omega) (by omega) (by omega) q h
 simp only [nl1, nl2] at g3 g4
 unfold encRes
 dsimp only
 generalize partsN 1 writeK l = w3 at *
 generalize varB 2 dr = w4 at *
 have m3 : w3.length + w4.length ≤ maxStr := by unfold maxStr; omega
 have m4 : w3.length + w4.length + u.length ≤ maxStr := by unfold maxStr; omega
 have m4' : w3.length + (w4.length + u.length) ≤ maxStr := by unfold maxStr; omega
 rw [eq_21]
 simp -implicitDefEqProofs (maxSteps := 1000000) [Tryz.f21, Code.key, g3, g4, hcv, m3, m4, m4', sameAt, beqL_refl]
end Go.Ai.T

