/- Part KI of the proof that a law of this program answers yes at every input: no conditions beyond the given statement. -/
import Derived.Test.YtfajnnnldhfhiaaGreatDoorKE
import Derived.Test.YtfajnnnldhfhiaaGreatDoorKM
import Derived.Test.YtfajnnnldhfhiaaGreatDoorKG
import Derived.Test.YtfajnnnldhfhiaaGreatDoorKH
set_option linter.unusedSimpArgs false
set_option linter.unusedVariables false
set_option linter.all false
namespace Go.Ai.T
open Go Go.Proofs
set_option maxRecDepth 100000
set_option maxHeartbeats 4000000
theorem tag_bits {num kind : Nat} (h2 : num ≤ 536870911) (h3 : kind < 8) : bitsA .or .u64 ((num * 8 : Nat) : Int) (kind : Int) = ((num * 8 + kind : Nat) : Int) := by
 rw [bitsA_or_u64 _ _ (by omega) (by omega)]
 have := or_shift kind num 3 (by omega)
 rw [show (2 : Nat) ^ 3 = 8 from rfl] at this
 rw [Nat.or_comm, this, Nat.add_comm]
theorem wtag_ok {num kind : Nat} (h1 : 1 ≤ num) (h2 : num ≤ 536870911) (h3 : kind ≤ 5) (p : Id) (h : Heap) : callW E p 83 [.int .i64 num, .int .i64 kind] h = some (.str (tagB num kind), dropFrom p 0 h) := by
 have g := fun q h => put_ok (n := num * 8 + kind) (by omega) q h
 have c1 : ¬ (num : Int) < 1 := by omega
 have c2 : ¬ (536870911 : Int) < num := by omega
 have c3 : ¬ (kind : Int) < 0 := by omega
 have c4 : ¬ (5 : Int) < kind := by omega
 have w1 : IntKind.u64.wrap (num : Int) = num := wrap_u64 (by omega) (by omega)
 have w2 : IntKind.u64.wrap (kind : Int) = kind := wrap_u64 (by omega) (by omega)
 have w3 : IntKind.u64.wrap ((num : Int) * 8) = ((num * 8 : Nat) : Int) := by rw [wrap_u64 (by omega) (by omega)]; omega
 have w4 := tag_bits (num := num) (kind := kind) h2 (by omega)
 have c5 : ¬ 536870911 < num := by omega
 have c6 : ¬ num = 0 := by omega
 have c7 : ¬ 5 < kind := by omega
 rw [eq_83]
 simp -implicitDefEqProofs (maxSteps := 1000000) [-Int.natCast_add, -Int.natCast_mul, Tryz.f83, Code.key, c1, c2, c3, c4, c5, c6, c7, w1, w2, w3, w4, g, tagB, IntKind.bits]
theorem putV_pos' (n : Nat) : 1 ≤ (putV n).length := by simp [putV]
theorem tagB_pos (num kind : Nat) : tagB num kind ≠ [] := by
 have := putV_pos' (num * 8 + kind)
 unfold tagB
 intro h
 rw [h] at this
 simp at this
theorem wput_ok {num kind : Nat} (h1 : 1 ≤ num) (h2 : num ≤ 536870911) (h3 : kind ≤ 5) {s : List UInt8} (hs : s.length ≤ 1099511627776) (p : Id) (h : Heap) : callW E p 47 [.int .i64 num, .int .i64 kind, .str s] h = some (.str (tagB num kind ++ s), dropFrom p 0 h) := by
 have g := fun q h => wtag_ok h1 h2 h3 q h
 have hl : (tagB num kind).length ≤ 10 := (putV_len (n := num * 8 + kind) (by omega)).2
 have hm : (tagB num kind).length + s.length ≤ maxStr := by unfold maxStr; omega
 have hn := tagB_pos num kind
 rw [eq_47]
 simp -implicitDefEqProofs (maxSteps := 1000000) [Tryz.f47, Code.key, g, hm, hn]
theorem leB8 (n : Nat) : leB 8 n = [UInt8.ofNat (n % 256), UInt8.ofNat (n / 256 % 256), UInt8.ofNat (n / 65536 % 256), UInt8.ofNat (n / 16777216 % 256), UInt8.ofNat (n / 4294967296 % 256), UInt8.ofNat (n / 1099511627776 % 256), UInt8.ofNat (n / 281474976710656 % 256), UInt8.ofNat (n / 72057594037927936 % 256)] := by
 simp only [leB, Nat.div_div_eq_div_mul]
theorem weight_ok {n : Nat} (p : Id) (h : Heap) : callW E p 149 [.int .u64 n] h = some (.str (leB 8 n), dropFrom p 0 h) := by
 have f0 : Int.fdiv (n : Int) 1 = n := by simp
 have f1 : Int.fdiv (n : Int) 256 = ((n / 256 : Nat) : Int) := fdiv_nat n 256
 have f2 : Int.fdiv (n : Int) 65536 = ((n / 65536 : Nat) : Int) := fdiv_nat n 65536
 have f3 : Int.fdiv (n : Int) 16777216 = ((n / 16777216 : Nat) : Int) := fdiv_nat n 16777216
 have f4 : Int.fdiv (n : Int) 4294967296 = ((n / 4294967296 : Nat) : Int) := fdiv_nat n 4294967296
 have f5 : Int.fdiv (n : Int) 1099511627776 = ((n / 1099511627776 : Nat) : Int) := fdiv_nat n 1099511627776
 have f6 : Int.fdiv (n : Int) 281474976710656 = ((n / 281474976710656 : Nat) : Int) := fdiv_nat n 281474976710656
 have f7 : Int.fdiv (n : Int) 72057594037927936 = ((n / 72057594037927936 : Nat) : Int) := fdiv_nat n 72057594037927936
 have ub : ∀ (m : Nat) (xs : List (List A)), unbytes ([A.int .u8 ((m % 256 : Nat) : Int)] :: xs) = (unbytes xs).map (UInt8.ofNat (m % 256) :: ·) := fun m xs => by
  rw [unbytes, if_pos (by omega)]; rfl
 have ub0 : unbytes [] = some [] := rfl
 rw [eq_149, leB8]
 simp -implicitDefEqProofs (maxSteps := 1000000) [-Int.natCast_emod, -Int.natCast_ediv, Tryz.f149, Code.hide, Code.loopAt, Code.key, rd_149_3, IntKind.bits, f0, f1, f2, f3, f4, f5, f6, f7, wrap_u8_nat, ub, ub0, wrap_i64]
theorem wvarint_ok {num n : Nat} (h1 : 1 ≤ num) (h2 : num ≤ 536870911) (hn : n < 18446744073709551616) (p : Id) (h : Heap) : callW E p 139 [.int .i64 num, .int .u64 n] h = some (.str (numB num n), dropFrom p 0 h) := by
 have g := fun q h => put_ok hn q h
 have hl := (putV_len hn).2
 have g2 := fun q h => wput_ok h1 h2 (kind := 0) (by omega) (s := putV n) (by omega) q h
 simp only [nat0] at g2
 rw [eq_139]
 simp -implicitDefEqProofs (maxSteps := 1000000) [Tryz.f139, Code.key, g, g2, numB]
theorem wfixed_ok {num n : Nat} (h1 : 1 ≤ num) (h2 : num ≤ 536870911) (p : Id) (h : Heap) : callW E p 140 [.int .i64 num, .int .u64 n] h = some (.str (fixB num n), dropFrom p 0 h) := by
 have g := fun q h => weight_ok (n := n) q h
 have g2 := fun q h => wput_ok h1 h2 (kind := 1) (by omega) (s := leB 8 n) (by simp) q h
 simp only [nl1] at g2
 rw [eq_140]
 simp -implicitDefEqProofs (maxSteps := 1000000) [Tryz.f140, Code.key, g, g2, fixB]
theorem wbytes_ok {num : Nat} (h1 : 1 ≤ num) (h2 : num ≤ 536870911) {s : List UInt8} (hs : s.length ≤ 549755813888) (p : Id) (h : Heap) : callW E p 24 [.int .i64 num, .str s] h = some (.str (bytesB num s), dropFrom p 0 h) := by
 have hn : s.length < 18446744073709551616 := by omega
 have g := fun q h => put_ok hn q h
 have hl := (putV_len hn).2
 have hm : (putV s.length).length + s.length ≤ maxStr := by unfold maxStr; omega
 have w : IntKind.u64.wrap (s.length : Int) = s.length := wrap_u64 (by omega) (by omega)
 have g2 := fun q h => wput_ok h1 h2 (kind := 2) (by omega) (s := putV s.length ++ s) (by simp; omega) q h
 simp only [nl2] at g2
 rw [eq_24]
 simp -implicitDefEqProofs (maxSteps := 1000000) [Tryz.f24, Code.key, g, g2, hm, w, bytesB]
theorem xraw_ok {id : Id} {o : Option (List UInt8)} {s : List UInt8} (hb : (o.getD []).length + s.length ≤ 70368744177664) {p : Id} (a : Apart p (140 :: id)) {h : Heap} (hh : h (140 :: id) = some (bld (140 :: id) o)) :
  callW E p 80 [.ptr (140 :: id) 0, .str s] h = some (.tuple [], upd (dropFrom p 0 h) (140 :: id) (bld (140 :: id) (some (o.getD [] ++ s)))) := by
 obtain ⟨f1, f2, f3, f4, f5, f6⟩ := a.facts
 have g := fun k h hh => sbwrite_ok (T := 140) (Or.inr rfl) hb (a.sub k) (h := h) hh
 rw [eq_80]
 simp -implicitDefEqProofs (maxSteps := 1000000) [Tryz.f80, Code.key, hh, f1, f2, f3, f4, f5, f6, g]
theorem xpart_ok {id : Id} {o : Option (List UInt8)} {num : Nat} (h1 : 1 ≤ num) (h2 : num ≤ 536870911) {s : List UInt8} (hs : s.length ≤ 549755813888) (hb : (o.getD []).length + (bytesB num s).length ≤ 70368744177664) {p : Id} (a : Apart p (140 :: id)) {h : Heap} (hh : h (140 :: id) = some (bld (140 :: id) o)) :
  callW E p 78 [.ptr (140 :: id) 0, .int .i64 num, .str s] h = some (.tuple [], upd (dropFrom p 0 h) (140 :: id) (bld (140 :: id) (some (o.getD [] ++ bytesB num s)))) := by
 obtain ⟨f1, f2, f3, f4, f5, f6⟩ := a.facts
 have g := fun q h => wbytes_ok h1 h2 hs q h
 have g2 := fun k h hh => xraw_ok hb (a.sub k) (h := h) hh
 rw [eq_78]
 simp -implicitDefEqProofs (maxSteps := 1000000) [Tryz.f78, Code.key, hh, f1, f2, f3, f4, f5, f6, g, g2]
theorem xfew_ok {id : Id} {o : Option (List UInt8)} {num n : Nat} (h1 : 1 ≤ num) (h2 : num ≤ 536870911) (hn : n < 18446744073709551616) (hb : (o.getD []).length + (numB num n).length ≤ 70368744177664) {p : Id} (a : Apart p (140 :: id)) {h : Heap} (hh : h (140 :: id) = some (bld (140 :: id) o)) :
  callW E p 119 [.ptr (140 :: id) 0, .int .i64 num, .int .u64 n] h = some (.tuple [], upd (dropFrom p 0 h) (140 :: id) (bld (140 :: id) (some (o.getD [] ++ numB num n)))) := by
 obtain ⟨f1, f2, f3, f4, f5, f6⟩ := a.facts
 have g := fun q h => wvarint_ok h1 h2 hn q h
 have g2 := fun k h hh => xraw_ok hb (a.sub k) (h := h) hh
 rw [eq_119]
 simp -implicitDefEqProofs (maxSteps := 1000000) [Tryz.f119, Code.key, hh, f1, f2, f3, f4, f5, f6, g, g2]
theorem xeight_ok {id : Id} {o : Option (List UInt8)} {num n : Nat} (h1 : 1 ≤ num) (h2 : num ≤ 536870911) (hb : (o.getD []).length + (fixB num n).length ≤ 70368744177664) {p : Id} (a : Apart p (140 :: id)) {h : Heap} (hh : h (140 :: id) = some (bld (140 :: id) o)) :
  callW E p 120 [.ptr (140 :: id) 0, .int .i64 num, .int .u64 n] h = some (.tuple [], upd (dropFrom p 0 h) (140 :: id) (bld (140 :: id) (some (o.getD [] ++ fixB num n)))) := by
 obtain ⟨f1, f2, f3, f4, f5, f6⟩ := a.facts
 have g := fun q h => wfixed_ok (n := n) h1 h2 q h
 have g2 := fun k h hh => xraw_ok hb (a.sub k) (h := h) hh
 rw [eq_120]
 simp -implicitDefEqProofs (maxSteps := 1000000) [Tryz.f120, Code.key, hh, f1, f2, f3, f4, f5, f6, g, g2]
def orW (o : Option (List UInt8)) (yes : Bool) (s : List UInt8) : Option (List UInt8) := if yes = true then some (o.getD [] ++ s) else o
theorem xtext_ok {id : Id} {o : Option (List UInt8)} {num : Nat} (h1 : 1 ≤ num) (h2 : num ≤ 536870911) {s : List UInt8} (hs : s.length ≤ 549755813888) (hb : (o.getD []).length + (bytesB num s).length ≤ 70368744177664) {p : Id} (a : Apart p (140 :: id)) {h : Heap} (hh : h (140 :: id) = some (bld (140 :: id) o)) :
  callW E p 77 [.ptr (140 :: id) 0, .int .i64 num, .str s] h = some (.tuple [], upd (dropFrom p 0 h) (140 :: id) (bld (140 :: id) (orW o (!s.isEmpty) (bytesB num s)))) := by
 obtain ⟨f1, f2, f3, f4, f5, f6⟩ := a.facts
 have g2 := fun k h hh => xpart_ok h1 h2 hs hb (a.sub k) (h := h) hh
 rw [eq_77]
 cases s with
 | nil =>
  simp -implicitDefEqProofs (maxSteps := 1000000) [Tryz.f77, Code.key, hh, f1, f2, f3, f4, f5, f6, orW]
  rw [upd_id (h := dropFrom p 0 h) (by rw [f2, hh])]
 | cons x xs =>
  simp -implicitDefEqProofs (maxSteps := 1000000) [Tryz.f77, Code.key, hh, f1, f2, f3, f4, f5, f6, g2, orW]
theorem xstring_ok {id : Id} {o : Option (List UInt8)} (hb : (o.getD []).length ≤ maxStr) {p : Id} (a : Apart p id) {h : Heap} (hh : h id = some (bld id o)) :
  callW E p 81 [.ptr id 0] h = some (.str (o.getD []), dropFrom p 0 h) := by
 have g := fun (k : Nat) h hh => sbstring_ok (id := id) (o := o) hb (p := k :: p) (h := h) hh
 rw [eq_81]
 simp -implicitDefEqProofs (maxSteps := 1000000) [Tryz.f81, Code.key, hh, g]
end Go.Ai.T

namespace Go.Ai.T
open Go Go.Proofs
set_option maxRecDepth 100000
set_option maxHeartbeats 4000000
def ptVFr (p : Id) (f : Nat) (kw : Nat) (rest : List UInt8) (l : List Val) (i : Nat) : Fr := ((((((bot.set 12 (.int .i64 i)).set 11 (.int .i64 l.length)).set 10 (.slice (l.map encV) none)).set 7 (.ptr (140 :: kw :: p) 0)).set 2 (.str rest)).set 1 (.fn f []))
theorem ptV_loop {f : Nat} {wr : Val → List UInt8} {l : List Val} (hn : l.length ≤ maxStr) {rest : List UInt8} (hw : ∀ x ∈ l, ∀ (q : Id) (h : Heap), callW E q f [.agg (encV x)] h = some (.str (wr x), dropFrom q 0 h)) :
  ∀ (t : List Val) (i : Nat) (o : Option (List UInt8)), l.drop i = t → i ≤ l.length → (o.getD []).length + (rawsR (t.map fun x => bytesR 1 (wr x))).length ≤ 549755813888 → ∃ K o', o'.getD [] = o.getD [] ++ rawsR (t.map fun x => bytesR 1 (wr x)) ∧ ∀ (p : Id) (kw c0 c : Nat) (h : Heap), kw < c0 → c0 ≤ c → h (140 :: kw :: p) = some (bld (140 :: kw :: p) o) →
  iterW E 121 p [1, 2, 7, 10, 11, 12] L_121_3 c0 (ptVFr p f kw rest l i) c h =
   some (.exit 0, ptVFr p f kw rest l l.length, c + K, upd (dropFrom p c0 h) (140 :: kw :: p) (bld (140 :: kw :: p) o')) := by
 intro t
 induction t with
 | nil =>
  intro i o hj hi hb
  have hlen : i = l.length := by have := drop_end hj; omega
  subst hlen
  refine ⟨0, o, by simp, fun p kw c0 c h h1 h2 hx => ?_⟩
  have hlt' : ¬ ((l.length : Nat) : Int) < l.length := by omega
  unfold ptVFr
  rw [rd_121_3]
  generalize hr : execW E 121 p _ _ _ _ = e
  simp -implicitDefEqProofs (maxSteps := 1000000) [Tryz.f121, Code.loopAt, Code.key] at hr
  subst hr
  rw [upd_id (h := dropFrom p c0 h) (by rw [own_dg h1, hx])]
  simp
 | cons x t ih =>
  intro i o hj hi hb
  obtain ⟨hlt, hbb, hbs⟩ := drop_facts hj
  have hlt' : (i : Int) < l.length := by omega
  have hw1 : IntKind.i64.wrap ((i : Int) + 1) = ((i + 1 : Nat) : Int) := by rw [wrap_succ hlt hn]; rfl
  have hget? : (l.map encV)[i]? = some (encV x) := by simp [hbb]
  have hget : ∀ hl, (l.map encV)[i]'hl = encV x := fun hl => by rw [List.getElem?_eq_getElem hl] at hget?; exact Option.some.inj hget?
  have hgetl : ∀ hl, l[i]'hl = x := fun hl => by rw [List.getElem?_eq_getElem hl] at hbb; exact Option.some.inj hbb
  rw [List.map_cons, rawsR_cons, List.length_append] at hb
  have hr1 : (bytesR 1 (wr x)).raw = bytesB 1 (wr x) := rfl
  rw [hr1] at hb
  have hbl := bytesB_len 1 (wr x)
  obtain ⟨K, o', ho, gl⟩ := ih (i + 1) (some (o.getD [] ++ bytesB 1 (wr x))) hbs (by omega) (by simp; omega)
  refine ⟨3 + K, o', by rw [ho, List.map_cons, rawsR_cons, hr1]; simp, fun p kw c0 c h h1 h2 hx => ?_⟩
  obtain ⟨o1, o2, o3, o4, o5, o6⟩ := own_facts (p := p) 140 kw
  have n0 : kw ≠ c := by omega
  have n1 : kw ≠ c + 1 := by omega
  have n2 : kw ≠ c + 1 + 1 := by omega
  have n3 : c ≠ c + 1 := by omega
  have n4 : c ≠ c + 1 + 1 := by omega
  have g := hw x (List.mem_of_getElem? hbb)
  have g2 := fun k h (hne : kw ≠ k) hh => xpart_ok (id := kw :: p) (o := o) (num := 1) (by omega) (by omega) (s := wr x) (by omega) (by omega) (p := k :: p) (Apart.own hne) (h := h) hh
  simp only [nl1] at g2
  have e := gl p kw c0 (c + 3) (upd (dropFrom p c0 h) (140 :: kw :: p) (bld (140 :: kw :: p) (some (o.getD [] ++ bytesB 1 (wr x))))) h1 (by omega) (by simp)
  unfold ptVFr at e ⊢
  rw [rd_121_3]
  generalize hr : execW E 121 p _ _ _ _ = ee
  simp -implicitDefEqProofs (maxSteps := 1000000) [-Int.natCast_add, Tryz.f121, Code.loopAt, Code.key, hx, o1, o2, o3, o4, o5, o6, n0, n1, n2, n3, n4, hlt, hlt', hget?, hget, hgetl, hbb, hw1, g, g2] at hr
  subst hr
  simp [-Int.natCast_add]
  rw [show c + (3 + K) = c + 3 + K by omega]
  refine (iterW_congr rfl rfl (by omega) (by simp -implicitDefEqProofs (disch := omega) only [own_du, drop_drop_cons, drop_upd, drop_drop, drop_drop_self, upd_upd] <;> rfl)).trans (e.trans (some5 rfl (by omega) (by simp -implicitDefEqProofs (disch := omega) only [own_du, drop_drop_cons, drop_upd, drop_drop, drop_drop_self, upd_upd] <;> rfl)))
theorem partsV_ok {f : Nat} {wr : Val → List UInt8} {l : List Val} (hn : l.length ≤ maxStr) {rest : List UInt8} (hw : ∀ x ∈ l, ∀ (q : Id) (h : Heap), callW E q f [.agg (encV x)] h = some (.str (wr x), dropFrom q 0 h))
  (hb : (rawsR (l.map fun x => bytesR 1 (wr x))).length + rest.length ≤ 549755813888) (p : Id) (h : Heap) :
  callW E p 121 [.slice (l.map encV) none, .fn f [], .str rest] h = some (.str (rawsR (l.map fun x => bytesR 1 (wr x)) ++ rest), dropFrom p 0 h) := by
 obtain ⟨K, o', ho, gl⟩ := ptV_loop (rest := rest) hn hw l 0 none rfl (Nat.zero_le _) (by simp; omega)
 simp only [Option.getD_none, List.nil_append] at ho
 have g := fun h => gl p 0 1 1 h (by omega) (Nat.le_refl _)
 have g2 := fun k h (hne : 0 ≠ k) hh => xraw_ok (id := 0 :: p) (o := o') (s := rest) (by rw [ho]; omega) (p := k :: p) (Apart.own hne) (h := h) hh
 have g3 := fun k h (hne : 0 ≠ k) hh => xstring_ok (id := 140 :: 0 :: p) (o := some (o'.getD [] ++ rest)) (by rw [Option.getD_some, List.length_append, ho]; unfold maxStr; omega) (p := k :: p) (Apart.own hne) (h := h) hh
 have hbn : ∀ id, bld id none = [.nilp, .nils] := fun _ => rfl
 have nK : ¬ 0 = 1 + K := by omega
 have nK1 : ¬ 0 = 1 + K + 1 := by omega
 simp only [ptVFr, nat0, hbn, Option.getD_some, ho] at g g2 g3
 rw [eq_121]
 simp -implicitDefEqProofs (maxSteps := 1000000) [Tryz.f121, Code.hide, Code.key, g, g2, g3, nK, nK1]
def ptKFr (p : Id) (f : Nat) (kw : Nat) (rest : List UInt8) (l : List KV) (i : Nat) : Fr := ((((((bot.set 12 (.int .i64 i)).set 11 (.int .i64 l.length)).set 10 (.slice (l.map encK) none)).set 7 (.ptr (140 :: kw :: p) 0)).set 2 (.str rest)).set 1 (.fn f []))
theorem ptK_loop {f : Nat} {wr : KV → List UInt8} {l : List KV} (hn : l.length ≤ maxStr) {rest : List UInt8} (hw : ∀ x ∈ l, ∀ (q : Id) (h : Heap), callW E q f [.agg (encK x)] h = some (.str (wr x), dropFrom q 0 h)) :
  ∀ (t : List KV) (i : Nat) (o : Option (List UInt8)), l.drop i = t → i ≤ l.length → (o.getD []).length + (rawsR (t.map fun x => bytesR 1 (wr x))).length ≤ 549755813888 → ∃ K o', o'.getD [] = o.getD [] ++ rawsR (t.map fun x => bytesR 1 (wr x)) ∧ ∀ (p : Id) (kw c0 c : Nat) (h : Heap), kw < c0 → c0 ≤ c → h (140 :: kw :: p) = some (bld (140 :: kw :: p) o) →
  iterW E 122 p [1, 2, 7, 10, 11, 12] L_122_3 c0 (ptKFr p f kw rest l i) c h =
   some (.exit 0, ptKFr p f kw rest l l.length, c + K, upd (dropFrom p c0 h) (140 :: kw :: p) (bld (140 :: kw :: p) o')) := by
 intro t
 induction t with
 | nil =>
  intro i o hj hi hb
  have hlen : i = l.length := by have := drop_end hj; omega
  subst hlen
  refine ⟨0, o, by simp, fun p kw c0 c h h1 h2 hx => ?_⟩
  have hlt' : ¬ ((l.length : Nat) : Int) < l.length := by omega
  unfold ptKFr
  rw [rd_122_3]
  generalize hr : execW E 122 p _ _ _ _ = e
  simp -implicitDefEqProofs (maxSteps := 1000000) [Tryz.f122, Code.loopAt, Code.key] at hr
  subst hr
  rw [upd_id (h := dropFrom p c0 h) (by rw [own_dg h1, hx])]
  simp
 | cons x t ih =>
  intro i o hj hi hb
  obtain ⟨hlt, hbb, hbs⟩ := drop_facts hj
  have hlt' : (i : Int) < l.length := by omega
  have hw1 : IntKind.i64.wrap ((i : Int) + 1) = ((i + 1 : Nat) : Int) := by rw [wrap_succ hlt hn]; rfl
  have hget? : (l.map encK)[i]? = some (encK x) := by simp [hbb]
  have hget : ∀ hl, (l.map encK)[i]'hl = encK x := fun hl => by rw [List.getElem?_eq_getElem hl] at hget?; exact Option.some.inj hget?
  have hgetl : ∀ hl, l[i]'hl = x := fun hl => by rw [List.getElem?_eq_getElem hl] at hbb; exact Option.some.inj hbb
  rw [List.map_cons, rawsR_cons, List.length_append] at hb
  have hr1 : (bytesR 1 (wr x)).raw = bytesB 1 (wr x) := rfl
  rw [hr1] at hb
  have hbl := bytesB_len 1 (wr x)
  obtain ⟨K, o', ho, gl⟩ := ih (i + 1) (some (o.getD [] ++ bytesB 1 (wr x))) hbs (by omega) (by simp; omega)
  refine ⟨3 + K, o', by rw [ho, List.map_cons, rawsR_cons, hr1]; simp, fun p kw c0 c h h1 h2 hx => ?_⟩
  obtain ⟨o1, o2, o3, o4, o5, o6⟩ := own_facts (p := p) 140 kw
  have n0 : kw ≠ c := by omega
  have n1 : kw ≠ c + 1 := by omega
  have n2 : kw ≠ c + 1 + 1 := by omega
  have n3 : c ≠ c + 1 := by omega
  have n4 : c ≠ c + 1 + 1 := by omega
  have g := hw x (List.mem_of_getElem? hbb)
  have g2 := fun k h (hne : kw ≠ k) hh => xpart_ok (id := kw :: p) (o := o) (num := 1) (by omega) (by omega) (s := wr x) (by omega) (by omega) (p := k :: p) (Apart.own hne) (h := h) hh
  simp only [nl1] at g2
  have e := gl p kw c0 (c + 3) (upd (dropFrom p c0 h) (140 :: kw :: p) (bld (140 :: kw :: p) (some (o.getD [] ++ bytesB 1 (wr x))))) h1 (by omega) (by simp)
  unfold ptKFr at e ⊢
  rw [rd_122_3]
  generalize hr : execW E 122 p _ _ _ _ = ee
  simp -implicitDefEqProofs (maxSteps := 1000000) [-Int.natCast_add, Tryz.f122, Code.loopAt, Code.key, hx, o1, o2, o3, o4, o5, o6, n0, n1, n2, n3, n4, hlt, hlt', hget?, hget, hgetl, hbb, hw1, g, g2] at hr
  subst hr
  simp [-Int.natCast_add]
  rw [show c + (3 + K) = c + 3 + K by omega]
  refine (iterW_congr rfl rfl (by omega) (by simp -implicitDefEqProofs (disch := omega) only [own_du, drop_drop_cons, drop_upd, drop_drop, drop_drop_self, upd_upd] <;> rfl)).trans (e.trans (some5 rfl (by omega) (by simp -implicitDefEqProofs (disch := omega) only [own_du, drop_drop_cons, drop_upd, drop_drop, drop_drop_self, upd_upd] <;> rfl)))
theorem partsK_ok {f : Nat} {wr : KV → List UInt8} {l : List KV} (hn : l.length ≤ maxStr) {rest : List UInt8} (hw : ∀ x ∈ l, ∀ (q : Id) (h : Heap), callW E q f [.agg (encK x)] h = some (.str (wr x), dropFrom q 0 h))
  (hb : (rawsR (l.map fun x => bytesR 1 (wr x))).length + rest.length ≤ 549755813888) (p : Id) (h : Heap) :
  callW E p 122 [.slice (l.map encK) none, .fn f [], .str rest] h = some (.str (rawsR (l.map fun x => bytesR 1 (wr x)) ++ rest), dropFrom p 0 h) := by
 obtain ⟨K, o', ho, gl⟩ := ptK_loop (rest := rest) hn hw l 0 none rfl (Nat.zero_le _) (by simp; omega)
 simp only [Option.getD_none, List.nil_append] at ho
 have g := fun h => gl p 0 1 1 h (by omega) (Nat.le_refl _)
 have g2 := fun k h (hne : 0 ≠ k) hh => xraw_ok (id := 0 :: p) (o := o') (s := rest) (by rw [ho]; omega) (p := k :: p) (Apart.own hne) (h := h) hh
 have g3 := fun k h (hne : 0 ≠ k) hh => xstring_ok (id := 140 :: 0 :: p) (o := some (o'.getD [] ++ rest)) (by rw [Option.getD_some, List.length_append, ho]; unfold maxStr; omega) (p := k :: p) (Apart.own hne) (h := h) hh
 have hbn : ∀ id, bld id none = [.nilp, .nils] := fun _ => rfl
 have nK : ¬ 0 = 1 + K := by omega
 have nK1 : ¬ 0 = 1 + K + 1 := by omega
 simp only [ptKFr, nat0, hbn, Option.getD_some, ho] at g g2 g3
 rw [eq_122]
 simp -implicitDefEqProofs (maxSteps := 1000000) [Tryz.f122, Code.hide, Code.key, g, g2, g3, nK, nK1]
end Go.Ai.T

namespace Go.Ai.T
open Go Go.Proofs
set_option maxRecDepth 100000
set_option maxHeartbeats 4000000
theorem write_of {k : Int} {s : List UInt8} {b : Bool} {n : Nat} {l : List Val} {m : List KV} {i u : List UInt8} (hwf : (Val.mk k s b n l m i u).wf) (hl : (writeV (.mk k s b n l m i u)).length ≤ 549755813888)
  (hV : ∀ x ∈ l, (writeV x).length ≤ 549755813888 → ∀ (q : Id) (h : Heap), callW E q 79 [.agg (encV x)] h = some (.str (writeV x), dropFrom q 0 h))
  (hK : ∀ x ∈ m, (writeK x).length ≤ 549755813888 → ∀ (q : Id) (h : Heap), callW E q 45 [.agg (encK x)] h = some (.str (writeK x), dropFrom q 0 h)) (p : Id) (h : Heap) :
  callW E p 79 [.agg (encV (.mk k s b n l m i u))] h = some (.str (writeV (.mk k s b n l m i u)), dropFrom p 0 h) := by
 obtain ⟨hk, hs, hn, hll, hml, hil, hul, hwl, hwm⟩ := Val.wf_mk.1 hwf
 have hbn : ∀ id, bld id none = [.nilp, .nils] := fun _ => rfl
 have nl6 : ((6 : Nat) : Int) = 6 := rfl
 have nl7 : ((7 : Nat) : Int) = 7 := rfl
 rw [writeV] at hl ⊢
 simp only [encV_mk]
 rw [List.length_append] at hl
 have fin : ∀ (o : Option (List UInt8)), (o.getD []).length + u.length ≤ 549755813888 → (∀ k h, 1 ≠ k → h (140 :: 1 :: p) = some (bld (140 :: 1 :: p) o) → callW E (k :: p) 80 [.ptr (140 :: 1 :: p) 0, .str u] h = some (.tuple [], upd (dropFrom (k :: p) 0 h) (140 :: 1 :: p) (bld (140 :: 1 :: p) (some (o.getD [] ++ u))))) ∧
   (∀ k h, 1 ≠ k → h (140 :: 1 :: p) = some (bld (140 :: 1 :: p) (some (o.getD [] ++ u))) → callW E (k :: p) 81 [.ptr (140 :: 1 :: p) 0] h = some (.str (o.getD [] ++ u), dropFrom (k :: p) 0 h)) := fun o ho =>
  ⟨fun k h hne hh => xraw_ok (id := 1 :: p) (o := o) (s := u) (by omega) (p := k :: p) (Apart.own hne) (h := h) hh,
   fun k h hne hh => xstring_ok (id := 140 :: 1 :: p) (o := some (o.getD [] ++ u)) (by rw [Option.getD_some, List.length_append]; unfold maxStr; omega) (p := k :: p) (Apart.own hne) (h := h) hh⟩
 by_cases k1 : k = 1
 ·subst k1
  simp only [if_true] at hl ⊢
  have hbl := bytesB_len 1 s
  obtain ⟨g2, g3⟩ := fin (some (bytesB 1 s)) (by simpa using hl)
  have g := fun k h (hne : 1 ≠ k) hh => xpart_ok (id := 1 :: p) (o := none) (num := 1) (by omega) (by omega) (s := s) (by omega) (by simp; omega) (p := k :: p) (Apart.own hne) (h := h) hh
  simp only [nl1, hbn, Option.getD_none, Option.getD_some, List.nil_append] at g g2 g3
  rw [eq_79]
  simp -implicitDefEqProofs (maxSteps := 1000000) [Tryz.f79, Code.key, g, g2, g3]
 by_cases k7 : k = 7
 ·subst k7
  simp [-List.length_append] at hl ⊢
  have hbl := bytesB_len 7 s
  obtain ⟨g2, g3⟩ := fin (some (bytesB 7 s)) (by simpa using hl)
  have g := fun k h (hne : 1 ≠ k) hh => xpart_ok (id := 1 :: p) (o := none) (num := 7) (by omega) (by omega) (s := s) (by omega) (by simp; omega) (p := k :: p) (Apart.own hne) (h := h) hh
  simp only [nl7, hbn, Option.getD_none, Option.getD_some, List.nil_append] at g g2 g3
  rw [eq_79]
  simp -implicitDefEqProofs (maxSteps := 1000000) [Tryz.f79, Code.key, g, g2, g3]
 by_cases k2 : k = 2
 ·subst k2
  simp [-List.length_append] at hl ⊢
  obtain ⟨g2, g3⟩ := fin (some (numB 2 (if b = true then 1 else n))) (by simpa using hl)
  have g := fun k h (hne : 1 ≠ k) hh => xfew_ok (id := 1 :: p) (o := none) (num := 2) (n := if b = true then 1 else n) (by omega) (by omega) (by split <;> omega) (by simp; omega) (p := k :: p) (Apart.own hne) (h := h) hh
  rw [eq_79]
  cases b with
  | true =>
   simp only [nl1, nl2, hbn, Option.getD_none, Option.getD_some, List.nil_append, if_true] at g g2 g3
   simp -implicitDefEqProofs (maxSteps := 1000000) [Tryz.f79, Code.key, g, g2, g3]
  | false =>
   simp only [nl2, hbn, Option.getD_none, Option.getD_some, List.nil_append, Bool.false_eq_true, if_false] at g g2 g3
   simp -implicitDefEqProofs (maxSteps := 1000000) [Tryz.f79, Code.key, g, g2, g3]
 by_cases k3 : k = 3
 ·subst k3
  simp [-List.length_append] at hl ⊢
  obtain ⟨g2, g3⟩ := fin (some (numB 3 n)) (by simpa using hl)
  have g := fun k h (hne : 1 ≠ k) hh => xfew_ok (id := 1 :: p) (o := none) (num := 3) (n := n) (by omega) (by omega) hn (by simp; omega) (p := k :: p) (Apart.own hne) (h := h) hh
  simp only [nl3, hbn, Option.getD_none, Option.getD_some, List.nil_append] at g g2 g3
  rw [eq_79]
  simp -implicitDefEqProofs (maxSteps := 1000000) [Tryz.f79, Code.key, g, g2, g3]
 by_cases k4 : k = 4
 ·subst k4
  simp [-List.length_append] at hl ⊢
  obtain ⟨g2, g3⟩ := fin (some (fixB 4 n)) (by simpa using hl)
  have g := fun k h (hne : 1 ≠ k) hh => xeight_ok (id := 1 :: p) (o := none) (num := 4) (n := n) (by omega) (by omega) (by simp; omega) (p := k :: p) (Apart.own hne) (h := h) hh
  simp only [nl4, hbn, Option.getD_none, Option.getD_some, List.nil_append] at g g2 g3
  rw [eq_79]
  simp -implicitDefEqProofs (maxSteps := 1000000) [Tryz.f79, Code.key, g, g2, g3]
 by_cases k5 : k = 5
 ·subst k5
  simp [-List.length_append] at hl ⊢
  have hbl := bytesB_len 5 (partsV l ++ i)
  obtain ⟨g2, g3⟩ := fin (some (bytesB 5 (partsV l ++ i))) (by simpa using hl)
  have g := fun k h (hne : 1 ≠ k) hh => xpart_ok (id := 1 :: p) (o := none) (num := 5) (by omega) (by omega) (s := partsV l ++ i) (by omega) (by simp at hl ⊢; omega) (p := k :: p) (Apart.own hne) (h := h) hh
  have hpl : (rawsR (l.map fun x => bytesR 1 (writeV x))).length + i.length ≤ 549755813888 := by rw [← partsV_eq, ← List.length_append]; omega
  have gp := fun q h => partsV_ok (f := 79) (wr := writeV) (l := l) hll (rest := i) (fun x hx q h => hV x hx (by have := parts_len (wr := writeV) x hx; omega) q h) hpl q h
  rw [← partsV_eq] at gp
  simp only [nl5, hbn, Option.getD_none, Option.getD_some, List.nil_append] at g g2 g3
  rw [eq_79]
  simp -implicitDefEqProofs (maxSteps := 1000000) [Tryz.f79, Code.key, g, g2, g3, gp]
 by_cases k6 : k = 6
 ·subst k6
  simp [-List.length_append] at hl ⊢
  have hbl := bytesB_len 6 (partsK m ++ i)
  obtain ⟨g2, g3⟩ := fin (some (bytesB 6 (partsK m ++ i))) (by simpa using hl)
  have g := fun k h (hne : 1 ≠ k) hh => xpart_ok (id := 1 :: p) (o := none) (num := 6) (by omega) (by omega) (s := partsK m ++ i) (by omega) (by simp at hl ⊢; omega) (p := k :: p) (Apart.own hne) (h := h) hh
  have hpl : (rawsR (m.map fun x => bytesR 1 (writeK x))).length + i.length ≤ 549755813888 := by rw [← partsK_eq, ← List.length_append]; omega
  have gp := fun q h => partsK_ok (f := 45) (wr := writeK) (l := m) hml (rest := i) (fun x hx q h => hK x hx (by have := parts_len (wr := writeK) x hx; omega) q h) hpl q h
  rw [← partsK_eq] at gp
  simp only [nl6, hbn, Option.getD_none, Option.getD_some, List.nil_append] at g g2 g3
  rw [eq_79]
  simp -implicitDefEqProofs (maxSteps := 1000000) [Tryz.f79, Code.key, g, g2, g3, gp]
 ·simp only [k1, k2, k3, k4, k5, k6, k7, if_false, List.length_nil, List.nil_append] at hl ⊢
  obtain ⟨g2, g3⟩ := fin none (by simpa using hl)
  simp only [hbn, Option.getD_none, List.nil_append] at g2 g3
  rw [eq_79]
  simp -implicitDefEqProofs (maxSteps := 1000000) [Tryz.f79, Code.key, g2, g3, k1, k2, k3, k4, k5, k6, k7]
theorem writeKey_of {key : List UInt8} {has : Bool} {v : Val} {u : List UInt8} (hl : (writeK (.mk key has v u)).length ≤ 549755813888)
  (hV : (writeV v).length ≤ 549755813888 → ∀ (q : Id) (h : Heap), callW E q 79 [.agg (encV v)] h = some (.str (writeV v), dropFrom q 0 h)) (p : Id) (h : Heap) :
  callW E p 45 [.agg (encK (.mk key has v u))] h = some (.str (writeK (.mk key has v u)), dropFrom p 0 h) := by
 have hbn : ∀ id, bld id none = [.nilp, .nils] := fun _ => rfl
 rw [writeK] at hl ⊢
 rw [List.length_append, List.length_append] at hl
 have hkey : key.length ≤ 549755813888 ∧ (bytesB 1 key).length ≤ 549755813900 := by
  unfold textB at hl
  split at hl
  ·rename_i he; subst he
   have : (bytesB 1 []).length ≤ 30 := by decide +kernel
   simp; omega
  ·have := bytesB_len 1 key; omega
 have ho : ∀ key : List UInt8, (orW none (!key.isEmpty) (bytesB 1 key)).getD [] = textB 1 key := fun key => by
  cases key <;> simp [orW, textB]
 have g := fun k h (hne : 1 ≠ k) hh => xtext_ok (id := 1 :: p) (o := none) (num := 1) (by omega) (by omega) (s := key) hkey.1 (by simp; omega) (p := k :: p) (Apart.own hne) (h := h) hh
 rw [eq_45]
 obtain ⟨cs, hcs, hsh⟩ := flatV v
 rw [hcs] at hV
 obtain ⟨k0, s0, b0, n0, l0, m0, i0, u0, rfl⟩ := hsh
 cases has with
 | false =>
  simp only [Bool.false_eq_true, if_false, List.length_nil, List.nil_append] at hl ⊢
  have g2 := fun k h (hne : 1 ≠ k) hh => xraw_ok (id := 1 :: p) (o := orW none (!key.isEmpty) (bytesB 1 key)) (s := u) (by rw [ho]; omega) (p := k :: p) (Apart.own hne) (h := h) hh
  have g3 := fun k h (hne : 1 ≠ k) hh => xstring_ok (id := 140 :: 1 :: p) (o := some (textB 1 key ++ u)) (by rw [Option.getD_some, List.length_append]; unfold maxStr; omega) (p := k :: p) (Apart.own hne) (h := h) hh
  simp only [nl1, hbn, Option.getD_some, ho] at g g2 g3
  simp -implicitDefEqProofs (maxSteps := 1000000) [Tryz.f45, Code.key, encK_mk, hcs, g, g2, g3]
 | true =>
  simp only [if_true] at hl ⊢
  have hbl := bytesB_len 2 (writeV v)
  have gv := hV (by omega)
  have gp := fun k h (hne : 1 ≠ k) hh => xpart_ok (id := 1 :: p) (o := orW none (!key.isEmpty) (bytesB 1 key)) (num := 2) (by omega) (by omega) (s := writeV v) (by omega) (by rw [ho]; omega) (p := k :: p) (Apart.own hne) (h := h) hh
  have g2 := fun k h (hne : 1 ≠ k) hh => xraw_ok (id := 1 :: p) (o := some (textB 1 key ++ bytesB 2 (writeV v))) (s := u) (by rw [Option.getD_some, List.length_append]; omega) (p := k :: p) (Apart.own hne) (h := h) hh
  have g3 := fun k h (hne : 1 ≠ k) hh => xstring_ok (id := 140 :: 1 :: p) (o := some (textB 1 key ++ bytesB 2 (writeV v) ++ u)) (by rw [Option.getD_some, List.length_append, List.length_append]; unfold maxStr; omega) (p := k :: p) (Apart.own hne) (h := h) hh
  simp only [nl1, nl2, hbn, Option.getD_some, ho] at g g2 g3 gp
  simp -implicitDefEqProofs (maxSteps := 1000000) [Tryz.f45, Code.key, encK_mk, hcs, g, g2, g3, gp, gv]
theorem write_all : (∀ x : Val, x.wf → (writeV x).length ≤ 549755813888 → ∀ (p : Id) (h : Heap), callW E p 79 [.agg (encV x)] h = some (.str (writeV x), dropFrom p 0 h)) ∧
  ∀ x : KV, x.wf → (writeK x).length ≤ 549755813888 → ∀ (p : Id) (h : Heap), callW E p 45 [.agg (encK x)] h = some (.str (writeK x), dropFrom p 0 h) := by
 refine Val.ind2 ?_ ?_
 ·intro k s b n l m i u ihl ihm hwf hl p h
  obtain ⟨hk, hs, hn, hll, hml, hil, hul, hwl, hwm⟩ := Val.wf_mk.1 hwf
  exact write_of hwf hl (fun x hx hxl q h => ihl x hx (hwl x hx) hxl q h) (fun x hx hxl q h => ihm x hx (hwm x hx) hxl q h) p h
 ·intro key has v u ih hwf hl p h
  obtain ⟨hkl, hul, hwv⟩ := KV.wf_mk.1 hwf
  exact writeKey_of hl (fun hvl q h => ih hwv hvl q h) p h
theorem writeV_ok {x : Val} (hw : x.wf) (hl : (writeV x).length ≤ 549755813888) (p : Id) (h : Heap) : callW E p 79 [.agg (encV x)] h = some (.str (writeV x), dropFrom p 0 h) := write_all.1 x hw hl p h
theorem writeK_ok {x : KV} (hw : x.wf) (hl : (writeK x).length ≤ 549755813888) (p : Id) (h : Heap) : callW E p 45 [.agg (encK x)] h = some (.str (writeK x), dropFrom p 0 h) := write_all.2 x hw hl p h
end Go.Ai.T

namespace Go.Ai.T
open Go Go.Proofs
set_option maxRecDepth 100000
set_option maxHeartbeats 4000000
theorem nested_ok {k : Int} {s : List UInt8} {b : Bool} {n : Nat} {l : List Val} {m : List KV} {i u : List UInt8} (p : Id) (h : Heap) :
  callW E p 136 [.agg (encV (.mk k s b n l m i u))] h = some (.bool (l.isEmpty && m.isEmpty && i.isEmpty), dropFrom p 0 h) := by
 simp only [encV_mk]
 rw [eq_136]
 cases l with
 | cons x xs =>
  have e : ¬ ((x :: xs).map encV) = [] := by simp
  generalize (x :: xs).map encV = L at *
  simp -implicitDefEqProofs (maxSteps := 1000000) [Tryz.f136, Code.key, e]
 | nil =>
  cases m with
  | cons x xs =>
   have e : ¬ ((x :: xs).map encK) = [] := by simp
   generalize (x :: xs).map encK = L at *
   simp -implicitDefEqProofs (maxSteps := 1000000) [Tryz.f136, Code.key, e]
  | nil =>
   cases i <;> simp -implicitDefEqProofs (maxSteps := 1000000) [Tryz.f136, Code.key]
theorem plain_ok' {k : Int} {s : List UInt8} {b : Bool} {n : Nat} {l : List Val} {m : List KV} {i u : List UInt8} (p : Id) (h : Heap) :
  callW E p 135 [.agg (encV (.mk k s b n l m i u))] h = some (.bool (n == 0 && !b && (l.isEmpty && m.isEmpty && i.isEmpty)), dropFrom p 0 h) := by
 have g := fun q h => nested_ok (k := k) (s := s) (b := b) (n := n) (l := l) (m := m) (i := i) (u := u) q h
 simp only [encV_mk] at g ⊢
 generalize (l.isEmpty && m.isEmpty && i.isEmpty) = r at *
 rw [eq_135]
 by_cases hn : n = 0
 ·subst hn
  simp only [nat0] at *
  cases b <;> simp -implicitDefEqProofs (maxSteps := 1000000) [Tryz.f135, Code.key, g]
 ·have hn' : ¬ (n : Int) = 0 := by omega
  simp -implicitDefEqProofs (maxSteps := 1000000) [Tryz.f135, Code.key, hn, hn', g]
theorem bare_ok {k : Int} {s : List UInt8} {b : Bool} {n : Nat} {l : List Val} {m : List KV} {i u : List UInt8} (hs : s.length ≤ maxStr) (p : Id) (h : Heap) :
  callW E p 115 [.agg (encV (.mk k s b n l m i u))] h = some (.bool (bareV (.mk k s b n l m i u)), dropFrom p 0 h) := by
 have g := fun q h => nested_ok (k := k) (s := s) (b := b) (n := n) (l := l) (m := m) (i := i) (u := u) q h
 have g2 := fun q h => plain_ok' (k := k) (s := s) (b := b) (n := n) (l := l) (m := m) (i := i) (u := u) q h
 have g3 := fun q h => uvalid_ok hs q h
 unfold bareV
 simp only [encV_mk] at g g2 ⊢
 rw [eq_115]
 by_cases k1 : k = 1
 ·subst k1
  change ∀ q h, callW E q 73 [.str s] h = some (.bool (textOk s), dropFrom q 0 h) at g3
  generalize (n == 0 && !b && (l.isEmpty && m.isEmpty && i.isEmpty)) = r at *
  cases ht : textOk s with
  | false => rw [ht] at g3; simp -implicitDefEqProofs (maxSteps := 1000000) [Tryz.f115, Code.key, g2, g3]
  | true => rw [ht] at g3; simp -implicitDefEqProofs (maxSteps := 1000000) [Tryz.f115, Code.key, g2, g3]
 by_cases k7 : k = 7
 ·subst k7
  generalize (n == 0 && !b && (l.isEmpty && m.isEmpty && i.isEmpty)) = r at *
  simp -implicitDefEqProofs (maxSteps := 1000000) [Tryz.f115, Code.key, g2]
 by_cases k2 : k = 2
 ·subst k2
  generalize (l.isEmpty && m.isEmpty && i.isEmpty) = r at *
  cases s with
  | nil =>
   by_cases hn : n = 0
   ·subst hn
    simp only [nat0] at *
    simp -implicitDefEqProofs (maxSteps := 1000000) [Tryz.f115, Code.key, g]
   ·have hn' : ¬ (n : Int) = 0 := by omega
    simp -implicitDefEqProofs (maxSteps := 1000000) [Tryz.f115, Code.key, g, hn, hn']
  | cons x xs =>
   simp -implicitDefEqProofs (maxSteps := 1000000) [Tryz.f115, Code.key, g]
 by_cases k3 : k = 3
 ·subst k3
  generalize (l.isEmpty && m.isEmpty && i.isEmpty) = r at *
  cases s with
  | nil =>
   cases b with
   | true =>
    simp -implicitDefEqProofs (maxSteps := 1000000) [Tryz.f115, Code.key, g]
   | false =>
    simp -implicitDefEqProofs (maxSteps := 1000000) [Tryz.f115, Code.key, g]
  | cons x xs =>
   simp -implicitDefEqProofs (maxSteps := 1000000) [Tryz.f115, Code.key, g]
 by_cases k4 : k = 4
 ·subst k4
  generalize (l.isEmpty && m.isEmpty && i.isEmpty) = r at *
  cases s with
  | nil =>
   cases b with
   | true =>
    simp -implicitDefEqProofs (maxSteps := 1000000) [Tryz.f115, Code.key, g]
   | false =>
    simp -implicitDefEqProofs (maxSteps := 1000000) [Tryz.f115, Code.key, g]
  | cons x xs =>
   simp -implicitDefEqProofs (maxSteps := 1000000) [Tryz.f115, Code.key, g]
 by_cases k0 : k = 0
 ·subst k0
  generalize (l.isEmpty && m.isEmpty && i.isEmpty) = r at *
  cases s with
  | nil =>
   by_cases hn : n = 0
   ·subst hn
    simp only [nat0] at *
    cases b with
    | true =>
     simp -implicitDefEqProofs (maxSteps := 1000000) [Tryz.f115, Code.key, g]
    | false =>
     simp -implicitDefEqProofs (maxSteps := 1000000) [Tryz.f115, Code.key, g]
   ·have hn' : ¬ (n : Int) = 0 := by omega
    simp -implicitDefEqProofs (maxSteps := 1000000) [Tryz.f115, Code.key, g, hn, hn']
  | cons x xs =>
   simp -implicitDefEqProofs (maxSteps := 1000000) [Tryz.f115, Code.key, g]
 by_cases k5 : k = 5
 ·subst k5
  cases s with
  | nil =>
   by_cases hn : n = 0
   ·subst hn
    simp only [nat0] at *
    cases b with
    | true =>
     simp -implicitDefEqProofs (maxSteps := 1000000) [Tryz.f115, Code.key, g]
    | false =>
     cases m with
     | nil =>
      simp -implicitDefEqProofs (maxSteps := 1000000) [Tryz.f115, Code.key, g]
     | cons y ys =>
      have e2 : ¬ ((y :: ys).map encK) = [] := by simp
      generalize (y :: ys).map encK = L at *
      simp -implicitDefEqProofs (maxSteps := 1000000) [Tryz.f115, Code.key, g, e2]
   ·have hn' : ¬ (n : Int) = 0 := by omega
    simp -implicitDefEqProofs (maxSteps := 1000000) [Tryz.f115, Code.key, g, hn, hn']
  | cons x xs =>
   simp -implicitDefEqProofs (maxSteps := 1000000) [Tryz.f115, Code.key, g]
 by_cases k6 : k = 6
 ·subst k6
  cases s with
  | nil =>
   by_cases hn : n = 0
   ·subst hn
    simp only [nat0] at *
    cases b with
    | true =>
     simp -implicitDefEqProofs (maxSteps := 1000000) [Tryz.f115, Code.key, g]
    | false =>
     cases l with
     | nil =>
      simp -implicitDefEqProofs (maxSteps := 1000000) [Tryz.f115, Code.key, g]
     | cons y ys =>
      have e2 : ¬ ((y :: ys).map encV) = [] := by simp
      generalize (y :: ys).map encV = L at *
      simp -implicitDefEqProofs (maxSteps := 1000000) [Tryz.f115, Code.key, g, e2]
   ·have hn' : ¬ (n : Int) = 0 := by omega
    simp -implicitDefEqProofs (maxSteps := 1000000) [Tryz.f115, Code.key, g, hn, hn']
  | cons x xs =>
   simp -implicitDefEqProofs (maxSteps := 1000000) [Tryz.f115, Code.key, g]
 simp -implicitDefEqProofs (maxSteps := 1000000) [Tryz.f115, Code.key, k0, k1, k2, k3, k4, k5, k6, k7]
end Go.Ai.T

namespace Go.Ai.T
open Go Go.Proofs
set_option maxRecDepth 100000
set_option maxHeartbeats 4000000
def restFr (f : Nat) (err : A) (rs : List Rec) (i : Nat) : Fr := ((((((bot.set 19 (.int .i64 i)).set 18 (.int .i64 rs.length)).set 17 (.slice (recsA rs) none)).set 8 err).set 6 (.bool false)).set 2 (.fn f []))
theorem rest_loop {f : Nat} {t : Nat → Nat → Bool} (ht : ∀ (p : Id) (h : Heap) (a b : Nat), callW E p f [.int .i64 a, .int .i64 b] h = some (.bool (t a b), dropFrom p 0 h)) {rs : List Rec} (hn : rs.length ≤ 1099511627776) {err : A} :
  ∀ (rest : List Rec) (i : Nat), rs.drop i = rest → i ≤ rs.length → ∃ K i', ∀ (p : Id) (c0 c : Nat) (h : Heap), c0 ≤ c →
  iterW E 74 p [2, 6, 8, 17, 18, 19] L_74_3 c0 (restFr f err rs i) c h =
   some (if (rest.all fun r => !t r.num r.kind) = true then .exit 0 else .ret, restFr f err rs i', c + K, dropFrom p c0 h) := by
 intro rest
 induction rest with
 | nil =>
  intro i hj hi
  have hlen : i = rs.length := by have := drop_end hj; omega
  subst hlen
  refine ⟨0, rs.length, fun p c0 c h h1 => ?_⟩
  have hlt' : ¬ ((rs.length : Nat) : Int) < rs.length := by omega
  unfold restFr
  rw [rd_74_3]
  generalize hr : execW E 74 p _ _ _ _ = e
  simp -implicitDefEqProofs (maxSteps := 1000000) [Tryz.f74, Code.loopAt, Code.key] at hr
  subst hr
  simp
 | cons r rest ih =>
  intro i hj hi
  obtain ⟨hlt, hbb, hbs⟩ := drop_facts hj
  have hlt' : (i : Int) < rs.length := by omega
  have hw : IntKind.i64.wrap ((i : Int) + 1) = ((i + 1 : Nat) : Int) := by rw [wrap_i64 (by omega) (by omega)]; rfl
  have hrl : (recsA rs).length = rs.length := by simp [recsA]
  have hget? : (recsA rs)[i]? = some (recCells r) := by simp [recsA, hbb]
  have hget : ∀ hl, (recsA rs)[i]'hl = recCells r := fun hl => by rw [List.getElem?_eq_getElem hl] at hget?; exact Option.some.inj hget?
  cases htr : t r.num r.kind with
  | true =>
   refine ⟨2, i, fun p c0 c h h1 => ?_⟩
   have e : ((r :: rest).all fun r => !t r.num r.kind) = false := by simp [htr]
   rw [e]
   unfold restFr
   rw [rd_74_3]
   generalize hr : execW E 74 p _ _ _ _ = ee
   simp -implicitDefEqProofs (maxSteps := 1000000) [-Int.natCast_add, Tryz.f74, Code.loopAt, Code.key, recCells, ht, htr, hlt, hlt', hrl, hget?, hget, hw] at hr
   subst hr
   simp [-Int.natCast_add]
   simp -implicitDefEqProofs (disch := omega) only [own_du, drop_drop_cons, drop_upd, drop_drop, drop_drop_self, upd_upd]
  | false =>
   obtain ⟨K, i', gl⟩ := ih (i + 1) hbs (by omega)
   refine ⟨2 + K, i', fun p c0 c h h1 => ?_⟩
   have e : ((r :: rest).all fun r => !t r.num r.kind) = (rest.all fun r => !t r.num r.kind) := by simp [htr]
   rw [e]
   have e := gl p c0 (c + 2) (dropFrom p c0 h) (by omega)
   unfold restFr at e ⊢
   rw [rd_74_3]
   generalize hr : execW E 74 p _ _ _ _ = ee
   simp -implicitDefEqProofs (maxSteps := 1000000) [-Int.natCast_add, Tryz.f74, Code.loopAt, Code.key, recCells, ht, htr, hlt, hlt', hrl, hget?, hget, hw] at hr
   subst hr
   simp [-Int.natCast_add, -List.all_eq_true]
   exact (iterW_congr rfl rfl (by omega) (by simp -implicitDefEqProofs (disch := omega) only [own_du, drop_drop_cons, drop_upd, drop_drop, drop_drop_self, upd_upd])).trans (e.trans (some5 rfl (by omega) (by simp -implicitDefEqProofs (disch := omega) only [own_du, drop_drop_cons, drop_upd, drop_drop, drop_drop_self, upd_upd])))
theorem rest_ok {s : List UInt8} (hb : s.length ≤ 1099511627776) {d : Int} (hd : d ≤ 9223372036854775807) {f : Nat} {t : Nat → Nat → Bool} (ht : ∀ (p : Id) (h : Heap) (a b : Nat), callW E p f [.int .i64 a, .int .i64 b] h = some (.bool (t a b), dropFrom p 0 h)) (p : Id) (h : Heap) :
  callW E p 74 [.str s, .int .i64 d, .fn f []] h = some (.bool (restE t s d), dropFrom p 0 h) := by
 have ga := fun q h => all_ok hb hd q h
 unfold restE
 rw [eq_74]
 cases hv : allE s d 0 with
 | error x =>
  rw [hv] at ga
  obtain ⟨K, i', gl⟩ := rest_loop ht (rs := []) (by simp) (err := encE x) [] 0 rfl (Nat.zero_le _)
  have g := fun h => gl p 1 1 h (Nat.le_refl _)
  simp only [encAll, restFr, nat0, recsA, List.map_nil, List.length_nil] at ga g
  cases x <;> simp only [encE_code, encE_at, encE_fld] at ga g <;> simp -implicitDefEqProofs (maxSteps := 1000000) [Tryz.f74, Code.hide, Code.key, ga, g]
 | ok rs =>
  rw [hv] at ga
  have h1 := allE_raw 0 (Nat.zero_le _) rs hv
  obtain ⟨K, i', gl⟩ := rest_loop ht (rs := rs) (by omega) (err := .nili) rs 0 rfl (Nat.zero_le _)
  have g := fun h => gl p 1 1 h (Nat.le_refl _)
  have hrl : (recsA rs).length = rs.length := by simp [recsA]
  simp only [encAll, restFr, nat0] at ga g
  dsimp only
  cases hx : rs.all fun r => !t r.num r.kind with
  | true =>
   rw [hx] at g
   simp only [if_true] at g
   simp -implicitDefEqProofs (maxSteps := 1000000) [Tryz.f74, Code.hide, Code.key, ga, g, hrl]
  | false =>
   rw [hx] at g
   simp only [Bool.false_eq_true, if_false] at g
   simp -implicitDefEqProofs (maxSteps := 1000000) [Tryz.f74, Code.hide, Code.key, ga, g, hrl]
end Go.Ai.T

namespace Go.Ai.T
open Go Go.Proofs
set_option maxRecDepth 100000
set_option maxHeartbeats 4000000
def mkFr (d : Int) (l : List KV) (i : Nat) : Fr := (((((bot.set 9 (.int .i64 i)).set 8 (.int .i64 l.length)).set 7 (.slice (l.map encK) none)).set 4 (.bool false)).set 1 (.int .i64 d))
def mvFr (p : Id) (d : Int) (l : List Val) (i : Nat) : Fr := ((((((bot.set 42 (.int .i64 i)).set 41 (.int .i64 l.length)).set 40 (.slice (l.map encV) none)).set 4 (.bool false)).set 2 (.ptr (36 :: 0 :: p) 0)).set 1 (.int .i64 d))
theorem mayKs_loop {d : Int} {l : List KV} (hn : l.length ≤ maxStr) (hd1 : -9223372036854775808 ≤ d) (hd2 : d ≤ 9223372036854775807) (hr : ∀ x ∈ l, ∀ (q : Id) (h : Heap), callW E q 44 [.agg (encK x), .int .i64 d] h = some (.bool (mayK x d), dropFrom q 0 h)) :
  ∀ (t : List KV) (i : Nat), l.drop i = t → i ≤ l.length → ∃ K i', ∀ (p : Id) (c0 c : Nat) (h : Heap), c0 ≤ c →
  iterW E 116 p [1, 4, 7, 8, 9] L_116_2 c0 (mkFr d l i) c h = some (if (t.all fun x => mayK x d) = true then .exit 0 else .ret, mkFr d l i', c + K, dropFrom p c0 h) := by
 intro t
 induction t with
 | nil =>
  intro i hj hi
  have hlen : i = l.length := by have := drop_end hj; omega
  subst hlen
  refine ⟨0, l.length, fun p c0 c h h1 => ?_⟩
  have hlt' : ¬ ((l.length : Nat) : Int) < l.length := by omega
  unfold mkFr
  rw [rd_116_2]
  generalize hr : execW E 116 p _ _ _ _ = e
  simp -implicitDefEqProofs (maxSteps := 1000000) [Tryz.f116, Code.loopAt, Code.key] at hr
  subst hr
  simp
 | cons x t ih =>
  intro i hj hi
  obtain ⟨hlt, hbb, hbs⟩ := drop_facts hj
  have hlt' : (i : Int) < l.length := by omega
  have hw1 : IntKind.i64.wrap ((i : Int) + 1) = ((i + 1 : Nat) : Int) := by rw [wrap_succ hlt hn]; rfl
  have hwe : IntKind.i64.wrap d = d := wrap_i64 hd1 hd2
  have hget? : (l.map encK)[i]? = some (encK x) := by simp [hbb]
  have hget : ∀ hl, (l.map encK)[i]'hl = encK x := fun hl => by rw [List.getElem?_eq_getElem hl] at hget?; exact Option.some.inj hget?
  have hgetl : ∀ hl, l[i]'hl = x := fun hl => by rw [List.getElem?_eq_getElem hl] at hbb; exact Option.some.inj hbb
  have g := hr x (List.mem_of_getElem? hbb)
  cases hv : mayK x d with
  | false =>
   refine ⟨2, i, fun p c0 c h h1 => ?_⟩
   have e : ((x :: t).all fun x => mayK x d) = false := by simp [hv]
   rw [e]
   rw [hv] at g
   unfold mkFr
   rw [rd_116_2]
   generalize hr : execW E 116 p _ _ _ _ = ee
   simp -implicitDefEqProofs (maxSteps := 1000000) [-Int.natCast_add, Tryz.f116, Code.loopAt, Code.key, hlt, hlt', hget?, hget, hgetl, hbb, hw1, hwe, g] at hr
   subst hr
   simp [-Int.natCast_add]
   simp -implicitDefEqProofs (disch := omega) only [own_du, drop_drop_cons, drop_upd, drop_drop, drop_drop_self, upd_upd]
  | true =>
   obtain ⟨K, i', gl⟩ := ih (i + 1) hbs (by omega)
   refine ⟨2 + K, i', fun p c0 c h h1 => ?_⟩
   have e : ((x :: t).all fun x => mayK x d) = (t.all fun x => mayK x d) := by simp [hv]
   rw [e]
   rw [hv] at g
   have e := gl p c0 (c + 2) (dropFrom p c0 h) (by omega)
   unfold mkFr at e ⊢
   rw [rd_116_2]
   generalize hr : execW E 116 p _ _ _ _ = ee
   simp -implicitDefEqProofs (maxSteps := 1000000) [-Int.natCast_add, Tryz.f116, Code.loopAt, Code.key, hlt, hlt', hget?, hget, hgetl, hbb, hw1, hwe, g] at hr
   subst hr
   simp [-Int.natCast_add, -List.all_eq_true]
   exact (iterW_congr rfl rfl (by omega) (by simp -implicitDefEqProofs (disch := omega) only [own_du, drop_drop_cons, drop_upd, drop_drop, drop_drop_self, upd_upd])).trans (e.trans (some5 rfl (by omega) (by simp -implicitDefEqProofs (disch := omega) only [own_du, drop_drop_cons, drop_upd, drop_drop, drop_drop_self, upd_upd])))
theorem mayVs_loop {d : Int} {l : List Val} (hn : l.length ≤ maxStr) (hd1 : -9223372036854775808 ≤ (d - 2)) (hd2 : (d - 2) ≤ 9223372036854775807) (hr : ∀ x ∈ l, ∀ (q : Id) (h : Heap), callW E q 75 [.agg (encV x), .int .i64 (d - 2)] h = some (.bool (mayV x (d - 2)), dropFrom q 0 h)) :
  ∀ (t : List Val) (i : Nat), l.drop i = t → i ≤ l.length → ∃ K i', ∀ (p : Id) (c0 c : Nat) (h : Heap), c0 ≤ c →
  iterW E 75 p [1, 2, 4, 40, 41, 42] L_75_8 c0 (mvFr p d l i) c h = some (if (t.all fun x => mayV x (d - 2)) = true then .exit 0 else .ret, mvFr p d l i', c + K, dropFrom p c0 h) := by
 intro t
 induction t with
 | nil =>
  intro i hj hi
  have hlen : i = l.length := by have := drop_end hj; omega
  subst hlen
  refine ⟨0, l.length, fun p c0 c h h1 => ?_⟩
  have hlt' : ¬ ((l.length : Nat) : Int) < l.length := by omega
  unfold mvFr
  rw [rd_75_8]
  generalize hr : execW E 75 p _ _ _ _ = e
  simp -implicitDefEqProofs (maxSteps := 1000000) [Tryz.f75, Code.loopAt, Code.key] at hr
  subst hr
  simp
 | cons x t ih =>
  intro i hj hi
  obtain ⟨hlt, hbb, hbs⟩ := drop_facts hj
  have hlt' : (i : Int) < l.length := by omega
  have hw1 : IntKind.i64.wrap ((i : Int) + 1) = ((i + 1 : Nat) : Int) := by rw [wrap_succ hlt hn]; rfl
  have hwe : IntKind.i64.wrap (d - 2) = (d - 2) := wrap_i64 hd1 hd2
  have hget? : (l.map encV)[i]? = some (encV x) := by simp [hbb]
  have hget : ∀ hl, (l.map encV)[i]'hl = encV x := fun hl => by rw [List.getElem?_eq_getElem hl] at hget?; exact Option.some.inj hget?
  have hgetl : ∀ hl, l[i]'hl = x := fun hl => by rw [List.getElem?_eq_getElem hl] at hbb; exact Option.some.inj hbb
  have g := hr x (List.mem_of_getElem? hbb)
  cases hv : mayV x (d - 2) with
  | false =>
   refine ⟨2, i, fun p c0 c h h1 => ?_⟩
   have e : ((x :: t).all fun x => mayV x (d - 2)) = false := by simp [hv]
   rw [e]
   rw [hv] at g
   unfold mvFr
   rw [rd_75_8]
   generalize hr : execW E 75 p _ _ _ _ = ee
   simp -implicitDefEqProofs (maxSteps := 1000000) [-Int.natCast_add, Tryz.f75, Code.loopAt, Code.key, hlt, hlt', hget?, hget, hgetl, hbb, hw1, hwe, g] at hr
   subst hr
   simp [-Int.natCast_add]
   simp -implicitDefEqProofs (disch := omega) only [own_du, drop_drop_cons, drop_upd, drop_drop, drop_drop_self, upd_upd]
  | true =>
   obtain ⟨K, i', gl⟩ := ih (i + 1) hbs (by omega)
   refine ⟨2 + K, i', fun p c0 c h h1 => ?_⟩
   have e : ((x :: t).all fun x => mayV x (d - 2)) = (t.all fun x => mayV x (d - 2)) := by simp [hv]
   rw [e]
   rw [hv] at g
   have e := gl p c0 (c + 2) (dropFrom p c0 h) (by omega)
   unfold mvFr at e ⊢
   rw [rd_75_8]
   generalize hr : execW E 75 p _ _ _ _ = ee
   simp -implicitDefEqProofs (maxSteps := 1000000) [-Int.natCast_add, Tryz.f75, Code.loopAt, Code.key, hlt, hlt', hget?, hget, hgetl, hbb, hw1, hwe, g] at hr
   subst hr
   simp [-Int.natCast_add, -List.all_eq_true]
   exact (iterW_congr rfl rfl (by omega) (by simp -implicitDefEqProofs (disch := omega) only [own_du, drop_drop_cons, drop_upd, drop_drop, drop_drop_self, upd_upd])).trans (e.trans (some5 rfl (by omega) (by simp -implicitDefEqProofs (disch := omega) only [own_du, drop_drop_cons, drop_upd, drop_drop, drop_drop_self, upd_upd])))
theorem mayKs_of {d : Int} {l : List KV} (hn : l.length ≤ maxStr) (hd1 : -9223372036854775808 ≤ d) (hd2 : d ≤ 9223372036854775807) (hr : ∀ x ∈ l, ∀ (q : Id) (h : Heap), callW E q 44 [.agg (encK x), .int .i64 d] h = some (.bool (mayK x d), dropFrom q 0 h)) (p : Id) (h : Heap) :
  callW E p 116 [.slice (l.map encK) none, .int .i64 d] h = some (.bool (mayKs l d), dropFrom p 0 h) := by
 obtain ⟨K, i', gl⟩ := mayKs_loop hn hd1 hd2 hr l 0 rfl (Nat.zero_le _)
 have g := fun h => gl p 0 0 h (Nat.le_refl _)
 rw [mayKs_all]
 rw [eq_116]
 simp only [mkFr, nat0] at g
 cases hx : l.all fun x => mayK x d with
 | true =>
  rw [hx] at g
  simp only [if_true] at g
  simp -implicitDefEqProofs (maxSteps := 1000000) [Tryz.f116, Code.hide, Code.key, g]
 | false =>
  rw [hx] at g
  simp only [Bool.false_eq_true, if_false] at g
  simp -implicitDefEqProofs (maxSteps := 1000000) [Tryz.f116, Code.hide, Code.key, g]
theorem may_of {k : Int} {s : List UInt8} {b : Bool} {n : Nat} {l : List Val} {m : List KV} {i u : List UInt8} (hwf : (Val.mk k s b n l m i u).wf) (hu : u.length ≤ 1099511627776) (hi : i.length ≤ 1099511627776) {d : Int} (hd2 : d ≤ 9223372036854775807)
  (hV : 1 ≤ d → ∀ x ∈ l, ∀ (q : Id) (h : Heap), callW E q 75 [.agg (encV x), .int .i64 (d - 2)] h = some (.bool (mayV x (d - 2)), dropFrom q 0 h))
  (hK : 1 ≤ d → ∀ x ∈ m, ∀ (q : Id) (h : Heap), callW E q 44 [.agg (encK x), .int .i64 (d - 2)] h = some (.bool (mayK x (d - 2)), dropFrom q 0 h)) (p : Id) (h : Heap) :
  callW E p 75 [.agg (encV (.mk k s b n l m i u)), .int .i64 d] h = some (.bool (mayV (.mk k s b n l m i u) d), dropFrom p 0 h) := by
 obtain ⟨hk, hs, hn, hll, hml, hil, hul, hwl, hwm⟩ := Val.wf_mk.1 hwf
 have g1 := fun q h => bare_ok (k := k) (b := b) (n := n) (l := l) (m := m) (i := i) (u := u) hs q h
 have g2 := fun q h => rest_ok hu hd2 takes_ok q h
 rw [mayV]
 generalize bareV (.mk k s b n l m i u) = bb at *
 simp only [encV_mk] at g1 ⊢
 rw [eq_75]
 by_cases h0 : d < 0
 ·have e : decide (0 ≤ d) = false := by simp; omega
  rw [e]
  simp -implicitDefEqProofs (maxSteps := 1000000) [Tryz.f75, Code.hide, Code.key, h0]
 have e0 : decide (0 ≤ d) = true := by simp; omega
 rw [e0]
 cases bb with
 | false => simp -implicitDefEqProofs (maxSteps := 1000000) [Tryz.f75, Code.hide, Code.key, h0, g1]
 | true =>
  cases hx : restE takesV u d with
  | false =>
   rw [hx] at g2
   simp -implicitDefEqProofs (maxSteps := 1000000) [Tryz.f75, Code.hide, Code.key, h0, g1, g2]
  | true =>
   rw [hx] at g2
   by_cases hk56 : k = 5 ∨ k = 6
   ·rw [if_pos hk56]
    by_cases h1 : d < 1
    ·have e1 : decide (1 ≤ d) = false := by simp; omega
     rw [e1]
     rcases hk56 with rfl | rfl <;> simp -implicitDefEqProofs (maxSteps := 1000000) [Tryz.f75, Code.hide, Code.key, h0, h1, g1, g2]
    have e1 : decide (1 ≤ d) = true := by simp; omega
    rw [e1]
    have hwd : IntKind.i64.wrap (d - 1) = d - 1 := wrap_i64 (by omega) (by omega)
    have hwd2 : IntKind.i64.wrap (d - 2) = d - 2 := wrap_i64 (by omega) (by omega)
    have g3 := fun q h => rest_ok hi (d := d - 1) (by omega) lone_ok q h
    cases hy : restE loneT i (d - 1) with
    | false =>
     rw [hy] at g3
     rcases hk56 with rfl | rfl <;> simp -implicitDefEqProofs (maxSteps := 1000000) [Tryz.f75, Code.hide, Code.key, h0, h1, g1, g2, g3, hwd]
    | true =>
     rw [hy] at g3
     obtain ⟨K, i', gl⟩ := mayVs_loop (d := d) hll (by omega) (by omega) (hV (by omega)) l 0 rfl (Nat.zero_le _)
     have g := fun c h => gl p c c h (Nat.le_refl _)
     have g4 := fun q h => mayKs_of (d := d - 2) hml (by omega) (by omega) (hK (by omega)) q h
     rw [mayVs_all]
     simp only [mvFr, nat0] at g
     cases hz : l.all fun x => mayV x (d - 2) with
     | false =>
      rw [hz] at g
      simp only [Bool.false_eq_true, if_false] at g
      rcases hk56 with rfl | rfl <;> simp -implicitDefEqProofs (maxSteps := 1000000) [Tryz.f75, Code.hide, Code.key, h0, h1, g1, g2, g3, hwd, hwd2, g]
     | true =>
      rw [hz] at g
      simp only [if_true] at g
      rcases hk56 with rfl | rfl <;> simp -implicitDefEqProofs (maxSteps := 1000000) [Tryz.f75, Code.hide, Code.key, h0, h1, g1, g2, g3, hwd, hwd2, g, g4]
   ·rw [if_neg hk56]
    have k5 : ¬ k = 5 := fun e => hk56 (.inl e)
    have k6 : ¬ k = 6 := fun e => hk56 (.inr e)
    simp -implicitDefEqProofs (maxSteps := 1000000) [Tryz.f75, Code.hide, Code.key, h0, g1, g2, k5, k6]
open Classical in
theorem mayKey_of {key : List UInt8} {has : Bool} {v : Val} {u : List UInt8} (hkl : key.length ≤ maxStr) (hvw : v.wf) (hu : u.length ≤ 1099511627776) {d : Int} (hd2 : d ≤ 9223372036854775807)
  (hV : 0 ≤ d → ∀ (q : Id) (h : Heap), callW E q 75 [.agg (encV v), .int .i64 (d - 1)] h = some (.bool (mayV v (d - 1)), dropFrom q 0 h)) (p : Id) (h : Heap) :
  callW E p 44 [.agg (encK (.mk key has v u)), .int .i64 d] h = some (.bool (mayK (.mk key has v u) d), dropFrom p 0 h) := by
 have g1 := fun q h => uvalid_ok hkl q h
 change ∀ q h, callW E q 73 [.str key] h = some (.bool (textOk key), dropFrom q 0 h) at g1
 have g2 := fun q h => rest_ok hu hd2 takesKey_ok q h
 have g3 := fun q h => same_ok.1 v hvw val0 q h
 have hz : (decide (v = val0)) = v.isZero := by rw [Bool.eq_iff_iff, Val.isZero_iff]; simp
 rw [hz] at g3
 rw [mayK]
 obtain ⟨cs, hcs, hsh⟩ := flatV v
 simp only [encK_mk]
 rw [hcs] at hV g3 ⊢
 obtain ⟨k0, s0, b0, n0, l0, m0, i0, u0, rfl⟩ := hsh
 have hz0 : encV val0 = [.int .i64 0, .str [], .bool false, .int .u64 0, .slice [] none, .slice [] none, .str [], .str []] := by simp [val0]
 rw [hz0] at g3
 rw [eq_44]
 by_cases h0 : d < 0
 ·have e : decide (0 ≤ d) = false := by simp; omega
  rw [e]
  simp -implicitDefEqProofs (maxSteps := 1000000) [Tryz.f44, Code.key, h0]
 have e0 : decide (0 ≤ d) = true := by simp; omega
 have hwd : IntKind.i64.wrap (d - 1) = d - 1 := wrap_i64 (by omega) (by omega)
 have gV := hV (by omega)
 rw [e0]
 cases ht : textOk key with
 | false =>
  rw [ht] at g1
  simp -implicitDefEqProofs (maxSteps := 1000000) [Tryz.f44, Code.key, h0, g1]
 | true =>
  rw [ht] at g1
  cases hx : restE takesK u d with
  | false =>
   rw [hx] at g2
   simp -implicitDefEqProofs (maxSteps := 1000000) [Tryz.f44, Code.key, h0, g1, g2]
  | true =>
   rw [hx] at g2
   cases has with
   | true => simp -implicitDefEqProofs (maxSteps := 1000000) [Tryz.f44, Code.key, h0, g1, g2, gV, hwd]
   | false => simp -implicitDefEqProofs (maxSteps := 1000000) [Tryz.f44, Code.key, h0, g1, g2, g3]
end Go.Ai.T

namespace Go.Ai.T
open Go Go.Proofs
set_option maxRecDepth 100000
set_option maxHeartbeats 4000000
theorem may_all : (∀ x : Val, x.wf → x.sz ≤ 549755813888 → ∀ d : Int, d ≤ 9223372036854775807 → ∀ (p : Id) (h : Heap), callW E p 75 [.agg (encV x), .int .i64 d] h = some (.bool (mayV x d), dropFrom p 0 h)) ∧
  ∀ x : KV, x.wf → x.sz ≤ 549755813888 → ∀ d : Int, d ≤ 9223372036854775807 → ∀ (p : Id) (h : Heap), callW E p 44 [.agg (encK x), .int .i64 d] h = some (.bool (mayK x d), dropFrom p 0 h) := by
 refine Val.ind2 ?_ ?_
 ·intro k s b n l m i u ihl ihm hwf hsz d hd p h
  obtain ⟨hk, hs, hn, hll, hml, hil, hul, hwl, hwm⟩ := Val.wf_mk.1 hwf
  rw [Val.sz_mk] at hsz
  exact may_of hwf (by omega) (by omega) hd (fun h1 x hx q h => ihl x hx (hwl x hx) (by have := Val.szs_mem hx; omega) (d - 2) (by omega) q h) (fun h1 x hx q h => ihm x hx (hwm x hx) (by have := KV.szs_mem hx; omega) (d - 2) (by omega) q h) p h
 ·intro key has v u ih hwf hsz d hd p h
  obtain ⟨hkl, hul, hwv⟩ := KV.wf_mk.1 hwf
  rw [KV.sz_mk] at hsz
  exact mayKey_of hkl hwv (by omega) hd (fun h0 q h => ih hwv (by omega) (d - 1) (by omega) q h) p h
theorem mayV_ok {x : Val} (hw : x.wf) (hs : x.sz ≤ 549755813888) {d : Int} (hd : d ≤ 9223372036854775807) (p : Id) (h : Heap) : callW E p 75 [.agg (encV x), .int .i64 d] h = some (.bool (mayV x d), dropFrom p 0 h) := may_all.1 x hw hs d hd p h
theorem mayK_ok {x : KV} (hw : x.wf) (hs : x.sz ≤ 549755813888) {d : Int} (hd : d ≤ 9223372036854775807) (p : Id) (h : Heap) : callW E p 44 [.agg (encK x), .int .i64 d] h = some (.bool (mayK x d), dropFrom p 0 h) := may_all.2 x hw hs d hd p h
theorem mayKs_ok {l : List KV} (hn : l.length ≤ maxStr) (hw : ∀ x ∈ l, x.wf) (hs : ∀ x ∈ l, x.sz ≤ 549755813888) {d : Int} (hd1 : -9223372036854775808 ≤ d) (hd : d ≤ 9223372036854775807) (p : Id) (h : Heap) : callW E p 116 [.slice (l.map encK) none, .int .i64 d] h = some (.bool (mayKs l d), dropFrom p 0 h) :=
 mayKs_of hn hd1 hd (fun x hx q h => mayK_ok (hw x hx) (hs x hx) hd q h) p h
def marE (ok : Bool) (s : List UInt8) : List UInt8 × Option Err := if ok = true then (s, none) else ([], some (.code 8))
theorem marK_ok {x : KV} (hw : x.wf) (hs : x.sz ≤ 549755813888) {d : Int} (hd : d ≤ 9223372036854775807) (p : Id) (h : Heap) :
  callW E p 22 [.agg (encK x), .int .i64 d] h = some (.tuple [.str (marE (mayK x d) (writeK x)).1, encO (marE (mayK x d) (writeK x)).2], dropFrom p 0 h) := by
 have g := fun q h => mayK_ok hw hs hd q h
 have g2 := fun q h => writeK_ok hw (by have := write_sz.2 x hw hs; omega) q h
 rw [eq_22]
 unfold marE
 cases hm : mayK x d with
 | true =>
  rw [hm] at g
  simp -implicitDefEqProofs (maxSteps := 1000000) [Tryz.f22, Code.key, g, g2]
 | false =>
  rw [hm] at g
  simp -implicitDefEqProofs (maxSteps := 1000000) [Tryz.f22, Code.key, g, encE_code]
--endhas
end Go.Ai.T

