/- Part KH of the proof that a law of this program answers yes at every input: no conditions beyond the given statement. -/
import Derived.Test.YtfajnnnldhfhiaaGreatDoorKE
import Derived.Test.YtfajnnnldhfhiaaGreatDoorKM
import Derived.Test.YtfajnnnldhfhiaaGreatDoorKG
import Derived.Test.YtfajnnnldhfhiaaGreatDoorKD
set_option linter.unusedSimpArgs false
set_option linter.unusedVariables false
set_option linter.all false
namespace Go.Ai.T
open Go Go.Proofs
set_option maxRecDepth 100000
set_option maxHeartbeats 4000000
def mrd (e : Option Err) (u : List UInt8) (d : Int) (en : Nat) (rs : List Rec) : List A := [encO e, .str u, .int .i64 d, .int .i64 en, growing (45, 5) (recsA rs)]
def mreadFr (f : Nat) (rid bid : Id) (rs : List Rec) (i : Nat) : Fr := (((((bot.set 39 (.int .i64 i)).set 38 (.int .i64 rs.length)).set 37 (.slice (recsA rs) none)).set 10 (.ptr bid 0)).set 7 (.ptr rid 0)).set 2 (.fn f [])
theorem mread_loop {f : Nat} {t : Nat → Nat → Bool} (ht : ∀ (p : Id) (h : Heap) (a b : Nat), callW E p f [.int .i64 a, .int .i64 b] h = some (.bool (t a b), dropFrom p 0 h)) {d : Int} {en : Nat} {rs : List Rec} (hn : rs.length ≤ 1099511627776) :
  ∀ (rest : List Rec) (i : Nat) (tk : List Rec) (o : Option (List UInt8)), rs.drop i = rest → tk.length ≤ i → i ≤ rs.length → (o.getD []).length + rawLen rest ≤ 1099511627776 → ∃ k, ∀ (p : Id) (tr kr kb c0 c : Nat) (h : Heap), kr < kb → kb < c0 → c0 ≤ c →
   h (tr :: kr :: p) = some (mrd none [] d en tk) → h (65 :: kb :: p) = some (bld (65 :: kb :: p) o) →
  iterW E 29 p [2, 7, 10, 37, 38, 39] L_29_11 c0 (mreadFr f (tr :: kr :: p) (65 :: kb :: p) rs i) c h =
   some (.exit 0, mreadFr f (tr :: kr :: p) (65 :: kb :: p) rs rs.length, c + k, upd (upd (dropFrom p c0 h) (tr :: kr :: p) (mrd none [] d en (tk ++ takenR t rest))) (65 :: kb :: p) (bld (65 :: kb :: p) (restO t o rest))) := by
 intro rest
 induction rest with
 | nil =>
  intro i tk o hj hi hi2 hb
  refine ⟨0, fun p tr kr kb c0 c h h1 h2 h3 hh hx => ?_⟩
  obtain ⟨o1, o2, o3, o4, o5, o6⟩ := own_facts (p := p) tr kr
  obtain ⟨q1, q2, q3, q4, q5, q6⟩ := own_facts (p := p) 65 kb
  have hge := drop_end hj
  have hlen : i = rs.length := by omega
  subst hlen
  have hlt' : ¬ ((rs.length : Nat) : Int) < rs.length := by omega
  have hcr : kr < c0 := by omega
  unfold mreadFr
  rw [rd_29_11]
  generalize hr : execW E 29 p _ _ _ _ = e
  simp -implicitDefEqProofs (maxSteps := 1000000) [Tryz.f29, Code.loopAt, Code.key, hlt'] at hr
  subst hr
  have e2 : takenR t [] = [] := rfl
  have e3 : restO t o [] = o := rfl
  rw [e2, e3, List.append_nil]
  have u1 : upd (dropFrom p c0 h) (tr :: kr :: p) (mrd none [] d en tk) = dropFrom p c0 h := upd_id (by rw [o2 _ _ hcr, hh])
  rw [u1, upd_id (h := dropFrom p c0 h) (by rw [q2 _ _ h2, hx])]
  simp
 | cons r rest ih =>
  intro i tk o hj hi hi2 hb
  obtain ⟨hlt, hbb, hbs⟩ := drop_facts hj
  rw [rawLen_cons] at hb
  have hlt' : (i : Int) < rs.length := by omega
  have hw : IntKind.i64.wrap ((i : Int) + 1) = ((i + 1 : Nat) : Int) := by rw [wrap_i64 (by omega) (by omega)]; rfl
  have hrl : (recsA rs).length = rs.length := by simp [recsA]
  have hget? : (recsA rs)[i]? = some (recCells r) := by simp [recsA, hbb]
  have hget : ∀ hl, (recsA rs)[i]'hl = recCells r := fun hl => by rw [List.getElem?_eq_getElem hl] at hget?; exact Option.some.inj hget?
  have hl1 : (recsA tk).length = tk.length := by simp [recsA]
  have hmax : (recsA tk).length + 1 ≤ maxStr := by unfold maxStr; omega
  have hmax2 : ((recsA tk).length + 1) * 56 ≤ 140737488355328 := by omega
  by_cases htr : t r.num r.kind = true
  ·obtain ⟨k, gl⟩ := ih (i + 1) (tk ++ [r]) o hbs (by simp; omega) (by omega) (by omega)
   refine ⟨2 + k, fun p tr kr kb c0 c h h1 h2 h3 hh hx => ?_⟩
   obtain ⟨o1, o2, o3, o4, o5, o6⟩ := own_facts (p := p) tr kr
   obtain ⟨q1, q2, q3, q4, q5, q6⟩ := own_facts (p := p) 65 kb
   have n0 : kr ≠ c := by omega
   have n1 : kr ≠ c + 1 := by omega
   have g := ht
   unfold mreadFr
   simp only [mrd, encO_none] at hh
   rw [rd_29_11]
   generalize hr : execW E 29 p _ _ _ _ = e
   simp -implicitDefEqProofs (maxSteps := 1000000) [-Int.natCast_add, Tryz.f29, Code.loopAt, Code.key, recCells, hh, o1, o2, o3, o4, o5, o6, n0, n1, g, htr, hlt, hlt', hrl, hget?, hget, hw, hmax, hmax2] at hr
   subst hr
   have e6 : A.slice (recsA tk ++ [[.int .i64 r.num, .int .i64 r.kind, .int .u64 r.n, .str r.s, .str r.raw]]) (some (45, 5)) = growing (45, 5) (recsA (tk ++ [r])) := by
    rw [slice_growing]; simp [recsA, recCells]
   simp [-Int.natCast_add, o1, o2]
   have hc1 : c0 ≤ c + 1 := by omega
   have hcr : kr < c0 := by omega
   have e := gl p tr kr kb c0 (c + 2) (upd (dropFrom p c0 h) (tr :: kr :: p) (mrd none [] d en (tk ++ [r]))) h1 h2 (by omega) (by simp) (by rw [o6 _ _ _ _ (by omega), q2 _ _ h2, hx])
   rw [o1 _ _ _ hcr, drop_drop_self, upd_upd] at e
   have e2 : takenR t (r :: rest) = r :: takenR t rest := by simp [takenR, htr]
   have e3 : restO t o (r :: rest) = restO t o rest := by rw [restO, if_pos htr]
   unfold mreadFr mrd at e
   rw [e6, o1 _ _ _ hcr, drop_drop_cons hc1, drop_upd h3, e2, e3]
   simp only [List.append_assoc, List.singleton_append, encO_none, Nat.add_assoc] at e ⊢
   simpa [-Int.natCast_add, mrd] using e
  ·obtain ⟨k, gl⟩ := ih (i + 1) tk (some (o.getD [] ++ r.raw)) hbs (by omega) (by omega) (by simp; omega)
   refine ⟨3 + k, fun p tr kr kb c0 c h h1 h2 h3 hh hx => ?_⟩
   obtain ⟨o1, o2, o3, o4, o5, o6⟩ := own_facts (p := p) tr kr
   obtain ⟨q1, q2, q3, q4, q5, q6⟩ := own_facts (p := p) 65 kb
   have n0 : kb ≠ c := by omega
   have n1 : kb ≠ c + 1 := by omega
   have n2 : kb ≠ c + 2 := by omega
   have htr' : t r.num r.kind = false := by simpa using htr
   have g := ht
   have g2 := fun k h (hne : kb ≠ k) hh => sbwrite_ok (id := kb :: p) (T := 65) (Or.inl rfl) (o := o) (s := r.raw) (by omega) (p := k :: p) (Apart.own hne) (h := h) hh
   unfold mreadFr
   rw [rd_29_11]
   generalize hr : execW E 29 p _ _ _ _ = e
   simp -implicitDefEqProofs (maxSteps := 1000000) [-Int.natCast_add, Tryz.f29, Code.loopAt, Code.key, recCells, hx, q1, q2, q3, q4, q5, q6, n0, n1, n2, g, g2, htr', hlt, hlt', hrl, hget?, hget, hw] at hr
   subst hr
   simp [-Int.natCast_add]
   have hc1 : c0 ≤ c + 1 := by omega
   have hc2 : c0 ≤ c + 1 + 1 := by omega
   have hcr : kr < c0 := by omega
   have hij : (65 :: kb :: p) ≠ (tr :: kr :: p) := by intro e; simp at e; omega
   have e := gl p tr kr kb c0 (c + 3) (upd (dropFrom p c0 h) (65 :: kb :: p) (bld (65 :: kb :: p) (some (o.getD [] ++ r.raw)))) h1 h2 (by omega) (by rw [q6 _ _ _ _ (by omega), o2 _ _ hcr, hh]) (by simp)
   rw [q1 _ _ _ h2, drop_drop_self, upd_comm hij, upd_upd] at e
   have e2 : takenR t (r :: rest) = takenR t rest := by simp [takenR, htr']
   have e3 : restO t o (r :: rest) = restO t (some (o.getD [] ++ r.raw)) rest := by rw [restO, if_neg htr]
   unfold mreadFr at e
   rw [q1 _ _ _ h2, drop_drop_cons hc2, drop_drop_cons hc1, drop_upd h3, e2, e3]
   simp only [Nat.add_assoc] at e ⊢
   simpa [-Int.natCast_add] using e
def mrdM (m : Msg) (d : Int) (en : Nat) : List A := mrd m.err m.unk d en m.recs
theorem mread_ok {s : List UInt8} (hb : s.length ≤ 1099511627776) {d : Int} (hd : d ≤ 9223372036854775807) {f : Nat} {t : Nat → Nat → Bool} (ht : ∀ (p : Id) (h : Heap) (a b : Nat), callW E p f [.int .i64 a, .int .i64 b] h = some (.bool (t a b), dropFrom p 0 h)) (p : Id) (h : Heap) :
  ∃ H, callW E p 29 [.str s, .int .i64 d, .fn f []] h = some (.ptr (84 :: 0 :: p) 0, H) ∧ H (84 :: 0 :: p) = some (mrdM (readE s d t) d s.length) ∧ dropFrom p 0 H = dropFrom p 0 h := by
 rw [eq_29]
 unfold readE
 by_cases h0 : d < 0
 ·have g := fun k h (hk : 0 ≠ k) (hh : h (84 :: 0 :: p) = some [encO none, .str [], .int .i64 d, .int .i64 s.length, .nils]) => mfails_ok (e0 := none) (e1 := some (.code 6)) (num := 0) (p := k :: p) (Apart.own hk) (h := h) hh
  have hm : failO s.length 0 none (some (.code 6)) = some (.at_ 0 (.fld 0 (.code 6))) := by
   simp only [failO, failE, Err.place, Option.getD_none]
   rw [show min (max (0 : Int) 0) s.length = 0 by omega]
  simp only [hm, encO_none, encO_some, encE_code] at g
  rw [if_pos h0]
  simp -implicitDefEqProofs (maxSteps := 1000000) [Tryz.f29, Code.hide, Code.key, h0, g]
  simp [mrdM, mrd, recsA]
 ·rw [if_neg h0]
  have g := all_ok hb hd
  cases hv : allE s d 0 with
  | error x =>
   rw [hv] at g
   simp only [encAll] at g
   simp -implicitDefEqProofs (maxSteps := 1000000) [Tryz.f29, Code.hide, Code.key, h0, g]
   simp [mrdM, mrd, recsA]
  | ok rs =>
   rw [hv] at g
   simp only [encAll] at g
   have hr := allE_raw 0 (Nat.zero_le _) rs hv
   obtain ⟨k, gl⟩ := mread_loop ht (d := d) (en := s.length) (rs := rs) (by omega) rs 0 [] none rfl (Nat.le_refl _) (Nat.zero_le _) (by simp; omega)
   have g2 := gl p 84 0
   have hbn : ∀ id, bld id none = [.nilp, .nils] := fun _ => rfl
   have hbo : (restO t none rs).getD [] = unkR t rs := restO_eq t rs none
   have hbl := unkR_len t rs
   have g3 := fun k h (hh : h (65 :: 2 :: p) = some (bld (65 :: 2 :: p) (restO t none rs))) => sbstring_ok (o := restO t none rs) (by rw [hbo]; unfold maxStr; omega) (p := k :: p) (h := h) hh
   rw [hbo] at g3
   simp only [mrd, mreadFr, encO_none, nat0, hbn, recsA, List.map_nil, growing_nil, List.nil_append] at g2
   simp -implicitDefEqProofs (maxSteps := 1000000) [Tryz.f29, Code.hide, Code.key, h0, g, recsA, g2, g3]
   simp [mrdM, mrd, recsA]
def checkFr (id : Id) (num : Nat) (rs : List Rec) (i : Nat) : Fr := ((((bot.set 11 (.int .i64 i)).set 10 (.int .i64 rs.length)).set 9 (.slice (recsA rs) none)).set 1 (.int .i64 num)).set 0 (.ptr id 0)
theorem check_loop {u dd l : A} {en num : Nat} {rs : List Rec} (hn : rs.length ≤ 1099511627776) (hsh : Short 1099511627776 rs) :
  ∀ (rest : List Rec) (i : Nat) (e0 : Option Err), rs.drop i = rest → i ≤ rs.length → ∃ k, ∀ (p id : Id) (a : Apart p id) (c0 c : Nat) (h : Heap), c0 ≤ c → h id = some [encO e0, u, dd, .int .i64 en, l] →
  iterW E 54 p [0, 1, 9, 10, 11] L_54_1 c0 (checkFr id num rs i) c h =
   some (.exit 0, checkFr id num rs rs.length, c + k, upd (dropFrom p c0 h) id [encO (checkO en num e0 rest), u, dd, .int .i64 en, l]) := by
 intro rest
 induction rest with
 | nil =>
  intro i e0 hj hi
  refine ⟨0, fun p id a c0 c h hc hh => ?_⟩
  obtain ⟨f1, f2, f3, f4, f5, f6⟩ := a.facts
  have hge := drop_end hj
  have hlen : i = rs.length := by omega
  subst hlen
  have hlt' : ¬ ((rs.length : Nat) : Int) < rs.length := by omega
  unfold checkFr
  rw [rd_54_1]
  generalize hr : execW E 54 p _ _ _ _ = e
  simp -implicitDefEqProofs (maxSteps := 1000000) [Tryz.f54, Code.loopAt, Code.key, hlt'] at hr
  subst hr
  have e2 : checkO en num e0 [] = e0 := rfl
  rw [e2, upd_id (h := dropFrom p c0 h) (by rw [f2, hh])]
  simp
 | cons r rest ih =>
  intro i e0 hj hi
  obtain ⟨hlt, hbb, hbs⟩ := drop_facts hj
  have hlt' : (i : Int) < rs.length := by omega
  have hw : IntKind.i64.wrap ((i : Int) + 1) = ((i + 1 : Nat) : Int) := by rw [wrap_i64 (by omega) (by omega)]; rfl
  have hrl : (recsA rs).length = rs.length := by simp [recsA]
  have hget? : (recsA rs)[i]? = some (recCells r) := by simp [recsA, hbb]
  have hget : ∀ hl, (recsA rs)[i]'hl = recCells r := fun hl => by rw [List.getElem?_eq_getElem hl] at hget?; exact Option.some.inj hget?
  have hs : r.s.length ≤ maxStr := by have := hsh r (List.mem_of_getElem? hbb); unfold maxStr; omega
  by_cases hnum : r.num = num
  ·obtain ⟨k, gl⟩ := ih (i + 1) (failO en num e0 (uErr r.s)) hbs (by omega)
   refine ⟨3 + k, fun p id a c0 c h hc hh => ?_⟩
   obtain ⟨f1, f2, f3, f4, f5, f6⟩ := a.facts
   have hnum' : (r.num : Int) = num := by omega
   have g := ucheck_ok hs
   have g2 := fun k h (hh : h id = some [encO e0, u, dd, .int .i64 en, l]) => mfails_ok (e0 := e0) (e1 := uErr r.s) (num := num) (p := k :: p) (a.sub k) (h := h) hh
   unfold checkFr
   rw [rd_54_1]
   generalize hr : execW E 54 p _ _ _ _ = e
   simp -implicitDefEqProofs (maxSteps := 1000000) [-Int.natCast_add, Tryz.f54, Code.loopAt, Code.key, recCells, hh, f1, f2, f3, f4, f5, f6, g, g2, hnum, hnum', hlt, hlt', hrl, hget?, hget, hw] at hr
   subst hr
   have e := gl p id a c0 (c + 3) (upd (dropFrom p c0 h) id [encO (failO en num e0 (uErr r.s)), u, dd, .int .i64 en, l]) (by omega) (by simp)
   have e2 : checkO en num e0 (r :: rest) = checkO en num (failO en num e0 (uErr r.s)) rest := by rw [checkO, if_pos hnum]
   have hc1 : c0 ≤ c + 1 := by omega
   have hc2 : c0 ≤ c + 1 + 1 := by omega
   unfold checkFr at e
   rw [f1, drop_drop_self, upd_upd] at e
   simp [-Int.natCast_add]
   rw [f1, drop_drop_cons hc2, drop_drop_cons hc1, drop_upd hc, e2]
   simp only [Nat.add_assoc] at e ⊢
   simpa [-Int.natCast_add] using e
  ·obtain ⟨k, gl⟩ := ih (i + 1) e0 hbs (by omega)
   refine ⟨1 + k, fun p id a c0 c h hc hh => ?_⟩
   obtain ⟨f1, f2, f3, f4, f5, f6⟩ := a.facts
   have hnum' : ¬ (r.num : Int) = num := by omega
   unfold checkFr
   rw [rd_54_1]
   generalize hr : execW E 54 p _ _ _ _ = e
   simp -implicitDefEqProofs (maxSteps := 1000000) [-Int.natCast_add, Tryz.f54, Code.loopAt, Code.key, recCells, hh, f1, f2, f3, f4, f5, f6, hnum, hnum', hlt, hlt', hrl, hget?, hget, hw] at hr
   subst hr
   have e := gl p id a c0 (c + 1) (dropFrom p c0 h) (by omega) (by rw [f2, hh])
   have e2 : checkO en num e0 (r :: rest) = checkO en num e0 rest := by rw [checkO, if_neg hnum]
   unfold checkFr at e
   rw [drop_drop_self] at e
   simp [-Int.natCast_add]
   rw [drop_upd hc, e2]
   simp only [Nat.add_assoc] at e ⊢
   simpa [-Int.natCast_add] using e
theorem check_ok {e0 : Option Err} {u : List UInt8} {d : Int} {en num : Nat} {rs : List Rec} (hn : rs.length ≤ 1099511627776) (hsh : Short 1099511627776 rs) {p id : Id} (a : Apart p id) {h : Heap} (hh : h id = some (mrd e0 u d en rs)) :
  callW E p 54 [.ptr id 0, .int .i64 num] h = some (.tuple [], upd (dropFrom p 0 h) id (mrd (checkO en num e0 rs) u d en rs)) := by
 obtain ⟨f1, f2, f3, f4, f5, f6⟩ := a.facts
 obtain ⟨k, gl⟩ := check_loop (u := .str u) (dd := .int .i64 d) (l := growing (45, 5) (recsA rs)) (en := en) (num := num) hn hsh rs 0 e0 rfl (Nat.zero_le _)
 have g := gl p id a
 have hrl : (recsA rs).length = rs.length := by simp [recsA]
 simp only [checkFr, nat0] at g
 simp only [mrd] at hh ⊢
 rw [eq_54]
 simp -implicitDefEqProofs (maxSteps := 1000000) [Tryz.f54, Code.hide, Code.key, hh, f1, f2, f3, f4, f5, f6, hrl, g]
def rec0 : Rec := ⟨0, 0, 0, [], []⟩
def lastJ (num : Nat) (rs : List Rec) (j : Nat) : Option Rec := (rs.take j).reverse.find? fun r => r.num == num
theorem lastJ_succ {num : Nat} {rs : List Rec} {j : Nat} {r : Rec} (h : rs[j]? = some r) : lastJ num rs (j + 1) = if r.num = num then some r else lastJ num rs j := by
 unfold lastJ
 rw [List.take_succ, h]
 simp only [Option.toList_some, List.reverse_append, List.reverse_cons, List.reverse_nil, List.nil_append, List.singleton_append, List.find?_cons]
 by_cases e : r.num = num
 ·simp [e]
 ·have e' : (r.num == num) = false := by simpa using e
  simp [e, e']
def lastFr (id rid : Id) (num : Nat) (i : Int) : Fr := (((bot.set 5 (.int .i64 i)).set 4 (.ptr rid 0)).set 1 (.int .i64 num)).set 0 (.ptr id 0)
theorem last_loop {e0 u dd en : A} {num : Nat} {rs : List Rec} (hn : rs.length ≤ 1099511627776) : ∀ j, j ≤ rs.length → ∃ i' : Int, ∀ (p id : Id) (a : Apart p id) (kr c0 c : Nat) (h : Heap) (x0 : List A), kr < c0 → c0 ≤ c → x0.length = 5 → h id = some [e0, u, dd, en, growing (45, 5) (recsA rs)] → h (45 :: kr :: p) = some x0 →
  iterW E 55 p [0, 1, 4, 5] L_55_2 c0 (lastFr id (45 :: kr :: p) num ((j : Int) - 1)) c h =
   some (match lastJ num rs j with | none => .exit 0 | some _ => .ret, lastFr id (45 :: kr :: p) num i', c, upd (dropFrom p c0 h) (45 :: kr :: p) (match lastJ num rs j with | none => x0 | some r => recCells r)) := by
 intro j
 induction j with
 | zero =>
  intro hj
  refine ⟨-1, fun p id a kr c0 c h x0 h1 h2 h5 hh hx => ?_⟩
  obtain ⟨f1, f2, f3, f4, f5, f6⟩ := a.facts
  obtain ⟨o1, o2, o3, o4, o5, o6⟩ := own_facts (p := p) 45 kr
  have e : lastJ num rs 0 = none := rfl
  rw [e]
  unfold lastFr
  rw [rd_55_2]
  generalize hr : execW E 55 p _ _ _ _ = e
  simp -implicitDefEqProofs (maxSteps := 1000000) [Tryz.f55, Code.loopAt, Code.key] at hr
  subst hr
  simp
  exact (upd_id (by rw [o2 _ _ h1, hx])).symm
 | succ j ih =>
  intro hj
  obtain ⟨i', gl⟩ := ih (by omega)
  obtain ⟨r, hbb⟩ : ∃ r, rs[j]? = some r := ⟨_, List.getElem?_eq_getElem (by omega)⟩
  have hlt : j < rs.length := by omega
  have hj0 : (0 : Int) ≤ j := by omega
  have hj1 : ((j + 1 : Nat) : Int) - 1 = j := by omega
  have hw : IntKind.i64.wrap ((j : Int) - 1) = (j : Int) - 1 := wrap_i64 (by omega) (by omega)
  have hrl : (recsA rs).length = rs.length := by simp [recsA]
  have hget? : (recsA rs)[j]? = some (recCells r) := by simp [recsA, hbb]
  have hget : ∀ hl, (recsA rs)[j]'hl = recCells r := fun hl => by rw [List.getElem?_eq_getElem hl] at hget?; exact Option.some.inj hget?
  have hJ := lastJ_succ (num := num) hbb
  by_cases hnum : r.num = num
  ·rw [if_pos hnum] at hJ
   refine ⟨j, fun p id a kr c0 c h x0 h1 h2 h5 hh hx => ?_⟩
   obtain ⟨f1, f2, f3, f4, f5, f6⟩ := a.facts
   obtain ⟨o1, o2, o3, o4, o5, o6⟩ := own_facts (p := p) 45 kr
   have hnum' : (r.num : Int) = num := by omega
   rw [hJ, hj1]
   unfold lastFr
   rw [rd_55_2]
   generalize hr : execW E 55 p _ _ _ _ = e
   simp -implicitDefEqProofs (maxSteps := 1000000) [Tryz.f55, Code.loopAt, Code.key, recCells, hh, hx, h5, hj0, hnum, hnum', hlt, hrl, hget?, hget, hw] at hr
   subst hr
   have hd5 : List.drop 5 x0 = [] := List.drop_eq_nil_of_le (by omega)
   simp [o1, h1, hnum, recCells, hd5]
  ·rw [if_neg hnum] at hJ
   refine ⟨i', fun p id a kr c0 c h x0 h1 h2 h5 hh hx => ?_⟩
   obtain ⟨f1, f2, f3, f4, f5, f6⟩ := a.facts
   obtain ⟨o1, o2, o3, o4, o5, o6⟩ := own_facts (p := p) 45 kr
   have hnum' : ¬ (r.num : Int) = num := by omega
   rw [hJ, hj1]
   have e := gl p id a kr c0 c (dropFrom p c0 h) x0 h1 h2 h5 (by rw [f2, hh]) (by rw [o2 _ _ h1, hx])
   rw [drop_drop_self] at e
   unfold lastFr at e ⊢
   rw [rd_55_2]
   generalize hr : execW E 55 p _ _ _ _ = e
   simp -implicitDefEqProofs (maxSteps := 1000000) [Tryz.f55, Code.loopAt, Code.key, recCells, hh, hj0, hnum, hnum', hlt, hrl, hget?, hget, hw] at hr
   subst hr
   simpa using e
theorem last_ok {e0 u dd en : A} {num : Nat} {rs : List Rec} (hn : rs.length ≤ 1099511627776) {p id : Id} (a : Apart p id) {h : Heap} (hh : h id = some [e0, u, dd, en, growing (45, 5) (recsA rs)]) :
  callW E p 55 [.ptr id 0, .int .i64 num] h = some (encRec (lastR num rs), dropFrom p 0 h) := by
 obtain ⟨f1, f2, f3, f4, f5, f6⟩ := a.facts
 obtain ⟨i', gl⟩ := last_loop (e0 := e0) (u := u) (dd := dd) (en := en) (num := num) hn rs.length (Nat.le_refl _)
 have g := fun h => gl p id a 0 1 1 h [.int .i64 0, .int .i64 0, .int .u64 0, .str [], .str []] (by omega) (Nat.le_refl _) rfl
 have hw : IntKind.i64.wrap ((rs.length : Int) - 1) = (rs.length : Int) - 1 := wrap_i64 (by omega) (by omega)
 have hrl : (recsA rs).length = rs.length := by simp [recsA]
 have hJ : lastR num rs = (lastJ num rs rs.length).getD ⟨0, 0, 0, [], []⟩ := by unfold lastR lastJ; rw [List.take_length]
 rw [hJ, eq_55]
 cases hl : lastJ num rs rs.length with
 | none =>
  rw [hl] at g
  simp only [lastFr] at g
  simp -implicitDefEqProofs (maxSteps := 1000000) [Tryz.f55, Code.hide, Code.key, hh, f1, f2, f3, f4, f5, f6, hw, hrl, g, encRec]
 | some r =>
  rw [hl] at g
  simp only [lastFr, recCells] at g
  simp -implicitDefEqProofs (maxSteps := 1000000) [Tryz.f55, Code.hide, Code.key, hh, f1, f2, f3, f4, f5, f6, hw, hrl, g, encRec]
theorem text_ok {e0 : Option Err} {u : List UInt8} {d : Int} {en num : Nat} {rs : List Rec} (hn : rs.length ≤ 1099511627776) (hsh : Short 1099511627776 rs) {p id : Id} (a : Apart p id) {h : Heap} (hh : h id = some (mrd e0 u d en rs)) :
  callW E p 31 [.ptr id 0, .int .i64 num] h = some (.str (lastR num rs).s, upd (dropFrom p 0 h) id (mrd (checkO en num e0 rs) u d en rs)) := by
 obtain ⟨f1, f2, f3, f4, f5, f6⟩ := a.facts
 have g := fun k h (hh : h id = some (mrd e0 u d en rs)) => check_ok (num := num) hn hsh (a.sub k) (h := h) hh
 have g2 := fun k h (hh : h id = some (mrd (checkO en num e0 rs) u d en rs)) => last_ok (num := num) hn (a.sub k) (h := h) hh
 simp only [encRec] at g2
 rw [eq_31]
 simp -implicitDefEqProofs (maxSteps := 1000000) [Tryz.f31, Code.hide, Code.key, hh, f1, f2, f3, f4, f5, f6, g, g2]
end Go.Ai.T

namespace Go.Ai.T
open Go Go.Proofs
set_option maxRecDepth 100000
set_option maxHeartbeats 4000000
def idxFr (ns : List Nat) (v : Nat) (r : Int) (i : Nat) : Fr := ((((bot.set 8 (.int .i64 i)).set 7 (.int .i64 ns.length)).set 4 (.int .i64 r)).set 1 (.int .i64 v)).set 0 (.slice (intsA ns) none)
theorem index_loop {ns : List Nat} (hn : ns.length ≤ 1099511627776) {v : Nat} : ∀ (rest : List Nat) (i : Nat), ns.drop i = rest → i ≤ ns.length → ∃ i' : Nat, ∀ (p : Id) (c0 c : Nat) (h : Heap),
  iterW E 130 p [0, 1, 4, 7, 8] L_130_2 c0 (idxFr ns v 0 i) c h =
   some (if rest.contains v = true then .ret else .exit 0, idxFr ns v (if rest.contains v = true then idxI v rest i else 0) i', c, dropFrom p c0 h) := by
 intro rest
 induction rest with
 | nil =>
  intro i hj hi
  refine ⟨i, fun p c0 c h => ?_⟩
  have hlt' : ¬ (i : Int) < ns.length := drop_end hj
  unfold idxFr
  rw [rd_130_2]
  generalize hr : execW E 130 p _ _ _ _ = e
  simp -implicitDefEqProofs (maxSteps := 1000000) [Tryz.f130, Code.loopAt, Code.key, hlt'] at hr
  subst hr
  simp
 | cons n rest ih =>
  intro i hj hi
  obtain ⟨hlt, hbb, hbs⟩ := drop_facts hj
  have hlt' : (i : Int) < ns.length := by omega
  have hw : IntKind.i64.wrap ((i : Int) + 1) = ((i + 1 : Nat) : Int) := by rw [wrap_i64 (by omega) (by omega)]; rfl
  have hrl : (intsA ns).length = ns.length := by simp [intsA]
  have hget? : (intsA ns)[i]? = some [.int .i64 n] := by simp [intsA, hbb]
  have hget : ∀ hl, (intsA ns)[i]'hl = [.int .i64 n] := fun hl => by rw [List.getElem?_eq_getElem hl] at hget?; exact Option.some.inj hget?
  by_cases hv : v = n
  ·refine ⟨i, fun p c0 c h => ?_⟩
   have hv' : (v : Int) = n := by omega
   have hc : (n :: rest).contains v = true := by subst hv; simp
   have e1 : idxI v (n :: rest) i = i := by rw [idxI, if_pos hv]
   rw [if_pos hc, if_pos hc, e1]
   unfold idxFr
   rw [rd_130_2]
   generalize hr : execW E 130 p _ _ _ _ = e
   simp -implicitDefEqProofs (maxSteps := 1000000) [Tryz.f130, Code.loopAt, Code.key, hlt, hlt', hrl, hget?, hget, hv] at hr
   subst hr
   simp [hv]
  ·obtain ⟨i', gl⟩ := ih (i + 1) hbs (by omega)
   refine ⟨i', fun p c0 c h => ?_⟩
   have hv' : ¬ (v : Int) = n := by omega
   have hc : (n :: rest).contains v = rest.contains v := by simp [hv]
   have e1 : idxI v (n :: rest) i = idxI v rest (i + 1) := by rw [idxI, if_neg hv]
   rw [hc, e1]
   have e := gl p c0 c (dropFrom p c0 h)
   unfold idxFr at e ⊢
   rw [rd_130_2]
   generalize hr : execW E 130 p _ _ _ _ = ee
   simp -implicitDefEqProofs (maxSteps := 1000000) [-Int.natCast_add, Tryz.f130, Code.loopAt, Code.key, hlt, hlt', hrl, hget?, hget, hv, hv', hw] at hr
   subst hr
   simpa [-Int.natCast_add, -List.contains_eq_mem] using e
theorem index_ok {ns : List Nat} (hn : ns.length ≤ 1099511627776) (v : Nat) (p : Id) (h : Heap) : callW E p 130 [.slice (intsA ns) none, .int .i64 v] h = some (.int .i64 (idxI v ns 0), dropFrom p 0 h) := by
 obtain ⟨i', gl⟩ := index_loop hn (v := v) ns 0 rfl (Nat.zero_le _)
 have hrl : (intsA ns).length = ns.length := by simp [intsA]
 have hx := idxI_nonneg v ns 0
 rw [eq_130]
 cases hc : ns.contains v with
 | true =>
  rw [hc] at gl
  simp only [idxFr, if_true, nat0] at gl
  simp -implicitDefEqProofs (maxSteps := 1000000) [Tryz.f130, Code.hide, Code.key, hrl, gl]
 | false =>
  rw [hc] at gl hx
  have : ∀ (l : List Nat) (i : Nat), l.contains v = false → idxI v l i = -1 := by
   intro l
   induction l with
   | nil => intro i _; rfl
   | cons a l ih => intro i h; simp at h; rw [idxI, if_neg h.1]; exact ih (i + 1) (by simpa using h.2)
  rw [this ns 0 hc]
  simp only [idxFr, nat0] at gl
  simp -implicitDefEqProofs (maxSteps := 1000000) [Tryz.f130, Code.hide, Code.key, hrl, gl]
theorem contains_ok {ns : List Nat} (hn : ns.length ≤ 1099511627776) (v : Nat) (p : Id) (h : Heap) : callW E p 101 [.slice (intsA ns) none, .int .i64 v] h = some (.bool (ns.contains v), dropFrom p 0 h) := by
 have g := index_ok hn v
 have hx := idxI_nonneg v ns 0
 rw [eq_101]
 by_cases h0 : 0 ≤ idxI v ns 0
 ·have hc : ns.contains v = true := by rw [← hx]; simpa using h0
  rw [hc]
  simp -implicitDefEqProofs (maxSteps := 1000000) [Tryz.f101, Code.key, g, h0]
 ·have hc : ns.contains v = false := by rw [← hx]; simpa using h0
  rw [hc]
  simp -implicitDefEqProofs (maxSteps := 1000000) [Tryz.f101, Code.key, g, h0]
def oneC (o : OneR) : List A := [.int .i64 o.num, .int .u64 o.n, .str o.s, growing (9, 1) (strsA o.all)]
def oneFr (nums : List Nat) (v4 : A) (oid : Id) (rs : List Rec) (i : Nat) : Fr := (((((bot.set 13 (.int .i64 i)).set 12 (.int .i64 rs.length)).set 11 (.slice (recsA rs) none)).set 5 (.ptr oid 0)).set 4 v4).set 1 (.slice (intsA nums) none)
theorem one_loop {nums : List Nat} (hnn : nums.length ≤ 1099511627776) {rs : List Rec} (hn : rs.length ≤ 1099511627776) :
  ∀ (rest : List Rec) (i : Nat) (o : OneR), rs.drop i = rest → i ≤ rs.length → o.all.length ≤ i → ∃ k, ∀ (p : Id) (v4 : A) (ko c0 c : Nat) (h : Heap), ko < c0 → c0 ≤ c → h (116 :: ko :: p) = some (oneC o) →
  iterW E 58 p [1, 4, 5, 11, 12, 13] L_58_3 c0 (oneFr nums v4 (116 :: ko :: p) rs i) c h =
   some (.exit 0, oneFr nums v4 (116 :: ko :: p) rs rs.length, c + k, upd (dropFrom p c0 h) (116 :: ko :: p) (oneC (rest.foldl (stepOne nums) o))) := by
 intro rest
 induction rest with
 | nil =>
  intro i o hj hi hio
  refine ⟨0, fun p v4 ko c0 c h h1 h2 hh => ?_⟩
  obtain ⟨o1, o2, o3, o4, o5, o6⟩ := own_facts (p := p) 116 ko
  have hge := drop_end hj
  have hlen : i = rs.length := by omega
  subst hlen
  have hlt' : ¬ ((rs.length : Nat) : Int) < rs.length := by omega
  unfold oneFr
  rw [rd_58_3]
  generalize hr : execW E 58 p _ _ _ _ = e
  simp -implicitDefEqProofs (maxSteps := 1000000) [Tryz.f58, Code.loopAt, Code.key, hlt'] at hr
  subst hr
  simp only [List.foldl_nil]
  rw [upd_id (h := dropFrom p c0 h) (by rw [o2 _ _ h1, hh])]
  simp
 | cons r rest ih =>
  intro i o hj hi hio
  obtain ⟨hlt, hbb, hbs⟩ := drop_facts hj
  have hlt' : (i : Int) < rs.length := by omega
  have hw : IntKind.i64.wrap ((i : Int) + 1) = ((i + 1 : Nat) : Int) := by rw [wrap_i64 (by omega) (by omega)]; rfl
  have hrl : (recsA rs).length = rs.length := by simp [recsA]
  have hget? : (recsA rs)[i]? = some (recCells r) := by simp [recsA, hbb]
  have hget : ∀ hl, (recsA rs)[i]'hl = recCells r := fun hl => by rw [List.getElem?_eq_getElem hl] at hget?; exact Option.some.inj hget?
  have g := contains_ok hnn r.num
  have hal : (strsA o.all).length = o.all.length := by simp [strsA]
  by_cases hc : nums.contains r.num = true
  ·have hm : r.num ∈ nums := by simpa using hc
   have hst : stepOne nums o r = ⟨r.num, r.n, r.s, (if r.num = o.num then o.all else []) ++ [r.s]⟩ := by unfold stepOne; rw [if_pos hc]
   obtain ⟨k, gl⟩ := ih (i + 1) (stepOne nums o r) hbs (by omega) (by rw [hst]; (repeat' split) <;> simp <;> omega)
   by_cases hnum : r.num = o.num
   ·rw [if_pos hnum] at hst
    refine ⟨2 + k, fun p v4 ko c0 c h h1 h2 hh => ?_⟩
    obtain ⟨o1, o2, o3, o4, o5, o6⟩ := own_facts (p := p) 116 ko
    have n0 : ko ≠ c := by omega
    have n1 : ko ≠ c + 1 := by omega
    have hnum' : (r.num : Int) = o.num := by omega
    have hmax : (strsA o.all).length + 1 ≤ maxStr := by unfold maxStr; omega
    have hmax2 : ((strsA o.all).length + 1) * 16 ≤ 140737488355328 := by omega
    simp only [oneC] at hh
    unfold oneFr
    rw [rd_58_3]
    generalize hr : execW E 58 p _ _ _ _ = e
    simp -implicitDefEqProofs (maxSteps := 1000000) [-Int.natCast_add, Tryz.f58, Code.loopAt, Code.key, recCells, hh, o1, o2, o3, o4, o5, o6, n0, n1, g, hc, hm, eq_true hnum, eq_true hnum', hlt, hlt', hrl, hget?, hget, hw, hmax, hmax2] at hr
    subst hr
    have hc1 : c0 ≤ c + 1 := by omega
    have e6 : A.slice (strsA o.all ++ [[.str r.s]]) (some (9, 1)) = growing (9, 1) (strsA (o.all ++ [r.s])) := by
     rw [slice_growing]; simp [strsA]
    have e := gl p v4 ko c0 (c + 2) (upd (dropFrom p c0 h) (116 :: ko :: p) (oneC (stepOne nums o r))) h1 (by omega) (by simp)
    rw [o1 _ _ _ h1, drop_drop_self, upd_upd] at e
    simp only [List.foldl_cons]
    rw [hst] at e ⊢
    unfold oneFr at e
    simp only [oneC, Nat.add_assoc] at e ⊢
    simp [-Int.natCast_add]
    rw [e6, o1 _ _ _ h1, drop_drop_cons hc1, drop_upd h2, ← hnum]
    simpa [-Int.natCast_add, Nat.add_assoc] using e
   ·rw [if_neg hnum] at hst
    refine ⟨2 + k, fun p v4 ko c0 c h h1 h2 hh => ?_⟩
    obtain ⟨o1, o2, o3, o4, o5, o6⟩ := own_facts (p := p) 116 ko
    have n0 : ko ≠ c := by omega
    have n1 : ko ≠ c + 1 := by omega
    have hnum' : ¬ (r.num : Int) = o.num := by omega
    have hmx : 1 ≤ maxStr := by unfold maxStr; omega
    simp only [oneC] at hh
    unfold oneFr
    rw [rd_58_3]
    generalize hr : execW E 58 p _ _ _ _ = e
    simp -implicitDefEqProofs (maxSteps := 1000000) [-Int.natCast_add, Tryz.f58, Code.loopAt, Code.key, recCells, hh, o1, o2, o3, o4, o5, o6, n0, n1, g, hc, hm, hnum, hnum', hlt, hlt', hrl, hget?, hget, hw, hmx] at hr
    subst hr
    have hc1 : c0 ≤ c + 1 := by omega
    have e6 : A.slice [[.str r.s]] (some (9, 1)) = growing (9, 1) (strsA ([] ++ [r.s])) := by
     rfl
    have e := gl p v4 ko c0 (c + 2) (upd (dropFrom p c0 h) (116 :: ko :: p) (oneC (stepOne nums o r))) h1 (by omega) (by simp)
    rw [o1 _ _ _ h1, drop_drop_self, upd_upd] at e
    simp only [List.foldl_cons]
    rw [hst] at e ⊢
    unfold oneFr at e
    simp only [oneC, Nat.add_assoc] at e ⊢
    simp [-Int.natCast_add]
    rw [e6, o1 _ _ _ h1, drop_drop_cons hc1, drop_upd h2]
    simpa [-Int.natCast_add, Nat.add_assoc] using e
  ·have hm : ¬ r.num ∈ nums := by simpa using hc
   have hst : stepOne nums o r = o := by unfold stepOne; rw [if_neg hc]
   have hc' : nums.contains r.num = false := by simpa using hc
   obtain ⟨k, gl⟩ := ih (i + 1) o hbs (by omega) (by omega)
   refine ⟨2 + k, fun p v4 ko c0 c h h1 h2 hh => ?_⟩
   obtain ⟨o1, o2, o3, o4, o5, o6⟩ := own_facts (p := p) 116 ko
   have hc1 : c0 ≤ c + 1 := by omega
   have e := gl p v4 ko c0 (c + 2) (dropFrom p c0 h) h1 (by omega) (by rw [o2 _ _ h1, hh])
   rw [drop_drop_self] at e
   unfold oneFr at e ⊢
   simp only [List.foldl_cons, hst]
   rw [rd_58_3]
   generalize hr : execW E 58 p _ _ _ _ = ee
   simp -implicitDefEqProofs (maxSteps := 1000000) [-Int.natCast_add, Tryz.f58, Code.loopAt, Code.key, recCells, g, hc', hm, hlt, hlt', hrl, hget?, hget, hw] at hr
   subst hr
   simp [-Int.natCast_add]
   rw [drop_drop_cons hc1, drop_upd h2]
   simpa [-Int.natCast_add, Nat.add_assoc] using e
theorem foldl_all_le {nums : List Nat} : ∀ (rs : List Rec) (o : OneR), (rs.foldl (stepOne nums) o).all.length ≤ o.all.length + rs.length
 | [], o => by simp
 | r :: rs, o => by
  have h1 := foldl_all_le (nums := nums) rs (stepOne nums o r)
  have h2 : (stepOne nums o r).all.length ≤ o.all.length + 1 := by unfold stepOne; (repeat' split) <;> simp
  simp only [List.foldl_cons, List.length_cons]; omega
def encOne (o : OneR) : A := .agg [.int .i64 o.num, .int .u64 o.n, .str o.s, .slice (strsA o.all) none]
theorem one_ok {nums : List Nat} (hnn : nums.length ≤ 1099511627776) {rs : List Rec} (hn : rs.length ≤ 1099511627776) {e0 u dd en : A} {p id : Id} (a : Apart p id) {h : Heap} (hh : h id = some [e0, u, dd, en, growing (45, 5) (recsA rs)]) :
  callW E p 58 [.ptr id 0, .slice (intsA nums) none] h = some (encOne (oneR nums rs), dropFrom p 0 h) := by
 obtain ⟨f1, f2, f3, f4, f5, f6⟩ := a.facts
 obtain ⟨k, gl⟩ := one_loop hnn hn rs 0 ⟨0, 0, [], []⟩ rfl (Nat.zero_le _) (Nat.le_refl _)
 have g := fun v4 h => gl p v4 1 2 2 h (by omega) (Nat.le_refl _)
 have hrl : (recsA rs).length = rs.length := by simp [recsA]
 have e1 : List.foldl (stepOne nums) ⟨0, 0, [], []⟩ rs = oneR nums rs := rfl
 rw [e1] at g
 simp only [oneC, strsA, List.map_nil, growing_nil, oneFr, nat0] at g
 rw [eq_58]
 simp -implicitDefEqProofs (maxSteps := 1000000) [Tryz.f58, Code.hide, Code.key, hh, f1, f2, f3, f4, f5, f6, hrl, g, encOne, strsA]
end Go.Ai.T

namespace Go.Ai.T
open Go Go.Proofs
set_option maxRecDepth 100000
set_option maxHeartbeats 4000000
theorem flatV (x : Val) : ∃ cs, encV x = cs ∧ ∃ k s b n l m i u, cs = [.int .i64 k, .str s, .bool b, .int .u64 n, .slice l none, .slice m none, .str i, .str u] := by
 cases x with
 | mk k s b n l m i u => exact ⟨_, rfl, k, s, b, n, encVs l, encKs m, i, u, by simp [encV]⟩
theorem flatK (x : KV) : ∃ cs, encK x = cs ∧ ∃ ky hs k s b n l m i u uu, cs = [.str ky, .bool hs, .int .i64 k, .str s, .bool b, .int .u64 n, .slice l none, .slice m none, .str i, .str u, .str uu] := by
 cases x with
 | mk ky hs v uu => cases v with
  | mk k s b n l m i u => exact ⟨_, rfl, ky, hs, k, s, b, n, encVs l, encKs m, i, u, uu, by simp [encK, encV]⟩
theorem partV_ok {f : Nat} {s : List UInt8} {d : Int} (hd0 : 0 ≤ d) (hd : d ≤ 9223372036854775807) {x : Val} {e1 : Option Err} (hread : ∀ (q : Id) (h : Heap), callW E q f [.str s, .int .i64 (d - 1)] h = some (.tuple [.agg (encV x), encO e1], dropFrom q 0 h))
  {e0 : Option Err} {u l : A} {en num : Nat} {p id : Id} (a : Apart p id) {h : Heap} (hh : h id = some [encO e0, u, .int .i64 d, .int .i64 en, l]) :
  callW E p 56 [.ptr id 0, .int .i64 num, .str s, .fn f []] h = some (.agg (encV x), upd (dropFrom p 0 h) id [encO (failO en num e0 e1), u, .int .i64 d, .int .i64 en, l]) := by
 obtain ⟨f1, f2, f3, f4, f5, f6⟩ := a.facts
 have hw : IntKind.i64.wrap (d - 1) = d - 1 := wrap_i64 (by omega) (by omega)
 have g := hread
 have g2 := fun k h (hh : h id = some [encO e0, u, .int .i64 d, .int .i64 en, l]) => mfails_ok (e0 := e0) (e1 := e1) (num := num) (p := k :: p) (a.sub k) (h := h) hh
 obtain ⟨cs, hcs, hst⟩ := flatV x
 rw [hcs] at g ⊢
 obtain ⟨k, s, b, n, l, m, i, u, rfl⟩ := hst
 rw [eq_56]
 simp -implicitDefEqProofs (maxSteps := 1000000) [Tryz.f56, Code.hide, Code.key, hh, f1, f2, f3, f4, f5, f6, hw, g, g2]
theorem partK_ok {f : Nat} {s : List UInt8} {d : Int} (hd0 : 0 ≤ d) (hd : d ≤ 9223372036854775807) {x : KV} {e1 : Option Err} (hread : ∀ (q : Id) (h : Heap), callW E q f [.str s, .int .i64 (d - 1)] h = some (.tuple [.agg (encK x), encO e1], dropFrom q 0 h))
  {e0 : Option Err} {u l : A} {en num : Nat} {p id : Id} (a : Apart p id) {h : Heap} (hh : h id = some [encO e0, u, .int .i64 d, .int .i64 en, l]) :
  callW E p 132 [.ptr id 0, .int .i64 num, .str s, .fn f []] h = some (.agg (encK x), upd (dropFrom p 0 h) id [encO (failO en num e0 e1), u, .int .i64 d, .int .i64 en, l]) := by
 obtain ⟨f1, f2, f3, f4, f5, f6⟩ := a.facts
 have hw : IntKind.i64.wrap (d - 1) = d - 1 := wrap_i64 (by omega) (by omega)
 have g := hread
 have g2 := fun k h (hh : h id = some [encO e0, u, .int .i64 d, .int .i64 en, l]) => mfails_ok (e0 := e0) (e1 := e1) (num := num) (p := k :: p) (a.sub k) (h := h) hh
 obtain ⟨cs, hcs, hst⟩ := flatK x
 rw [hcs] at g ⊢
 obtain ⟨ky, hs, k, s, b, n, l, m, i, u, uu, rfl⟩ := hst
 rw [eq_132]
 simp -implicitDefEqProofs (maxSteps := 1000000) [Tryz.f132, Code.hide, Code.key, hh, f1, f2, f3, f4, f5, f6, hw, g, g2]
end Go.Ai.T

namespace Go.Ai.T
open Go Go.Proofs
set_option maxRecDepth 100000
set_option maxHeartbeats 4000000
def listVFr (id : Id) (f num : Nat) (xs : List Val) (rs : List Rec) (i : Nat) : Fr := ((((((bot.set 15 (.int .i64 i)).set 14 (.int .i64 rs.length)).set 13 (.slice (recsA rs) none)).set 7 (growing (36, 8) (xs.map encV))).set 2 (.fn f [])).set 1 (.int .i64 num)).set 0 (.ptr id 0)
theorem listV_loop {f : Nat} {d : Int} {rs : List Rec} (hd0 : rs ≠ [] → 0 ≤ d) (hd : d ≤ 9223372036854775807) {rd : List UInt8 → Val × Option Err} {u l : A} {en num : Nat} (hn : rs.length ≤ 549755813888)
  (hread : ∀ r ∈ rs, ∀ (q : Id) (h : Heap), callW E q f [.str r.s, .int .i64 (d - 1)] h = some (.tuple [.agg (encV (rd r.s).1), encO (rd r.s).2], dropFrom q 0 h)) :
  ∀ (rest : List Rec) (i : Nat) (e0 : Option Err) (xs : List Val), rs.drop i = rest → i ≤ rs.length → xs.length ≤ i → ∃ k, ∀ (p id : Id) (a : Apart p id) (c0 c : Nat) (h : Heap), c0 ≤ c → h id = some [encO e0, u, .int .i64 d, .int .i64 en, l] →
  iterW E 106 p [0, 1, 2, 7, 13, 14, 15] L_106_3 c0 (listVFr id f num xs rs i) c h =
   some (.exit 0, listVFr id f num (xs ++ (listR rd en num e0 rest).1) rs rs.length, c + k, upd (dropFrom p c0 h) id [encO (listR rd en num e0 rest).2, u, .int .i64 d, .int .i64 en, l]) := by
 intro rest
 induction rest with
 | nil =>
  intro i e0 xs hj hi hx
  refine ⟨0, fun p id a c0 c h hc hh => ?_⟩
  obtain ⟨f1, f2, f3, f4, f5, f6⟩ := a.facts
  have hge := drop_end hj
  have hlen : i = rs.length := by omega
  subst hlen
  have hlt' : ¬ ((rs.length : Nat) : Int) < rs.length := by omega
  unfold listVFr
  rw [rd_106_3]
  generalize hr : execW E 106 p _ _ _ _ = e
  simp -implicitDefEqProofs (maxSteps := 1000000) [Tryz.f106, Code.loopAt, Code.key, hlt'] at hr
  subst hr
  simp only [listR, List.append_nil]
  rw [upd_id (h := dropFrom p c0 h) (by rw [f2, hh])]
  simp
 | cons r rest ih =>
  intro i e0 xs hj hi hx
  obtain ⟨hlt, hbb, hbs⟩ := drop_facts hj
  have hlt' : (i : Int) < rs.length := by omega
  have hw : IntKind.i64.wrap ((i : Int) + 1) = ((i + 1 : Nat) : Int) := by rw [wrap_i64 (by omega) (by omega)]; rfl
  have hrl : (recsA rs).length = rs.length := by simp [recsA]
  have hget? : (recsA rs)[i]? = some (recCells r) := by simp [recsA, hbb]
  have hget : ∀ hl, (recsA rs)[i]'hl = recCells r := fun hl => by rw [List.getElem?_eq_getElem hl] at hget?; exact Option.some.inj hget?
  have hl1 : (xs.map encV).length = xs.length := by simp
  have hmax : xs.length + 1 ≤ maxStr := by unfold maxStr; omega
  have hmax2 : (xs.length + 1) * 120 ≤ 140737488355328 := by omega
  by_cases hnum : r.num = num
  ·obtain ⟨k, gl⟩ := ih (i + 1) (failO en num e0 (rd r.s).2) (xs ++ [(rd r.s).1]) hbs (by omega) (by simp; omega)
   refine ⟨2 + k, fun p id a c0 c h hc hh => ?_⟩
   obtain ⟨f1, f2, f3, f4, f5, f6⟩ := a.facts
   have hnum' : (r.num : Int) = num := by omega
   have g := fun k h (hh : h id = some [encO e0, u, .int .i64 d, .int .i64 en, l]) => partV_ok (num := num) (hd0 (by intro e; rw [e] at hbb; simp at hbb)) hd (hread r (List.mem_of_getElem? hbb)) (a.sub k) (h := h) hh
   have e := gl p id a c0 (c + 2) (upd (dropFrom p c0 h) id [encO (failO en num e0 (rd r.s).2), u, .int .i64 d, .int .i64 en, l]) (by omega) (by simp)
   rw [f1, drop_drop_self, upd_upd] at e
   have hst : listR rd en num e0 (r :: rest) = ((rd r.s).1 :: (listR rd en num (failO en num e0 (rd r.s).2) rest).1, (listR rd en num (failO en num e0 (rd r.s).2) rest).2) := by rw [listR, if_pos hnum]
   rw [hst]
   unfold listVFr at e ⊢
   rw [rd_106_3]
   generalize hr : execW E 106 p _ _ _ _ = ee
   simp -implicitDefEqProofs (maxSteps := 1000000) [-Int.natCast_add, Tryz.f106, Code.loopAt, Code.key, recCells, hh, f1, f2, f3, f4, f5, f6, g, eq_true hnum, eq_true hnum', hlt, hlt', hrl, hget?, hget, hw, hmax, hmax2] at hr
   subst hr
   have e6 : A.slice (xs.map encV ++ [encV (rd r.s).1]) (some (36, 8)) = growing (36, 8) ((xs ++ [(rd r.s).1]).map encV) := by
    rw [slice_growing]; simp
   have hc1 : c0 ≤ c + 1 := by omega
   simp [-Int.natCast_add, -List.map_append]
   rw [e6, f1, drop_drop_cons hc1, drop_upd hc]
   simp only [List.append_assoc, List.singleton_append, Nat.add_assoc] at e ⊢
   simpa [-Int.natCast_add, -List.map_append] using e
  ·obtain ⟨k, gl⟩ := ih (i + 1) e0 xs hbs (by omega) (by omega)
   refine ⟨1 + k, fun p id a c0 c h hc hh => ?_⟩
   obtain ⟨f1, f2, f3, f4, f5, f6⟩ := a.facts
   have hnum' : ¬ (r.num : Int) = num := by omega
   have e := gl p id a c0 (c + 1) (dropFrom p c0 h) (by omega) (by rw [f2, hh])
   rw [drop_drop_self] at e
   have hst : listR rd en num e0 (r :: rest) = listR rd en num e0 rest := by rw [listR, if_neg hnum]
   rw [hst]
   unfold listVFr at e ⊢
   rw [rd_106_3]
   generalize hr : execW E 106 p _ _ _ _ = ee
   simp -implicitDefEqProofs (maxSteps := 1000000) [-Int.natCast_add, Tryz.f106, Code.loopAt, Code.key, recCells, hh, f1, f2, f3, f4, f5, f6, hnum, hnum', hlt, hlt', hrl, hget?, hget, hw] at hr
   subst hr
   simp [-Int.natCast_add, -List.map_append]
   rw [drop_upd hc]
   simpa [-Int.natCast_add, -List.map_append, Nat.add_assoc] using e
theorem listV_ok {f : Nat} {d : Int} {rs : List Rec} (hd0 : rs ≠ [] → 0 ≤ d) (hd : d ≤ 9223372036854775807) {rd : List UInt8 → Val × Option Err} {u : A} {en num : Nat} (hn : rs.length ≤ 549755813888)
  (hread : ∀ r ∈ rs, ∀ (q : Id) (h : Heap), callW E q f [.str r.s, .int .i64 (d - 1)] h = some (.tuple [.agg (encV (rd r.s).1), encO (rd r.s).2], dropFrom q 0 h))
  {e0 : Option Err} {p id : Id} (a : Apart p id) {h : Heap} (hh : h id = some [encO e0, u, .int .i64 d, .int .i64 en, growing (45, 5) (recsA rs)]) :
  callW E p 106 [.ptr id 0, .int .i64 num, .fn f []] h = some (.slice ((listR rd en num e0 rs).1.map encV) none, upd (dropFrom p 0 h) id [encO (listR rd en num e0 rs).2, u, .int .i64 d, .int .i64 en, growing (45, 5) (recsA rs)]) := by
 obtain ⟨f1, f2, f3, f4, f5, f6⟩ := a.facts
 obtain ⟨k, gl⟩ := listV_loop (u := u) (l := growing (45, 5) (recsA rs)) (en := en) (num := num) hd0 hd hn hread rs 0 e0 [] rfl (Nat.zero_le _) (Nat.le_refl _)
 have g := gl p id a
 have hrl : (recsA rs).length = rs.length := by simp [recsA]
 simp only [listVFr, nat0, List.map_nil, growing_nil, List.nil_append] at g
 rw [eq_106]
 simp -implicitDefEqProofs (maxSteps := 1000000) [Tryz.f106, Code.hide, Code.key, hh, f1, f2, f3, f4, f5, f6, hrl, g]
def listKFr (id : Id) (f num : Nat) (xs : List KV) (rs : List Rec) (i : Nat) : Fr := ((((((bot.set 15 (.int .i64 i)).set 14 (.int .i64 rs.length)).set 13 (.slice (recsA rs) none)).set 7 (growing (38, 11) (xs.map encK))).set 2 (.fn f [])).set 1 (.int .i64 num)).set 0 (.ptr id 0)
theorem listK_loop {f : Nat} {d : Int} {rs : List Rec} (hd0 : rs ≠ [] → 0 ≤ d) (hd : d ≤ 9223372036854775807) {rd : List UInt8 → KV × Option Err} {u l : A} {en num : Nat} (hn : rs.length ≤ 549755813888)
  (hread : ∀ r ∈ rs, ∀ (q : Id) (h : Heap), callW E q f [.str r.s, .int .i64 (d - 1)] h = some (.tuple [.agg (encK (rd r.s).1), encO (rd r.s).2], dropFrom q 0 h)) :
  ∀ (rest : List Rec) (i : Nat) (e0 : Option Err) (xs : List KV), rs.drop i = rest → i ≤ rs.length → xs.length ≤ i → ∃ k, ∀ (p id : Id) (a : Apart p id) (c0 c : Nat) (h : Heap), c0 ≤ c → h id = some [encO e0, u, .int .i64 d, .int .i64 en, l] →
  iterW E 109 p [0, 1, 2, 7, 13, 14, 15] L_109_3 c0 (listKFr id f num xs rs i) c h =
   some (.exit 0, listKFr id f num (xs ++ (listR rd en num e0 rest).1) rs rs.length, c + k, upd (dropFrom p c0 h) id [encO (listR rd en num e0 rest).2, u, .int .i64 d, .int .i64 en, l]) := by
 intro rest
 induction rest with
 | nil =>
  intro i e0 xs hj hi hx
  refine ⟨0, fun p id a c0 c h hc hh => ?_⟩
  obtain ⟨f1, f2, f3, f4, f5, f6⟩ := a.facts
  have hge := drop_end hj
  have hlen : i = rs.length := by omega
  subst hlen
  have hlt' : ¬ ((rs.length : Nat) : Int) < rs.length := by omega
  unfold listKFr
  rw [rd_109_3]
  generalize hr : execW E 109 p _ _ _ _ = e
  simp -implicitDefEqProofs (maxSteps := 1000000) [Tryz.f109, Code.loopAt, Code.key, hlt'] at hr
  subst hr
  simp only [listR, List.append_nil]
  rw [upd_id (h := dropFrom p c0 h) (by rw [f2, hh])]
  simp
 | cons r rest ih =>
  intro i e0 xs hj hi hx
  obtain ⟨hlt, hbb, hbs⟩ := drop_facts hj
  have hlt' : (i : Int) < rs.length := by omega
  have hw : IntKind.i64.wrap ((i : Int) + 1) = ((i + 1 : Nat) : Int) := by rw [wrap_i64 (by omega) (by omega)]; rfl
  have hrl : (recsA rs).length = rs.length := by simp [recsA]
  have hget? : (recsA rs)[i]? = some (recCells r) := by simp [recsA, hbb]
  have hget : ∀ hl, (recsA rs)[i]'hl = recCells r := fun hl => by rw [List.getElem?_eq_getElem hl] at hget?; exact Option.some.inj hget?
  have hl1 : (xs.map encK).length = xs.length := by simp
  have hmax : xs.length + 1 ≤ maxStr := by unfold maxStr; omega
  have hmax2 : (xs.length + 1) * 160 ≤ 140737488355328 := by omega
  by_cases hnum : r.num = num
  ·obtain ⟨k, gl⟩ := ih (i + 1) (failO en num e0 (rd r.s).2) (xs ++ [(rd r.s).1]) hbs (by omega) (by simp; omega)
   refine ⟨2 + k, fun p id a c0 c h hc hh => ?_⟩
   obtain ⟨f1, f2, f3, f4, f5, f6⟩ := a.facts
   have hnum' : (r.num : Int) = num := by omega
   have g := fun k h (hh : h id = some [encO e0, u, .int .i64 d, .int .i64 en, l]) => partK_ok (num := num) (hd0 (by intro e; rw [e] at hbb; simp at hbb)) hd (hread r (List.mem_of_getElem? hbb)) (a.sub k) (h := h) hh
   have e := gl p id a c0 (c + 2) (upd (dropFrom p c0 h) id [encO (failO en num e0 (rd r.s).2), u, .int .i64 d, .int .i64 en, l]) (by omega) (by simp)
   rw [f1, drop_drop_self, upd_upd] at e
   have hst : listR rd en num e0 (r :: rest) = ((rd r.s).1 :: (listR rd en num (failO en num e0 (rd r.s).2) rest).1, (listR rd en num (failO en num e0 (rd r.s).2) rest).2) := by rw [listR, if_pos hnum]
   rw [hst]
   unfold listKFr at e ⊢
   rw [rd_109_3]
   generalize hr : execW E 109 p _ _ _ _ = ee
   simp -implicitDefEqProofs (maxSteps := 1000000) [-Int.natCast_add, Tryz.f109, Code.loopAt, Code.key, recCells, hh, f1, f2, f3, f4, f5, f6, g, eq_true hnum, eq_true hnum', hlt, hlt', hrl, hget?, hget, hw, hmax, hmax2] at hr
   subst hr
   have e6 : A.slice (xs.map encK ++ [encK (rd r.s).1]) (some (38, 11)) = growing (38, 11) ((xs ++ [(rd r.s).1]).map encK) := by
    rw [slice_growing]; simp
   have hc1 : c0 ≤ c + 1 := by omega
   simp [-Int.natCast_add, -List.map_append]
   rw [e6, f1, drop_drop_cons hc1, drop_upd hc]
   simp only [List.append_assoc, List.singleton_append, Nat.add_assoc] at e ⊢
   simpa [-Int.natCast_add, -List.map_append] using e
  ·obtain ⟨k, gl⟩ := ih (i + 1) e0 xs hbs (by omega) (by omega)
   refine ⟨1 + k, fun p id a c0 c h hc hh => ?_⟩
   obtain ⟨f1, f2, f3, f4, f5, f6⟩ := a.facts
   have hnum' : ¬ (r.num : Int) = num := by omega
   have e := gl p id a c0 (c + 1) (dropFrom p c0 h) (by omega) (by rw [f2, hh])
   rw [drop_drop_self] at e
   have hst : listR rd en num e0 (r :: rest) = listR rd en num e0 rest := by rw [listR, if_neg hnum]
   rw [hst]
   unfold listKFr at e ⊢
   rw [rd_109_3]
   generalize hr : execW E 109 p _ _ _ _ = ee
   simp -implicitDefEqProofs (maxSteps := 1000000) [-Int.natCast_add, Tryz.f109, Code.loopAt, Code.key, recCells, hh, f1, f2, f3, f4, f5, f6, hnum, hnum', hlt, hlt', hrl, hget?, hget, hw] at hr
   subst hr
   simp [-Int.natCast_add, -List.map_append]
   rw [drop_upd hc]
   simpa [-Int.natCast_add, -List.map_append, Nat.add_assoc] using e
theorem listK_ok {f : Nat} {d : Int} {rs : List Rec} (hd0 : rs ≠ [] → 0 ≤ d) (hd : d ≤ 9223372036854775807) {rd : List UInt8 → KV × Option Err} {u : A} {en num : Nat} (hn : rs.length ≤ 549755813888)
  (hread : ∀ r ∈ rs, ∀ (q : Id) (h : Heap), callW E q f [.str r.s, .int .i64 (d - 1)] h = some (.tuple [.agg (encK (rd r.s).1), encO (rd r.s).2], dropFrom q 0 h))
  {e0 : Option Err} {p id : Id} (a : Apart p id) {h : Heap} (hh : h id = some [encO e0, u, .int .i64 d, .int .i64 en, growing (45, 5) (recsA rs)]) :
  callW E p 109 [.ptr id 0, .int .i64 num, .fn f []] h = some (.slice ((listR rd en num e0 rs).1.map encK) none, upd (dropFrom p 0 h) id [encO (listR rd en num e0 rs).2, u, .int .i64 d, .int .i64 en, growing (45, 5) (recsA rs)]) := by
 obtain ⟨f1, f2, f3, f4, f5, f6⟩ := a.facts
 obtain ⟨k, gl⟩ := listK_loop (u := u) (l := growing (45, 5) (recsA rs)) (en := en) (num := num) hd0 hd hn hread rs 0 e0 [] rfl (Nat.zero_le _) (Nat.le_refl _)
 have g := gl p id a
 have hrl : (recsA rs).length = rs.length := by simp [recsA]
 simp only [listKFr, nat0, List.map_nil, growing_nil, List.nil_append] at g
 rw [eq_109]
 simp -implicitDefEqProofs (maxSteps := 1000000) [Tryz.f109, Code.hide, Code.key, hh, f1, f2, f3, f4, f5, f6, hrl, g]
end Go.Ai.T

namespace Go.Ai.T
open Go Go.Proofs
set_option maxRecDepth 100000
set_option maxHeartbeats 4000000
theorem lone_ok (p : Id) (h : Heap) (a b : Nat) : callW E p 105 [.int .i64 a, .int .i64 b] h = some (.bool (loneT a b), dropFrom p 0 h) := by
 rw [eq_105]
 by_cases h1 : a = 1
 ·by_cases h2 : b = 2
  ·subst h1 h2
   simp -implicitDefEqProofs (maxSteps := 1000000) [Tryz.f105, Code.key, nl1, nl2, loneT]
  ·have h2' : ¬ (b : Int) = 2 := by omega
   subst h1
   simp -implicitDefEqProofs (maxSteps := 1000000) [Tryz.f105, Code.key, nl1, nl2, loneT, h2, h2']
 ·have h1' : ¬ (a : Int) = 1 := by omega
  simp -implicitDefEqProofs (maxSteps := 1000000) [Tryz.f105, Code.key, nl1, nl2, loneT, h1, h1']
theorem takesKey_ok (p : Id) (h : Heap) (a b : Nat) : callW E p 30 [.int .i64 a, .int .i64 b] h = some (.bool (takesK a b), dropFrom p 0 h) := by
 rw [eq_30]
 by_cases h1 : a = 1
 ·by_cases h2 : b = 2
  ·subst h1 h2
   simp -implicitDefEqProofs (maxSteps := 1000000) [Tryz.f30, Code.key, nl1, nl2, takesK]
  ·have h2' : ¬ (b : Int) = 2 := by omega
   subst h1
   simp -implicitDefEqProofs (maxSteps := 1000000) [Tryz.f30, Code.key, nl1, nl2, takesK, h2, h2']
 ·have h1' : ¬ (a : Int) = 1 := by omega
  by_cases h3 : a = 2
  ·by_cases h2 : b = 2
   ·subst h3 h2
    simp -implicitDefEqProofs (maxSteps := 1000000) [Tryz.f30, Code.key, nl1, nl2, takesK]
   ·have h2' : ¬ (b : Int) = 2 := by omega
    subst h3
    simp -implicitDefEqProofs (maxSteps := 1000000) [Tryz.f30, Code.key, nl1, nl2, takesK, h2, h2']
  ·have h3' : ¬ (a : Int) = 2 := by omega
   simp -implicitDefEqProofs (maxSteps := 1000000) [Tryz.f30, Code.key, takesK, h1, h1', h3, h3']
theorem takes_ok (p : Id) (h : Heap) (a b : Nat) : callW E p 57 [.int .i64 a, .int .i64 b] h = some (.bool (takesV a b), dropFrom p 0 h) := by
 rw [eq_57]
 have nl6 : ((6 : Nat) : Int) = 6 := rfl
 have nl7 : ((7 : Nat) : Int) = 7 := rfl
 have b0 : ((b : Int) = 0) = (b = 0) := propext (by omega)
 have b1 : ((b : Int) = 1) = (b = 1) := propext (by omega)
 have b2 : ((b : Int) = 2) = (b = 2) := propext (by omega)
 have hb : ∀ n : Nat, (b == n) = decide (b = n) := fun n => rfl
 rcases Nat.lt_or_ge a 8 with h8 | h8
 ·match a, h8 with
  | 0, _ => simp -implicitDefEqProofs (maxSteps := 1000000) [Tryz.f57, Code.key, nat0, takesV]
  | 1, _ => simp -implicitDefEqProofs (maxSteps := 1000000) [Tryz.f57, Code.key, nl1, takesV, b0, b1, b2, hb]
  | 2, _ => simp -implicitDefEqProofs (maxSteps := 1000000) [Tryz.f57, Code.key, nl2, takesV, b0, b1, b2, hb]
  | 3, _ => simp -implicitDefEqProofs (maxSteps := 1000000) [Tryz.f57, Code.key, nl3, takesV, b0, b1, b2, hb]
  | 4, _ => simp -implicitDefEqProofs (maxSteps := 1000000) [Tryz.f57, Code.key, nl4, takesV, b0, b1, b2, hb]
  | 5, _ => simp -implicitDefEqProofs (maxSteps := 1000000) [Tryz.f57, Code.key, nl5, takesV, b0, b1, b2, hb]
  | 6, _ => simp -implicitDefEqProofs (maxSteps := 1000000) [Tryz.f57, Code.key, nl6, takesV, b0, b1, b2, hb]
  | 7, _ => simp -implicitDefEqProofs (maxSteps := 1000000) [Tryz.f57, Code.key, nl7, takesV, b0, b1, b2, hb]
  | n + 8, h => omega
 ·have e : takesV a b = false := by
   unfold takesV
   split <;> first | omega | rfl
  have c1 : ¬ (a : Int) = 1 := by omega
  have c2 : ¬ (a : Int) = 2 := by omega
  have c3 : ¬ (a : Int) = 3 := by omega
  have c4 : ¬ (a : Int) = 4 := by omega
  have c5 : ¬ (a : Int) = 5 := by omega
  have c6 : ¬ (a : Int) = 6 := by omega
  have c7 : ¬ (a : Int) = 7 := by omega
  have d1 : ¬ a = 1 := by omega
  have d2 : ¬ a = 2 := by omega
  have d3 : ¬ a = 3 := by omega
  have d4 : ¬ a = 4 := by omega
  have d5 : ¬ a = 5 := by omega
  have d6 : ¬ a = 6 := by omega
  have d7 : ¬ a = 7 := by omega
  simp -implicitDefEqProofs (maxSteps := 1000000) [Tryz.f57, Code.key, e, c1, c2, c3, c4, c5, c6, c7, d1, d2, d3, d4, d5, d6, d7]
theorem Apart.own2 {p : Id} {t i j k : Nat} (h : j ≠ k) : Apart (k :: p) (t :: i :: j :: p) := by
 unfold Apart
 have h1 : underB (k :: p) 0 (i :: j :: p) = false := by simp [h]
 have h2 : ¬ (i :: j :: p) = k :: p := fun e => by have := congrArg List.length e; simp at this
 rw [underB, h1]; simp [h2]
theorem under2 {p : Id} {t i j : Nat} : underB p 0 (t :: i :: j :: p) = true := underB_of_suffix (k := j) (Nat.zero_le _) ((List.suffix_cons _ _).trans (List.suffix_cons _ _))
theorem drop_upd_under {p id : Id} {h : Heap} {cs : List A} (hu : underB p 0 id = true) : dropFrom p 0 (upd h id cs) = dropFrom p 0 h := by
 funext i
 simp only [dropFrom, upd]
 by_cases e : i = id
 ·subst e; simp [hu]
 ·simp [e]
theorem readE_facts {s : List UInt8} {d : Int} {t : Nat → Nat → Bool} : (readE s d t).recs.length ≤ s.length ∧ Short s.length (readE s d t).recs ∧ ((readE s d t).recs ≠ [] → 0 ≤ d) ∧ (readE s d t).unk.length ≤ s.length := by
 unfold readE
 by_cases h0 : d < 0
 ·rw [if_pos h0]; exact ⟨by simp, (fun x hx => by cases hx), (fun h => absurd rfl h), by simp⟩
 ·rw [if_neg h0]
  cases hv : allE s d 0 with
  | error e => exact ⟨by simp, (fun x hx => by cases hx), (fun h => absurd rfl h), by simp⟩
  | ok rs =>
   have h1 := allE_raw 0 (Nat.zero_le _) rs hv
   have h2 := allE_short 0 (Nat.zero_le _) rs hv
   have h3 : (takenR t rs).length ≤ rs.length := List.length_filter_le _ _
   have h4 := unkR_len t rs
   refine ⟨by dsimp only; omega, fun x hx => h2 x (List.mem_filter.1 hx).1, fun _ => by omega, by dsimp only; omega⟩
theorem listsV1_ok {f : Nat} {s : List UInt8} (hb : s.length ≤ 549755813888) {d : Int} (hd : d ≤ 9223372036854775807) {rd : List UInt8 → Val × Option Err}
  (hread : ∀ t : List UInt8, t.length ≤ s.length → 0 ≤ d → ∀ (q : Id) (h : Heap), callW E q f [.str t, .int .i64 (d - 1)] h = some (.tuple [.agg (encV (rd t).1), encO (rd t).2], dropFrom q 0 h)) {p cid : Id} (a : Apart p cid) {h : Heap} (hc : h cid = some [.fn f []]) :
  callW E p 104 [.str s, .int .i64 d, .ptr cid 0] h = some (.tuple [.agg [.slice ((someR rd s d).1.1.map encV) none, .str (someR rd s d).1.2], encO (someR rd s d).2], dropFrom p 0 h) := by
 obtain ⟨hf1, hf2, hf3, hf4⟩ := readE_facts (s := s) (d := d) (t := loneT)
 obtain ⟨H, g, gH, gD⟩ := mread_ok (s := s) (by omega) hd (t := loneT) lone_ok (1 :: p) (upd h (119 :: 0 :: p) [.nils, .str []])
 obtain ⟨f1, f2, f3, f4, f5, f6⟩ := a.facts
 have hr : ∀ r ∈ (readE s d loneT).recs, ∀ (q : Id) (h : Heap), callW E q f [.str r.s, .int .i64 (d - 1)] h = some (.tuple [.agg (encV (rd r.s).1), encO (rd r.s).2], dropFrom q 0 h) :=
  fun r hr => hread r.s (hf2 r hr) (hf3 (List.ne_nil_of_mem hr))
 have g2 := fun k (hk : 1 ≠ k) h hh => listV_ok (num := 1) hf3 hd (by omega) hr (e0 := (readE s d loneT).err) (u := .str (readE s d loneT).unk) (en := s.length) (p := k :: p) (id := 84 :: 0 :: 1 :: p) (Apart.own2 hk) (h := h) hh
 have gc : H cid = some [.fn f []] := by
  have e1 := congrFun gD cid
  rw [drop_other ((a.sub 1).at_ 0), drop_other ((a.sub 1).at_ 0), f5, hc] at e1
  exact e1
 have gr : H (119 :: 0 :: p) = some [.nils, .str []] := by
  have e1 := congrFun gD (119 :: 0 :: p)
  simpa using e1
 have gD' : dropFrom p 0 H = dropFrom p 0 h := by
  have e1 := congrArg (dropFrom p 0) gD
  simpa using e1
 have ne1 : ¬ (119 :: 0 :: p) = (84 :: 0 :: 1 :: p) := fun e => by have := congrArg List.length e; simp at this
 have ux : ∀ (h : Heap) (cs : List A), upd h (84 :: 0 :: 1 :: p) cs (119 :: 0 :: p) = h (119 :: 0 :: p) := fun h cs => by simp only [upd, if_neg ne1]
 have ux2 : ∀ (h : Heap) (cs : List A), upd h (119 :: 0 :: p) cs (84 :: 0 :: 1 :: p) = h (84 :: 0 :: 1 :: p) := fun h cs => by simp only [upd, if_neg (Ne.symm ne1)]
 simp only [mrdM, mrd, someR, nl1] at gH g2 ⊢
 rw [eq_104]
 simp -implicitDefEqProofs (maxSteps := 1000000) [Tryz.f104, Code.hide, Code.key, g, gH, gc, gr, ux, ux2, g2, drop_upd_under, under2, gD', encO_weak, encO_weak1]
theorem listsK1_ok {f : Nat} {s : List UInt8} (hb : s.length ≤ 549755813888) {d : Int} (hd : d ≤ 9223372036854775807) {rd : List UInt8 → KV × Option Err}
  (hread : ∀ t : List UInt8, t.length ≤ s.length → 0 ≤ d → ∀ (q : Id) (h : Heap), callW E q f [.str t, .int .i64 (d - 1)] h = some (.tuple [.agg (encK (rd t).1), encO (rd t).2], dropFrom q 0 h)) {p cid : Id} (a : Apart p cid) {h : Heap} (hc : h cid = some [.fn f []]) :
  callW E p 108 [.str s, .int .i64 d, .ptr cid 0] h = some (.tuple [.agg [.slice ((someR rd s d).1.1.map encK) none, .str (someR rd s d).1.2], encO (someR rd s d).2], dropFrom p 0 h) := by
 obtain ⟨hf1, hf2, hf3, hf4⟩ := readE_facts (s := s) (d := d) (t := loneT)
 obtain ⟨H, g, gH, gD⟩ := mread_ok (s := s) (by omega) hd (t := loneT) lone_ok (1 :: p) (upd h (124 :: 0 :: p) [.nils, .str []])
 obtain ⟨f1, f2, f3, f4, f5, f6⟩ := a.facts
 have hr : ∀ r ∈ (readE s d loneT).recs, ∀ (q : Id) (h : Heap), callW E q f [.str r.s, .int .i64 (d - 1)] h = some (.tuple [.agg (encK (rd r.s).1), encO (rd r.s).2], dropFrom q 0 h) :=
  fun r hr => hread r.s (hf2 r hr) (hf3 (List.ne_nil_of_mem hr))
 have g2 := fun k (hk : 1 ≠ k) h hh => listK_ok (num := 1) hf3 hd (by omega) hr (e0 := (readE s d loneT).err) (u := .str (readE s d loneT).unk) (en := s.length) (p := k :: p) (id := 84 :: 0 :: 1 :: p) (Apart.own2 hk) (h := h) hh
 have gc : H cid = some [.fn f []] := by
  have e1 := congrFun gD cid
  rw [drop_other ((a.sub 1).at_ 0), drop_other ((a.sub 1).at_ 0), f5, hc] at e1
  exact e1
 have gr : H (124 :: 0 :: p) = some [.nils, .str []] := by
  have e1 := congrFun gD (124 :: 0 :: p)
  simpa using e1
 have gD' : dropFrom p 0 H = dropFrom p 0 h := by
  have e1 := congrArg (dropFrom p 0) gD
  simpa using e1
 have ne1 : ¬ (124 :: 0 :: p) = (84 :: 0 :: 1 :: p) := fun e => by have := congrArg List.length e; simp at this
 have ux : ∀ (h : Heap) (cs : List A), upd h (84 :: 0 :: 1 :: p) cs (124 :: 0 :: p) = h (124 :: 0 :: p) := fun h cs => by simp only [upd, if_neg ne1]
 have ux2 : ∀ (h : Heap) (cs : List A), upd h (124 :: 0 :: p) cs (84 :: 0 :: 1 :: p) = h (84 :: 0 :: 1 :: p) := fun h cs => by simp only [upd, if_neg (Ne.symm ne1)]
 simp only [mrdM, mrd, someR, nl1] at gH g2 ⊢
 rw [eq_108]
 simp -implicitDefEqProofs (maxSteps := 1000000) [Tryz.f108, Code.hide, Code.key, g, gH, gc, gr, ux, ux2, g2, drop_upd_under, under2, gD', encO_weak, encO_weak1]
end Go.Ai.T

namespace Go.Ai.T
open Go Go.Proofs
set_option maxRecDepth 100000
set_option maxHeartbeats 4000000
theorem strsOf_ok (ss : List (List UInt8)) : strsOf (strsA ss) = some ss := by
 induction ss with
 | nil => rfl
 | cons s ss ih => simp only [strsA, List.map_cons] at *; simp [strsOf, ih]
theorem join_nil (ss : List (List UInt8)) : Lib.join ss [] = ss.flatten := by
 cases ss with
 | nil => rfl
 | cons s ss => rw [Lib.join_cons]; simp [Lib.joinTail]
theorem join_ok {ss : List (List UInt8)} (h1 : ss.length ≤ 140737488355328) (h2 : ss.flatten.length ≤ 140737488355328) {own : Option (Nat × Nat)} (p : Id) (h : Heap) : callW E p 103 [.slice (strsA ss) own, .str []] h = some (.str ss.flatten, h) := by
 rw [callW_prim (g := stringsJoin) rfl]
 simp [stringsJoin, strsOf_ok, join_nil, h1]
 simpa using h2
theorem listsV_ok {f : Nat} (p : Id) (h : Heap) : callW E p 60 [.fn f []] h = some (.fn 104 [.ptr (87 :: 0 :: p) 0], upd h (87 :: 0 :: p) [.fn f []]) := by
 rw [eq_60]
 simp -implicitDefEqProofs (maxSteps := 1000000) [Tryz.f60, Code.hide, Code.key]
 rfl
theorem partSV_ok {fc : Nat} {s : List UInt8} {d : Int} (hd0 : 0 ≤ d) (hd : d ≤ 9223372036854775807) {xs : List (List A)} {rest : List UInt8} {e1 : Option Err} {cid : Id} {C : List A} (hread : ∀ (q : Id) (h : Heap), Apart q cid → h cid = some C → callW E q fc [.str s, .int .i64 (d - 1), .ptr cid 0] h = some (.tuple [.agg [.slice xs none, .str rest], encO e1], dropFrom q 0 h))
  {e0 : Option Err} {u l : A} {en num : Nat} {p id : Id} (a : Apart p id) (b : Apart p cid) {h : Heap} (hh : h id = some [encO e0, u, .int .i64 d, .int .i64 en, l]) (hc : h cid = some C) :
  callW E p 102 [.ptr id 0, .int .i64 num, .str s, .fn fc [.ptr cid 0]] h = some (.agg [.slice xs none, .str rest], upd (dropFrom p 0 h) id [encO (failO en num e0 e1), u, .int .i64 d, .int .i64 en, l]) := by
 obtain ⟨f1, f2, f3, f4, f5, f6⟩ := a.facts
 obtain ⟨x1, x2, x3, x4, x5, x6⟩ := b.facts
 have hw : IntKind.i64.wrap (d - 1) = d - 1 := wrap_i64 (by omega) (by omega)
 have g := fun k h hc => hread (k :: p) h (b.sub k) hc
 have g2 := fun k h (hh : h id = some [encO e0, u, .int .i64 d, .int .i64 en, l]) => mfails_ok (e0 := e0) (e1 := e1) (num := num) (p := k :: p) (a.sub k) (h := h) hh
 rw [eq_102]
 simp -implicitDefEqProofs (maxSteps := 1000000) [Tryz.f102, Code.hide, Code.key, hh, hc, f1, f2, f3, f4, f5, f6, x2, x4, x5, hw, g, g2]
theorem listsK_ok {f : Nat} (p : Id) (h : Heap) : callW E p 62 [.fn f []] h = some (.fn 108 [.ptr (49 :: 0 :: p) 0], upd h (49 :: 0 :: p) [.fn f []]) := by
 rw [eq_62]
 simp -implicitDefEqProofs (maxSteps := 1000000) [Tryz.f62, Code.hide, Code.key]
 rfl
theorem partSK_ok {fc : Nat} {s : List UInt8} {d : Int} (hd0 : 0 ≤ d) (hd : d ≤ 9223372036854775807) {xs : List (List A)} {rest : List UInt8} {e1 : Option Err} {cid : Id} {C : List A} (hread : ∀ (q : Id) (h : Heap), Apart q cid → h cid = some C → callW E q fc [.str s, .int .i64 (d - 1), .ptr cid 0] h = some (.tuple [.agg [.slice xs none, .str rest], encO e1], dropFrom q 0 h))
  {e0 : Option Err} {u l : A} {en num : Nat} {p id : Id} (a : Apart p id) (b : Apart p cid) {h : Heap} (hh : h id = some [encO e0, u, .int .i64 d, .int .i64 en, l]) (hc : h cid = some C) :
  callW E p 107 [.ptr id 0, .int .i64 num, .str s, .fn fc [.ptr cid 0]] h = some (.agg [.slice xs none, .str rest], upd (dropFrom p 0 h) id [encO (failO en num e0 e1), u, .int .i64 d, .int .i64 en, l]) := by
 obtain ⟨f1, f2, f3, f4, f5, f6⟩ := a.facts
 obtain ⟨x1, x2, x3, x4, x5, x6⟩ := b.facts
 have hw : IntKind.i64.wrap (d - 1) = d - 1 := wrap_i64 (by omega) (by omega)
 have g := fun k h hc => hread (k :: p) h (b.sub k) hc
 have g2 := fun k h (hh : h id = some [encO e0, u, .int .i64 d, .int .i64 en, l]) => mfails_ok (e0 := e0) (e1 := e1) (num := num) (p := k :: p) (a.sub k) (h := h) hh
 rw [eq_107]
 simp -implicitDefEqProofs (maxSteps := 1000000) [Tryz.f107, Code.hide, Code.key, hh, hc, f1, f2, f3, f4, f5, f6, x2, x4, x5, hw, g, g2]
theorem innerSV_ok {fc : Nat} {d : Int} (hd0 : 0 ≤ d) (hd : d ≤ 9223372036854775807) {o : OneR} (h1 : o.all.length ≤ 140737488355328) (h2 : o.all.flatten.length ≤ 140737488355328) {xs : List (List A)} {rest : List UInt8} {e1 : Option Err} {cid : Id} {C : List A} (hread : ∀ (q : Id) (h : Heap), Apart q cid → h cid = some C → callW E q fc [.str o.all.flatten, .int .i64 (d - 1), .ptr cid 0] h = some (.tuple [.agg [.slice xs none, .str rest], encO e1], dropFrom q 0 h))
  {e0 : Option Err} {u l : A} {en : Nat} {p id : Id} (a : Apart p id) (b : Apart p cid) {h : Heap} (hh : h id = some [encO e0, u, .int .i64 d, .int .i64 en, l]) (hc : h cid = some C) :
  callW E p 59 [.ptr id 0, encOne o, .fn fc [.ptr cid 0]] h = some (.agg [.slice xs none, .str rest], upd (dropFrom p 0 h) id [encO (failO en o.num e0 e1), u, .int .i64 d, .int .i64 en, l]) := by
 obtain ⟨f1, f2, f3, f4, f5, f6⟩ := a.facts
 obtain ⟨x1, x2, x3, x4, x5, x6⟩ := b.facts
 have g := fun k h (hh : h id = some [encO e0, u, .int .i64 d, .int .i64 en, l]) hc => partSV_ok (num := o.num) hd0 hd hread (p := k :: p) (a.sub k) (b.sub k) (h := h) hh hc
 have g2 := fun p h => join_ok h1 h2 (own := none) p h
 simp only [encOne]
 rw [eq_59]
 simp -implicitDefEqProofs (maxSteps := 1000000) [Tryz.f59, Code.hide, Code.key, hh, hc, f1, f2, f3, f4, f5, f6, x2, x4, x5, g, g2]
theorem innerSK_ok {fc : Nat} {d : Int} (hd0 : 0 ≤ d) (hd : d ≤ 9223372036854775807) {o : OneR} (h1 : o.all.length ≤ 140737488355328) (h2 : o.all.flatten.length ≤ 140737488355328) {xs : List (List A)} {rest : List UInt8} {e1 : Option Err} {cid : Id} {C : List A} (hread : ∀ (q : Id) (h : Heap), Apart q cid → h cid = some C → callW E q fc [.str o.all.flatten, .int .i64 (d - 1), .ptr cid 0] h = some (.tuple [.agg [.slice xs none, .str rest], encO e1], dropFrom q 0 h))
  {e0 : Option Err} {u l : A} {en : Nat} {p id : Id} (a : Apart p id) (b : Apart p cid) {h : Heap} (hh : h id = some [encO e0, u, .int .i64 d, .int .i64 en, l]) (hc : h cid = some C) :
  callW E p 61 [.ptr id 0, encOne o, .fn fc [.ptr cid 0]] h = some (.agg [.slice xs none, .str rest], upd (dropFrom p 0 h) id [encO (failO en o.num e0 e1), u, .int .i64 d, .int .i64 en, l]) := by
 obtain ⟨f1, f2, f3, f4, f5, f6⟩ := a.facts
 obtain ⟨x1, x2, x3, x4, x5, x6⟩ := b.facts
 have g := fun k h (hh : h id = some [encO e0, u, .int .i64 d, .int .i64 en, l]) hc => partSK_ok (num := o.num) hd0 hd hread (p := k :: p) (a.sub k) (b.sub k) (h := h) hh hc
 have g2 := fun p h => join_ok h1 h2 (own := none) p h
 simp only [encOne]
 rw [eq_61]
 simp -implicitDefEqProofs (maxSteps := 1000000) [Tryz.f61, Code.hide, Code.key, hh, hc, f1, f2, f3, f4, f5, f6, x2, x4, x5, g, g2]
end Go.Ai.T

namespace Go.Ai.T
open Go Go.Proofs
set_option maxRecDepth 100000
set_option maxHeartbeats 4000000
def flatX (o : OneR) (unk : List UInt8) : Val :=
 if o.num = 1 ∨ o.num = 7 then .mk o.num o.s false 0 [] [] [] unk
 else if o.num = 2 then .mk 2 [] (decide (0 < o.n)) 0 [] [] [] unk
 else if o.num = 3 ∨ o.num = 4 then .mk o.num [] false o.n [] [] [] unk
 else .mk o.num [] false 0 [] [] [] unk
theorem unm_flat {s : List UInt8} (hb : s.length ≤ 549755813888) {d : Int} (hd : d ≤ 9223372036854775807) (p : Id) (h : Heap) (e1 : Option Err) (he1 : e1 = checkO s.length 1 (readE s d takesV).err (readE s d takesV).recs) (o : OneR) (hgo : oneR [1, 2, 3, 4, 5, 6, 7] (readE s d takesV).recs = o) (h5 : o.num ≠ 5) (h6 : o.num ≠ 6) :
  callW E p 33 [.str s, .int .i64 d] h = some (.tuple [.agg (encV (orNone val0 (flatX o (readE s d takesV).unk, e1)).1), encO (orNone val0 (flatX o (readE s d takesV).unk, e1)).2], dropFrom p 0 h) := by
 obtain ⟨hf1, hf2, hf3, hf4⟩ := readE_facts (s := s) (d := d) (t := takesV)
 obtain ⟨H, g, gH, gD⟩ := mread_ok (s := s) (by omega) hd (t := takesV) takes_ok (1 :: p) (upd h (36 :: 0 :: p) zV)
 have hsh : Short 1099511627776 (readE s d takesV).recs := fun r hr => Nat.le_trans (hf2 r hr) (by omega)
 have g2 := fun k (hk : 1 ≠ k) h hh => check_ok (num := 1) (e0 := (readE s d takesV).err) (u := (readE s d takesV).unk) (d := d) (en := s.length) (by omega) hsh (p := k :: p) (id := 84 :: 0 :: 1 :: p) (Apart.own2 hk) (h := h) hh
 have g3 := fun k (hk : 1 ≠ k) h hh => one_ok (nums := [1, 2, 3, 4, 5, 6, 7]) (by simp) (rs := (readE s d takesV).recs) (by omega) (e0 := encO e1) (u := .str (readE s d takesV).unk) (dd := .int .i64 d) (en := .int .i64 s.length) (p := k :: p) (id := 84 :: 0 :: 1 :: p) (Apart.own2 hk) (h := h) hh
 have gr : H (36 :: 0 :: p) = some zV := by
  have e1 := congrFun gD (36 :: 0 :: p)
  simpa using e1
 have gD' : dropFrom p 0 H = dropFrom p 0 h := by
  have e1 := congrArg (dropFrom p 0) gD
  simpa using e1
 have ne1 : ∀ t k, ¬ (t :: k :: p) = (84 :: 0 :: 1 :: p) := fun t k e => by have := congrArg List.length e; simp at this
 have ux : ∀ (h : Heap) (cs : List A) (t k : Nat), upd h (84 :: 0 :: 1 :: p) cs (t :: k :: p) = h (t :: k :: p) := fun h cs t k => by simp only [upd, if_neg (ne1 t k)]
 have ux2 : ∀ (h : Heap) (cs : List A) (t k : Nat), upd h (t :: k :: p) cs (84 :: 0 :: 1 :: p) = h (84 :: 0 :: 1 :: p) := fun h cs t k => by simp only [upd, if_neg (Ne.symm (ne1 t k))]
 have udr : ∀ (k : Nat) (h : Heap), 1 ≠ k → dropFrom (k :: p) 0 h (84 :: 0 :: 1 :: p) = h (84 :: 0 :: 1 :: p) := fun k h hk => drop_other ((Apart.own2 hk).at_ 0)
 rw [← he1] at g2
 rw [hgo] at g3
 have nl6 : ((6 : Nat) : Int) = 6 := rfl
 have nl7 : ((7 : Nat) : Int) = 7 := rfl
 by_cases k1 : o.num = 1
 ·have hX : flatX o (readE s d takesV).unk = .mk 1 o.s false 0 [] [] [] (readE s d takesV).unk := by simp [flatX, k1]
  have ci : (o.num : Int) = 1 := by omega
  rw [hX]
  simp only [mrdM, mrd, encOne, intsA, List.map_cons, List.map_nil, nl1, nl2, nl3, nl4, nl5, nl6, nl7, zV, val0, encV, encVs, encKs] at g gH g2 g3 gr ⊢
  rw [eq_33]
  cases e1 with
  | none =>
   simp only [encO_none, orNone] at *
   simp -implicitDefEqProofs (maxSteps := 1000000) [Tryz.f33, Code.hide, Code.key, g, gH, gr, ux, ux2, udr, g2, g3, ci, k1, drop_upd_under, under2, gD', encV, encVs, encKs]
  | some e =>
   simp only [encO_some, orNone] at *
   simp -implicitDefEqProofs (maxSteps := 1000000) [Tryz.f33, Code.hide, Code.key, g, gH, gr, ux, ux2, udr, g2, g3, ci, k1, drop_upd_under, under2, gD', encV, encVs, encKs]
 by_cases k7 : o.num = 7
 ·have hX : flatX o (readE s d takesV).unk = .mk 7 o.s false 0 [] [] [] (readE s d takesV).unk := by simp [flatX, k7]
  have ci : (o.num : Int) = 7 := by omega
  rw [hX]
  simp only [mrdM, mrd, encOne, intsA, List.map_cons, List.map_nil, nl1, nl2, nl3, nl4, nl5, nl6, nl7, zV, val0, encV, encVs, encKs] at g gH g2 g3 gr ⊢
  rw [eq_33]
  cases e1 with
  | none =>
   simp only [encO_none, orNone] at *
   simp -implicitDefEqProofs (maxSteps := 1000000) [Tryz.f33, Code.hide, Code.key, g, gH, gr, ux, ux2, udr, g2, g3, ci, k7, drop_upd_under, under2, gD', encV, encVs, encKs]
  | some e =>
   simp only [encO_some, orNone] at *
   simp -implicitDefEqProofs (maxSteps := 1000000) [Tryz.f33, Code.hide, Code.key, g, gH, gr, ux, ux2, udr, g2, g3, ci, k7, drop_upd_under, under2, gD', encV, encVs, encKs]
 by_cases k2 : o.num = 2
 ·have hX : flatX o (readE s d takesV).unk = .mk 2 [] (decide (0 < o.n)) 0 [] [] [] (readE s d takesV).unk := by simp [flatX, k2]
  have ci : (o.num : Int) = 2 := by omega
  by_cases hp : (0 : Int) < o.n
  ·have hp2 : 0 < o.n := by omega
   rw [hX]
   simp only [mrdM, mrd, encOne, intsA, List.map_cons, List.map_nil, nl1, nl2, nl3, nl4, nl5, nl6, nl7, zV, val0, encV, encVs, encKs] at g gH g2 g3 gr ⊢
   rw [eq_33]
   cases e1 with
   | none =>
    simp only [encO_none, orNone] at *
    simp -implicitDefEqProofs (maxSteps := 1000000) [Tryz.f33, Code.hide, Code.key, g, gH, gr, ux, ux2, udr, g2, g3, ci, k2, hp, hp2, drop_upd_under, under2, gD', encV, encVs, encKs]
   | some e =>
    simp only [encO_some, orNone] at *
    simp -implicitDefEqProofs (maxSteps := 1000000) [Tryz.f33, Code.hide, Code.key, g, gH, gr, ux, ux2, udr, g2, g3, ci, k2, hp, hp2, drop_upd_under, under2, gD', encV, encVs, encKs]
  ·have hp2 : ¬ 0 < o.n := by omega
   rw [hX]
   simp only [mrdM, mrd, encOne, intsA, List.map_cons, List.map_nil, nl1, nl2, nl3, nl4, nl5, nl6, nl7, zV, val0, encV, encVs, encKs] at g gH g2 g3 gr ⊢
   rw [eq_33]
   cases e1 with
   | none =>
    simp only [encO_none, orNone] at *
    simp -implicitDefEqProofs (maxSteps := 1000000) [Tryz.f33, Code.hide, Code.key, g, gH, gr, ux, ux2, udr, g2, g3, ci, k2, hp, hp2, drop_upd_under, under2, gD', encV, encVs, encKs]
   | some e =>
    simp only [encO_some, orNone] at *
    simp -implicitDefEqProofs (maxSteps := 1000000) [Tryz.f33, Code.hide, Code.key, g, gH, gr, ux, ux2, udr, g2, g3, ci, k2, hp, hp2, drop_upd_under, under2, gD', encV, encVs, encKs]
 by_cases k3 : o.num = 3
 ·have hX : flatX o (readE s d takesV).unk = .mk 3 [] false o.n [] [] [] (readE s d takesV).unk := by simp [flatX, k3]
  have ci : (o.num : Int) = 3 := by omega
  rw [hX]
  simp only [mrdM, mrd, encOne, intsA, List.map_cons, List.map_nil, nl1, nl2, nl3, nl4, nl5, nl6, nl7, zV, val0, encV, encVs, encKs] at g gH g2 g3 gr ⊢
  rw [eq_33]
  cases e1 with
  | none =>
   simp only [encO_none, orNone] at *
   simp -implicitDefEqProofs (maxSteps := 1000000) [Tryz.f33, Code.hide, Code.key, g, gH, gr, ux, ux2, udr, g2, g3, ci, k3, drop_upd_under, under2, gD', encV, encVs, encKs]
  | some e =>
   simp only [encO_some, orNone] at *
   simp -implicitDefEqProofs (maxSteps := 1000000) [Tryz.f33, Code.hide, Code.key, g, gH, gr, ux, ux2, udr, g2, g3, ci, k3, drop_upd_under, under2, gD', encV, encVs, encKs]
 by_cases k4 : o.num = 4
 ·have hX : flatX o (readE s d takesV).unk = .mk 4 [] false o.n [] [] [] (readE s d takesV).unk := by simp [flatX, k4]
  have ci : (o.num : Int) = 4 := by omega
  rw [hX]
  simp only [mrdM, mrd, encOne, intsA, List.map_cons, List.map_nil, nl1, nl2, nl3, nl4, nl5, nl6, nl7, zV, val0, encV, encVs, encKs] at g gH g2 g3 gr ⊢
  rw [eq_33]
  cases e1 with
  | none =>
   simp only [encO_none, orNone] at *
   simp -implicitDefEqProofs (maxSteps := 1000000) [Tryz.f33, Code.hide, Code.key, g, gH, gr, ux, ux2, udr, g2, g3, ci, k4, drop_upd_under, under2, gD', encV, encVs, encKs]
  | some e =>
   simp only [encO_some, orNone] at *
   simp -implicitDefEqProofs (maxSteps := 1000000) [Tryz.f33, Code.hide, Code.key, g, gH, gr, ux, ux2, udr, g2, g3, ci, k4, drop_upd_under, under2, gD', encV, encVs, encKs]
 ·have hX : flatX o (readE s d takesV).unk = .mk o.num [] false 0 [] [] [] (readE s d takesV).unk := by simp [flatX, k1, k7, k2, k3, k4]
  have c1 : ¬ (o.num : Int) = 1 := by omega
  have c2 : ¬ (o.num : Int) = 2 := by omega
  have c3 : ¬ (o.num : Int) = 3 := by omega
  have c4 : ¬ (o.num : Int) = 4 := by omega
  have c5 : ¬ (o.num : Int) = 5 := by omega
  have c6 : ¬ (o.num : Int) = 6 := by omega
  have c7 : ¬ (o.num : Int) = 7 := by omega
  rw [hX]
  simp only [mrdM, mrd, encOne, intsA, List.map_cons, List.map_nil, nl1, nl2, nl3, nl4, nl5, nl6, nl7, zV, val0, encV, encVs, encKs] at g gH g2 g3 gr ⊢
  rw [eq_33]
  cases e1 with
  | none =>
   simp only [encO_none, orNone] at *
   simp -implicitDefEqProofs (maxSteps := 1000000) [Tryz.f33, Code.hide, Code.key, g, gH, gr, ux, ux2, udr, g2, g3, c1, c2, c3, c4, c5, c6, c7, k1, k2, k3, k4, h5, h6, k7, drop_upd_under, under2, gD', encV, encVs, encKs]
  | some e =>
   simp only [encO_some, orNone] at *
   simp -implicitDefEqProofs (maxSteps := 1000000) [Tryz.f33, Code.hide, Code.key, g, gH, gr, ux, ux2, udr, g2, g3, c1, c2, c3, c4, c5, c6, c7, k1, k2, k3, k4, h5, h6, k7, drop_upd_under, under2, gD', encV, encVs, encKs]
theorem unm_listV {s : List UInt8} (hb : s.length ≤ 549755813888) {d : Int} (hd0 : 0 ≤ d) (hd : d ≤ 9223372036854775807) (p : Id) (h : Heap) (e1 : Option Err) (he1 : e1 = checkO s.length 1 (readE s d takesV).err (readE s d takesV).recs) (o : OneR) (hgo : oneR [1, 2, 3, 4, 5, 6, 7] (readE s d takesV).recs = o) (hn : o.num = 5)
  {rd : List UInt8 → Val × Option Err} (hrd : ∀ t : List UInt8, t.length ≤ s.length → 0 ≤ d - 1 → ∀ (q : Id) (h : Heap), callW E q 33 [.str t, .int .i64 (d - 1 - 1)] h = some (.tuple [.agg (encV (rd t).1), encO (rd t).2], dropFrom q 0 h))
  (y : (List Val × List UInt8) × Option Err) (hy : someR rd o.all.flatten (d - 1) = y) (v : Val × Option Err) (hv : v = orNone val0 ((.mk 5 [] false 0 y.1.1 [] y.1.2 (readE s d takesV).unk), failO s.length 5 e1 y.2)) :
  callW E p 33 [.str s, .int .i64 d] h = some (.tuple [.agg (encV v.1), encO v.2], dropFrom p 0 h) := by
 obtain ⟨hf1, hf2, hf3, hf4⟩ := readE_facts (s := s) (d := d) (t := takesV)
 obtain ⟨H, g, gH, gD⟩ := mread_ok (s := s) (by omega) hd (t := takesV) takes_ok (1 :: p) (upd h (36 :: 0 :: p) zV)
 have hsh : Short 1099511627776 (readE s d takesV).recs := fun r hr => Nat.le_trans (hf2 r hr) (by omega)
 have g2 := fun k (hk : 1 ≠ k) h hh => check_ok (num := 1) (e0 := (readE s d takesV).err) (u := (readE s d takesV).unk) (d := d) (en := s.length) (by omega) hsh (p := k :: p) (id := 84 :: 0 :: 1 :: p) (Apart.own2 hk) (h := h) hh
 have g3 := fun k (hk : 1 ≠ k) h hh => one_ok (nums := [1, 2, 3, 4, 5, 6, 7]) (by simp) (rs := (readE s d takesV).recs) (by omega) (e0 := encO e1) (u := .str (readE s d takesV).unk) (dd := .int .i64 d) (en := .int .i64 s.length) (p := k :: p) (id := 84 :: 0 :: 1 :: p) (Apart.own2 hk) (h := h) hh
 have gr : H (36 :: 0 :: p) = some zV := by
  have e1 := congrFun gD (36 :: 0 :: p)
  simpa using e1
 have gD' : dropFrom p 0 H = dropFrom p 0 h := by
  have e1 := congrArg (dropFrom p 0) gD
  simpa using e1
 have ne1 : ∀ t k, ¬ (t :: k :: p) = (84 :: 0 :: 1 :: p) := fun t k e => by have := congrArg List.length e; simp at this
 have ux : ∀ (h : Heap) (cs : List A) (t k : Nat), upd h (84 :: 0 :: 1 :: p) cs (t :: k :: p) = h (t :: k :: p) := fun h cs t k => by simp only [upd, if_neg (ne1 t k)]
 have ux2 : ∀ (h : Heap) (cs : List A) (t k : Nat), upd h (t :: k :: p) cs (84 :: 0 :: 1 :: p) = h (84 :: 0 :: 1 :: p) := fun h cs t k => by simp only [upd, if_neg (Ne.symm (ne1 t k))]
 have udr : ∀ (k : Nat) (h : Heap), 1 ≠ k → dropFrom (k :: p) 0 h (84 :: 0 :: 1 :: p) = h (84 :: 0 :: 1 :: p) := fun k h hk => drop_other ((Apart.own2 hk).at_ 0)
 rw [← he1] at g2
 rw [hgo] at g3
 have nl6 : ((6 : Nat) : Int) = 6 := rfl
 have nl7 : ((7 : Nat) : Int) = 7 := rfl
 have hol := oneR_all [1, 2, 3, 4, 5, 6, 7] (readE s d takesV).recs ⟨0, 0, [], []⟩
 have hstr := readE_str (s := s) (d := d) (t := takesV)
 have hgo2 : (readE s d takesV).recs.foldl (stepOne [1, 2, 3, 4, 5, 6, 7]) ⟨0, 0, [], []⟩ = o := hgo
 rw [hgo2] at hol
 simp only [List.flatten_nil, List.length_nil, Nat.zero_add] at hol
 have hread : ∀ (j : Nat) (q : Id) (h : Heap), Apart q (87 :: 0 :: j :: p) → h (87 :: 0 :: j :: p) = some [.fn 33 []] → callW E q 104 [.str o.all.flatten, .int .i64 (d - 1), .ptr (87 :: 0 :: j :: p) 0] h = some (.tuple [.agg [.slice (y.1.1.map encV) none, .str y.1.2], encO y.2], dropFrom q 0 h) := by
  intro j q h a hc
  have e := listsV1_ok (s := o.all.flatten) (by omega) (d := d - 1) (by omega) (rd := rd) (fun t ht h0 => hrd t (by omega) h0) a hc
  rw [hy] at e
  exact e
 have g4 := fun k h => listsV_ok (f := 33) (k :: p) h
 have g5 := fun k j (hk : 1 ≠ k) (hj : j ≠ k) h hh hc => innerSV_ok hd0 hd (o := o) (by omega) (by omega) (hread j) (e0 := e1) (u := .str (readE s d takesV).unk) (en := s.length) (l := growing (45, 5) (recsA (readE s d takesV).recs)) (p := k :: p) (id := 84 :: 0 :: 1 :: p) (Apart.own2 hk) (Apart.own2 hj) (h := h) hh hc
 have ne4 : ∀ t k T j, ¬ (t :: k :: p) = (T :: 0 :: j :: p) := fun t k T j e => by have := congrArg List.length e; simp at this
 have ux4 : ∀ (h : Heap) (cs : List A) (t k T j : Nat), upd h (T :: 0 :: j :: p) cs (t :: k :: p) = h (t :: k :: p) := fun h cs t k T j => by simp only [upd, if_neg (ne4 t k T j)]
 have ux5 : ∀ (h : Heap) (cs : List A) (t k T j : Nat), upd h (t :: k :: p) cs (T :: 0 :: j :: p) = h (T :: 0 :: j :: p) := fun h cs t k T j => by simp only [upd, if_neg (Ne.symm (ne4 t k T j))]
 have ux6 : ∀ (h : Heap) (cs : List A) (j : Nat), upd h (87 :: 0 :: j :: p) cs (84 :: 0 :: 1 :: p) = h (84 :: 0 :: 1 :: p) := fun h cs j => by simp [upd]
 have udr4 : ∀ (k j T : Nat) (h : Heap), j ≠ k → dropFrom (k :: p) 0 h (T :: 0 :: j :: p) = h (T :: 0 :: j :: p) := fun k j T h hk => drop_other ((Apart.own2 hk).at_ 0)
 have ci : (o.num : Int) = 5 := by omega
 have hfe : failO s.length (o.num : Int) e1 y.2 = failO s.length 5 e1 y.2 := by rw [ci]
 simp only [mrdM, mrd, encOne, intsA, List.map_cons, List.map_nil, nl1, nl2, nl3, nl4, nl5, nl6, nl7, zV, val0] at g gH g2 g3 g5 gr ⊢
 rw [hfe] at g5
 simp only [ci] at g5
 rw [hv, eq_33]
 cases hE : failO s.length 5 e1 y.2 with
 | none =>
  rw [hE] at g5
  simp only [encO_none, orNone] at *
  simp -implicitDefEqProofs (maxSteps := 1000000) [Tryz.f33, Code.hide, Code.key, g, gH, gr, ux, ux2, udr, ux4, ux5, udr4, g2, g3, g4, g5, hfe, ux6, ci, hn, drop_upd_under, under2, gD', encV, encVs, encKs]
 | some e =>
  rw [hE] at g5
  simp only [encO_some, orNone] at *
  simp -implicitDefEqProofs (maxSteps := 1000000) [Tryz.f33, Code.hide, Code.key, g, gH, gr, ux, ux2, udr, ux4, ux5, udr4, g2, g3, g4, g5, hfe, ux6, ci, hn, drop_upd_under, under2, gD', encV, encVs, encKs]
  simp [val0, encV, encVs, encKs]
theorem unm_listK {s : List UInt8} (hb : s.length ≤ 549755813888) {d : Int} (hd0 : 0 ≤ d) (hd : d ≤ 9223372036854775807) (p : Id) (h : Heap) (e1 : Option Err) (he1 : e1 = checkO s.length 1 (readE s d takesV).err (readE s d takesV).recs) (o : OneR) (hgo : oneR [1, 2, 3, 4, 5, 6, 7] (readE s d takesV).recs = o) (hn : o.num = 6)
  {rd : List UInt8 → KV × Option Err} (hrd : ∀ t : List UInt8, t.length ≤ s.length → 0 ≤ d - 1 → ∀ (q : Id) (h : Heap), callW E q 13 [.str t, .int .i64 (d - 1 - 1)] h = some (.tuple [.agg (encK (rd t).1), encO (rd t).2], dropFrom q 0 h))
  (y : (List KV × List UInt8) × Option Err) (hy : someR rd o.all.flatten (d - 1) = y) (v : Val × Option Err) (hv : v = orNone val0 ((.mk 6 [] false 0 [] y.1.1 y.1.2 (readE s d takesV).unk), failO s.length 6 e1 y.2)) :
  callW E p 33 [.str s, .int .i64 d] h = some (.tuple [.agg (encV v.1), encO v.2], dropFrom p 0 h) := by
 obtain ⟨hf1, hf2, hf3, hf4⟩ := readE_facts (s := s) (d := d) (t := takesV)
 obtain ⟨H, g, gH, gD⟩ := mread_ok (s := s) (by omega) hd (t := takesV) takes_ok (1 :: p) (upd h (36 :: 0 :: p) zV)
 have hsh : Short 1099511627776 (readE s d takesV).recs := fun r hr => Nat.le_trans (hf2 r hr) (by omega)
 have g2 := fun k (hk : 1 ≠ k) h hh => check_ok (num := 1) (e0 := (readE s d takesV).err) (u := (readE s d takesV).unk) (d := d) (en := s.length) (by omega) hsh (p := k :: p) (id := 84 :: 0 :: 1 :: p) (Apart.own2 hk) (h := h) hh
 have g3 := fun k (hk : 1 ≠ k) h hh => one_ok (nums := [1, 2, 3, 4, 5, 6, 7]) (by simp) (rs := (readE s d takesV).recs) (by omega) (e0 := encO e1) (u := .str (readE s d takesV).unk) (dd := .int .i64 d) (en := .int .i64 s.length) (p := k :: p) (id := 84 :: 0 :: 1 :: p) (Apart.own2 hk) (h := h) hh
 have gr : H (36 :: 0 :: p) = some zV := by
  have e1 := congrFun gD (36 :: 0 :: p)
  simpa using e1
 have gD' : dropFrom p 0 H = dropFrom p 0 h := by
  have e1 := congrArg (dropFrom p 0) gD
  simpa using e1
 have ne1 : ∀ t k, ¬ (t :: k :: p) = (84 :: 0 :: 1 :: p) := fun t k e => by have := congrArg List.length e; simp at this
 have ux : ∀ (h : Heap) (cs : List A) (t k : Nat), upd h (84 :: 0 :: 1 :: p) cs (t :: k :: p) = h (t :: k :: p) := fun h cs t k => by simp only [upd, if_neg (ne1 t k)]
 have ux2 : ∀ (h : Heap) (cs : List A) (t k : Nat), upd h (t :: k :: p) cs (84 :: 0 :: 1 :: p) = h (84 :: 0 :: 1 :: p) := fun h cs t k => by simp only [upd, if_neg (Ne.symm (ne1 t k))]
 have udr : ∀ (k : Nat) (h : Heap), 1 ≠ k → dropFrom (k :: p) 0 h (84 :: 0 :: 1 :: p) = h (84 :: 0 :: 1 :: p) := fun k h hk => drop_other ((Apart.own2 hk).at_ 0)
 rw [← he1] at g2
 rw [hgo] at g3
 have nl6 : ((6 : Nat) : Int) = 6 := rfl
 have nl7 : ((7 : Nat) : Int) = 7 := rfl
 have hol := oneR_all [1, 2, 3, 4, 5, 6, 7] (readE s d takesV).recs ⟨0, 0, [], []⟩
 have hstr := readE_str (s := s) (d := d) (t := takesV)
 have hgo2 : (readE s d takesV).recs.foldl (stepOne [1, 2, 3, 4, 5, 6, 7]) ⟨0, 0, [], []⟩ = o := hgo
 rw [hgo2] at hol
 simp only [List.flatten_nil, List.length_nil, Nat.zero_add] at hol
 have hread : ∀ (j : Nat) (q : Id) (h : Heap), Apart q (49 :: 0 :: j :: p) → h (49 :: 0 :: j :: p) = some [.fn 13 []] → callW E q 108 [.str o.all.flatten, .int .i64 (d - 1), .ptr (49 :: 0 :: j :: p) 0] h = some (.tuple [.agg [.slice (y.1.1.map encK) none, .str y.1.2], encO y.2], dropFrom q 0 h) := by
  intro j q h a hc
  have e := listsK1_ok (s := o.all.flatten) (by omega) (d := d - 1) (by omega) (rd := rd) (fun t ht h0 => hrd t (by omega) h0) a hc
  rw [hy] at e
  exact e
 have g4 := fun k h => listsK_ok (f := 13) (k :: p) h
 have g5 := fun k j (hk : 1 ≠ k) (hj : j ≠ k) h hh hc => innerSK_ok hd0 hd (o := o) (by omega) (by omega) (hread j) (e0 := e1) (u := .str (readE s d takesV).unk) (en := s.length) (l := growing (45, 5) (recsA (readE s d takesV).recs)) (p := k :: p) (id := 84 :: 0 :: 1 :: p) (Apart.own2 hk) (Apart.own2 hj) (h := h) hh hc
 have ne4 : ∀ t k T j, ¬ (t :: k :: p) = (T :: 0 :: j :: p) := fun t k T j e => by have := congrArg List.length e; simp at this
 have ux4 : ∀ (h : Heap) (cs : List A) (t k T j : Nat), upd h (T :: 0 :: j :: p) cs (t :: k :: p) = h (t :: k :: p) := fun h cs t k T j => by simp only [upd, if_neg (ne4 t k T j)]
 have ux5 : ∀ (h : Heap) (cs : List A) (t k T j : Nat), upd h (t :: k :: p) cs (T :: 0 :: j :: p) = h (T :: 0 :: j :: p) := fun h cs t k T j => by simp only [upd, if_neg (Ne.symm (ne4 t k T j))]
 have ux6 : ∀ (h : Heap) (cs : List A) (j : Nat), upd h (49 :: 0 :: j :: p) cs (84 :: 0 :: 1 :: p) = h (84 :: 0 :: 1 :: p) := fun h cs j => by simp [upd]
 have udr4 : ∀ (k j T : Nat) (h : Heap), j ≠ k → dropFrom (k :: p) 0 h (T :: 0 :: j :: p) = h (T :: 0 :: j :: p) := fun k j T h hk => drop_other ((Apart.own2 hk).at_ 0)
 have ci : (o.num : Int) = 6 := by omega
 have hfe : failO s.length (o.num : Int) e1 y.2 = failO s.length 6 e1 y.2 := by rw [ci]
 simp only [mrdM, mrd, encOne, intsA, List.map_cons, List.map_nil, nl1, nl2, nl3, nl4, nl5, nl6, nl7, zV, val0] at g gH g2 g3 g5 gr ⊢
 rw [hfe] at g5
 simp only [ci] at g5
 rw [hv, eq_33]
 cases hE : failO s.length 6 e1 y.2 with
 | none =>
  rw [hE] at g5
  simp only [encO_none, orNone] at *
  simp -implicitDefEqProofs (maxSteps := 1000000) [Tryz.f33, Code.hide, Code.key, g, gH, gr, ux, ux2, udr, ux4, ux5, udr4, g2, g3, g4, g5, hfe, ux6, ci, hn, drop_upd_under, under2, gD', encV, encVs, encKs]
 | some e =>
  rw [hE] at g5
  simp only [encO_some, orNone] at *
  simp -implicitDefEqProofs (maxSteps := 1000000) [Tryz.f33, Code.hide, Code.key, g, gH, gr, ux, ux2, udr, ux4, ux5, udr4, g2, g3, g4, g5, hfe, ux6, ci, hn, drop_upd_under, under2, gD', encV, encVs, encKs]
  simp [val0, encV, encVs, encKs]
end Go.Ai.T

namespace Go.Ai.T
open Go Go.Proofs
set_option maxRecDepth 100000
set_option maxHeartbeats 4000000
def partO (num : Nat) : Option (List UInt8) → List Rec → Option (List UInt8)
 | o, [] => o
 | o, r :: rs => if r.num = num then partO num (some (o.getD [] ++ r.s)) rs else partO num o rs
def pofFr (id bid : Id) (f num : Nat) (v6 : A) (has : Bool) (rs : List Rec) (i : Nat) : Fr := ((((((((bot.set 18 (.int .i64 i)).set 17 (.int .i64 rs.length)).set 16 (.slice (recsA rs) none)).set 9 (.bool has)).set 8 (.ptr bid 0)).set 6 v6).set 2 (.fn f [])).set 1 (.int .i64 num)).set 0 (.ptr id 0)
theorem pof_loop {id : Id} {f num : Nat} {rs : List Rec} (hn : rs.length ≤ 1099511627776) :
  ∀ (rest : List Rec) (i : Nat) (o : Option (List UInt8)), rs.drop i = rest → i ≤ rs.length → (o.getD []).length + strLen rest ≤ 1099511627776 → ∃ k, ∀ (p : Id) (v6 : A) (kb c0 c : Nat) (h : Heap), kb < c0 → c0 ≤ c →
   h (65 :: kb :: p) = some (bld (65 :: kb :: p) o) →
  iterW E 32 p [0, 1, 2, 6, 8, 9, 16, 17, 18] L_32_4 c0 (pofFr id (65 :: kb :: p) f num v6 o.isSome rs i) c h =
   some (.exit 0, pofFr id (65 :: kb :: p) f num v6 (partO num o rest).isSome rs rs.length, c + k, upd (dropFrom p c0 h) (65 :: kb :: p) (bld (65 :: kb :: p) (partO num o rest))) := by
 intro rest
 induction rest with
 | nil =>
  intro i o hj hi2 hb
  refine ⟨0, fun p v6 kb c0 c h h2 h3 hx => ?_⟩
  obtain ⟨q1, q2, q3, q4, q5, q6⟩ := own_facts (p := p) 65 kb
  have hge := drop_end hj
  have hlen : i = rs.length := by omega
  subst hlen
  have hlt' : ¬ ((rs.length : Nat) : Int) < rs.length := by omega
  unfold pofFr
  rw [rd_32_4]
  generalize hr : execW E 32 p _ _ _ _ = e
  simp -implicitDefEqProofs (maxSteps := 1000000) [Tryz.f32, Code.loopAt, Code.key, hlt'] at hr
  subst hr
  have e3 : partO num o [] = o := rfl
  rw [e3, upd_id (h := dropFrom p c0 h) (by rw [q2 _ _ h2, hx])]
  simp
 | cons r rest ih =>
  intro i o hj hi2 hb
  obtain ⟨hlt, hbb, hbs⟩ := drop_facts hj
  rw [strLen_cons] at hb
  have hlt' : (i : Int) < rs.length := by omega
  have hw : IntKind.i64.wrap ((i : Int) + 1) = ((i + 1 : Nat) : Int) := by rw [wrap_i64 (by omega) (by omega)]; rfl
  have hrl : (recsA rs).length = rs.length := by simp [recsA]
  have hget? : (recsA rs)[i]? = some (recCells r) := by simp [recsA, hbb]
  have hget : ∀ hl, (recsA rs)[i]'hl = recCells r := fun hl => by rw [List.getElem?_eq_getElem hl] at hget?; exact Option.some.inj hget?
  by_cases hnum : r.num = num
  ·obtain ⟨k, gl⟩ := ih (i + 1) (some (o.getD [] ++ r.s)) hbs (by omega) (by simp; omega)
   refine ⟨2 + k, fun p v6 kb c0 c h h2 h3 hx => ?_⟩
   obtain ⟨q1, q2, q3, q4, q5, q6⟩ := own_facts (p := p) 65 kb
   have n0 : kb ≠ c := by omega
   have n1 : kb ≠ c + 1 := by omega
   have hnum' : (r.num : Int) = num := by omega
   have g2 := fun k h (hne : kb ≠ k) hh => sbwrite_ok (id := kb :: p) (T := 65) (Or.inl rfl) (o := o) (s := r.s) (by omega) (p := k :: p) (Apart.own hne) (h := h) hh
   have hc1 : c0 ≤ c + 1 := by omega
   have e := gl p v6 kb c0 (c + 2) (upd (dropFrom p c0 h) (65 :: kb :: p) (bld (65 :: kb :: p) (some (o.getD [] ++ r.s)))) h2 (by omega) (by simp)
   rw [q1 _ _ _ h2, drop_drop_self, upd_upd] at e
   have e3 : partO num o (r :: rest) = partO num (some (o.getD [] ++ r.s)) rest := by rw [partO, if_pos hnum]
   rw [e3]
   unfold pofFr at e ⊢
   rw [rd_32_4]
   generalize hr : execW E 32 p _ _ _ _ = ee
   simp -implicitDefEqProofs (maxSteps := 1000000) [-Int.natCast_add, Tryz.f32, Code.loopAt, Code.key, recCells, hx, q1, q2, q3, q4, q5, q6, n0, n1, g2, eq_true hnum, eq_true hnum', hlt, hlt', hrl, hget?, hget, hw] at hr
   subst hr
   simp [-Int.natCast_add]
   rw [q1 _ _ _ h2, drop_drop_cons hc1, drop_upd h3]
   simpa [-Int.natCast_add, Nat.add_assoc] using e
  ·obtain ⟨k, gl⟩ := ih (i + 1) o hbs (by omega) (by omega)
   refine ⟨1 + k, fun p v6 kb c0 c h h2 h3 hx => ?_⟩
   obtain ⟨q1, q2, q3, q4, q5, q6⟩ := own_facts (p := p) 65 kb
   have hnum' : ¬ (r.num : Int) = num := by omega
   have e := gl p v6 kb c0 (c + 1) (dropFrom p c0 h) h2 (by omega) (by rw [q2 _ _ h2, hx])
   rw [drop_drop_self] at e
   have e3 : partO num o (r :: rest) = partO num o rest := by rw [partO, if_neg hnum]
   rw [e3]
   unfold pofFr at e ⊢
   rw [rd_32_4]
   generalize hr : execW E 32 p _ _ _ _ = ee
   simp -implicitDefEqProofs (maxSteps := 1000000) [-Int.natCast_add, Tryz.f32, Code.loopAt, Code.key, recCells, hnum, hnum', hlt, hlt', hrl, hget?, hget, hw] at hr
   subst hr
   simp [-Int.natCast_add]
   rw [drop_upd h3]
   simpa [-Int.natCast_add, Nat.add_assoc] using e
theorem pof_yes {id : Id} {f num : Nat} {rs : List Rec} (hn : rs.length ≤ 1099511627776) (hst : strLen rs ≤ 1099511627776) {d : Int} (hd0 : 0 ≤ d) (hd : d ≤ 9223372036854775807) {t : List UInt8} (hp : partO num none rs = some t) (htl : t.length ≤ 1099511627776) {x : Val} {e1 : Option Err}
  (hread : ∀ (q : Id) (h : Heap), callW E q f [.str t, .int .i64 (d - 1)] h = some (.tuple [.agg (encV x), encO e1], dropFrom q 0 h)) {e0 : Option Err} {u : A} {en : Nat} {p : Id} (a : Apart p id) {h : Heap} (hh : h id = some [encO e0, u, .int .i64 d, .int .i64 en, growing (45, 5) (recsA rs)]) :
  callW E p 32 [.ptr id 0, .int .i64 num, .fn f []] h = some (.tuple [.agg (encV x), .bool true], upd (dropFrom p 0 h) id [encO (failO en num e0 e1), u, .int .i64 d, .int .i64 en, growing (45, 5) (recsA rs)]) := by
 obtain ⟨f1, f2, f3, f4, f5, f6⟩ := a.facts
 obtain ⟨k, gl⟩ := pof_loop (id := id) (f := f) (num := num) hn rs 0 none rfl (Nat.zero_le _) (by simpa using hst)
 rw [hp] at gl
 have hbn : ∀ id, bld id none = [.nilp, .nils] := fun _ => rfl
 have g := fun v6 h => gl p v6 1 2 2 h (by omega) (Nat.le_refl _)
 have g3 := fun k h (hh : h (65 :: 1 :: p) = some (bld (65 :: 1 :: p) (some t))) => sbstring_ok (o := some t) (by unfold maxStr; simp; omega) (p := k :: p) (h := h) hh
 have g4 := fun k h hh => partV_ok (num := num) hd0 hd hread (e0 := e0) (u := u) (l := growing (45, 5) (recsA rs)) (en := en) (a.sub k) (h := h) hh
 have hrl : (recsA rs).length = rs.length := by simp [recsA]
 obtain ⟨cs, hcs, hsh⟩ := flatV x
 rw [hcs] at g4 ⊢
 obtain ⟨k0, s0, b0, n0, l0, m0, i0, u0, rfl⟩ := hsh
 simp only [pofFr, hbn, nat0, Option.isSome_none, Option.isSome_some, Option.getD_some] at g g3
 rw [eq_32]
 simp -implicitDefEqProofs (maxSteps := 1000000) [Tryz.f32, Code.hide, Code.key, hh, f1, f2, f3, f4, f5, f6, hrl, g, g3, g4]
theorem pof_no {id : Id} {f num : Nat} {rs : List Rec} (hn : rs.length ≤ 1099511627776) (hst : strLen rs ≤ 1099511627776) (hp : partO num none rs = none)
  {e0 u dd en : A} {p : Id} (a : Apart p id) {h : Heap} (hh : h id = some [e0, u, dd, en, growing (45, 5) (recsA rs)]) :
  callW E p 32 [.ptr id 0, .int .i64 num, .fn f []] h = some (.tuple [.agg (encV val0), .bool false], dropFrom p 0 h) := by
 obtain ⟨f1, f2, f3, f4, f5, f6⟩ := a.facts
 obtain ⟨k, gl⟩ := pof_loop (id := id) (f := f) (num := num) hn rs 0 none rfl (Nat.zero_le _) (by simpa using hst)
 rw [hp] at gl
 have hbn : ∀ id, bld id none = [.nilp, .nils] := fun _ => rfl
 have g := fun v6 h => gl p v6 1 2 2 h (by omega) (Nat.le_refl _)
 have hrl : (recsA rs).length = rs.length := by simp [recsA]
 simp only [pofFr, hbn, nat0, Option.isSome_none] at g
 rw [eq_32]
 simp -implicitDefEqProofs (maxSteps := 1000000) [Tryz.f32, Code.hide, Code.key, hh, f1, f2, f3, f4, f5, f6, hrl, g, val0, encV, encVs, encKs]
end Go.Ai.T

namespace Go.Ai.T
open Go Go.Proofs
set_option maxRecDepth 100000
set_option maxHeartbeats 4000000
theorem unmk_no {s : List UInt8} (hb : s.length ≤ 549755813888) {d : Int} (hd : d ≤ 9223372036854775807) (p : Id) (h : Heap) (e1 : Option Err) (he1 : e1 = checkO s.length 1 (readE s d takesK).err (readE s d takesK).recs) (hp : partO 2 none (readE s d takesK).recs = none) :
  callW E p 13 [.str s, .int .i64 d] h = some (.tuple [.agg (encK (orNone kv0 (KV.mk (lastR 1 (readE s d takesK).recs).s false val0 (readE s d takesK).unk, e1)).1), encO (orNone kv0 (KV.mk (lastR 1 (readE s d takesK).recs).s false val0 (readE s d takesK).unk, e1)).2], dropFrom p 0 h) := by
 obtain ⟨hf1, hf2, hf3, hf4⟩ := readE_facts (s := s) (d := d) (t := takesK)
 obtain ⟨H, g, gH, gD⟩ := mread_ok (s := s) (by omega) hd (t := takesK) takesKey_ok (1 :: p) (upd h (38 :: 0 :: p) zK)
 have hsh : Short 1099511627776 (readE s d takesK).recs := fun r hr => Nat.le_trans (hf2 r hr) (by omega)
 have hst := readE_str (s := s) (d := d) (t := takesK)
 have g2 := fun k (hk : 1 ≠ k) h hh => text_ok (num := 1) (e0 := (readE s d takesK).err) (u := (readE s d takesK).unk) (d := d) (en := s.length) (by omega) hsh (p := k :: p) (id := 84 :: 0 :: 1 :: p) (Apart.own2 hk) (h := h) hh
 have g3 := fun k (hk : 1 ≠ k) h hh => pof_no (f := 33) (num := 2) (rs := (readE s d takesK).recs) (by omega) (by omega) hp (e0 := encO e1) (u := .str (readE s d takesK).unk) (dd := .int .i64 d) (en := .int .i64 s.length) (p := k :: p) (id := 84 :: 0 :: 1 :: p) (Apart.own2 hk) (h := h) hh
 have gr : H (38 :: 0 :: p) = some zK := by
  have e1 := congrFun gD (38 :: 0 :: p)
  simpa using e1
 have gD' : dropFrom p 0 H = dropFrom p 0 h := by
  have e1 := congrArg (dropFrom p 0) gD
  simpa using e1
 have ne1 : ∀ t k, ¬ (t :: k :: p) = (84 :: 0 :: 1 :: p) := fun t k e => by have := congrArg List.length e; simp at this
 have ux : ∀ (h : Heap) (cs : List A) (t k : Nat), upd h (84 :: 0 :: 1 :: p) cs (t :: k :: p) = h (t :: k :: p) := fun h cs t k => by simp only [upd, if_neg (ne1 t k)]
 have ux2 : ∀ (h : Heap) (cs : List A) (t k : Nat), upd h (t :: k :: p) cs (84 :: 0 :: 1 :: p) = h (84 :: 0 :: 1 :: p) := fun h cs t k => by simp only [upd, if_neg (Ne.symm (ne1 t k))]
 have udr : ∀ (k : Nat) (h : Heap), 1 ≠ k → dropFrom (k :: p) 0 h (84 :: 0 :: 1 :: p) = h (84 :: 0 :: 1 :: p) := fun k h hk => drop_other ((Apart.own2 hk).at_ 0)
 rw [← he1] at g2
 simp only [mrdM, mrd, nl1, nl2, zV, zK, val0, kv0, encK, encV, encVs, encKs, List.cons_append, List.nil_append] at g gH g2 g3 gr ⊢
 rw [eq_13]
 cases e1 with
 | none =>
  simp only [encO_none, orNone] at *
  simp -implicitDefEqProofs (maxSteps := 1000000) [Tryz.f13, Code.hide, Code.key, g, gH, gr, ux, ux2, udr, g2, g3, drop_upd_under, under2, gD', encK, encV, encVs, encKs, sameAt, beqL_refl]
 | some e =>
  simp only [encO_some, orNone] at *
  simp -implicitDefEqProofs (maxSteps := 1000000) [Tryz.f13, Code.hide, Code.key, g, gH, gr, ux, ux2, udr, g2, g3, drop_upd_under, under2, gD', encK, encV, encVs, encKs, sameAt, beqL_refl]
theorem unmk_yes {s : List UInt8} (hb : s.length ≤ 549755813888) {d : Int} (hd0 : 0 ≤ d) (hd : d ≤ 9223372036854775807) (p : Id) (h : Heap) (e1 : Option Err) (he1 : e1 = checkO s.length 1 (readE s d takesK).err (readE s d takesK).recs) {t : List UInt8} (hp : partO 2 none (readE s d takesK).recs = some t) (htl : t.length ≤ 1099511627776) {y : Val × Option Err}
  (hread : ∀ (q : Id) (h : Heap), callW E q 33 [.str t, .int .i64 (d - 1)] h = some (.tuple [.agg (encV y.1), encO y.2], dropFrom q 0 h)) (v : KV × Option Err) (hv : v = orNone kv0 (KV.mk (lastR 1 (readE s d takesK).recs).s true y.1 (readE s d takesK).unk, failO s.length 2 e1 y.2)) :
  callW E p 13 [.str s, .int .i64 d] h = some (.tuple [.agg (encK v.1), encO v.2], dropFrom p 0 h) := by
 obtain ⟨hf1, hf2, hf3, hf4⟩ := readE_facts (s := s) (d := d) (t := takesK)
 obtain ⟨H, g, gH, gD⟩ := mread_ok (s := s) (by omega) hd (t := takesK) takesKey_ok (1 :: p) (upd h (38 :: 0 :: p) zK)
 have hsh : Short 1099511627776 (readE s d takesK).recs := fun r hr => Nat.le_trans (hf2 r hr) (by omega)
 have hst := readE_str (s := s) (d := d) (t := takesK)
 have g2 := fun k (hk : 1 ≠ k) h hh => text_ok (num := 1) (e0 := (readE s d takesK).err) (u := (readE s d takesK).unk) (d := d) (en := s.length) (by omega) hsh (p := k :: p) (id := 84 :: 0 :: 1 :: p) (Apart.own2 hk) (h := h) hh
 have g3 := fun k (hk : 1 ≠ k) h hh => pof_yes (f := 33) (num := 2) (rs := (readE s d takesK).recs) (by omega) (by omega) hd0 hd hp htl hread (e0 := e1) (u := .str (readE s d takesK).unk) (en := s.length) (p := k :: p) (id := 84 :: 0 :: 1 :: p) (Apart.own2 hk) (h := h) hh
 have gr : H (38 :: 0 :: p) = some zK := by
  have e1 := congrFun gD (38 :: 0 :: p)
  simpa using e1
 have gD' : dropFrom p 0 H = dropFrom p 0 h := by
  have e1 := congrArg (dropFrom p 0) gD
  simpa using e1
 have ne1 : ∀ t k, ¬ (t :: k :: p) = (84 :: 0 :: 1 :: p) := fun t k e => by have := congrArg List.length e; simp at this
 have ux : ∀ (h : Heap) (cs : List A) (t k : Nat), upd h (84 :: 0 :: 1 :: p) cs (t :: k :: p) = h (t :: k :: p) := fun h cs t k => by simp only [upd, if_neg (ne1 t k)]
 have ux2 : ∀ (h : Heap) (cs : List A) (t k : Nat), upd h (t :: k :: p) cs (84 :: 0 :: 1 :: p) = h (84 :: 0 :: 1 :: p) := fun h cs t k => by simp only [upd, if_neg (Ne.symm (ne1 t k))]
 have udr : ∀ (k : Nat) (h : Heap), 1 ≠ k → dropFrom (k :: p) 0 h (84 :: 0 :: 1 :: p) = h (84 :: 0 :: 1 :: p) := fun k h hk => drop_other ((Apart.own2 hk).at_ 0)
 rw [← he1] at g2
 obtain ⟨yv, ye⟩ := y
 cases yv with
 | mk k0 s0 b0 n0 l0 m0 i0 u0 =>
 have nl2' : ((2 : Nat) : Int) = 2 := rfl
 simp only [mrdM, mrd, nl1, nl2, zV, zK, val0, kv0, encK, encV, encVs, encKs, List.cons_append, List.nil_append] at g gH g2 g3 gr ⊢
 rw [hv, eq_13]
 cases hE : failO s.length 2 e1 ye with
 | none =>
  simp only [hE] at g3
  simp only [encO_none, orNone] at *
  simp -implicitDefEqProofs (maxSteps := 1000000) [Tryz.f13, Code.hide, Code.key, g, gH, gr, ux, ux2, udr, g2, g3, hE, drop_upd_under, under2, gD', encK, encV, encVs, encKs, sameAt, beqL_refl]
 | some e =>
  simp only [hE] at g3
  simp only [encO_some, orNone] at *
  simp -implicitDefEqProofs (maxSteps := 1000000) [Tryz.f13, Code.hide, Code.key, g, gH, gr, ux, ux2, udr, g2, g3, hE, drop_upd_under, under2, gD', encK, encV, encVs, encKs, sameAt, beqL_refl]
  simp [kv0, val0, encK, encV, encVs, encKs]
end Go.Ai.T

namespace Go.Ai.T
open Go Go.Proofs
set_option maxRecDepth 100000
set_option maxHeartbeats 4000000
theorem partO_eq (num : Nat) : ∀ (rs : List Rec) (o : Option (List UInt8)), partO num o rs = if (rs.any fun r => r.num == num) = true then some (o.getD [] ++ joinR num rs) else o
 | [], o => by simp [partO]
 | r :: rs, o => by
  rw [partO]
  by_cases h : r.num = num
  ·rw [if_pos h, partO_eq num rs]
   by_cases h2 : (rs.any fun r => r.num == num) = true
   ·rw [if_pos h2]; simp [h, joinR]
   ·rw [if_neg h2]
    have h3 : joinR num rs = [] := by
     unfold joinR
     rw [List.filter_eq_nil_iff.2 (fun x hx hc => h2 (List.any_eq_true.2 ⟨x, hx, hc⟩))]; rfl
    simp [h, joinR] at h3 ⊢
    exact h3
  ·rw [if_neg h, partO_eq num rs]
   have h' : (r.num == num) = false := by simpa using h
   simp [h', joinR]
theorem unm_neg (d : Int) (hd0 : d < 0) (s : List UInt8) (hb : s.length ≤ 549755813888) :
  (∀ (p : Id) (h : Heap), callW E p 33 [.str s, .int .i64 d] h = some (.tuple [.agg (encV (readV s d).1), encO (readV s d).2], dropFrom p 0 h)) ∧
  (∀ (p : Id) (h : Heap), callW E p 13 [.str s, .int .i64 d] h = some (.tuple [.agg (encK (readK s d).1), encO (readK s d).2], dropFrom p 0 h)) := by
 have hV : readE s d takesV = ⟨some (.at_ 0 (.fld 0 (.code 6))), [], []⟩ := by simp [readE, hd0]
 have hK : readE s d takesK = ⟨some (.at_ 0 (.fld 0 (.code 6))), [], []⟩ := by simp [readE, hd0]
 refine ⟨fun p h => ?_, fun p h => ?_⟩
 ·have e := unm_flat (d := d) hb (by omega) p h (some (.at_ 0 (.fld 0 (.code 6)))) (by rw [hV]; rfl) ⟨0, 0, [], []⟩ (by rw [hV]; rfl) (by simp) (by simp)
  rw [readV, if_pos hd0, hV]
  exact e
 ·have e := unmk_no (d := d) hb (by omega) p h (some (.at_ 0 (.fld 0 (.code 6)))) (by rw [hK]; rfl) (by rw [hK]; rfl)
  rw [readK, if_pos hd0, hK]
  exact e
theorem unm_all : ∀ (m : Nat) (d : Int), (d + 1).toNat ≤ m → d ≤ 9223372036854775807 → ∀ s : List UInt8, s.length ≤ 549755813888 →
  (∀ (p : Id) (h : Heap), callW E p 33 [.str s, .int .i64 d] h = some (.tuple [.agg (encV (readV s d).1), encO (readV s d).2], dropFrom p 0 h)) ∧
  (∀ (p : Id) (h : Heap), callW E p 13 [.str s, .int .i64 d] h = some (.tuple [.agg (encK (readK s d).1), encO (readK s d).2], dropFrom p 0 h)) := by
 intro m
 induction m with
 | zero =>
  intro d hm hd s hb
  exact unm_neg d (by omega) s hb
 | succ m ih =>
  intro d hm hd s hb
  by_cases hd0 : d < 0
  ·exact unm_neg d hd0 s hb
  ·have hst := readE_str (s := s) (d := d) (t := takesK)
   refine ⟨fun p h => ?_, fun p h => ?_⟩
   ·rw [readV, if_neg hd0]
    dsimp only
    generalize hgo : oneR [1, 2, 3, 4, 5, 6, 7] (readE s d takesV).recs = o
    generalize he1 : checkO s.length 1 (readE s d takesV).err (readE s d takesV).recs = e1
    by_cases h5 : o.num = 5
    ·have e := unm_listV hb (by omega) hd p h e1 he1.symm o hgo h5 (rd := fun t => readV t (d - 2)) (fun t ht h1 q h => by rw [show d - 1 - 1 = d - 2 by omega]; exact (ih (d - 2) (by omega) (by omega) t (by omega)).1 q h) _ rfl _ rfl
     simpa [h5] using e
    by_cases h6 : o.num = 6
    ·have e := unm_listK hb (by omega) hd p h e1 he1.symm o hgo h6 (rd := fun t => readK t (d - 2)) (fun t ht h1 q h => by rw [show d - 1 - 1 = d - 2 by omega]; exact (ih (d - 2) (by omega) (by omega) t (by omega)).2 q h) _ rfl _ rfl
     simpa [h6] using e
    have e := unm_flat hb hd p h e1 he1.symm o hgo h5 h6
    unfold flatX at e
    simp only [h5, h6, if_false]
    by_cases a1 : o.num = 1 ∨ o.num = 7
    ·simpa [a1] using e
    by_cases a2 : o.num = 2
    ·simpa [a1, a2] using e
    by_cases a3 : o.num = 3 ∨ o.num = 4
    ·simpa [a1, a2, a3] using e
    ·simpa [a1, a2, a3] using e
   ·rw [readK, if_neg hd0]
    dsimp only
    have hp := partO_eq 2 (readE s d takesK).recs none
    by_cases ha : ((readE s d takesK).recs.any fun r => r.num == 2) = true
    ·rw [if_pos ha] at hp
     have hj := joinR_len 2 (readE s d takesK).recs
     simp only [Option.getD_none, List.nil_append] at hp
     have e := unmk_yes hb (by omega) hd p h _ rfl hp (by omega) (y := readV (joinR 2 (readE s d takesK).recs) (d - 1)) (fun q h => (ih (d - 1) (by omega) (by omega) _ (by omega)).1 q h) _ rfl
     simpa [ha] using e
    ·rw [if_neg ha] at hp
     have e := unmk_no hb hd p h _ rfl hp
     have hf : ∀ e1 : Option Err, failO s.length 2 e1 none = e1 := fun e1 => by cases e1 <;> rfl
     simpa [ha, hf] using e
end Go.Ai.T

namespace Go.Ai.T
open Go Go.Proofs
set_option maxRecDepth 100000
set_option maxHeartbeats 4000000
theorem eqfV_loop {g : Nat} {f : Val → Val → Bool} {p : Id} {c0 : Nat} {xs ys : List Val} (hl : xs.length = ys.length) (hm : xs.length ≤ maxStr)
  (hf : ∀ x ∈ xs, ∀ y ∈ ys, ∀ q h, callW E q g [.agg (encV x), .agg (encV y)] h = some (.bool (f x y), dropFrom q 0 h)) : ∀ (k i c : Nat) (h : Heap), i + k = xs.length → c0 ≤ c →
  ∃ e fr' c', iterW E 117 p [1, 2, 6, 15, 16, 17] L_117_4 c0 ((((((bot.set 17 (.int .i64 i)).set 16 (.int .i64 xs.length)).set 15 (.slice (xs.map encV) none)).set 6 (.bool false)).set 2 (.fn g [])).set 1 (.slice (ys.map encV) none)) c h = some (e, fr', c', dropFrom p c0 h) ∧
   (((xs.drop i).zip (ys.drop i)).all (fun q => f q.1 q.2) = true ∧ e = .exit 0 ∨ ((xs.drop i).zip (ys.drop i)).all (fun q => f q.1 q.2) = false ∧ e = .ret ∧ fr' 6 = .bool false) := by
 intro k
 induction k with
 | zero =>
  intro i c h hi hc
  rw [rd_117_4]
  have h1 : ¬ (i : Int) < xs.length := by omega
  generalize hr : execW E 117 p _ _ _ _ = r
  simp -implicitDefEqProofs (maxSteps := 1000000) [Tryz.f117, Code.loopAt, Code.key, h1] at hr
  subst hr
  refine ⟨_, _, _, rfl, .inl ⟨?_, rfl⟩⟩
  rw [List.drop_eq_nil_of_le (by omega)]; rfl
 | succ k ih =>
  intro i c h hi hc
  rw [rd_117_4]
  have h1 : (i : Int) < xs.length := by omega
  have hc1 : c0 ≤ c + 1 := by omega
  have hc2 : c0 ≤ c + 2 := by omega
  obtain ⟨x, hx, hdx⟩ : ∃ x, xs[i]? = some x ∧ xs.drop i = x :: xs.drop (i + 1) := ⟨xs[i], List.getElem?_eq_getElem (by omega), List.drop_eq_getElem_cons (by omega)⟩
  obtain ⟨y, hy, hdy⟩ : ∃ y, ys[i]? = some y ∧ ys.drop i = y :: ys.drop (i + 1) := ⟨ys[i], List.getElem?_eq_getElem (by omega), List.drop_eq_getElem_cons (by omega)⟩
  have hf' := hf _ (List.mem_of_getElem? hx) _ (List.mem_of_getElem? hy)
  have hw : IntKind.i64.wrap ((i : Int) + 1) = (i : Int) + 1 := by rw [wrap_i64 (by omega) (by unfold maxStr at hm; omega)]
  rw [hdx, hdy]
  generalize hr : execW E 117 p _ _ _ _ = r
  simp -implicitDefEqProofs (maxSteps := 1000000) [Tryz.f117, Code.loopAt, Code.key, h1, hx, hy, hf', hw] at hr
  cases hv : f x y with
  | false =>
   simp [hv] at hr
   subst hr
   refine ⟨_, _, _, some4 (by simp [hc, hc1, hc2]), .inr ⟨by simp [hv], rfl, rfl⟩⟩
  | true =>
   simp [hv] at hr
   subst hr
   obtain ⟨e, fr', c', g1, g2⟩ := ih (i + 1) (c + 1 + 1 + 1) (dropFrom p c0 h) (by omega) (by omega)
   refine ⟨e, fr', c', ?_, ?_⟩
   ·simpa [hc, hc1, hc2] using g1
   ·simpa [hv] using g2
theorem eqfV {g : Nat} {f : Val → Val → Bool} {p : Id} {h : Heap} {xs ys : List Val} (hmx : xs.length ≤ maxStr)
  (hf : ∀ x ∈ xs, ∀ y ∈ ys, ∀ q h, callW E q g [.agg (encV x), .agg (encV y)] h = some (.bool (f x y), dropFrom q 0 h)) :
  callW E p 117 [.slice (xs.map encV) none, .slice (ys.map encV) none, .fn g []] h = some (.bool (xs.length == ys.length && (xs.zip ys).all fun q => f q.1 q.2), dropFrom p 0 h) := by
 rw [eq_117]
 by_cases hl : xs.length = ys.length
 ·obtain ⟨e, fr', c', g1, g2⟩ := eqfV_loop (p := p) (c0 := 0) (g := g) (f := f) hl hmx hf xs.length 0 0 h (by omega) (Nat.le_refl _)
  simp only [List.drop_zero] at g2
  rw [hl, nat0] at g1
  rcases g2 with ⟨g2, rfl⟩ | ⟨g2, rfl, g3⟩
  ·simp -implicitDefEqProofs (maxSteps := 1000000) [Tryz.f117, Code.hide, Code.key, hl, g1, g2]
  ·simp -implicitDefEqProofs (maxSteps := 1000000) [Tryz.f117, Code.hide, Code.key, hl, g1, g2, g3]
 ·have h1 : ¬ (xs.length : Int) = ys.length := by omega
  simp -implicitDefEqProofs (maxSteps := 1000000) [Tryz.f117, Code.key, Code.hide, hl, h1]
theorem eqfK_loop {g : Nat} {f : KV → KV → Bool} {p : Id} {c0 : Nat} {xs ys : List KV} (hl : xs.length = ys.length) (hm : xs.length ≤ maxStr)
  (hf : ∀ x ∈ xs, ∀ y ∈ ys, ∀ q h, callW E q g [.agg (encK x), .agg (encK y)] h = some (.bool (f x y), dropFrom q 0 h)) : ∀ (k i c : Nat) (h : Heap), i + k = xs.length → c0 ≤ c →
  ∃ e fr' c', iterW E 137 p [1, 2, 6, 15, 16, 17] L_137_4 c0 ((((((bot.set 17 (.int .i64 i)).set 16 (.int .i64 xs.length)).set 15 (.slice (xs.map encK) none)).set 6 (.bool false)).set 2 (.fn g [])).set 1 (.slice (ys.map encK) none)) c h = some (e, fr', c', dropFrom p c0 h) ∧
   (((xs.drop i).zip (ys.drop i)).all (fun q => f q.1 q.2) = true ∧ e = .exit 0 ∨ ((xs.drop i).zip (ys.drop i)).all (fun q => f q.1 q.2) = false ∧ e = .ret ∧ fr' 6 = .bool false) := by
 intro k
 induction k with
 | zero =>
  intro i c h hi hc
  rw [rd_137_4]
  have h1 : ¬ (i : Int) < xs.length := by omega
  generalize hr : execW E 137 p _ _ _ _ = r
  simp -implicitDefEqProofs (maxSteps := 1000000) [Tryz.f137, Code.loopAt, Code.key, h1] at hr
  subst hr
  refine ⟨_, _, _, rfl, .inl ⟨?_, rfl⟩⟩
  rw [List.drop_eq_nil_of_le (by omega)]; rfl
 | succ k ih =>
  intro i c h hi hc
  rw [rd_137_4]
  have h1 : (i : Int) < xs.length := by omega
  have hc1 : c0 ≤ c + 1 := by omega
  have hc2 : c0 ≤ c + 2 := by omega
  obtain ⟨x, hx, hdx⟩ : ∃ x, xs[i]? = some x ∧ xs.drop i = x :: xs.drop (i + 1) := ⟨xs[i], List.getElem?_eq_getElem (by omega), List.drop_eq_getElem_cons (by omega)⟩
  obtain ⟨y, hy, hdy⟩ : ∃ y, ys[i]? = some y ∧ ys.drop i = y :: ys.drop (i + 1) := ⟨ys[i], List.getElem?_eq_getElem (by omega), List.drop_eq_getElem_cons (by omega)⟩
  have hf' := hf _ (List.mem_of_getElem? hx) _ (List.mem_of_getElem? hy)
  have hw : IntKind.i64.wrap ((i : Int) + 1) = (i : Int) + 1 := by rw [wrap_i64 (by omega) (by unfold maxStr at hm; omega)]
  rw [hdx, hdy]
  generalize hr : execW E 137 p _ _ _ _ = r
  simp -implicitDefEqProofs (maxSteps := 1000000) [Tryz.f137, Code.loopAt, Code.key, h1, hx, hy, hf', hw] at hr
  cases hv : f x y with
  | false =>
   simp [hv] at hr
   subst hr
   refine ⟨_, _, _, some4 (by simp [hc, hc1, hc2]), .inr ⟨by simp [hv], rfl, rfl⟩⟩
  | true =>
   simp [hv] at hr
   subst hr
   obtain ⟨e, fr', c', g1, g2⟩ := ih (i + 1) (c + 1 + 1 + 1) (dropFrom p c0 h) (by omega) (by omega)
   refine ⟨e, fr', c', ?_, ?_⟩
   ·simpa [hc, hc1, hc2] using g1
   ·simpa [hv] using g2
theorem eqfK {g : Nat} {f : KV → KV → Bool} {p : Id} {h : Heap} {xs ys : List KV} (hmx : xs.length ≤ maxStr)
  (hf : ∀ x ∈ xs, ∀ y ∈ ys, ∀ q h, callW E q g [.agg (encK x), .agg (encK y)] h = some (.bool (f x y), dropFrom q 0 h)) :
  callW E p 137 [.slice (xs.map encK) none, .slice (ys.map encK) none, .fn g []] h = some (.bool (xs.length == ys.length && (xs.zip ys).all fun q => f q.1 q.2), dropFrom p 0 h) := by
 rw [eq_137]
 by_cases hl : xs.length = ys.length
 ·obtain ⟨e, fr', c', g1, g2⟩ := eqfK_loop (p := p) (c0 := 0) (g := g) (f := f) hl hmx hf xs.length 0 0 h (by omega) (Nat.le_refl _)
  simp only [List.drop_zero] at g2
  rw [hl, nat0] at g1
  rcases g2 with ⟨g2, rfl⟩ | ⟨g2, rfl, g3⟩
  ·simp -implicitDefEqProofs (maxSteps := 1000000) [Tryz.f137, Code.hide, Code.key, hl, g1, g2]
  ·simp -implicitDefEqProofs (maxSteps := 1000000) [Tryz.f137, Code.hide, Code.key, hl, g1, g2, g3]
 ·have h1 : ¬ (xs.length : Int) = ys.length := by omega
  simp -implicitDefEqProofs (maxSteps := 1000000) [Tryz.f137, Code.key, Code.hide, hl, h1]
theorem eqL_dec {α : Type} [DecidableEq α] (xs ys : List α) : (xs.length == ys.length && (xs.zip ys).all fun q => decide (q.1 = q.2)) = decide (xs = ys) := by
 induction xs generalizing ys with
 | nil => cases ys <;> simp
 | cons x xs ih =>
  cases ys with
  | nil => simp
  | cons y ys =>
   have := ih ys
   rw [Bool.eq_iff_iff] at this ⊢
   simp at this ⊢
   constructor
   ·rintro ⟨h1, rfl, h2⟩; exact ⟨rfl, this.1 ⟨h1, h2⟩⟩
   ·rintro ⟨rfl, rfl⟩; exact ⟨rfl, rfl, (this.2 rfl).2⟩
open Classical in
theorem same_ok : (∀ a : Val, a.wf → ∀ (b : Val) (p : Id) (h : Heap), callW E p 76 [.agg (encV a), .agg (encV b)] h = some (.bool (decide (a = b)), dropFrom p 0 h)) ∧
  ∀ a : KV, a.wf → ∀ (b : KV) (p : Id) (h : Heap), callW E p 138 [.agg (encK a), .agg (encK b)] h = some (.bool (decide (a = b)), dropFrom p 0 h) := by
 refine Val.ind2 ?_ ?_
 ·intro k s bb n l m i u ihl ihm hwf b p h
  obtain ⟨k', s', b', n', l', m', i', u'⟩ := b
  obtain ⟨_, _, _, hl, hm, _, _, hwl, hwm⟩ := Val.wf_mk.1 hwf
  have hel : ∀ q h, callW E q 117 [.slice (l.map encV) none, .slice (l'.map encV) none, .fn 76 []] h = some (.bool (decide (l = l')), dropFrom q 0 h) := fun q h => by
   rw [eqfV (f := fun x y => decide (x = y)) hl (fun x hx y _ q h => ihl x hx (hwl x hx) y q h), eqL_dec]
  have hek : ∀ q h, callW E q 137 [.slice (m.map encK) none, .slice (m'.map encK) none, .fn 138 []] h = some (.bool (decide (m = m')), dropFrom q 0 h) := fun q h => by
   rw [eqfK (f := fun x y => decide (x = y)) hm (fun x hx y _ q h => ihm x hx (hwm x hx) y q h), eqL_dec]
  have hsk : ∀ q h, callW E q 118 [.slice (m.map encK) none, .slice (m'.map encK) none] h = some (.bool (decide (m = m')), dropFrom q 0 h) := fun q h => by
   rw [eq_118]
   simp -implicitDefEqProofs (maxSteps := 1000000) [Tryz.f118, Code.key, hek]
  rw [eq_76]
  by_cases hk : k = k'
  ·subst hk
   by_cases hs : s = s'
   ·subst hs
    by_cases hb : bb = b'
    ·subst hb
     by_cases hn : n = n'
     ·subst hn
      by_cases hi : i = i'
      ·subst hi
       by_cases hu : u = u'
       ·subst hu
        by_cases hl : l = l'
        ·subst hl
         simp -implicitDefEqProofs (maxSteps := 1000000) [Tryz.f76, Code.key, hel, hsk]
        ·simp -implicitDefEqProofs (maxSteps := 1000000) [Tryz.f76, Code.key, hel, hl]
       ·simp -implicitDefEqProofs (maxSteps := 1000000) [Tryz.f76, Code.key, hu]
      ·simp -implicitDefEqProofs (maxSteps := 1000000) [Tryz.f76, Code.key, hi]
     ·have hn' : ¬ ((n : Int) = n') := by omega
      simp -implicitDefEqProofs (maxSteps := 1000000) [Tryz.f76, Code.key, hn', hn]
    ·simp -implicitDefEqProofs (maxSteps := 1000000) [Tryz.f76, Code.key, hb]
   ·simp -implicitDefEqProofs (maxSteps := 1000000) [Tryz.f76, Code.key, hs]
  ·simp -implicitDefEqProofs (maxSteps := 1000000) [Tryz.f76, Code.key, hk]
 ·intro k has v u ih hwf b p h
  obtain ⟨k', has', v', u'⟩ := b
  obtain ⟨_, _, hwv⟩ := KV.wf_mk.1 hwf
  have hv := ih hwv
  rw [eq_138]
  by_cases hk : k = k'
  ·subst hk
   by_cases hh : has = has'
   ·subst hh
    by_cases hu : u = u'
    ·subst hu
     simp -implicitDefEqProofs (maxSteps := 1000000) [Tryz.f138, Code.key, hv]
    ·simp -implicitDefEqProofs (maxSteps := 1000000) [Tryz.f138, Code.key, hu]
   ·simp -implicitDefEqProofs (maxSteps := 1000000) [Tryz.f138, Code.key, hh]
  ·simp -implicitDefEqProofs (maxSteps := 1000000) [Tryz.f138, Code.key, hk]
open Classical in
theorem sameKeys_ok {l m : List KV} (hl : l.length ≤ maxStr) (hw : ∀ x ∈ l, x.wf) (p : Id) (h : Heap) : callW E p 118 [.slice (l.map encK) none, .slice (m.map encK) none] h = some (.bool (decide (l = m)), dropFrom p 0 h) := by
 have hek : ∀ q h, callW E q 137 [.slice (l.map encK) none, .slice (m.map encK) none, .fn 138 []] h = some (.bool (decide (l = m)), dropFrom q 0 h) := fun q h => by
  rw [eqfK (f := fun x y => decide (x = y)) hl (fun x hx y _ q h => same_ok.2 x (hw x hx) y q h), eqL_dec]
 rw [eq_118]
 simp -implicitDefEqProofs (maxSteps := 1000000) [Tryz.f118, Code.key, hek]
end Go.Ai.T

namespace Go.Ai.T
open Go Go.Proofs
set_option maxRecDepth 100000
set_option maxHeartbeats 4000000
open Classical in
theorem rKeys_loop {p : Id} {c0 : Nat} {l m : List KV} (hl : l.length ≤ maxStr)
  (hf : ∀ x ∈ l, ∀ y, ∀ q h, callW E q 18 [.agg (encK x), .agg (encK y)] h = some (.bool (decide (x = y)), dropFrom q 0 h)) :
  ∀ (ra rb : List KV), ra.length = rb.length → ∃ dj dc : Nat, ∀ (j c : Nat) (h : Heap), l.drop j = ra → m.drop j = rb → c0 ≤ c →
  iterW E 7 p [0, 1, 4, 5] L_7_4 c0 ((((bot.set 5 (.int .i64 j)).set 4 (.bool false)).set 1 (.slice (m.map encK) none)).set 0 (.slice (l.map encK) none)) c h =
   some (if ra = rb then .exit 0 else .ret, (((bot.set 5 (.int .i64 (j + dj : Nat))).set 4 (.bool false)).set 1 (.slice (m.map encK) none)).set 0 (.slice (l.map encK) none), c + dc, dropFrom p c0 h) := by
 intro ra
 induction ra with
 | nil =>
  intro rb hrb
  obtain rfl : rb = [] := List.eq_nil_of_length_eq_zero hrb.symm
  refine ⟨0, 0, fun j c h hj hj2 hc => ?_⟩
  rw [rd_7_4]
  have h1 := drop_end hj
  generalize hr : execW E 7 p _ _ _ _ = e
  simp -implicitDefEqProofs (maxSteps := 1000000) [Tryz.f7, Code.loopAt, Code.key, h1] at hr
  subst hr
  rfl
 | cons x xs ih =>
  intro rb hrb
  cases rb with
  | nil => cases hrb
  | cons y ys =>
   obtain ⟨dj, dc, ih⟩ := ih ys (by simpa using hrb)
   refine ⟨if x = y then dj + 1 else 0, if x = y then dc + 1 else 1, fun j c h hj hj2 hc => ?_⟩
   rw [rd_7_4]
   obtain ⟨hlt, hx, hxs⟩ := drop_facts hj
   obtain ⟨_, hy, hys⟩ := drop_facts hj2
   have h1 := drop_lt hj
   have hw := wrap_succ hlt hl
   have hf' := hf x (List.mem_of_getElem? hx) y
   generalize hr : execW E 7 p _ _ _ _ = e
   by_cases hxy : x = y
   ·subst hxy
    simp -implicitDefEqProofs (maxSteps := 1000000) [Tryz.f7, Code.loopAt, Code.key, h1, hx, hy, hw, hf'] at hr
    subst hr
    have g := ih (j + 1) (c + 1) (dropFrom p c0 h) hxs hys (by omega)
    rw [if_pos rfl, if_pos rfl, show j + (dj + 1) = j + 1 + dj by omega, show c + (dc + 1) = c + 1 + dc by omega]
    simpa [hc] using g
   ·simp -implicitDefEqProofs (maxSteps := 1000000) [Tryz.f7, Code.loopAt, Code.key, h1, hx, hy, hw, hf', hxy] at hr
    subst hr
    simp [hxy, hc]
open Classical in
theorem rKeys_of {l m : List KV} (hl : l.length ≤ maxStr)
  (hf : ∀ x ∈ l, ∀ y, ∀ q h, callW E q 18 [.agg (encK x), .agg (encK y)] h = some (.bool (decide (x = y)), dropFrom q 0 h)) (p : Id) (h : Heap) :
  callW E p 7 [.slice (l.map encK) none, .slice (m.map encK) none] h = some (.bool (decide (l = m)), dropFrom p 0 h) := by
 rw [eq_7]
 by_cases hlm : l.length = m.length
 ·obtain ⟨dj, dc, g⟩ := rKeys_loop (p := p) (c0 := 0) hl hf l m hlm
  have g := fun h => g 0 0 h rfl rfl (Nat.le_refl _)
  rw [nat0] at g
  by_cases he : l = m
  ·subst he
   simp -implicitDefEqProofs (maxSteps := 1000000) [Tryz.f7, Code.hide, Code.key, g]
  ·have hl' : ((l.length : Nat) : Int) = m.length := by omega
   simp -implicitDefEqProofs (maxSteps := 1000000) [Tryz.f7, Code.hide, Code.key, g, he, hl']
 ·have h1 : ¬ ((l.length : Nat) : Int) = m.length := by omega
  have he : ¬ l = m := fun e => hlm (by rw [e])
  simp -implicitDefEqProofs (maxSteps := 1000000) [Tryz.f7, Code.hide, Code.key, h1, he]
open Classical in
theorem rValue_loop {p : Id} {c0 : Nat} {k k' : Int} {s s' : List UInt8} {b b' : Bool} {n n' : Nat} {l l' : List Val} {m m' : List KV} {i i' u u' : List UInt8} (hl : l.length ≤ maxStr) (h0 : 2 ≤ c0)
  (hf : ∀ x ∈ l, ∀ y, ∀ q h, callW E q 39 [.agg (encV x), .agg (encV y)] h = some (.bool (decide (x = y)), dropFrom q 0 h)) :
  ∀ (ra rb : List Val), ra.length = rb.length → ∃ dj dc : Nat, ∀ (j c : Nat) (h : Heap), l.drop j = ra → l'.drop j = rb → c0 ≤ c →
   h (36 :: 0 :: p) = some [.int .i64 k, .str s, .bool b, .int .u64 n, .slice (l.map encV) none, .slice (m.map encK) none, .str i, .str u] →
   h (36 :: 1 :: p) = some [.int .i64 k', .str s', .bool b', .int .u64 n', .slice (l'.map encV) none, .slice (m'.map encK) none, .str i', .str u'] →
  iterW E 39 p [2, 3, 4, 5] L_39_4 c0 ((((bot.set 5 (.int .i64 j)).set 4 (.bool false)).set 3 (.ptr (36 :: 1 :: p) 0)).set 2 (.ptr (36 :: 0 :: p) 0)) c h =
   some (if ra = rb then .exit 0 else .ret, (((bot.set 5 (.int .i64 (j + dj : Nat))).set 4 (.bool false)).set 3 (.ptr (36 :: 1 :: p) 0)).set 2 (.ptr (36 :: 0 :: p) 0), c + dc, dropFrom p c0 h) := by
 intro ra
 have hc0 : ¬ c0 = 0 := by omega
 have hc1 : ¬ c0 ≤ 1 := by omega
 induction ra with
 | nil =>
  intro rb hrb
  obtain rfl : rb = [] := List.eq_nil_of_length_eq_zero hrb.symm
  refine ⟨0, 0, fun j c h hj hj2 hc hh1 hh2 => ?_⟩
  rw [rd_39_4]
  have h1 := drop_end hj
  generalize hr : execW E 39 p _ _ _ _ = e
  simp -implicitDefEqProofs (maxSteps := 1000000) [Tryz.f39, Code.loopAt, Code.key, h1, hh1, hh2] at hr
  subst hr
  rfl
 | cons x xs ih =>
  intro rb hrb
  cases rb with
  | nil => cases hrb
  | cons y ys =>
   obtain ⟨dj, dc, ih⟩ := ih ys (by simpa using hrb)
   refine ⟨if x = y then dj + 1 else 0, if x = y then dc + 1 else 1, fun j c h hj hj2 hc hh1 hh2 => ?_⟩
   rw [rd_39_4]
   obtain ⟨hlt, hx, hxs⟩ := drop_facts hj
   obtain ⟨_, hy, hys⟩ := drop_facts hj2
   have h1 := drop_lt hj
   have hw := wrap_succ hlt hl
   have hf' := hf x (List.mem_of_getElem? hx) y
   generalize hr : execW E 39 p _ _ _ _ = e
   by_cases hxy : x = y
   ·subst hxy
    simp -implicitDefEqProofs (maxSteps := 1000000) [Tryz.f39, Code.loopAt, Code.key, h1, hx, hy, hw, hf', hh1, hh2] at hr
    subst hr
    have g := ih (j + 1) (c + 1) (dropFrom p c0 h) hxs hys (by omega) (by simp [hc0, hh1]) (by simp [hc1, hh2])
    rw [if_pos rfl, if_pos rfl, show j + (dj + 1) = j + 1 + dj by omega, show c + (dc + 1) = c + 1 + dc by omega]
    simpa [hc] using g
   ·simp -implicitDefEqProofs (maxSteps := 1000000) [Tryz.f39, Code.loopAt, Code.key, h1, hx, hy, hw, hf', hxy, hh1, hh2] at hr
    subst hr
    simp [hxy, hc]
open Classical in
theorem rsame_ok : (∀ a : Val, a.wf → ∀ (b : Val) (p : Id) (h : Heap), callW E p 39 [.agg (encV a), .agg (encV b)] h = some (.bool (decide (a = b)), dropFrom p 0 h)) ∧
  ∀ a : KV, a.wf → ∀ (b : KV) (p : Id) (h : Heap), callW E p 18 [.agg (encK a), .agg (encK b)] h = some (.bool (decide (a = b)), dropFrom p 0 h) := by
 refine Val.ind2 ?_ ?_
 ·intro k s bb n l m i u ihl ihm hwf b p h
  obtain ⟨k', s', b', n', l', m', i', u'⟩ := b
  obtain ⟨_, _, _, hl, hm, _, _, hwl, hwm⟩ := Val.wf_mk.1 hwf
  have hek := fun q h => rKeys_of (l := m) (m := m') hm (fun x hx y q h => ihm x hx (hwm x hx) y q h) q h
  rw [eq_39]
  by_cases hk : k = k'
  ·subst hk
   by_cases hs : s = s'
   ·subst hs
    by_cases hb : bb = b'
    ·subst hb
     by_cases hn : n = n'
     ·subst hn
      by_cases hi : i = i'
      ·subst hi
       by_cases hu : u = u'
       ·subst hu
        by_cases hll : l.length = l'.length
        ·by_cases hmm : m = m'
         ·subst hmm
          obtain ⟨dj, dc, g⟩ := rValue_loop (p := p) (c0 := 3) (k := k) (k' := k) (s := s) (s' := s) (b := bb) (b' := bb) (n := n) (n' := n) (m := m) (m' := m) (i := i) (i' := i) (u := u) (u' := u) hl (by omega) (fun x hx y q h => ihl x hx (hwl x hx) y q h) l l' hll
          have g := fun h => g 0 3 h rfl rfl (Nat.le_refl _)
          rw [nat0] at g
          by_cases hlm : l = l'
          ·subst hlm
           simp -implicitDefEqProofs (maxSteps := 1000000) [Tryz.f39, Code.key, Code.hide, hek, g]
          ·have hl' : ((l.length : Nat) : Int) = l'.length := by omega
           simp -implicitDefEqProofs (maxSteps := 1000000) [Tryz.f39, Code.key, Code.hide, hek, g, hlm, hl']
         ·have hl' : ((l.length : Nat) : Int) = l'.length := by omega
          simp -implicitDefEqProofs (maxSteps := 1000000) [Tryz.f39, Code.key, Code.hide, hek, hmm, hl']
        ·have hl' : ¬ ((l.length : Nat) : Int) = l'.length := by omega
         have hlm : ¬ l = l' := fun e => hll (by rw [e])
         simp -implicitDefEqProofs (maxSteps := 1000000) [Tryz.f39, Code.key, Code.hide, hl', hlm]
       ·simp -implicitDefEqProofs (maxSteps := 1000000) [Tryz.f39, Code.key, Code.hide, hu]
      ·simp -implicitDefEqProofs (maxSteps := 1000000) [Tryz.f39, Code.key, Code.hide, hi]
     ·have hn' : ¬ ((n : Int) = n') := by omega
      simp -implicitDefEqProofs (maxSteps := 1000000) [Tryz.f39, Code.key, Code.hide, hn', hn]
    ·simp -implicitDefEqProofs (maxSteps := 1000000) [Tryz.f39, Code.key, Code.hide, hb]
   ·simp -implicitDefEqProofs (maxSteps := 1000000) [Tryz.f39, Code.key, Code.hide, hs]
  ·simp -implicitDefEqProofs (maxSteps := 1000000) [Tryz.f39, Code.key, Code.hide, hk]
 ·intro k has v u ih hwf b p h
  obtain ⟨k', has', v', u'⟩ := b
  obtain ⟨_, _, hwv⟩ := KV.wf_mk.1 hwf
  have hv := ih hwv
  rw [eq_18]
  by_cases hk : k = k'
  ·subst hk
   by_cases hh : has = has'
   ·subst hh
    by_cases hu : u = u'
    ·subst hu
     simp -implicitDefEqProofs (maxSteps := 1000000) [Tryz.f18, Code.key, hv]
    ·simp -implicitDefEqProofs (maxSteps := 1000000) [Tryz.f18, Code.key, hu]
   ·simp -implicitDefEqProofs (maxSteps := 1000000) [Tryz.f18, Code.key, hh]
  ·simp -implicitDefEqProofs (maxSteps := 1000000) [Tryz.f18, Code.key, hk]
open Classical in
theorem rKeys_ok {l m : List KV} (hl : l.length ≤ maxStr) (hw : ∀ x ∈ l, x.wf) (p : Id) (h : Heap) : callW E p 7 [.slice (l.map encK) none, .slice (m.map encK) none] h = some (.bool (decide (l = m)), dropFrom p 0 h) :=
 rKeys_of hl (fun x hx y q h => rsame_ok.2 x (hw x hx) y q h) p h
end Go.Ai.T

