/- Part KI of the proof that a law of this program answers yes at every input: no conditions beyond the given statement. -/
import Derived.Test.YtalicejjbahmpaaGreatDoorKE
import Derived.Test.YtalicejjbahmpaaGreatDoorKM
import Derived.Test.YtalicejjbahmpaaGreatDoorKH
import Derived.Test.YtalicejjbahmpaaGreatDoorKF
set_option linter.unusedSimpArgs false
set_option linter.unusedVariables false
set_option linter.all false
namespace Go.Ai.T
open Go Go.Proofs
set_option maxRecDepth 100000
set_option maxHeartbeats 4000000
theorem roomKs_sz : ∀ {l : List KV} {d r : Int}, -1 ≤ r → 0 ≤ roomKs l d r → (KV.szs l : Int) ≤ r - roomKs l d r
 | [], d, r, _, h => by rw [roomKs, KV.szs]; simp
 | x :: xs, d, r, hr, h => by
  rw [roomKs] at h ⊢
  split at h
  ·rename_i h0
   rw [if_pos h0, KV.szs]
   have hle := room_le.2 x d r hr
   have i2 := roomKs_sz (l := xs) (d := d) hle.1 h
   have h3 : 0 ≤ roomKV x d r := roomKs_pos h
   have i1 := room_sz.2 x d r hr h3
   omega
  ·omega
structure Small (l : List KV) : Prop where
 wf : ∀ x ∈ l, x.wf
 sz : KV.szs l ≤ 8000
 may : ∀ x ∈ l, mayK x 32 = true
theorem szs_perm {a b : List KV} (h : a.Perm b) : KV.szs a = KV.szs b := by
 induction h with
 | nil => rfl
 | cons x _ ih => simp only [KV.szs, ih]
 | swap x y l => simp only [KV.szs]; omega
 | trans _ _ h1 h2 => exact h1.trans h2
theorem Small.perm {a b : List KV} (h : Small a) (hp : b.Perm a) : Small b := ⟨fun x hx => h.wf x (hp.mem_iff.1 hx), by rw [szs_perm hp]; exact h.sz, fun x hx => h.may x (hp.mem_iff.1 hx)⟩
theorem Small.one {l : List KV} (h : Small l) {x : KV} (hx : x ∈ l) : x.sz ≤ 8000 := by have := KV.szs_mem hx; have := h.sz; omega
theorem Small.len {l : List KV} (h : Small l) : l.length ≤ 8000 := by have := T0.szsK_len l; have := h.sz; omega
theorem Small.parts {l : List KV} (h : Small l) : (partsK l).length ≤ 8000 := by
 have : ∀ l : List KV, (∀ x ∈ l, x.wf) → KV.szs l ≤ 8000 → (partsK l).length ≤ KV.szs l := by
  intro l
  induction l with
  | nil => intro _ _; simp [partsK]
  | cons x l ih =>
   intro hw hs
   rw [KV.szs] at hs ⊢
   have h1 := write_sz.2 x (hw x (by simp)) (by omega)
   have h2 := ih (fun y hy => hw y (by simp [hy])) (by omega)
   have h3 : (bytesB 1 (writeK x)).length ≤ (writeK x).length + 11 := by
    have h4 := (putV_len (n := (writeK x).length) (by omega)).2
    have h5 : (tagB 1 2).length = 1 := by simp [tagB, putV_small]
    simp only [bytesB, List.length_append, h5]; omega
   simp only [partsK, List.length_append]; omega
 have := this l h.wf h.sz
 have := h.sz
 omega
def pkFr (p : Id) (l : List KV) (i : Nat) : Fr := ((((bot.set 10 (.int .i64 i)).set 9 (.int .i64 l.length)).set 8 (.slice (l.map encK) none)).set 3 (.ptr (53 :: 0 :: p) 0))
theorem pk_loop {l : List KV} (hs : Small l) :
  ∀ (t : List KV) (i : Nat) (o : Option (List UInt8)), l.drop i = t → i ≤ l.length → (o.getD []).length + (partsK t).length ≤ 549755813888 → ∃ K o', o'.getD [] = o.getD [] ++ partsK t ∧ ∀ (p : Id) (c0 c : Nat) (h : Heap), 0 < c0 → c0 ≤ c → h (53 :: 0 :: p) = some (bld (53 :: 0 :: p) o) →
  iterW E 8 p [3, 8, 9, 10] L_8_3 c0 (pkFr p l i) c h =
   some (.exit 0, pkFr p l l.length, c + K, upd (dropFrom p c0 h) (53 :: 0 :: p) (bld (53 :: 0 :: p) o')) := by
 have hn := hs.len
 intro t
 induction t with
 | nil =>
  intro i o hj hi hb
  have hlen : i = l.length := by have := drop_end hj; omega
  subst hlen
  refine ⟨0, o, by simp [partsK], fun p c0 c h h1 h2 hx => ?_⟩
  have hlt' : ¬ ((l.length : Nat) : Int) < l.length := by omega
  unfold pkFr
  rw [rd_8_3]
  generalize hr : execW E 8 p _ _ _ _ = e
  simp -implicitDefEqProofs (maxSteps := 1000000) [Tryz.f8, Code.loopAt, Code.key] at hr
  subst hr
  rw [upd_id (h := dropFrom p c0 h) (by rw [own_dg h1, hx])]
  simp
 | cons x t ih =>
  intro i o hj hi hb
  obtain ⟨hlt, hbb, hbs⟩ := drop_facts hj
  have hlt' : (i : Int) < l.length := by omega
  have hw1 : IntKind.i64.wrap ((i : Int) + 1) = ((i + 1 : Nat) : Int) := by rw [wrap_i64 (by omega) (by omega)]; rfl
  have hget? : (l.map encK)[i]? = some (encK x) := by simp [hbb]
  have hget : ∀ hl, (l.map encK)[i]'hl = encK x := fun hl => by rw [List.getElem?_eq_getElem hl] at hget?; exact Option.some.inj hget?
  have hgetl : ∀ hl, l[i]'hl = x := fun hl => by rw [List.getElem?_eq_getElem hl] at hbb; exact Option.some.inj hbb
  have hxm := List.mem_of_getElem? hbb
  rw [partsK, List.length_append] at hb
  have hbl := bytesB_len 1 (writeK x)
  obtain ⟨K, o', ho, gl⟩ := ih (i + 1) (some (o.getD [] ++ bytesB 1 (writeK x))) hbs (by omega) (by simp; omega)
  refine ⟨4 + K, o', by rw [ho, partsK]; simp, fun p c0 c h h1 h2 hx => ?_⟩
  obtain ⟨o1, o2, o3, o4, o5, o6⟩ := own_facts (p := p) 53 0
  have n0 : 0 ≠ c := by omega
  have n1 : 0 ≠ c + 1 := by omega
  have n2 : 0 ≠ c + 1 + 1 := by omega
  have n2' : 0 ≠ c + 1 + 1 + 1 := by omega
  have n3 : c ≠ c + 1 := by omega
  have n4 : c ≠ c + 1 + 1 := by omega
  have hm := hs.may x hxm
  have g := fun q h => marK_ok (hs.wf x hxm) (by have := hs.one hxm; omega) (d := 32) (by omega) q h
  rw [hm] at g
  simp only [marE, if_true, encO_none] at g
  have g1 := fun q h => wbytes_ok (num := 1) (by omega) (by omega) (s := writeK x) (by omega) q h
  have g2 := fun k h (hne : 0 ≠ k) hh => sbwrite_ok (id := 0 :: p) (T := 53) (.inl rfl) (o := o) (s := bytesB 1 (writeK x)) (by omega) (p := k :: p) (Apart.own hne) (h := h) hh
  simp only [nl1] at g1
  have e := gl p c0 (c + 4) (upd (dropFrom p c0 h) (53 :: 0 :: p) (bld (53 :: 0 :: p) (some (o.getD [] ++ bytesB 1 (writeK x))))) h1 (by omega) (by simp)
  unfold pkFr at e ⊢
  rw [rd_8_3]
  generalize hr : execW E 8 p _ _ _ _ = ee
  simp -implicitDefEqProofs (maxSteps := 1000000) [-Int.natCast_add, Tryz.f8, Code.loopAt, Code.key, hx, o1, o2, o3, o4, o5, o6, n0, n1, n2, n2', n3, n4, hlt, hlt', hget?, hget, hgetl, hbb, hw1, g, g1, g2] at hr
  subst hr
  simp [-Int.natCast_add]
  rw [show c + (4 + K) = c + 4 + K by omega]
  refine (iterW_congr rfl rfl (by omega) (by simp -implicitDefEqProofs (disch := omega) only [own_du, drop_drop_cons, drop_upd, drop_drop, drop_drop_self, upd_upd] <;> rfl)).trans (e.trans (some5 rfl (by omega) (by simp -implicitDefEqProofs (disch := omega) only [own_du, drop_drop_cons, drop_upd, drop_drop, drop_drop_self, upd_upd] <;> rfl)))
theorem pack_ok {l : List KV} (hs : Small l) (p : Id) (h : Heap) : callW E p 8 [.slice (l.map encK) none] h = some (.str (partsK l), dropFrom p 0 h) := by
 have hpl := hs.parts
 obtain ⟨K, o', ho, gl⟩ := pk_loop hs l 0 none rfl (Nat.zero_le _) (by simp; omega)
 simp only [Option.getD_none, List.nil_append] at ho
 have g := fun h => gl p 1 1 h (by omega) (Nat.le_refl _)
 have g3 := fun k h (hne : 0 ≠ k) hh => sbstring_ok (id := 53 :: 0 :: p) (o := o') (by rw [ho]; unfold maxStr; omega) (p := k :: p) (h := h) hh
 have hbn : ∀ id, bld id none = [.nilp, .nils] := fun _ => rfl
 have nK : ¬ 0 = 1 + K := by omega
 have hrl : (l.map encK).length = l.length := by simp
 simp only [pkFr, nat0, hbn, ho] at g g3
 rw [eq_8]
 simp -implicitDefEqProofs (maxSteps := 1000000) [Tryz.f8, Code.hide, Code.key, hrl, g, g3, nK]
theorem Small.fits {l : List KV} (hs : Small l) : T0.fits l := ⟨by have := hs.len; omega, fun x hx => by have := hs.one hx; omega⟩
theorem sort_ok {l : List KV} (hs : Small l) (p : Id) (h : Heap) : callW E p 10 [.slice (l.map encK) none] h = some (.slice ((ssort T0.leK l).map encK) none, h) := by
 rw [callW_prim (g := T0.attrSortL) rfl]; exact T0.attrSortL_at hs.fits
theorem twice_ok {l : List KV} (hs : Small l) (p : Id) (h : Heap) : callW E p 12 [.slice (l.map encK) none] h = some (.bool (T0.dup l), h) := by
 rw [callW_prim (g := T0.attrTwice) rfl]; exact T0.attrTwice_at (by have := hs.len; omega)
theorem ssort_perm (l : List KV) : (ssort T0.leK l).Perm l := (ssort_spec T0.leK T0.leK_trans T0.leK_total l).2.1
theorem canon_ok {l : List KV} (hs : Small l) (p : Id) (h : Heap) : callW E p 11 [.slice (l.map encK) none] h = some (.str (partsK (ssort T0.leK l)), dropFrom p 0 h) := by
 have g1 := fun q h => sort_ok hs q h
 have g2 := fun q h => pack_ok (hs.perm (ssort_perm l)) q h
 generalize ssort T0.leK l = m at *
 rw [eq_11]
 simp -implicitDefEqProofs (maxSteps := 1000000) [Tryz.f11, Code.hide, Code.key, g1, g2]
end Go.Ai.T

namespace Go.Ai.T
open Go Go.Proofs
set_option maxRecDepth 100000
set_option maxHeartbeats 4000000
theorem T0.bytesLess_eq' : ∀ (x y : List UInt8), Op.bytesLess x y = decide (x < y)
 | x, [] => by cases x <;> simp [Op.bytesLess]
 | [], b :: y => by simp [Op.bytesLess]
 | a :: x, b :: y => by
  rw [Op.bytesLess, T0.bytesLess_eq' x y, Bool.eq_iff_iff]
  simp [List.cons_lt_cons_iff]
def odFr (l s : List KV) (turn : Int) (i : Nat) : Fr := ((((bot.set 8 (.int .i64 i)).set 7 (.slice (s.map encK) none)).set 4 (.bool false)).set 1 (.int .i64 turn)).set 0 (.slice (l.map encK) none)
theorem od_loop {l s : List KV} {turn : Int} (hn : s.length ≤ 549755813888) (hs : ∀ i a b, s[i]? = some a → s[i + 1]? = some b → a.key ≤ b.key) : ∀ (n i : Nat), i + n = s.length → 1 ≤ i → ∃ K, ∀ (p : Id) (c0 c : Nat) (h : Heap), c0 ≤ c →
  iterW E 3 p [0, 1, 4, 7, 8] L_3_10 c0 (odFr l s turn i) c h = some (.exit 0, odFr l s turn s.length, c + K, dropFrom p c0 h) := by
 intro n
 induction n with
 | zero =>
  intro i hi h1
  obtain rfl : i = s.length := by omega
  refine ⟨0, fun p c0 c h hc => ?_⟩
  have hlt' : ¬ ((s.length : Nat) : Int) < s.length := by omega
  unfold odFr
  rw [rd_3_10]
  generalize hr : execW E 3 p _ _ _ _ = e
  simp -implicitDefEqProofs (maxSteps := 1000000) [Tryz.f3, Code.loopAt, Code.key, hlt'] at hr
  subst hr
  simp
 | succ n ih =>
  intro i hi h1
  obtain ⟨K, gl⟩ := ih (i + 1) (by omega) (by omega)
  refine ⟨K, fun p c0 c h hc => ?_⟩
  have hlt : i < s.length := by omega
  have hlt' : (i : Int) < s.length := by omega
  have hw : IntKind.i64.wrap ((i : Int) + 1) = ((i + 1 : Nat) : Int) := by rw [wrap_i64 (by omega) (by omega)]; rfl
  have hw2 : IntKind.i64.wrap ((i : Int) - 1) = ((i - 1 : Nat) : Int) := by rw [wrap_i64 (by omega) (by omega)]; omega
  obtain ⟨b, hb⟩ : ∃ b, s[i]? = some b := ⟨_, List.getElem?_eq_getElem hlt⟩
  obtain ⟨a, ha⟩ : ∃ a, s[i - 1]? = some a := ⟨_, List.getElem?_eq_getElem (by omega)⟩
  have hle := hs (i - 1) a b ha (by rw [show i - 1 + 1 = i by omega]; exact hb)
  have hgb : (s.map encK)[i]? = some (encK b) := by simp [hb]
  have hga : (s.map encK)[i - 1]? = some (encK a) := by simp [ha]
  have heb : ∀ hl, (s.map encK)[i]'hl = encK b := fun hl => by rw [List.getElem?_eq_getElem hl] at hgb; exact Option.some.inj hgb
  have hea : ∀ hl, (s.map encK)[i - 1]'hl = encK a := fun hl => by rw [List.getElem?_eq_getElem hl] at hga; exact Option.some.inj hga
  have hlt1 : i - 1 < s.length := by omega
  have hrl : (s.map encK).length = s.length := by simp
  have e := gl p c0 c (dropFrom p c0 h) hc
  obtain ⟨ka, ah, av, au⟩ := a
  obtain ⟨kb, bh, bv, bu⟩ := b
  have hfa : ∃ r, encK (.mk ka ah av au) = .str ka :: r ∧ r.length = 10 := ⟨_, encK_mk, by simp⟩
  have hfb : ∃ r, encK (.mk kb bh bv bu) = .str kb :: r ∧ r.length = 10 := ⟨_, encK_mk, by simp⟩
  obtain ⟨ra, qa, na⟩ := hfa
  obtain ⟨rb, qb, nb⟩ := hfb
  rw [qa] at hea hga
  rw [qb] at heb hgb
  have hle' : ka ≤ kb := hle
  have hc : ka = kb ∨ ka ≠ kb ∧ Op.bytesLess ka kb = true := by
   by_cases h : ka = kb
   ·exact .inl h
   ·refine .inr ⟨h, ?_⟩
    rw [T0.bytesLess_eq', decide_eq_true_iff]
    rcases List.le_iff_lt_or_eq.1 hle' with h' | h'
    ·exact h'
    ·exact absurd h' h
  unfold odFr at e ⊢
  generalize s.map encK = S at *
  generalize l.map encK = L at *
  rw [rd_3_10]
  rcases hc with rfl | ⟨hne, hbl⟩
  all_goals
   generalize hr : execW E 3 p _ _ _ _ = ee
   simp -implicitDefEqProofs (maxSteps := 1000000) [Tryz.f3, Code.loopAt, Code.key, hlt, hlt', hrl, hgb, hga, heb, hea, hlt1, hw, hw2, na, nb, *] at hr
   subst hr
   simp [-Int.natCast_add] at e ⊢
   exact e
theorem sorted_next {s : List KV} (h : Srt T0.leK s) (i : Nat) (a b : KV) (ha : s[i]? = some a) (hb : s[i + 1]? = some b) : a.key ≤ b.key := by
 have hbl := (List.getElem?_eq_some_iff.1 hb).1
 have hal := (List.getElem?_eq_some_iff.1 ha).1
 have := List.pairwise_iff_getElem.1 h i (i + 1) hal hbl (by omega)
 rw [(List.getElem?_eq_some_iff.1 ha).2, (List.getElem?_eq_some_iff.1 hb).2, T0.leK_iff] at this
 exact this
def tnFr (l s : List KV) (turn : Int) (k i : Nat) : Fr := ((((bot.set 10 (.int .i64 i)).set 9 (growing (38, 11) (((turned l k).take i).map encK))).set 7 (.slice (s.map encK) none)).set 1 (.int .i64 turn)).set 0 (.slice (l.map encK) none)
theorem tn_loop {l s : List KV} {turn : Nat} (ht : (turn : Int) ≤ 9223372036854775807) (hn : l.length ≤ 8000) : ∀ (n i : Nat), i + n = l.length → ∃ K, ∀ (p : Id) (c0 c : Nat) (h : Heap), c0 ≤ c →
  iterW E 3 p [0, 1, 7, 9, 10] L_3_16 c0 (tnFr l s turn (turn % l.length) i) c h = some (.exit 2, tnFr l s turn (turn % l.length) l.length, c + K, dropFrom p c0 h) := by
 intro n
 induction n with
 | zero =>
  intro i hi
  obtain rfl : i = l.length := by omega
  refine ⟨0, fun p c0 c h hc => ?_⟩
  have hlt' : ¬ ((l.length : Nat) : Int) < l.length := by omega
  unfold tnFr
  rw [rd_3_16]
  generalize hr : execW E 3 p _ _ _ _ = e
  simp -implicitDefEqProofs (maxSteps := 1000000) [Tryz.f3, Code.loopAt, Code.key, hlt'] at hr
  subst hr
  simp
 | succ n ih =>
  intro i hi
  obtain ⟨K, gl⟩ := ih (i + 1) (by omega)
  refine ⟨K, fun p c0 c h hc => ?_⟩
  have hlt : i < l.length := by omega
  have hlt' : (i : Int) < l.length := by omega
  have hw : IntKind.i64.wrap ((i : Int) + 1) = ((i + 1 : Nat) : Int) := by rw [wrap_i64 (by omega) (by omega)]; rfl
  have hk : turn % l.length < l.length := Nat.mod_lt _ (by omega)
  have hm1 : (turn : Int).tmod (l.length : Int) = ((turn % l.length : Nat) : Int) := rfl
  have hw3 : IntKind.i64.wrap ((i : Int) + ((turn % l.length : Nat) : Int)) = ((i + turn % l.length : Nat) : Int) := by rw [wrap_i64 (by omega) (by omega)]; omega
  have hj : (i + turn % l.length) % l.length < l.length := Nat.mod_lt _ (by omega)
  have hm2 : ((i + turn % l.length : Nat) : Int).tmod (l.length : Int) = (((i + turn % l.length) % l.length : Nat) : Int) := rfl
  have hne : ¬ (l.length : Int) = 0 := by omega
  have hne' : ¬ l.length = 0 := by omega
  obtain ⟨b, hb⟩ : ∃ b, l[(i + turn % l.length) % l.length]? = some b := ⟨_, List.getElem?_eq_getElem hj⟩
  have htg := turned_get hk hlt
  rw [hb] at htg
  have htl : (turned l (turn % l.length)).length = l.length := (turned_perm _ _).length_eq
  have htk : (turned l (turn % l.length)).take (i + 1) = (turned l (turn % l.length)).take i ++ [b] := by
   rw [← List.take_append_getElem (by omega)]
   rw [List.getElem?_eq_getElem (by omega)] at htg
   rw [Option.some.inj htg]
  have hl1 : (((turned l (turn % l.length)).take i).map encK).length = i := by simp; omega
  have hne2 : l ≠ [] := by intro e; rw [e] at hlt; simp at hlt
  have hmax : i + 1 ≤ maxStr := by unfold maxStr; omega
  have hmax2 : (i + 1) * 160 ≤ 140737488355328 := by omega
  have e6 : A.slice (((turned l (turn % l.length)).take i).map encK ++ [encK b]) (some (38, 11)) = growing (38, 11) (((turned l (turn % l.length)).take i ++ [b]).map encK) := by
   rw [slice_growing]; simp
  have hgb : (l.map encK)[(i + turn % l.length) % l.length]? = some (encK b) := by rw [List.getElem?_map, hb]; rfl
  have heb : ∀ hl, (l.map encK)[(i + turn % l.length) % l.length]'hl = encK b := fun hl => by rw [List.getElem?_eq_getElem hl] at hgb; exact Option.some.inj hgb
  have hrl : (l.map encK).length = l.length := by simp
  have hbl := encK_len b
  have e := gl p c0 c (dropFrom p c0 h) hc
  rw [drop_drop_self] at e
  unfold tnFr at e ⊢
  rw [htk] at e
  generalize (turned l (turn % l.length)).take i = T0 at *
  generalize (turned l (turn % l.length)).take l.length = T2 at *
  generalize (T0 ++ [b]).map encK = T1 at *
  generalize T0.map encK = T3 at *
  generalize s.map encK = S at *
  generalize l.map encK = L at *
  generalize (i + turn % l.length) % l.length = j at *
  generalize i + turn % l.length = j2 at *
  generalize turn % l.length = j3 at *
  rw [rd_3_16]
  generalize hr : execW E 3 p _ _ _ _ = ee
  simp -implicitDefEqProofs (maxSteps := 1000000) [-Int.natCast_add, Tryz.f3, Code.loopAt, Code.key, hlt, hlt', hrl, hgb, heb, hw, hm1, hw3, hm2, hne, hne', hne2, hj, hl1, hmax, hmax2, hbl] at hr
  subst hr
  simp [-Int.natCast_add]
  rw [e6]
  exact e
end Go.Ai.T

namespace Go.Ai.T
open Go Go.Proofs
set_option maxRecDepth 100000
set_option maxHeartbeats 4000000
def kvA : KV := .mk [97] false val0 []
def kvB : KV := .mk [98] false val0 []
def kvC (k : List UInt8) : List A := [.str k, .bool false, .int .i64 0, .str [], .bool false, .int .u64 0, .slice [] none, .slice [] none, .str [], .str [], .str []]
theorem kvA_e : encK kvA = kvC [97] := by simp [kvA, val0, kvC]
theorem kvB_e : encK kvB = kvC [98] := by simp [kvB, val0, kvC]
theorem kvA_w : writeK kvA = [10, 1, 97] := by
 have h1 : putV 10 = [10] := putV_small (by omega)
 have h2 : putV 1 = [1] := putV_small (by omega)
 simp [writeK, kvA, textB, bytesB, tagB, h1, h2]
theorem kvA_small : ∀ x ∈ [kvB, kvA, kvA], x.wf ∧ x.sz ≤ 1000 ∧ mayK x 32 = true := by
 have h1 : textOk [97] = true := by decide +kernel
 have h2 : textOk [98] = true := by decide +kernel
 intro x hx
 simp only [List.mem_cons, List.not_mem_nil, or_false] at hx
 rcases hx with rfl | rfl | rfl
 all_goals exact ⟨by simp [kvA, kvB, val0, KV.wf, Val.wf, Val.wfs, KV.wfs, maxStr], by simp [kvA, kvB, val0, KV.sz, Val.sz, Val.szs, KV.szs], by simp [kvA, kvB, mayK, h1, h2, restE_nil, val0, Val.isZero]⟩
theorem small_of {l : List KV} (h : ∀ x ∈ l, x ∈ [kvB, kvA, kvA]) (hn : l.length ≤ 3) : Small l := by
 refine ⟨fun x hx => (kvA_small x (h x hx)).1, ?_, fun x hx => (kvA_small x (h x hx)).2.2⟩
 have : ∀ l : List KV, (∀ x ∈ l, x.sz ≤ 1000) → KV.szs l ≤ 1001 * l.length := by
  intro l
  induction l with
  | nil => intro _; simp [KV.szs]
  | cons x l ih =>
   intro h
   have h1 := h x (by simp)
   have h2 := ih (fun y hy => h y (by simp [hy]))
   rw [KV.szs, List.length_cons]; omega
 have := this l (fun x hx => (kvA_small x (h x hx)).2.1)
 omega
theorem sorted_BA : ssort T0.leK [kvB, kvA] = [kvA, kvB] := by
 obtain ⟨h1, h2, _⟩ := ssort_spec T0.leK T0.leK_trans T0.leK_total [kvB, kvA]
 generalize ssort T0.leK [kvB, kvA] = s at *
 have hlen := h2.length_eq
 match s, hlen with
 | [x, y], _ =>
  have hx : x ∈ [kvB, kvA] := h2.mem_iff.1 (by simp)
  have hy : y ∈ [kvB, kvA] := h2.mem_iff.1 (by simp)
  have hA : kvA ∈ [x, y] := h2.mem_iff.2 (by simp)
  have hB : kvB ∈ [x, y] := h2.mem_iff.2 (by simp)
  have hne : kvA ≠ kvB := by intro e; simp [kvA, kvB] at e
  simp only [List.mem_cons, List.not_mem_nil, or_false] at hx hy hA hB
  rcases hx with rfl | rfl
  ·rcases hy with rfl | rfl
   ·rcases hA with h | h <;> exact absurd h hne
   ·have := sorted_next h1 0 kvB kvA rfl rfl
    exact absurd this (by decide)
  ·rcases hy with rfl | rfl
   ·rfl
   ·rcases hB with h | h <;> exact absurd h.symm hne
theorem dup_AA : T0.dup [kvA, kvA] = true := by rw [T0.dup_iff]; simp
theorem first9_ok (p : Id) (h : Heap) : callW E p 4 [] h = some (.bool true, dropFrom p 0 h) := by
 have s1 : Small [kvB, kvA] := small_of (by intro x hx; simp at hx ⊢; rcases hx with h | h <;> simp [h]) (by simp)
 have s2 : Small [kvA, kvA] := small_of (by intro x hx; simp at hx ⊢; simp [hx]) (by simp)
 have s3 : Small [kvA] := small_of (by intro x hx; simp at hx ⊢; simp [hx]) (by simp)
 have s4 : Small [] := small_of (by simp) (by simp)
 have g1 := fun q h => sort_ok s1 q h
 have g2 := fun q h => pack_ok s4 q h
 have g3 := fun q h => pack_ok s3 q h
 have g4 := fun q h => twice_ok s2 q h
 rw [sorted_BA] at g1
 rw [dup_AA] at g4
 have hp : partsK [kvA] = [10, 3, 10, 1, 97] := by
  have h1 : putV 10 = [10] := putV_small (by omega)
  have h2 : putV 3 = [3] := putV_small (by omega)
  simp [partsK, kvA_w, bytesB, tagB, h1, h2]
 have hp0 : partsK [] = [] := rfl
 rw [hp] at g3
 rw [hp0] at g2
 simp only [List.map_cons, List.map_nil, kvA_e, kvB_e, kvC] at g1 g2 g3 g4
 rw [eq_4]
 simp -implicitDefEqProofs (maxSteps := 1000000) [Tryz.f4, Code.hide, Code.key, g1, g2, g3, g4]
theorem ssort_turned {l t : List KV} (hp : t.Perm l) (hd : T0.dup l = false) : ssort T0.leK t = ssort T0.leK l := by
 obtain ⟨h1, h2, _⟩ := ssort_spec T0.leK T0.leK_trans T0.leK_total l
 obtain ⟨k1, k2, _⟩ := ssort_spec T0.leK T0.leK_trans T0.leK_total t
 have hnd : (l.map KV.key).Nodup := by
  apply Classical.byContradiction
  intro h
  rw [T0.dup_iff.2 h] at hd
  cases hd
 have hp2 := (k2.trans hp).trans h2.symm
 refine hp2.eq_of_pairwise ?_ k1 h1
 intro a b ha hb hab hba
 rw [T0.leK_iff] at hab hba
 have hk : a.key = b.key := List.le_antisymm hab hba
 have ha' : a ∈ l := (k2.trans hp).mem_iff.1 ha
 have hb' : b ∈ l := h2.mem_iff.1 hb
 obtain ⟨i, hi, hia⟩ := List.getElem_of_mem ha'
 obtain ⟨j, hj, hjb⟩ := List.getElem_of_mem hb'
 have : i = j := by
  rcases Nat.lt_trichotomy i j with h | h | h
  ·have := List.pairwise_iff_getElem.1 hnd i j (by simpa using hi) (by simpa using hj) h
   simp [hia, hjb, hk] at this
  ·exact h
  ·have := List.pairwise_iff_getElem.1 hnd j i (by simpa using hj) (by simpa using hi) h
   simp [hia, hjb, hk] at this
 subst this
 rw [← hia, ← hjb]
theorem dup_perm {l t : List KV} (hp : t.Perm l) : T0.dup t = T0.dup l := by
 rw [Bool.eq_iff_iff, T0.dup_iff, T0.dup_iff, (hp.map KV.key).nodup_iff]
end Go.Ai.T

namespace Go.Ai.T
open Go Go.Proofs
set_option maxRecDepth 100000
set_option maxHeartbeats 4000000
theorem rmayKs_ok {l : List KV} (hn : l.length ≤ maxStr) (hw : ∀ x ∈ l, x.wf) (hs : ∀ x ∈ l, x.sz ≤ 549755813888) {d : Int} (hd1 : -9223372036854775808 ≤ d) (hd : d ≤ 9223372036854775807) (p : Id) (h : Heap) : callW E p 6 [.slice (l.map encK) none, .int .i64 d] h = some (.bool (mayKs l d), dropFrom p 0 h) :=
 rmayKs_of hn hd1 hd (fun x hx q h => rmayK_ok (hw x hx) (hs x hx) hd q h) p h
theorem lawAttrBack {l : List KV} (hl : l.length ≤ maxStr) (hw : ∀ x ∈ l, x.wf) {turn : Int} (ht1 : -9223372036854775808 ≤ turn) (ht2 : turn ≤ 9223372036854775807) :
  ∃ h', callW E [] 3 [.slice (l.map encK) none, .int .i64 turn] (fun _ => none) = some (.bool true, h') := by
 have f := fun q h => first9_ok q h
 have few := fun q h => fewK_ok hl hw q h
 rw [eq_3]
 by_cases hr : 0 ≤ roomK l 60 8000
 case neg =>
  have hd : decide (0 ≤ roomK l 60 8000) = false := by simp [hr]
  rw [hd] at few
  simp -implicitDefEqProofs (maxSteps := 1000000) [Tryz.f3, Code.hide, Code.key, f, few]
 have hd : decide (0 ≤ roomK l 60 8000) = true := by simp [hr]
 rw [hd] at few
 by_cases hneg : turn < 0
 ·simp -implicitDefEqProofs (maxSteps := 1000000) [Tryz.f3, Code.hide, Code.key, f, few, hneg]
 have hsz : KV.szs l ≤ 8000 := by
  rw [roomK_eq, if_neg (by omega)] at hr
  have := roomKs_sz (l := l) (d := 60) (r := 8000) (by omega) hr
  omega
 have hone : ∀ x ∈ l, x.sz ≤ 549755813888 := fun x hx => by have := KV.szs_mem hx; omega
 have may := fun q h => rmayKs_ok hl hw hone (d := 32) (by omega) (by omega) q h
 cases hm : mayKs l 32 with
 | false =>
  rw [hm] at may
  simp -implicitDefEqProofs (maxSteps := 1000000) [Tryz.f3, Code.hide, Code.key, f, few, hneg, may]
 | true =>
  rw [hm] at may
  have hs : Small l := ⟨hw, hsz, fun x hx => by rw [mayKs_all] at hm; exact List.all_eq_true.1 hm x hx⟩
  obtain ⟨tn, rfl⟩ : ∃ tn : Nat, turn = tn := ⟨turn.toNat, by omega⟩
  have hlen := hs.len
  have hwl : ∀ x ∈ l, (writeK x).length < 18446744073709551616 := fun x hx => by
   have := write_sz.2 x (hw x hx) (hone x hx)
   have := hone x hx
   omega
  have hpl := hs.parts
  have pk := fun q h => pack_ok hs q h
  have un := fun q h => aunpack_ok (s := partsK l) (d := 32) (by omega) (by omega) q h
  rw [unpE_parts hs.may hw hwl] at un
  have kk := fun q h => rKeys_ok (l := l) (m := l) hl hw q h
  have so := fun q h => sort_ok hs q h
  have hsm : Small (ssort T0.leK l) := hs.perm (ssort_perm l)
  obtain ⟨z1, z2, z3⟩ := ssort_spec T0.leK T0.leK_trans T0.leK_total l
  have hidem : ssort T0.leK (ssort T0.leK l) = ssort T0.leK l := (ssort_spec T0.leK T0.leK_trans T0.leK_total (ssort T0.leK l)).2.2 z1
  have so2 := fun q h => sort_ok hsm q h
  rw [hidem] at so2
  have hsl : (ssort T0.leK l).length = l.length := z2.length_eq
  have ks := fun q h => rKeys_ok (l := ssort T0.leK l) (m := ssort T0.leK l) (by omega) (fun x hx => hw x (z2.mem_iff.1 hx)) q h
  have ca := fun q h => canon_ok hs q h
  have ps := fun q h => pack_ok hsm q h
  have tw := fun q h => twice_ok hs q h
  have htp := turned_perm l (tn % l.length)
  have hst : Small (turned l (tn % l.length)) := hs.perm htp
  have ct := fun q h => canon_ok hst q h
  have tt := fun q h => twice_ok hst q h
  rw [dup_perm htp] at tt
  have hcl : (partsK (ssort T0.leK (turned l (tn % l.length)))).length = (partsK l).length := partsK_perm ((ssort_perm _).trans htp)
  have hcl2 : (partsK (ssort T0.leK l)).length = (partsK l).length := partsK_perm (ssort_perm _)
  have hor : T0.dup l = false → partsK (ssort T0.leK (turned l (tn % l.length))) = partsK (ssort T0.leK l) := fun hd => by rw [ssort_turned htp hd]
  obtain ⟨K1, lo1⟩ : ∃ K, ∀ (p : Id) (c0 c : Nat) (h : Heap), c0 ≤ c → iterW E 3 p [0, 1, 4, 7, 8] L_3_10 c0 (odFr l (ssort T0.leK l) tn 1) c h = some (.exit 0, odFr l (ssort T0.leK l) tn (if l = [] then 1 else (ssort T0.leK l).length), c + K, dropFrom p c0 h) := by
   by_cases h0 : l = []
   ·subst h0
    have hs0 : ssort T0.leK ([] : List KV) = [] := List.eq_nil_of_length_eq_zero hsl
    rw [hs0, if_pos rfl]
    refine ⟨0, fun p c0 c h hc => ?_⟩
    unfold odFr
    rw [rd_3_10]
    generalize hr : execW E 3 p _ _ _ _ = e
    simp -implicitDefEqProofs (maxSteps := 1000000) [Tryz.f3, Code.loopAt, Code.key] at hr
    subst hr
    simp
   ·have : 0 < l.length := List.length_pos_iff.2 h0
    rw [if_neg h0]
    exact od_loop (l := l) (turn := tn) (by omega) (fun i a b => sorted_next z1 i a b) ((ssort T0.leK l).length - 1) 1 (by omega) (Nat.le_refl _)
  obtain ⟨K2, lo2⟩ := tn_loop (l := l) (s := ssort T0.leK l) ht2 hlen l.length 0 (by omega)
  have lo1 := fun c h => lo1 [] c c h (Nat.le_refl _)
  have lo2 := fun c h => lo2 [] c c h (Nat.le_refl _)
  have htl : (turned l (tn % l.length)).take l.length = turned l (tn % l.length) := List.take_of_length_le (by rw [htp.length_eq]; exact Nat.le_refl _)
  have nl1 : ((1 : Nat) : Int) = 1 := rfl
  simp only [odFr, nl1] at lo1
  simp only [tnFr, nat0, List.take_zero, List.map_nil, growing_nil, htl] at lo2
  have hrs : ((ssort T0.leK l).map encK).length = l.length := by simp [hsl]
  have hrl : (l.map encK).length = l.length := by simp
  simp only [encO_none] at un
  generalize (if l = [] then 1 else (ssort T0.leK l).length) = i1 at *
  generalize T0.dup l = dp at *
  generalize partsK (ssort T0.leK (turned l (tn % l.length))) = P1 at *
  generalize partsK (ssort T0.leK l) = P2 at *
  generalize partsK l = P3 at *
  generalize (turned l (tn % l.length)).map encK = TT at *
  generalize (ssort T0.leK l).map encK = SS at *
  generalize l.map encK = LL at *
  cases dp with
  | true =>
   simp -implicitDefEqProofs (maxSteps := 1000000) [-Int.natCast_add, Tryz.f3, Code.hide, Code.key, f, few, hneg, may, pk, un, kk, so, so2, ks, ca, ps, tw, ct, tt, hcl, hcl2, lo1, lo2, hrs, hrl]
  | false =>
   have hP := hor rfl
   subst hP
   simp -implicitDefEqProofs (maxSteps := 1000000) [-Int.natCast_add, Tryz.f3, Code.hide, Code.key, f, few, hneg, may, pk, un, kk, so, so2, ks, ca, ps, tw, ct, tt, hcl, hcl2, lo1, lo2, hrs, hrl]
end Go.Ai.T

namespace Go.Proofs.YtalicejjbahmpaaGreatDoor
open Go.ChangeShapes Go.WideShapes Go.RowKit
set_option maxRecDepth 100000
theorem law3 (xs : List Go.Ai.A) (h : Go.Ai.ArgsT Go.Ai.T.E.P Tryz.f3.params.toList xs) : ∃ h', Go.Ai.callW Go.Ai.T.E [] 3 xs (fun _ => none) = some (.bool true, h') := by
 have hp : Tryz.f3.params.toList = [22, 3] := by kernel_rfl
 rw [hp] at h
 cases h with
 | cons h0 h =>
  cases h with
  | cons h1 h =>
   cases h
   obtain ⟨x0, rfl, hx0, hw0⟩ := argKs h0
   obtain ⟨x1, rfl, hx1, hy1⟩ := argI h1
   exact Go.Ai.T.lawAttrBack hx0 hw0 hx1 hy1
theorem lifted3 (os : Os) (started : os.Started) (H : Type) (enc : TypeId × Value → H) :
  ReturnsInHanded {} Tryz.checked os 3 .any (fun w args => (Rows.attrBackSpec.pre enc Tryz.prog Tryz.f3 [] false w args ∧ laidMetH Tryz.prog laidList w) ∧ sizedMet enc Tryz.prog Tryz.f3 (OpenSpec.ofChange Rows.attrBackSpec) false w args)
   (Rows.attrBackSpec.post enc Tryz.prog Tryz.f3 false true false false) := by
 refine returnsInHanded_of_change_and (C := Tryz.checked) (X := fun w _ => laidMetH Tryz.prog laidList w) (fun _ _ _ hh h => h.of_heap hh) Tryz.own started (by kernel_rfl) Tryz.func3
  (ChangeSpec.witness_at (enc := enc) (C := Tryz.checked) (os := os) (X := fun w _ => laidMetH Tryz.prog laidList w) false (laidWorld os)
   #[.slice none 0 0, .int .i64 0] 8 rfl (by kernel_rfl) (by kernel_rfl) (by kernel_rfl) (by kernel_rfl) (by kernel_rfl) (laidWorld_met os _)) ?_
 intro W base args ds gs before hval hW _ _ hL _
 exact Go.Ai.law_contract (E := Go.Ai.T.E) (ts := [3, 4, 9, 22, 33, 34, 36, 38, 146]) (tb := 4) (fn := Tryz.f3) plain_ok laidOut (by kernel_rfl) (by kernel_rfl) Tryz.underlying4 rfl
  (by
   intro ds hds
   have hp : Tryz.f3.params.size = 2 := by kernel_rfl
   rw [hp] at hds
   match ds, hds with
   | [d0, d1], _ => rfl) law3 (Go.Ai.T.envS_ok (handle_of_laid hL)) hval hW
theorem holds3 : Rows.AttrBackSaid :=
 OpenClaim.holds_of_wide 3 Tryz.f3 rfl rfl rfl rfl rfl rfl rfl ⟨rfl, rfl, rfl, rfl, rfl⟩ rfl rfl rfl rfl rfl (by kernel_rfl) Tryz.func3 (by kernel_rfl)
  (of_decide_eq_true (by kernel_rfl)) (by unfold Func.isWrapper; rw [if_neg (of_decide_eq_false (by kernel_rfl))]; exact ⟨rfl, rfl⟩)
  (fun os started H enc _ => lifted3 os started H enc)
theorem attrBack_holds : Rows.AttrBackCardSaid :=
 Claim7.holds_tied_plain_at .later [] [.handle] true (true, "1750ca1af1f3bbc4a2d74358d522bed3bbe7f267e2f13f5c1ca0e9ac9de21b4c") true
  holds3 (fun _ h => by cases h) (by kernel_rfl) (fun _ h => by cases h) attrBack_row_tie rfl ⟨rfl, rfl⟩ (by kernel_rfl) rfl
  (fun f fn hf hfn => by
   obtain rfl : f = 3 := Option.some.inj ((show Tryz.prog.funcNamed "hygrometer/hyglaw9.AttrBack" = some 3 by kernel_rfl).symm.trans hf) |>.symm
   obtain rfl : fn = Tryz.f3 := (Option.some.inj (Tryz.func3.symm.trans hfn)).symm
   have hall : (Tryz.f3.params.toList.all fun t => !(Tryz.prog.wantsStandIn t)) = true := by kernel_rfl
   exact ⟨by kernel_rfl, fun j t ht => by
    have hm : t ∈ Tryz.f3.params.toList := by
     rw [← Array.getElem?_toList] at ht
     exact List.mem_of_getElem? ht
    have := List.all_eq_true.1 hall t hm
    simp only [Bool.not_eq_true'] at this
    exact this⟩)
  (by kernel_rfl)
end Go.Proofs.YtalicejjbahmpaaGreatDoor

