/- Part KU of the proof that a law of this program answers yes at every input: no conditions beyond the given statement. -/
import Derived.WalkKit
import Derived.Shelf.SlSortCmp.NoneTotal
import Derived.Test.YtalicejjbahmpaaGreatDoorKS
import Derived.Test.YtalicejjbahmpaaGreatDoorKD
set_option linter.unusedSimpArgs false
set_option linter.unusedVariables false
set_option linter.all false
namespace Go.Ai
open Go
theorem encVK_inj : (∀ x y : Val, encV x = encV y → x = y) ∧ ∀ x y : KV, encK x = encK y → x = y := by
 have hl : ∀ {α : Type} {e : α → List A} (l m : List α), (∀ x ∈ l, ∀ y, e x = e y → x = y) → l.map e = m.map e → l = m := by
  intro α e l
  induction l with
  | nil => intro m _ h; cases m with
   | nil => rfl
   | cons => cases h
  | cons x l ih => intro m hx h; cases m with
   | nil => cases h
   | cons y m =>
    simp only [List.map_cons, List.cons.injEq] at h
    rw [hx x (by simp) y h.1, ih m (fun z hz => hx z (by simp [hz])) h.2]
 refine Val.ind2 ?_ ?_
 ·intro k s b n l m i u h1 h2 y h
  obtain ⟨k', s', b', n', l', m', i', u'⟩ := y
  simp only [encV_mk, List.cons.injEq, A.int.injEq, A.str.injEq, A.bool.injEq, A.slice.injEq, true_and, and_true] at h
  obtain ⟨e1, e2, e3, e4, e5, e6, e7, e8⟩ := h
  have e5 := hl l l' h1 e5
  have e6 := hl m m' h2 e6
  have e4 : n = n' := by omega
  subst e1 e2 e3 e4 e5 e6 e7 e8
  rfl
 ·intro k h v u hv y e
  obtain ⟨k', h', v', u'⟩ := y
  simp only [encK_mk, List.cons.injEq, A.str.injEq, A.bool.injEq] at e
  obtain ⟨e1, e2, e3⟩ := e
  have e4 := List.append_inj e3 (by rw [encV_len, encV_len])
  simp only [List.cons.injEq, A.str.injEq, and_true] at e4
  rw [e1, e2, hv v' e4.1, e4.2]
theorem mapK_inj {l m : List KV} (h : l.map encK = m.map encK) : l = m := by
 induction l generalizing m with
 | nil => cases m with
  | nil => rfl
  | cons => cases h
 | cons x l ih => cases m with
  | nil => cases h
  | cons y m =>
   simp only [List.map_cons, List.cons.injEq] at h
   rw [encVK_inj.2 x y h.1, ih h.2]
end Go.Ai
namespace Go.Ai.T0
open Go Go.RowKit
set_option maxRecDepth 100000
set_option maxHeartbeats 4000000
def fits (l : List KV) : Prop := l.length ≤ 549755813888 ∧ ∀ x ∈ l, x.sz ≤ 549755813888
open Classical in
noncomputable def attrSortL : Id → List A → Heap → Option (A × Heap) := fun _ args h =>
 if hx : ∃ l : List KV, args = [.slice (l.map encK) none] ∧ fits l then some (.slice ((ssort leK (Classical.choose hx)).map encK) none, h) else none
theorem attrSortL_at {q : Id} {l : List KV} {h : Heap} (hf : fits l) : attrSortL q [.slice (l.map encK) none] h = some (.slice ((ssort leK l).map encK) none, h) := by
 have hx : ∃ m : List KV, [A.slice (l.map encK) none] = [.slice (m.map encK) none] ∧ fits m := ⟨l, rfl, hf⟩
 unfold attrSortL
 rw [dif_pos hx]
 obtain ⟨e, _⟩ := Classical.choose_spec hx
 generalize Classical.choose hx = m at e ⊢
 simp only [List.cons.injEq, A.slice.injEq, and_true] at e
 rw [mapK_inj e]
theorem attrSortL_dom : PrimDom attrSortL := by
 intro q args h v h' hx id hid
 unfold attrSortL at hx
 split at hx
 ·simp only [Option.some.injEq, Prod.mk.injEq] at hx; obtain ⟨_, rfl⟩ := hx; exact .inl hid
 ·cases hx
theorem sort_nil (p : Id) (h : Heap) : callW E p 24 [.slice [] none, .fn 25 []] h = some (.tuple [], dropFrom p 0 h) := by
 have w1 : IntKind.i64.wrap 1 = 1 := by decide
 have g : ∀ p h, callW E p 48 [.slice [] none, .int .i64 0, .fn 25 []] h = some (.tuple [], dropFrom p 0 h) := by
  intro p h
  have g2 : ∀ p h, callW E p 81 [.slice [] none, .int .i64 0, .int .i64 0, .fn 25 []] h = some (.tuple [], dropFrom p 0 h) := by
   intro p h
   rw [eq_81]
   simp -implicitDefEqProofs (maxSteps := 1000000) [Go.Proofs.Tryz.f81, Code.hide, Code.key, rd_81_1, rd_81_4, Code.loopAt, w1]
  have w20 : IntKind.i64.wrap 20 = 20 := by decide
  rw [eq_48]
  simp -implicitDefEqProofs (maxSteps := 1000000) [Go.Proofs.Tryz.f48, Code.hide, Code.key, rd_48_2, rd_48_7, Code.loopAt, w20, g2]
 rw [eq_24]
 simp -implicitDefEqProofs (maxSteps := 1000000) [Go.Proofs.Tryz.f24, Code.hide, Code.key, g]
theorem start {B : Nat} {w0 w : World} {G : Ghost} {O : Own} {h : Heap} (hr : R B w0 G O h w) :
  R w.heap.size w ⟨G.K, fun i => if i = [] then some (w.heap.size, 0) else none⟩ (fun b o => if (G.K b o).isSome then some .imm else if b < w.heap.size then some .rest else none) (fun _ => none) w := by
 refine ⟨Below.refl _ _, Nat.le_refl _, fun b o u hk => ⟨?_, (hr.imm b o u hk).2⟩, fun _ _ h => (by cases h), fun b o l hl => ?_, fun b o l hl h1 h2 => ?_, rfl, fun _ _ _ _ h => by cases h⟩
 ·have : (G.K b o).isSome = true := by have : G.K b o = some u := hk; rw [this]; rfl
  simp only [if_pos this]
 ·split at hl
  ·rename_i hs
   obtain ⟨u, hu⟩ := Option.isSome_iff_exists.1 hs
   exact hr.lt _ _ _ (hr.imm b o u hu).1
  ·split at hl
   ·assumption
   ·cases hl
 ·split at hl
  ·simp only [Option.some.injEq] at hl; exact absurd hl.symm h1
  ·split at hl
   ·simp only [Option.some.injEq] at hl; exact absurd hl.symm h2
   ·cases hl
theorem twk {B : Nat} {w0 w : World} {G : Ghost} {O : Own} {h : Heap} {v : Value} {l : List KV} (hf : fits l) (hr : R B w0 G O h w) (hv : V G (.slice (l.map encK) none) v) :
  Calls Go.Proofs.Tryz.prog 23 #[v] w fun e w1 => ∃ z G1 O1 h1, e = .returned z ∧ R w.heap.size w G1 O1 h1 w1 ∧ (∀ b o u, G.K b o = some u → G1.K b o = some u) ∧ (∀ b o, b < w.heap.size → G.K b o = none → O1 b o = some .rest) ∧ Out 38 w.heap.size G1 O1 w1 l z := by
 have hv0 : V ⟨G.K, fun i => if i = [] then some (w.heap.size, 0) else none⟩ (.slice (l.map encK) none) v := by
  refine V.re (G := G) (G' := ⟨G.K, fun i => if i = [] then some (w.heap.size, 0) else none⟩) (fun _ _ _ h => h) (.slice ?_) v hv
  intro x hx c hc
  obtain ⟨y, _, rfl⟩ := List.mem_map.1 hx
  exact pl_enc.2 y c hc
 have hcon := each_w hf.1 hf.2 (start hr) hv0 (q := []) (by
  intro i hi
  cases i with
  | nil => cases hi
  | cons k i => rfl)
 have hcon := hcon.mono (R' := fun e w1 => ∃ z G1 O1 h1, e = .returned z ∧ R w.heap.size w G1 O1 h1 w1 ∧ (∀ b o u, G.K b o = some u → G1.K b o = some u) ∧ (∀ b o, b < w.heap.size → G.K b o = none → O1 b o = some .rest) ∧ Out 38 w.heap.size G1 O1 w1 l z) (by
  rintro e w1 ⟨z, G1, O1, h1, rfl, k1, k2, k3, k4⟩
  refine ⟨z, G1, O1, h1, rfl, k1, k2.1, fun b o hb hk => k3 b o ?_, k4⟩
  simp [hk, hb])
 generalize hQ : (fun (e : Ending) (w1 : World) => ∃ z G1 O1 h1, e = .returned z ∧ R w.heap.size w G1 O1 h1 w1 ∧ (∀ b o u, G.K b o = some u → G1.K b o = some u) ∧ (∀ b o, b < w.heap.size → G.K b o = none → O1 b o = some .rest) ∧ Out 38 w.heap.size G1 O1 w1 l z) = Q at hcon ⊢
 clear hr hv hv0
 have hQ' : ∀ z w1, Q (.returned z) w1 → ∃ G1 O1 h1, R w.heap.size w G1 O1 h1 w1 ∧ (∀ b o u, G.K b o = some u → G1.K b o = some u) ∧ (∀ b o, b < w.heap.size → G.K b o = none → O1 b o = some .rest) ∧ Out 38 w.heap.size G1 O1 w1 l z := by
  intro z w1 hz
  subst hQ
  obtain ⟨z', G1, O1, h1, e, k⟩ := hz
  injection e with e; subst e
  exact ⟨G1, O1, h1, k⟩
 have hQ2 : ∀ e w1, Q e w1 → ∃ z, e = .returned z := by
  intro e w1 hz
  subst hQ
  obtain ⟨z', G1, O1, h1, e, k⟩ := hz
  exact ⟨_, e⟩
 clear hQ
 go_enter Go.Proofs.Tryz.func23, Go.Proofs.Tryz.ntmps23
 go_wp2_with (go_at_call 46; refine hcon.mono ?_; intro e w1 hq; obtain ⟨z, rfl⟩ := hQ2 _ _ hq)
 exact hq
theorem cells_of {G : Ghost} {w : World} {b : Nat} : ∀ {cs : List A} {o : Nat}, (∀ j a, cs[j]? = some a → ∃ v, w.cell? ⟨b, o + j, none⟩ = some v ∧ v.oneCell' = true ∧ V G a v) →
  ∃ us, VF G cs us ∧ (∀ u ∈ us, u.oneCell' = true) ∧ ∀ j u, us[j]? = some u → w.cell? ⟨b, o + j, none⟩ = some u
 | [], o, _ => ⟨[], .nil, by simp, by simp⟩
 | a :: cs, o, h => by
  obtain ⟨v, h1, h2, h3⟩ := h 0 a rfl
  obtain ⟨us, g1, g2, g3⟩ := cells_of (cs := cs) (o := o + 1) fun j a hj => by
   have := h (j + 1) a (by simpa using hj)
   rwa [show o + 1 + j = o + (j + 1) by omega]
  refine ⟨v :: us, .cons h3 g1, List.forall_mem_cons.2 ⟨h2, g2⟩, fun j u hj => ?_⟩
  cases j with
  | zero => simp only [List.getElem?_cons_zero, Option.some.injEq] at hj; subst hj; exact h1
  | succ j =>
   have := g3 j u (by simpa using hj)
   rwa [show o + (j + 1) = o + 1 + j by omega]
theorem fits_ssort {l : List KV} : (ssort leK l).length = l.length := (ssort_spec leK leK_trans leK_total l).2.1.length_eq
theorem sorts {B : Nat} {w0 : World} {w1 : World} {G1 : Ghost} {O1 : Own} {h1 : Heap} {l : List KV} {b cap : Nat} {us : List Value} (hf : fits l) (hr : R B w0 G1 O1 h1 w1) (hcap : l.length ≤ cap) (hB : B ≤ b) (hshp : shp w1 b = some (38, cap * 11)) (hnf : ∀ x, w1.frozen? ⟨b, x, none⟩ = false)
  (hrest : ∀ x, O1 b x = some .rest) (hV : VF G1 (cellsK l) us) (ho : ∀ u ∈ us, u.oneCell' = true) (hc : ∀ j u, us[j]? = some u → w1.cell? ⟨b, j, none⟩ = some u) :
  Calls Go.Proofs.Tryz.prog 24 #[.slice (some ⟨b, 0, none⟩) l.length cap, .func (.func 25) #[] #[]] w1 fun e w2 => e = .returned (.tuple #[]) ∧ Below B w0 w2 ∧ b < w2.heap.size ∧
   ∃ G3 us', (∀ b' o u, G1.K b' o = some u → G3.K b' o = some u ∧ b' ≠ b) ∧ (∀ b' o, b' < w1.heap.size → G1.K b' o = none → G3.K b' o = none) ∧ (∀ b' o u, G3.K b' o = some u → w2.cell? ⟨b', o, none⟩ = some u ∧ b' < w2.heap.size) ∧
    VF G3 (cellsK (ssort leK l)) us' ∧ (∀ u ∈ us', u.oneCell' = true) ∧ ∀ j u, us'[j]? = some u → w2.cell? ⟨b, j, none⟩ = some u := by
 have hbl := shp_lt hshp
 have hK1 : ∀ o, G1.K b o = none := by
  intro o
  cases hk : G1.K b o with
  | none => rfl
  | some u =>
   have := (hr.imm _ _ _ hk).1
   rw [hrest] at this
   cases this
 let id : Id := [38, 0]
 let G2 : Ghost := ⟨G1.K, fun i => if i = [] then some (B, 0) else if i = id then some (b, 0) else none⟩
 let O2 : Own := fun b' x => if b' = b ∧ x < l.length * 11 then some (.obj id) else if (G1.K b' x).isSome then some .imm else if b' < w1.heap.size then some .rest else none
 let h2 : Heap := fun i => if i = id then some (cellsK l) else none
 have ha : Apart [1] id := rfl
 have hid : G2.m id = some (b, 0) := rfl
 have hV2 : VF G2 (cellsK l) us := VF.re (G := G1) (G' := G2) (fun _ _ _ h => h) pl_cells hV
 have hul : us.length = l.length * 11 := by rw [hV.length, cellsK_len]
 have hr2 : R B w0 G2 O2 h2 w1 := by
  refine ⟨hr.below, hr.base, fun b' o u hk => ⟨?_, (hr.imm b' o u hk).2⟩, fun i cs hi => ?_, fun b' o l' hl => ?_, fun b' o l' hl q1 q2 => ?_, rfl, fun i cs b' o hi hm => ?_⟩
  ·have hk' : G1.K b' o = some u := hk
   have hne : b' ≠ b := by rintro rfl; rw [hK1] at hk'; cases hk'
   simp [O2, hne, hk']
  ·simp only [h2] at hi
   split at hi
   ·rename_i e; subst e
    simp only [Option.some.injEq] at hi; subst hi
    refine ⟨b, 0, hid, fun j a hj => ?_⟩
    obtain ⟨u, hu, hVu⟩ := hV2.get j a hj
    have hjl : j < l.length * 11 := by rw [← cellsK_len]; exact (List.getElem?_eq_some_iff.1 hj).1
    refine ⟨by simp [O2, hjl], hnf _, u, by rw [Nat.zero_add]; exact hc j u hu, ho u (List.mem_of_getElem? hu), hVu, Room.free (pl_cells a (List.mem_of_getElem? hj)).free⟩
   ·cases hi
  ·simp only [O2] at hl
   split at hl
   ·rename_i e; rw [e.1]; exact hbl
   ·split at hl
    ·rename_i hs
     obtain ⟨u, hu⟩ := Option.isSome_iff_exists.1 hs
     exact hr.lt _ _ _ (hr.imm b' o u hu).1
    ·split at hl
     ·assumption
     ·cases hl
  ·simp only [O2] at hl
   split at hl
   ·rename_i e; rw [e.1]; exact hB
   ·split at hl
    ·simp only [Option.some.injEq] at hl; exact absurd hl.symm q1
    ·split at hl
     ·simp only [Option.some.injEq] at hl; exact absurd hl.symm q2
     ·cases hl
  ·simp only [h2] at hi
   split at hi
   ·rename_i e; subst e
    simp only [Option.some.injEq] at hi; subst hi
    rw [hid] at hm
    simp only [Option.some.injEq, Prod.mk.injEq] at hm
    obtain ⟨rfl, rfl⟩ := hm
    exact ⟨rfl, _, rfl, _, hshp, fun h => by rw [cellsK_len] at h; omega⟩
   ·cases hi
 have hfresh : Fresh G2 [1] 0 := by
  intro i hi
  show (if i = [] then _ else if i = id then _ else none) = none
  rw [if_neg (by rintro rfl; cases hi), if_neg (by rintro rfl; exact absurd hi (by decide))]
 have hcall := sortSt_ok (p := [1]) (id := id) ha (by have := hf.1; omega : l.length ≤ 1099511627776) rfl (h := h2) (by simp only [h2, if_true])
 obtain ⟨_, _, hok⟩ := callW_ok (E := E) (B := B) (w0 := w0) env0 _ _ _ _ _ _ hcall
 have hvm : V G2 (.mslice id 0 l.length) (.slice (some ⟨b, 0, none⟩) l.length cap) := .mslice (o := 0) hid hcap
 refine (hok G2 O2 w1 [.slice (some ⟨b, 0, none⟩) l.length cap, .func (.func 25) #[] ⟨[]⟩] ?_ (.cons hvm (.cons (.fn .nil) .nil)) hr2 hfresh).mono ?_
 ·intro x hx
  simp only [List.mem_cons, List.not_mem_nil, or_false] at hx
  rcases hx with rfl | rfl <;> (intro xs s e; cases e)
 rintro e w2 ⟨z, G3, O3, rfl, hz, hr3, hm⟩
 obtain ⟨b', o', hm', ho3⟩ := hr3.obj id (cellsK (ssort leK l)) (by simp [upd])
 have hm2 := hm.le.2 _ _ hid
 rw [hm2] at hm'
 simp only [Option.some.injEq, Prod.mk.injEq] at hm'
 obtain ⟨rfl, rfl⟩ := hm'
 obtain ⟨us', k1, k2, k3⟩ := cells_of (G := G3) (w := w2) (b := b) (o := 0) fun j a hj => by
  obtain ⟨_, _, v, q1, q2, q3, _⟩ := ho3 j a hj
  exact ⟨v, q1, q2, q3⟩
 refine ⟨?_, hr3.below, ?_, G3, us', fun b' o u hk => ⟨hm.le.1 _ _ _ hk, ?_⟩, fun b' o hb hk => ?_, fun b' o u hk => ⟨(hr3.imm _ _ _ hk).2, hr3.lt _ _ _ (hr3.imm _ _ _ hk).1⟩, k1, k2, fun j u hj => by have := k3 j u hj; rwa [Nat.zero_add] at this⟩
 ·cases hz with
  | tuple h => cases h; rfl
 ·obtain ⟨_, t, _, n, q, _⟩ := hr3.typ id (cellsK (ssort leK l)) b 0 (by simp [upd]) hm2
  exact shp_lt q
 ·rintro rfl; rw [hK1] at hk; cases hk
 ·cases h3 : G3.K b' o with
  | none => rfl
  | some u =>
   have hi := (hr3.imm _ _ _ h3).1
   by_cases hbo : b' = b ∧ o < l.length * 11
   ·obtain ⟨rfl, ho'⟩ := hbo
    have hlen : o < (cellsK (ssort leK l)).length := by rw [cellsK_len, fits_ssort]; exact ho'
    obtain ⟨q1, _⟩ := ho3 o _ (List.getElem?_eq_getElem hlen)
    rw [Nat.zero_add, hi] at q1
    cases q1
   ·have h2 : O2 b' o = some .rest := by simp [O2, hbo, hk, hb]
    have := (hm.keeps.lab b' o _ h2 trivial).1
    rw [hi] at this
    cases this
end Go.Ai.T0

namespace Go.Ai.T0
open Go Go.RowKit
set_option maxRecDepth 100000
set_option maxHeartbeats 4000000
theorem restart {B : Nat} {w0 w : World} {G : Ghost} {O : Own} {h : Heap} (hr : R B w0 G O h w) :
  R B w0 ⟨G.K, fun i => if i = [] then some (B, 0) else none⟩ (fun b o => if (G.K b o).isSome then some .imm else none) (fun _ => none) w := by
 refine ⟨hr.below, hr.base, fun b o u hk => ⟨?_, (hr.imm b o u hk).2⟩, fun _ _ h => (by cases h), fun b o l hl => ?_, fun b o l hl h1 h2 => ?_, rfl, fun _ _ _ _ h => by cases h⟩
 ·have : (G.K b o).isSome = true := by have : G.K b o = some u := hk; rw [this]; rfl
  simp only [if_pos this]
 ·split at hl
  ·rename_i hs
   obtain ⟨u, hu⟩ := Option.isSome_iff_exists.1 hs
   exact hr.lt _ _ _ (hr.imm b o u hu).1
  ·cases hl
 ·split at hl
  ·simp only [Option.some.injEq] at hl; exact absurd hl.symm h1
  ·cases hl
theorem prim_block2 {B : Nat} {w0 : World} {G G3 : Ghost} {O : Own} {h : Heap} {q : Id} {xs : List (List A)} {sz : Nat} {w w' : World} {b cap : Nat} (hr : R B w0 G O h w) (hx : Ext w w') (hb : w.heap.size ≤ b) (hb2 : b < w'.heap.size) {us : List Value}
  (h3 : ∀ b' o u, G.K b' o = some u → G3.K b' o = some u) (hold : ∀ b' o, b' < w.heap.size → G.K b' o = none → G3.K b' o = none) (hnew : ∀ b' o u, G3.K b' o = some u → w'.cell? ⟨b', o, none⟩ = some u ∧ b' < w'.heap.size)
  (hbK : ∀ o, G3.K b o = none) (hp : ∀ c ∈ xs.flatten, Pl c)
  (hv : VF G3 xs.flatten us) (h1 : ∀ u ∈ us, u.oneCell' = true) (hlen : ∀ x ∈ xs, x.length = sz) (hc : ∀ j u, us[j]? = some u → w'.cell? ⟨b, j, none⟩ = some u) (hcap : xs.length ≤ cap) :
  ∃ G' O', V G' (.slice xs none) (.slice (some ⟨b, 0, none⟩) xs.length cap) ∧ R B w0 G' O' h w' ∧ MvC q G O w G' O' w' := by
 let G' : Ghost := ⟨fun b' x => if b' = b then us[x]? else G3.K b' x, G.m⟩
 let O' : Own := fun b' x => if b' = b then (if x < us.length then some .imm else none) else if (G3.K b' x).isSome ∧ w.heap.size ≤ b' then some .imm else O b' x
 have hg : G.le G' := ⟨fun b' o v hk => by
  have := hr.lt _ _ _ (hr.imm b' o v hk).1
  simp only [G']; rw [if_neg (by omega)]; exact h3 _ _ _ hk, fun _ _ h => h⟩
 have hO : ∀ b' x, b' < w.heap.size → O' b' x = O b' x := by
  intro b' x h
  simp only [O']; rw [if_neg (by omega), if_neg (by omega)]
 have hv' : VF G' xs.flatten us := VF.re (G := G3) (G' := G') (fun b' o v hk => by
  simp only [G']; rw [if_neg (by rintro rfl; rw [hbK] at hk; cases hk)]; exact hk) hp hv
 have hus : ∀ j u, us[j]? = some u → G'.K b (0 + j) = some u := fun j u hj => by simp only [G', if_true, Nat.zero_add]; exact hj
 refine ⟨G', O', ?_, ?_, ⟨hg, .ext hx hO hr.lt, fun _ _ => rfl⟩⟩
 ·exact V.slice (sz := sz) (VS.of_flat sz (VK.of_vals hv' h1 hus) hlen) hcap (fun _ h => by cases h)
 ·refine hr.ext hx hg hO ?_ ?_
  ·intro b' o v hk
   simp only [G'] at hk
   split at hk
   ·rename_i e1; subst e1
    right
    have hol : o < us.length := by
     rcases Nat.lt_or_ge o us.length with h | h
     ·exact h
     ·rw [List.getElem?_eq_none h] at hk; cases hk
    exact ⟨by simp only [O', if_true]; rw [if_pos hol], hc o v hk⟩
   ·rename_i hne
    by_cases hlt : b' < w.heap.size
    ·left
     cases hG : G.K b' o with
     | none => rw [hold _ _ hlt hG] at hk; cases hk
     | some v' => rw [h3 _ _ _ hG] at hk; exact hk
    ·right
     refine ⟨?_, (hnew _ _ _ hk).1⟩
     simp only [O']
     rw [if_neg hne, if_pos ⟨by rw [hk]; rfl, by omega⟩]
  ·intro b' o l hl
   simp only [O'] at hl
   split at hl
   ·rename_i e1; subst e1; exact hb2
   ·split at hl
    ·rename_i hs
     obtain ⟨u, hu⟩ := Option.isSome_iff_exists.1 hs.1
     exact (hnew _ _ _ hu).2
    ·exact Nat.lt_of_lt_of_le (hr.lt _ _ _ hl) hx.size
theorem sort_all {B : Nat} {w0 w : World} {G : Ghost} {O : Own} {h : Heap} {v : Value} {l : List KV} {q : Id} (hf : fits l) (hr : R B w0 G O h w) (hv : V G (.slice (l.map encK) none) v) :
  Calls Go.Proofs.Tryz.prog 10 #[v] w fun e w2 => ∃ z G' O', e = .returned z ∧ V G' (.slice ((ssort leK l).map encK) none) z ∧ R B w0 G' O' h w2 ∧ MvC q G O w G' O' w2 := by
 have hcon := twk hf hr hv
 let Q1 : Value → World → Prop := fun z w1 => ∃ G1 O1 h1, R w.heap.size w G1 O1 h1 w1 ∧ (∀ b o u, G.K b o = some u → G1.K b o = some u) ∧ (∀ b o, b < w.heap.size → G.K b o = none → O1 b o = some .rest) ∧ Out 38 w.heap.size G1 O1 w1 l z
 let Q2 : Value → World → Prop := fun z w2 => ∃ G' O', V G' (.slice ((ssort leK l).map encK) none) z ∧ R B w0 G' O' h w2 ∧ MvC q G O w G' O' w2
 have hc1 : Calls Go.Proofs.Tryz.prog 23 #[v] w fun e w1 => ∃ z, e = .returned z ∧ Q1 z w1 := hcon.mono (by
  rintro e w1 ⟨z, G1, O1, h1, rfl, k⟩
  exact ⟨z, rfl, G1, O1, h1, k⟩)
 have hc2 : ∀ z w1, Q1 z w1 → Calls Go.Proofs.Tryz.prog 24 #[z, .func (.func 25) #[] #[]] w1 fun e w2 => e = .returned (.tuple #[]) ∧ Q2 z w2 := by
  rintro z w1 ⟨G1, O1, h1, hr1, k1, k2, k3⟩
  rcases k3 with ⟨rfl, rfl⟩ | ⟨b, cap, us, rfl, q1, q2, q3, q4, q5, q6, q7, q8, q9⟩
  ·obtain ⟨_, _, hok⟩ := callW_ok (E := E) (B := w.heap.size) (w0 := w) env0 _ _ _ _ _ _ (sort_nil [1] (fun _ => none))
   refine (hok _ _ w1 [.slice none 0 0, .func (.func 25) #[] ⟨[]⟩] ?_ (.cons .sliceNil (.cons (.fn .nil) .nil)) (restart hr1) ?_).mono ?_
   ·intro x hx
    simp only [List.mem_cons, List.not_mem_nil, or_false] at hx
    rcases hx with rfl | rfl <;> (intro xs s e; cases e)
   ·intro i hi
    show (if i = [] then _ else none) = none
    rw [if_neg (by rintro rfl; cases hi)]
   rintro e w2 ⟨z, G3, O3, rfl, hz, hr3, hm⟩
   refine ⟨?_, ?_⟩
   ·cases hz with
    | tuple h => cases h; rfl
   ·obtain ⟨z', G', O', e, g1, g2, g3⟩ := prim_same (q := q) hr (e := .returned (.slice none 0 0)) rfl (V.sliceNil (own := none)) (Ext.of_below hr3.below)
    injection e with e
    subst e
    have e0 : ssort leK ([] : List KV) = [] := List.eq_nil_of_length_eq_zero (by rw [fits_ssort]; rfl)
    exact ⟨G', O', by rw [e0]; exact g1, g2, g3⟩
  ·refine (sorts hf hr1 q1 q2 q3 q4 q5 q7 q8 q9).mono ?_
   rintro e w2 ⟨rfl, g1, g2, G3, us', g3, g4, g5, g6, g7, g8⟩
   refine ⟨rfl, ?_⟩
   have hsl : ((ssort leK l).map encK).length = l.length := by simp [fits_ssort]
   have hb1 : b < w1.heap.size := shp_lt q3
   have := prim_block2 (q := q) (xs := (ssort leK l).map encK) (sz := 11) (G3 := G3) (cap := cap) hr (Ext.of_below g1) q2 g2 (us := us') (fun b' o u hk => (g3 _ _ _ (k1 _ _ _ hk)).1) (fun b' o hb hk => ?_) g5 (fun o => ?_) pl_cells g6 g7 ?_ g8 (by omega)
   ·rw [hsl] at this; exact this
   ·refine g4 _ _ (Nat.lt_of_lt_of_le hb hr1.base) ?_
    cases h3 : G1.K b' o with
    | none => rfl
    | some u =>
     have := (hr1.imm _ _ _ h3).1
     rw [k2 _ _ hb hk] at this
     cases this
   ·refine g4 _ _ hb1 ?_
    cases h3 : G1.K b o with
    | none => rfl
    | some u =>
     have := (hr1.imm _ _ _ h3).1
     rw [q5] at this
     cases this
   ·intro x hx
    obtain ⟨y, _, rfl⟩ := List.mem_map.1 hx
    exact encK_len y
 suffices H : ∀ Q : Ending → World → Prop, (∀ z w2, Q2 z w2 → Q (.returned z) w2) → Calls Go.Proofs.Tryz.prog 10 #[v] w Q from H _ (by rintro z w2 ⟨G', O', k⟩; exact ⟨z, G', O', rfl, k⟩)
 intro Q hQ
 generalize Q1 = Q1 at hc1 hc2
 generalize Q2 = Q2 at hQ hc2
 clear hcon hr hv hf
 go_enter Go.Proofs.Tryz.func10, Go.Proofs.Tryz.ntmps10
 go_wp2_with (first | (go_at_call 23; refine hc1.mono ?_; rintro e w1 ⟨z, rfl, hq1⟩) | (go_at_call 24; refine (hc2 z _ hq1).mono ?_; rintro e w2 ⟨rfl, hq2⟩))
 exact hq2
theorem attrSortL_ok {B : Nat} {w0 : World} : PrimOK Go.Proofs.Tryz.prog B w0 10 attrSortL := by
 intro q args h v h' hx
 have hx' := hx
 unfold attrSortL at hx'
 split at hx'
 ·rename_i hargs
  obtain ⟨l, rfl, hf⟩ := hargs
  rw [attrSortL_at hf] at hx
  simp only [Option.some.injEq, Prod.mk.injEq] at hx
  obtain ⟨rfl, rfl⟩ := hx
  refine ⟨en Go.Proofs.Tryz.func10 rfl (by kernel_rfl), (by intro xs s e; cases e), fun G O w vs _ hvs hr hfresh => ?_⟩
  cases hvs with
  | cons hv hrest =>
   cases hrest
   exact sort_all hf hr hv
 ·cases hx'
end Go.Ai.T0

namespace Go.Ai.T0
open Go Go.RowKit
set_option maxRecDepth 100000
set_option maxHeartbeats 4000000
def rowA (k : List UInt8) : List A := .str k :: List.replicate 10 .top
theorem rowA_len (k : List UInt8) : (rowA k).length = 11 := rfl
def adjFrom (ks : List (List UInt8)) (i : Nat) : Prop := ∃ j a b, i ≤ j ∧ ks[j]? = some b ∧ ks[j - 1]? = some a ∧ b = a
def tl3 : Code → Code
 | .seq _ (.seq _ (.seq _ t)) => t
 | c => c
def twFr (ks : List (List UInt8)) (i : Nat) : Fr := ((bot.set 3 (.int .i64 i)).set 2 (.bool false)).set 0 (.slice (ks.map rowA) none)
theorem tw_loop {ks : List (List UInt8)} (hn : ks.length ≤ 549755813888) : ∀ (n i : Nat), i + n = ks.length → 1 ≤ i →
  (¬ adjFrom ks i ∧ ∀ (p : Id) (c0 c : Nat) (h : Heap), c0 ≤ c → iterW E 12 p [0, 2, 3] L_12_4 c0 (twFr ks i) c h = some (.exit 0, twFr ks ks.length, c, dropFrom p c0 h)) ∨
  (adjFrom ks i ∧ ∀ (p : Id) (c0 c : Nat) (h : Heap), c0 ≤ c → ∃ fr h', iterW E 12 p [0, 2, 3] L_12_4 c0 (twFr ks i) c h = some (.ret, fr, c, h') ∧ fr 2 = .bool true) := by
 intro n
 induction n with
 | zero =>
  intro i hi h1
  obtain rfl : i = ks.length := by omega
  refine .inl ⟨?_, fun p c0 c h hc => ?_⟩
  ·rintro ⟨j, a, b, h2, h3, _⟩
   have := (List.getElem?_eq_some_iff.1 h3).1
   omega
  ·have hlt' : ¬ ((ks.length : Nat) : Int) < ks.length := by omega
   unfold twFr
   rw [rd_12_4]
   generalize hr : execW E 12 p _ _ _ _ = e
   simp -implicitDefEqProofs (maxSteps := 1000000) [Go.Proofs.Tryz.f12, Code.loopAt, Code.key, hlt'] at hr
   subst hr
   simp
 | succ n ih =>
  intro i hi h1
  have hlt : i < ks.length := by omega
  have hlt' : (i : Int) < ks.length := by omega
  have hw : IntKind.i64.wrap ((i : Int) + 1) = ((i + 1 : Nat) : Int) := by rw [wrap_i64 (by omega) (by omega)]; rfl
  have hw2 : IntKind.i64.wrap ((i : Int) - 1) = ((i - 1 : Nat) : Int) := by rw [wrap_i64 (by omega) (by omega)]; omega
  obtain ⟨b, hb⟩ : ∃ b, ks[i]? = some b := ⟨_, List.getElem?_eq_getElem hlt⟩
  obtain ⟨a, ha⟩ : ∃ a, ks[i - 1]? = some a := ⟨_, List.getElem?_eq_getElem (by omega)⟩
  have hgb : (ks.map rowA)[i]? = some (rowA b) := by simp [hb]
  have hga : (ks.map rowA)[i - 1]? = some (rowA a) := by simp [ha]
  have heb : ∀ hl, (ks.map rowA)[i]'hl = rowA b := fun hl => by rw [List.getElem?_eq_getElem hl] at hgb; exact Option.some.inj hgb
  have hea : ∀ hl, (ks.map rowA)[i - 1]'hl = rowA a := fun hl => by rw [List.getElem?_eq_getElem hl] at hga; exact Option.some.inj hga
  have hlt1 : i - 1 < ks.length := by omega
  have hrl : (ks.map rowA).length = ks.length := by simp
  by_cases hab : b = a
  ·refine .inr ⟨⟨i, a, b, Nat.le_refl _, hb, ha, hab⟩, fun p c0 c h hc => ?_⟩
   unfold twFr
   generalize ks.map rowA = L at *
   rw [rd_12_4]
   generalize hr : execW E 12 p _ _ _ _ = e
   simp -implicitDefEqProofs (maxSteps := 1000000) [Go.Proofs.Tryz.f12, Code.loopAt, Code.key, hlt, hlt', hrl, hgb, hga, heb, hea, hlt1, hw, hw2, rowA, hab] at hr
   subst hr
   simp
  ·rcases ih (i + 1) (by omega) (by omega) with ⟨h2, h3⟩ | ⟨h2, h3⟩
   ·refine .inl ⟨?_, fun p c0 c h hc => ?_⟩
    ·rintro ⟨j, a', b', q1, q2, q3, q4⟩
     by_cases hj : j = i
     ·subst hj; rw [hb] at q2; rw [ha] at q3; cases q2; cases q3; exact hab q4
     ·exact h2 ⟨j, a', b', by omega, q2, q3, q4⟩
    ·have e := h3 p c0 c (dropFrom p c0 h) hc
     unfold twFr at e ⊢
     generalize ks.map rowA = L at *
     rw [rd_12_4]
     generalize hr : execW E 12 p _ _ _ _ = ee
     simp -implicitDefEqProofs (maxSteps := 1000000) [Go.Proofs.Tryz.f12, Code.loopAt, Code.key, hlt, hlt', hrl, hgb, hga, heb, hea, hlt1, hw, hw2, rowA, hab] at hr
     subst hr
     simp [-Int.natCast_add] at e ⊢
     exact e
   ·refine .inr ⟨?_, fun p c0 c h hc => ?_⟩
    ·obtain ⟨j, a', b', q1, q2, q3, q4⟩ := h2
     exact ⟨j, a', b', by omega, q2, q3, q4⟩
    ·obtain ⟨fr, h', e, e2⟩ := h3 p c0 c (dropFrom p c0 h) hc
     refine ⟨fr, h', ?_, e2⟩
     unfold twFr at e ⊢
     generalize ks.map rowA = L at *
     rw [rd_12_4]
     generalize hr : execW E 12 p _ _ _ _ = ee
     simp -implicitDefEqProofs (maxSteps := 1000000) [Go.Proofs.Tryz.f12, Code.loopAt, Code.key, hlt, hlt', hrl, hgb, hga, heb, hea, hlt1, hw, hw2, rowA, hab] at hr
     subst hr
     simp [-Int.natCast_add] at e ⊢
     exact e
theorem tl_hide : tl3 ((Go.Proofs.Tryz.f12.body).getD .skip) = (tl3 ((Go.Proofs.Tryz.f12.body).getD .skip)).hide [(4, L_12_4)] := by kernel_rfl
open Classical in
theorem tail_ok {ks : List (List UInt8)} (hn : ks.length ≤ 549755813888) (p : Id) (h : Heap) : ∃ fr c' h', execW E 12 p (tl3 ((Go.Proofs.Tryz.f12.body).getD .skip)) ((bot.set 2 (.bool false)).set 0 (.slice (ks.map rowA) none)) 0 h = some (.ret, fr, c', h') ∧ fr 2 = .bool (decide (adjFrom ks 1)) := by
 by_cases h0 : ks = []
 ·subst h0
  have hna : ¬ adjFrom [] 1 := by rintro ⟨j, a, b, _, h2, _⟩; cases h2
  rw [tl_hide]
  generalize hr : execW E 12 p _ _ _ _ = ee
  simp -implicitDefEqProofs (maxSteps := 1000000) [Go.Proofs.Tryz.f12, tl3, Code.hide, Code.loopAt, Code.key, rd_12_4, hna] at hr
  subst hr
  simp [hna]
 ·have hpos : 1 ≤ ks.length := by cases ks with
   | nil => exact absurd rfl h0
   | cons => simp
  have hrl : (ks.map rowA).length = ks.length := by simp
  rcases tw_loop hn (ks.length - 1) 1 (by omega) (Nat.le_refl _) with ⟨h2, h3⟩ | ⟨h2, h3⟩
  ·have e := h3 p 0 0 h (Nat.le_refl _)
   unfold twFr at e
   rw [tl_hide]
   generalize ks.map rowA = L at *
   have nl1 : ((1 : Nat) : Int) = 1 := rfl
   rw [nl1] at e
   generalize hr : execW E 12 p _ _ _ _ = ee
   simp -implicitDefEqProofs (maxSteps := 1000000) [Go.Proofs.Tryz.f12, tl3, Code.hide, Code.loopAt, Code.key, e, h2] at hr
   subst hr
   simp [h2]
  ·obtain ⟨fr, h', e, e2⟩ := h3 p 0 0 h (Nat.le_refl _)
   unfold twFr at e
   rw [tl_hide]
   generalize ks.map rowA = L at *
   have nl1 : ((1 : Nat) : Int) = 1 := rfl
   rw [nl1] at e
   generalize hr : execW E 12 p _ _ _ _ = ee
   simp -implicitDefEqProofs (maxSteps := 1000000) [Go.Proofs.Tryz.f12, tl3, Code.hide, Code.loopAt, Code.key, e, h2] at hr
   subst hr
   simp [h2, e2]
end Go.Ai.T0

namespace Go.Proofs
open Go.Shelf Go.RowKit Go.Lib Go.Sort
set_option maxRecDepth 100000
def Tryz.sortKV_ren : Go.Shelf.Ren := ⟨fun | 6 => 27 | 15 => 51 | 14 => 50 | 28 => 91 | 29 => 92 | 20 => 81 | 21 => 84 | 22 => 85 | 23 => 86 | 24 => 87 | 25 => 88 | 26 => 89 | 27 => 90 | 46 => 124 | 47 => 125 | 48 => 126 | 49 => 127 | 50 => 128 | 57 => 143 | n => n, fun | 22 => 22 | 24 => 38 | 25 => 62 | 3 => 3 | 39 => 97 | 0 => 0 | 53 => 146 | 55 => 33 | 4 => 4 | 46 => 139 | 45 => 138 | 50 => 143 | 5 => 5 | 9 => 9 | 66 => 167 | 70 => 170 | 76 => 187 | 77 => 104 | n => n, fun n => n⟩
theorem Tryz.sortKV : SlLaysF0.n6 Tryz.prog Tryz.sortKV_ren := {
 mixed := by kernel_rfl
 f6 := ⟨ "slices.SortFunc[[]hygrometer/api.KeyValue,hygrometer/api.KeyValue]", by kernel_rfl, Tryz.func27.trans (congrArg some (by kernel_rfl))⟩
 f14 := ⟨ "slices.pdqsortCmpFunc[hygrometer/api.KeyValue]", by kernel_rfl, Tryz.func50.trans (congrArg some (by kernel_rfl))⟩
 f15 := Tryz.func51.trans (congrArg some (by kernel_rfl))
 f20 := ⟨ "slices.insertionSortCmpFunc[hygrometer/api.KeyValue]", by kernel_rfl, Tryz.func81.trans (congrArg some (by kernel_rfl))⟩
 f21 := ⟨ "slices.heapSortCmpFunc[hygrometer/api.KeyValue]", by kernel_rfl, Tryz.func84.trans (congrArg some (by kernel_rfl))⟩
 f22 := ⟨ "slices.breakPatternsCmpFunc[hygrometer/api.KeyValue]", by kernel_rfl, Tryz.func85.trans (congrArg some (by kernel_rfl))⟩
 f23 := ⟨ "slices.choosePivotCmpFunc[hygrometer/api.KeyValue]", by kernel_rfl, Tryz.func86.trans (congrArg some (by kernel_rfl))⟩
 f24 := ⟨ "slices.reverseRangeCmpFunc[hygrometer/api.KeyValue]", by kernel_rfl, Tryz.func87.trans (congrArg some (by kernel_rfl))⟩
 f25 := ⟨ "slices.partialInsertionSortCmpFunc[hygrometer/api.KeyValue]", by kernel_rfl, Tryz.func88.trans (congrArg some (by kernel_rfl))⟩
 f26 := ⟨ "slices.partitionEqualCmpFunc[hygrometer/api.KeyValue]", by kernel_rfl, Tryz.func89.trans (congrArg some (by kernel_rfl))⟩
 f27 := ⟨ "slices.partitionCmpFunc[hygrometer/api.KeyValue]", by kernel_rfl, Tryz.func90.trans (congrArg some (by kernel_rfl))⟩
 f28 := Tryz.func91.trans (congrArg some (by kernel_rfl))
 f29 := Tryz.func92.trans (congrArg some (by kernel_rfl))
 f46 := ⟨ "slices.siftDownCmpFunc[hygrometer/api.KeyValue]", by kernel_rfl, Tryz.func124.trans (congrArg some (by kernel_rfl))⟩
 f47 := Tryz.func125.trans (congrArg some (by kernel_rfl))
 f48 := Tryz.func126.trans (congrArg some (by kernel_rfl))
 f49 := ⟨ "slices.medianAdjacentCmpFunc[hygrometer/api.KeyValue]", by kernel_rfl, Tryz.func127.trans (congrArg some (by kernel_rfl))⟩
 f50 := ⟨ "slices.medianCmpFunc[hygrometer/api.KeyValue]", by kernel_rfl, Tryz.func128.trans (congrArg some (by kernel_rfl))⟩
 f57 := ⟨ "slices.order2CmpFunc[hygrometer/api.KeyValue]", by kernel_rfl, Tryz.func143.trans (congrArg some (by kernel_rfl))⟩
 t0 := Tryz.underlying0, a0 := Tryz.isAgg0, z0 := Tryz.sizeOf0, v0 := Tryz.zeroValue0, t3 := Tryz.underlying3
 a3 := Tryz.isAgg3, z3 := Tryz.sizeOf3, v3 := Tryz.zeroValue3, t4 := Tryz.underlying4, a4 := Tryz.isAgg4
 z4 := Tryz.sizeOf4, v4 := Tryz.zeroValue4, t5 := Tryz.underlying5, a5 := Tryz.isAgg5, z5 := Tryz.sizeOf5
 v5 := Tryz.zeroValue5, t9 := Tryz.underlying9, a9 := Tryz.isAgg9, z9 := Tryz.sizeOf9, v9 := Tryz.zeroValue9
 t22 := Tryz.underlying22, a22 := Tryz.isAgg22, z22 := Tryz.sizeOf22, v22 := Tryz.zeroValue22
 t25 := Tryz.underlying62, a25 := Tryz.isAgg62, z25 := Tryz.sizeOf62, v25 := Tryz.zeroValue62
 t39 := Tryz.underlying97, a39 := Tryz.isAgg97, z39 := Tryz.sizeOf97, v39 := Tryz.zeroValue97
 t45 := Tryz.underlying138, a45 := Tryz.isAgg138, z45 := Tryz.sizeOf138, v45 := Tryz.zeroValue138
 t46 := Tryz.underlying139, a46 := Tryz.isAgg139, z46 := Tryz.sizeOf139, v46 := Tryz.zeroValue139
 t50 := Tryz.underlying143, a50 := Tryz.isAgg143, z50 := Tryz.sizeOf143, v50 := Tryz.zeroValue143
 t53 := Tryz.underlying146, a53 := Tryz.isAgg146, z53 := Tryz.sizeOf146, v53 := Tryz.zeroValue146
 t55 := Tryz.underlying33, a55 := Tryz.isAgg33, z55 := Tryz.sizeOf33, v55 := Tryz.zeroValue33
 t66 := Tryz.underlying167, a66 := Tryz.isAgg167, z66 := Tryz.sizeOf167, v66 := Tryz.zeroValue167
 t70 := Tryz.underlying170, a70 := Tryz.isAgg170, z70 := Tryz.sizeOf170, v70 := Tryz.zeroValue170
 t76 := Tryz.underlying187, a76 := Tryz.isAgg187, z76 := Tryz.sizeOf187, v76 := Tryz.zeroValue187
 t77 := Tryz.underlying104, a77 := Tryz.isAgg104, z77 := Tryz.sizeOf104, v77 := Tryz.zeroValue104 }
end Go.Proofs

namespace Go.Ai.T0
open Go Go.RowKit Go.Sort Go.Proofs
set_option maxRecDepth 100000
set_option maxHeartbeats 4000000
structure Row where
 k : List UInt8
 r : List Value
 hr : r.length = 10
 h1 : ∀ v ∈ r, v.oneCell' = true
instance : Inhabited Row := ⟨⟨[], List.replicate 10 (.bool false), by simp, by intro v hv; rw [List.eq_of_mem_replicate hv]; rfl⟩⟩
def Row.enc (x : Row) : List Value := .string ⟨x.k.toArray⟩ :: x.r
theorem Row.enc_len (x : Row) : x.enc.length = 11 := by simp [Row.enc, x.hr]
theorem Row.enc_one (x : Row) : ∀ v ∈ x.enc, v.oneCell' = true := by
 intro v hv
 rcases List.mem_cons.1 hv with rfl | hv
 ·rfl
 ·exact x.h1 v hv
theorem rows_of {G : Ghost} : ∀ {l : List KV} {us : List Value}, VF G (cellsK l) us → (∀ u ∈ us, u.oneCell' = true) → ∃ d : List Row, us = (d.map Row.enc).flatten ∧ d.map (·.k) = l.map KV.key
 | [], us, h, _ => by
  cases h
  exact ⟨[], rfl, rfl⟩
 | x :: l, us, h, h1 => by
  obtain ⟨key, has, v, u⟩ := x
  have ht := h.take 11
  have hd := h.drop 11
  have e : cellsK (KV.mk key has v u :: l) = encK (.mk key has v u) ++ cellsK l := by simp [cellsK]
  rw [e, List.take_append_of_le_length (by simp), encK_take] at ht
  rw [e, List.drop_append_of_le_length (by simp), List.drop_of_length_le (by simp), List.nil_append] at hd
  obtain ⟨d, h2, h3⟩ := rows_of hd (fun u hu => h1 u (List.mem_of_mem_drop hu))
  rw [encK_mk] at ht
  have hl := ht.length
  generalize hr : us.take 11 = t at ht hl
  cases ht with
  | cons hk hr' =>
   rename_i v0 vs0
   rw [V.str_inv hk] at hr
   refine ⟨⟨key, vs0, by simp at hl; exact hl, fun v hv => h1 v (List.mem_of_mem_take (i := 11) (by rw [hr]; exact List.mem_cons_of_mem _ hv))⟩ :: d, ?_, ?_⟩
   ·have e3 := (List.take_append_drop 11 us).symm
    rw [hr, h2] at e3
    exact e3
   ·rw [List.map_cons, h3]; rfl
theorem getD_flat {α : Type} [Inhabited α] {e : α → List Value} {n : Nat} (hn : 0 < n) (he : ∀ x, (e x).length = n) : ∀ (d : List α) (j : Nat), j < d.length * n → (d.map e).flatten[j]? = some ((e d[j / n]!)[j % n]!)
 | [], j, h => by simp at h
 | x :: d, j, h => by
  rw [List.map_cons, List.flatten_cons]
  by_cases hj : j < n
  ·rw [List.getElem?_append_left (by rw [he]; exact hj), Nat.div_eq_of_lt hj, Nat.mod_eq_of_lt hj]
   have hl : j < (e x).length := by rw [he]; exact hj
   simp [hl]
  ·have hj' : n ≤ j := Nat.le_of_not_lt hj
   rw [List.getElem?_append_right (by rw [he]; exact hj'), he, getD_flat hn he d (j - n) (by rw [List.length_cons, Nat.add_mul, Nat.one_mul] at h; omega)]
   have e1 : j / n = (j - n) / n + 1 := by rw [← Nat.add_div_right _ hn]; congr 1; omega
   have e2 : j % n = (j - n) % n := by rw [← Nat.add_mod_right (j - n) n]; congr 1; omega
   rw [e1, e2]
   simp
theorem flat_get (d : Array Row) {j : Nat} (hj : j < d.size * 11) : (d.toList.map Row.enc).flatten[j]? = some ((flatK Row.enc 11 d)[j]!) := by
 rw [getD_flat (by omega) Row.enc_len d.toList j (by simpa using hj), get_flatK _ _ _ _ hj]
 simp [Array.getElem!_eq_getD, Array.getD_eq_getD_getElem?]
theorem flat_len (d : List Row) : (d.map Row.enc).flatten.length = d.length * 11 := by
 induction d with
 | nil => rfl
 | cons x d ih => rw [List.map_cons, List.flatten_cons, List.length_append, ih, Row.enc_len, List.length_cons]; omega
def cfK (x y : Row) : Int := Lib.compareBytes x.k y.k
theorem ltK (x y : Row) : ltOf cfK x y = decide (x.k < y.k) := by
 unfold ltOf cfK
 rw [decide_eq_decide]
 exact cmp_lt _ _
theorem swoK : SWO (ltOf cfK) where
 irrefl x := by rw [ltK]; simp [List.lt_irrefl]
 trans x y z h1 h2 := by rw [ltK] at *; simp only [decide_eq_true_eq] at *; exact List.lt_trans h1 h2
 ntrans x y z h1 h2 := by rw [ltK] at *; simp only [decide_eq_false_iff_not, List.not_lt] at *; exact List.le_trans h2 h1
theorem cmp_w (x y : Row) (W : World) : Calls Go.Proofs.Tryz.prog 25 #[.agg x.enc.toArray, .agg y.enc.toArray] W fun e w' => e = .returned (.int .i64 (cfK x y)) ∧ ∃ q os', w' = Go.Sort.grow (W.drewN q) os' := by
 have hcon := fun W' => Go.Proofs.Tryz.strings_Compare ⟨x.k.toArray⟩ ⟨y.k.toArray⟩ W'
 change ∀ W', Calls Go.Proofs.Tryz.prog _ _ _ (fun e w' => e = .returned (.int .i64 (cfK x y)) ∧ w' = W') at hcon
 generalize cfK x y = r at hcon ⊢
 obtain ⟨kx, rx, hx, _⟩ := x
 obtain ⟨ky, ry, hy, _⟩ := y
 simp only [Row.enc] at hcon ⊢
 obtain ⟨a0, a1, a2, a3, a4, a5, a6, a7, a8, a9, rfl⟩ : ∃ a0 a1 a2 a3 a4 a5 a6 a7 a8 a9, rx = [a0, a1, a2, a3, a4, a5, a6, a7, a8, a9] := by
  match rx, hx with
  | [a0, a1, a2, a3, a4, a5, a6, a7, a8, a9], _ => exact ⟨a0, a1, a2, a3, a4, a5, a6, a7, a8, a9, rfl⟩
 obtain ⟨b0, b1, b2, b3, b4, b5, b6, b7, b8, b9, rfl⟩ : ∃ a0 a1 a2 a3 a4 a5 a6 a7 a8 a9, ry = [a0, a1, a2, a3, a4, a5, a6, a7, a8, a9] := by
  match ry, hy with
  | [a0, a1, a2, a3, a4, a5, a6, a7, a8, a9], _ => exact ⟨a0, a1, a2, a3, a4, a5, a6, a7, a8, a9, rfl⟩
 go_enter Go.Proofs.Tryz.func25, Go.Proofs.Tryz.ntmps25
 go_wp2_with (go_at_call 49; refine (hcon _).mono ?_; rintro e w' ⟨rfl, rfl⟩)
 go_ret
 exact ⟨rfl, 0, _, by rw [alloc_eq_grow, alloc_eq_grow, grow_grow]; rfl⟩
theorem sort_call (g cap : Nat) (d : Array Row) (w : World) (hH : HoldsK Row.enc 11 w g 0 d) (hg : g < w.heap.size) (hsz : d.size < 4611686018427387904) :
  Calls Go.Proofs.Tryz.prog 27 #[.slice (some ⟨g, 0, none⟩) d.size cap, .func (.func 25) #[] #[]] w fun e w' =>
   e = .returned (.tuple #[]) ∧ ∃ d' n os, PermIn 0 d.size d d' ∧ SortedIn (ltOf cfK) 0 d.size d' ∧ w' = sortWorldK Row.enc 11 w g 0 n d' os :=
 AnyQ.slices_SortFunc Go.Proofs.Tryz.sortKV 11 Go.Proofs.Tryz.isAgg38 Go.Proofs.Tryz.sizeOf38 Row.enc Row.enc_len Row.enc_one cfK swoK 25 #[] g 0 cap d w (en Go.Proofs.Tryz.func25 rfl (by kernel_rfl)) (fun _ _ _ _ x y => cmp_w x y _) hH hg hsz
end Go.Ai.T0

namespace Go.Ai.T0
open Go Go.RowKit Go.Sort Go.Proofs
set_option maxRecDepth 100000
set_option maxHeartbeats 4000000
theorem append_none (g : Nat) (a : Addr) (w : World) : (Builtin.append_ #[22, 22] 22 #[.slice (some ⟨g, 0, none⟩) 0 0, .slice (some a) 0 0]).run Go.Proofs.Tryz.prog w = .ok (.slice (some ⟨g, 0, none⟩) 0 0) w := by
 obtain ⟨ti, t1⟩ : ∃ ti, Go.Proofs.Tryz.prog.info? 38 = some ti := ⟨_, rfl⟩
 have h := run_append_in (P := Go.Proofs.Tryz.prog) (w := w) (t := 22) (t2 := 22) (ty := 22) (e := 38) (b := g) (o := 0) (sLen := 0) (sCap := 0) (n := 0) (news := []) (yv := .slice (some a) 0 0) rfl rfl t1 rfl (by simp [Builtin.firstCells, loadCells, loadCellsFrom]) (Nat.le_refl _) (by simp) (by simp) (by simp)
 simpa [World.setCells] using h
theorem clone_empty (a : Addr) (w : World) : Calls Go.Proofs.Tryz.prog 26 #[.slice (some a) 0 0] w fun e w' => (∃ b, e = .returned (.slice (some ⟨b, 0, none⟩) 0 0)) ∧ Below w.heap.size w w' := by
 have h := fun g w => append_none g a w
 have q22 : ∀ (w : World) (a : Option Addr) (n c n' c' : Nat), (binOp .eql 22 (.slice a n c) (.slice none n' c')).run Go.Proofs.Tryz.prog w = .ok (.bool a.isNone) w := fun w a n c n' c' => Lib.run_eql_slice_nil w _ _ a n c n' c' Go.Proofs.Tryz.underlying22
 go_enter Go.Proofs.Tryz.func26, Go.Proofs.Tryz.ntmps26
 go_wp2
 go_ret
 exact ⟨⟨_, rfl⟩, (Below.refl _ w).alloc (Nat.le_refl _) _⟩
theorem tail_w {B : Nat} {w0 w2 : World} {G : Ghost} {O : Own} {ks : List (List UInt8)} {z : Value} (hn : ks.length ≤ 549755813888) (hr : R B w0 G O (fun _ => none) w2) (hz : V G (.slice (ks.map rowA) none) z) (hf : Fresh G [] 0)
  {a : Act} (h0 : a.tmps.getD 0 undef = z) (h2 : a.tmps.getD 2 undef = .bool false) (hsz : 26 ≤ a.tmps.size) (hd : a.defers = []) {b : Bool} (hb : b = true ↔ adjFrom ks 1) :
  (tl3 ((Go.Proofs.Tryz.f12.body).getD .skip)).wp Go.Proofs.Tryz.prog (bodyPost Go.Proofs.Tryz.prog Go.Proofs.Tryz.f12 fun e w3 => e = .returned (.bool b) ∧ Below B w0 w3) a w2 := by
 classical
 obtain ⟨fr, c', h', hx, hfr⟩ := tail_ok hn [] (fun _ => none)
 obtain ⟨m, hm⟩ := execW_some.1 hx
 have hgood : Code.Good E B w0 12 26 (tl3 ((Go.Proofs.Tryz.f12.body).getD .skip)) := by
  have hg := (env0 (B := B) (w0 := w0)).good 12 _ _ Go.Proofs.Tryz.func12 (rfl : Go.Proofs.Tryz.f12.body = some _)
  exact hg.2.2.2
 have hs : SR X0 B w0 [] 26 G O ((bot.set 2 (.bool false)).set 0 (.slice (ks.map rowA) none)) 0 (fun _ => none) a w2 := by
  refine ⟨⟨hsz, fun t => ?_⟩, hr, fun i hi _ => hf i hi, hd⟩
  by_cases t0 : t = 0
  ·subst t0; rw [h0]; exact ⟨by simpa using hz, by simp [Fr.set]; exact Room.free (by rintro xs s e; cases e)⟩
  ·by_cases t2 : t = 2
   ·subst t2; rw [h2]; exact ⟨by simp [Fr.set]; exact .bool, by simp [Fr.set]; exact Room.free (by rintro xs s e; cases e)⟩
   ·have : ((bot.set 2 (.bool false)).set 0 (.slice (ks.map rowA) none)) t = .top := by simp [Fr.set, t0, t2, bot]
    rw [this]; exact ⟨.top, Room.free (by rintro xs s e; cases e)⟩
 refine wp_mono (exec_ok (callW_ok env0) (callW_dom (env0 (B := B) (w0 := w0)).dom) m _ hgood _ _ _ G O _ w2 .ret fr c' h' hm hs) ?_
 rintro e' a' w' ⟨rfl, G', O', hs', hm⟩
 have hres' : (results Go.Proofs.Tryz.f12 a'.tmps).run Go.Proofs.Tryz.prog w' = .ok (a'.tmps.getD 2 undef) w' := by
  rw [results_eq]
  simp [resSem, Go.Proofs.Tryz.f12]
 refine ⟨hs'.defers, _, hres', ?_, hs'.r.below⟩
 have hV := hs'.fr.V 2
 rw [hfr] at hV
 rw [V.bool_inv hV]
 congr 2
 rw [Bool.eq_iff_iff, decide_eq_true_iff, hb]
theorem op_call {P : Program} {ops : List Oper} {Q : Exit → Act → World → Prop} {i : Nat} {rest : List Nat} {a : Act} {w : World} (o : Oper) {f : Nat} {args : Array Value} (ho : ops[i]? = some o) (hg : o.guard = none) (h : (execOp a.eval o).run P w = .ok (.enter f args) w)
  (hk : Calls P f args w fun e w' => ∃ z, e = .returned z ∧ wpOps P ⟨ops⟩ Q rest (a.put o.dst z) w') : wpOps P ⟨ops⟩ Q (i :: rest) a w := by
 rw [wpOps_cons' (o := o) (by simpa using ho)]
 unfold wpOne
 have : Region.wanted o (yielded ⟨ops⟩ a.tmps) = true := by unfold Region.wanted; rw [hg]
 rw [if_pos this]
 left
 unfold Oper.wp
 rw [h]
 exact hk.mono (by rintro e w' ⟨z, rfl, hk⟩; exact hk)
theorem holds_row {w : World} {g : Nat} {cur : Array Value} {e : TypeId} {us : List Value} {d : List Row} (hb : w.heap[g]? = some (.cells cur e (0, 0))) (hu : us = (d.map Row.enc).flatten) (ht : cur.toList.take (d.length * 11) = us) : HoldsK Row.enc 11 w g 0 d.toArray := by
 intro j hj
 rw [size_flatK] at hj
 have hj' : j < d.length * 11 := by simpa using hj
 refine ⟨?_, by simp [World.frozen?, hb]⟩
 have h1 : cur[j]? = some ((flatK Row.enc 11 d.toArray)[j]!) := by
  rw [← flat_get d.toArray (by simpa using hj'), ← hu, ← ht, List.getElem?_take_of_lt hj', Array.getElem?_toList]
 simp only [World.cell?, hb, Nat.zero_add, Option.isSome_none, Bool.false_eq_true, if_false]
 exact h1
theorem below_sorted {B : Nat} {w0 w : World} {g n : Nat} {d : Array Row} {os : Array Obj} (h : Below B w0 w) (hg : B ≤ g) (hgs : g < w.heap.size) : Below B w0 (sortWorldK Row.enc 11 w g 0 n d os) := by
 refine ⟨h.os, h.tape, h.output, Nat.le_trans h.size (size_sortWorldK_c _ _ _ _ _ _ _ _), fun k hk => ?_⟩
 rw [← h.block k hk]
 unfold sortWorldK putRowK
 by_cases hkw : k < w.heap.size
 ·rw [heap_grow_old _ _ (by simpa [putRow, mapBlock, Sort.ahead] using hkw)]
  have : g ≠ k := by omega
  simp [putRow, mapBlock, Sort.ahead, Array.getElem?_modify, this]
 ·omega
theorem adj_dup : ∀ {ks : List (List UInt8)}, (∀ (i j : Nat) (a b : List UInt8), i < j → ks[i]? = some a → ks[j]? = some b → ¬ b < a) → (adjFrom ks 1 ↔ ¬ ks.Nodup) := by
 intro ks hs
 constructor
 ·rintro ⟨j, a, b, h1, h2, h3, rfl⟩ hn
  have h4 := List.pairwise_iff_getElem.1 hn (j - 1) j (List.getElem?_eq_some_iff.1 h3).1 (List.getElem?_eq_some_iff.1 h2).1 (by omega)
  rw [(List.getElem?_eq_some_iff.1 h2).2, (List.getElem?_eq_some_iff.1 h3).2] at h4
  exact h4 rfl
 ·intro hn
  have : ∃ i j, i < j ∧ j < ks.length ∧ ks[i]? = ks[j]? := by
   apply Classical.byContradiction
   intro h
   exact hn (List.pairwise_iff_getElem.2 fun i j hi hj hij e => h ⟨i, j, hij, hj, by rw [List.getElem?_eq_getElem hi, List.getElem?_eq_getElem hj, e]⟩)
  obtain ⟨i, j, hij, hj, e⟩ := this
  obtain ⟨a, ha⟩ : ∃ a, ks[j]? = some a := ⟨_, List.getElem?_eq_getElem hj⟩
  obtain ⟨c, hc⟩ : ∃ c, ks[i + 1]? = some c := ⟨_, List.getElem?_eq_getElem (by omega)⟩
  refine ⟨i + 1, a, c, by omega, hc, by rw [Nat.add_sub_cancel, e]; exact ha, ?_⟩
  have h1 := hs i (i + 1) a c (by omega) (by rw [e]; exact ha) hc
  rcases Nat.eq_or_lt_of_le (show i + 1 ≤ j by omega) with h | h
  ·subst h; rw [hc] at ha; exact Option.some.inj ha
  ·have h2 := hs (i + 1) j c a h hc ha
   exact List.le_antisymm (List.not_lt.1 h2) (List.not_lt.1 h1)
theorem sorted_keys {d d' : Array Row} (hp : PermIn 0 d.size d d') (hs : SortedIn (ltOf cfK) 0 d.size d') : (adjFrom (d'.toList.map (·.k)) 1 ↔ ¬ (d.toList.map (·.k)).Nodup) ∧ d'.size = d.size := by
 obtain ⟨h1, _, h3⟩ := hp
 have h3' : d'.toList.Perm d.toList := by
  have e1 : (d'.extract 0 d.size) = d' := by rw [← h1]; simp
  have e2 : (d.extract 0 d.size) = d := by simp
  rw [e1, e2] at h3
  exact h3
 refine ⟨?_, h1⟩
 rw [adj_dup, (h3'.map (·.k)).nodup_iff]
 intro i j a b hij hi hj hlt
 simp only [List.getElem?_map, Option.map_eq_some_iff] at hi hj
 obtain ⟨x, hx, rfl⟩ := hi
 obtain ⟨y, hy, rfl⟩ := hj
 have hjl := (List.getElem?_eq_some_iff.1 hy).1
 have := hs i j (Nat.zero_le _) hij (by rw [← h1]; simpa using hjl)
 rw [ltK] at this
 have e1 : d'[i]! = x := by
  have : d'[i]? = some x := by simpa using hx
  rw [getElem!_def, this]
 have e2 : d'[j]! = y := by
  have : d'[j]? = some y := by simpa using hy
  rw [getElem!_def, this]
 rw [e1, e2] at this
 simp only [decide_eq_false_iff_not] at this
 exact this hlt
theorem vf_rows {G : Ghost} : ∀ d : List Row, VF G ((d.map (·.k)).map rowA).flatten (d.map Row.enc).flatten
 | [] => .nil
 | x :: d => by
  rw [List.map_cons, List.map_cons, List.flatten_cons, List.map_cons, List.flatten_cons]
  refine VF.append ?_ (vf_rows d)
  refine .cons .str ?_
  have : ∀ (r : List Value), VF G (List.replicate r.length .top) r := by
   intro r
   induction r with
   | nil => exact .nil
   | cons v r ih => exact .cons .top ih
  have := this x.r
  rwa [x.hr] at this
theorem sorted_state {B : Nat} {w0 w2 : World} {g cap : Nat} {d' : Array Row} (hb : Below B w0 w2) (hB : B ≤ w2.heap.size) (hg : g < w2.heap.size) (hH : HoldsK Row.enc 11 w2 g 0 d') (hcap : d'.size ≤ cap) :
  ∃ G O, R B w0 G O (fun _ => none) w2 ∧ Fresh G [] 0 ∧ V G (.slice ((d'.toList.map (·.k)).map rowA) none) (.slice (some ⟨g, 0, none⟩) d'.size cap) := by
 let us := (d'.toList.map Row.enc).flatten
 have hul : us.length = d'.size * 11 := by simpa [us] using flat_len d'.toList
 let G : Ghost := ⟨fun b x => if b = g then us[x]? else none, fun i => if i = [] then some (B, 0) else none⟩
 let O : Own := fun b x => if b = g ∧ x < us.length then some .imm else none
 have hus : ∀ j u, us[j]? = some u → G.K g (0 + j) = some u := fun j u hj => by simp only [G, if_true, Nat.zero_add]; exact hj
 have h1 : ∀ u ∈ us, u.oneCell' = true := by
  intro u hu
  simp only [us, List.mem_flatten, List.mem_map] at hu
  obtain ⟨_, ⟨x, _, rfl⟩, hu⟩ := hu
  exact x.enc_one u hu
 refine ⟨G, O, ⟨hb, hB, fun b o u hk => ?_, fun _ _ h => (by cases h), fun b o l hl => ?_, fun b o l hl q1 _ => ?_, rfl, fun _ _ _ _ h => by cases h⟩, ?_, ?_⟩
 ·simp only [G] at hk
  split at hk
  ·rename_i e; subst e
   have ho := (List.getElem?_eq_some_iff.1 hk).1
   refine ⟨by simp [O, ho], ?_⟩
   have hj : o < (flatK Row.enc 11 d').size := by rw [size_flatK, ← hul]; exact ho
   have := (hH o hj).1
   rw [Nat.zero_add] at this
   rw [this, ← hk]
   exact (flat_get d' (by rw [← hul]; exact ho)).symm
  ·cases hk
 ·simp only [O] at hl
  split at hl
  ·rename_i e; rw [e.1]; exact hg
  ·cases hl
 ·simp only [O] at hl
  split at hl
  ·simp only [Option.some.injEq] at hl; exact absurd hl.symm q1
  ·cases hl
 ·intro i hi
  cases i with
  | nil => cases hi
  | cons k i => rfl
 ·have hl : ((d'.toList.map (·.k)).map rowA).length = d'.size := by simp
  rw [← hl]
  refine V.slice (sz := 11) (VS.of_flat 11 (VK.of_vals (vf_rows d'.toList) h1 hus) ?_) (by rw [hl]; exact hcap) (fun _ h => by cases h)
  intro x hx
  obtain ⟨y, _, rfl⟩ := List.mem_map.1 hx
  rfl
end Go.Ai.T0

namespace Go.Ai.T0
open Go Go.RowKit Go.Sort Go.Proofs
set_option maxRecDepth 100000
set_option maxHeartbeats 4000000
open Classical in
noncomputable def dup (l : List KV) : Bool := decide (¬ (l.map KV.key).Nodup)
theorem dup_iff {l : List KV} : dup l = true ↔ ¬ (l.map KV.key).Nodup := by simp [dup]
def T1 (l : List KV) (w : World) (z : Value) (w1 : World) : Prop := Below w.heap.size w w1 ∧
 ((l = [] ∧ (z = .slice none 0 0 ∨ ∃ a, z = .slice (some a) 0 0)) ∨ ∃ g cap, ∃ d : List Row, z = .slice (some ⟨g, 0, none⟩) d.length cap ∧ w.heap.size ≤ g ∧ d.length ≤ cap ∧ HoldsK Row.enc 11 w1 g 0 d.toArray ∧ g < w1.heap.size ∧ d.map (·.k) = l.map KV.key)
def T2 (l : List KV) (w : World) (z : Value) (w2 : World) : Prop := ∃ G O, ∃ ks : List (List UInt8), R w.heap.size w G O (fun _ => none) w2 ∧ Fresh G [] 0 ∧ V G (.slice (ks.map rowA) none) z ∧ ks.length = l.length ∧ (dup l = true ↔ adjFrom ks 1)
theorem clone_w {B : Nat} {w0 w : World} {G : Ghost} {O : Own} {h : Heap} {v : Value} {l : List KV} (hl : l.length ≤ 549755813888) (hr : R B w0 G O h w) (hv : V G (.slice (l.map encK) none) v) :
  Calls Go.Proofs.Tryz.prog 26 #[v] w fun e w1 => ∃ z, e = .returned z ∧ T1 l w z w1 := by
 generalize hm : l.map encK = xs at hv
 cases hv with
 | sliceNil =>
  have e : l = [] := by simpa using hm
  refine (AnyE.slices_Clone_nil Go.Proofs.Tryz.lays41 0 0 w).mono ?_
  rintro e w1 ⟨rfl, rfl⟩
  exact ⟨_, rfl, Below.refl _ _, .inl ⟨e, .inl rfl⟩⟩
 | sliceE =>
  have e : l = [] := by simpa using hm
  refine (clone_empty _ w).mono ?_
  rintro e w1 ⟨⟨b, rfl⟩, hb⟩
  exact ⟨_, rfl, hb, .inl ⟨by assumption, .inr ⟨_, rfl⟩⟩⟩
 | @slice _ _ b o cap sz hvs hcap hown =>
  obtain ⟨f1, f2, f3⟩ := hvs.flat
  obtain ⟨us, g1, g2, g3⟩ := f1.vals
  rw [← hm] at g1
  obtain ⟨d, h1, h2⟩ := rows_of (l := l) g1 g2
  have hdl : d.length = l.length := by have := congrArg List.length h2; simpa using this
  have hxl : xs.length = l.length := by rw [← hm]; simp
  have hul : us.length = xs.length * 11 := by rw [hxl, h1, flat_len, hdl]
  refine (Go.Proofs.Tryz.slices_Clone b o xs.length cap us w hul (by rw [hxl]; unfold maxLen; omega) (by rw [hxl]; omega) (fun j u hj => (hr.imm _ _ _ (g3 j u hj)).2) g2).mono ?_
  rintro e w1 ⟨v', rfl, ⟨_, hrow⟩, hne, hbel⟩
  refine ⟨_, rfl, hbel, ?_⟩
  rcases hrow with ⟨rfl, _⟩ | ⟨g, cap', cur, rfl, hb, hblk, hn, _, hcs, hcur⟩
  ·exact absurd rfl hne
  ·have hdx : d.length = xs.length := by rw [hdl, hxl]
   refine .inr ⟨g, cap', d, by rw [hdx], hb, by rw [hdx]; exact hn, holds_row hblk h1 (by rw [hdx]; exact hcur), ?_, h2⟩
   exact (Array.getElem?_eq_some_iff.1 hblk).1
theorem sort_w {w : World} {l : List KV} (hl : l.length ≤ 549755813888) (z : Value) (w1 : World) (h : T1 l w z w1) :
  Calls Go.Proofs.Tryz.prog 27 #[z, .func (.func 25) #[] #[]] w1 fun e w2 => e = .returned (.tuple #[]) ∧ T2 l w z w2 := by
 obtain ⟨hb, h | ⟨g, cap, d, rfl, h1, h2, h3, h4, h5⟩⟩ := h
 ·obtain ⟨rfl, hz⟩ := h
  have hne : (dup [] = true ↔ adjFrom [] 1) := by
   rw [dup_iff]
   constructor
   ·intro h; exact absurd List.nodup_nil h
   ·rintro ⟨j, a, b, _, h2, _⟩; cases h2
  have hr0 : R w.heap.size w ⟨fun _ _ => none, fun i => if i = [] then some (w.heap.size, 0) else none⟩ (fun _ _ => none) (fun _ => none) w1 :=
   ⟨hb, hb.size, fun _ _ _ h => (by cases h), fun _ _ h => (by cases h), fun _ _ _ h => (by cases h), fun _ _ _ h => (by cases h), rfl, fun _ _ _ _ h => by cases h⟩
  have hfr : Fresh ⟨fun _ _ => none, fun i => if i = [] then some (w.heap.size, 0) else none⟩ [] 0 := by
   intro i hi
   cases i with
   | nil => cases hi
   | cons k i => rfl
  rcases hz with rfl | ⟨a, rfl⟩
  ·refine (AnyF.slices_SortFunc_none Go.Proofs.Tryz.sortKV none 0 _ w1).mono ?_
   rintro e w2 ⟨rfl, rfl⟩
   exact ⟨rfl, _, _, [], hr0, hfr, .sliceNil, rfl, hne⟩
  ·refine (AnyF.slices_SortFunc_none Go.Proofs.Tryz.sortKV (some a) 0 _ w1).mono ?_
   rintro e w2 ⟨rfl, rfl⟩
   exact ⟨rfl, _, _, [], hr0, hfr, .sliceE, rfl, hne⟩
 ·have hdl : d.length = l.length := by have := congrArg List.length h5; simpa using this
  refine (sort_call g cap d.toArray w1 h3 h4 (by simp; omega)).mono ?_
  rintro e w2 ⟨rfl, d', n, os, hp, hs, rfl⟩
  obtain ⟨k1, k2⟩ := sorted_keys hp hs
  have k2 : d'.size = d.length := by simpa using k2
  have hH := holdsK_sortWorldK_c Row.enc 11 w1 g 0 d.toArray d' n os h3 h4 (by simpa using k2)
  have hsz := size_sortWorldK_c Row.enc 11 w1 g 0 n d' os
  obtain ⟨G, O, q1, q2, q3⟩ := sorted_state (below_sorted hb h1 h4) (Nat.le_trans hb.size hsz) (Nat.lt_of_lt_of_le h4 hsz) hH (by rw [k2]; exact h2)
  rw [k2] at q3
  refine ⟨rfl, G, O, _, q1, q2, q3, by simp [k2, hdl], ?_⟩
  rw [k1, dup_iff, ← h5]
theorem twice_w {B : Nat} {w0 w : World} {G : Ghost} {O : Own} {h : Heap} {v : Value} {l : List KV} (hl : l.length ≤ 549755813888) (hr : R B w0 G O h w) (hv : V G (.slice (l.map encK) none) v) :
  Calls Go.Proofs.Tryz.prog 12 #[v] w fun e w2 => e = .returned (.bool (dup l)) ∧ Below w.heap.size w w2 := by
 have hc1 := clone_w hl hr hv
 have hc2 := fun z w1 h => sort_w (w := w) hl z w1 h
 clear hr hv
 refine calls_of_wp Go.Proofs.Tryz.func12 (c := (Go.Proofs.Tryz.f12.body).getD .skip) (by kernel_rfl) ?_
 have hend : ∀ (a : Act) (w2 : World) (z : Value), T2 l w z w2 → a.tmps.getD 0 undef = z → a.tmps.getD 2 undef = .bool false → 26 ≤ a.tmps.size → a.defers = [] → (tl3 ((Go.Proofs.Tryz.f12.body).getD .skip)).wp Go.Proofs.Tryz.prog (bodyPost Go.Proofs.Tryz.prog Go.Proofs.Tryz.f12 fun e w3 => e = .returned (.bool (dup l)) ∧ Below w.heap.size w w3) a w2 := by
  rintro a w2 z ⟨G, O, ks, q1, q2, q3, q4, q5⟩ h0 h2 h3 h4
  exact tail_w (by rw [q4]; exact hl) q1 q3 q2 h0 h2 h3 h4 q5
 generalize hP : bodyPost Go.Proofs.Tryz.prog Go.Proofs.Tryz.f12 _ = Q at hend ⊢
 generalize ha0 : ({ tmps := #[v] ++ Array.replicate (Go.Proofs.Tryz.f12.ntmps - (#[v] : Array Value).size) undef, defers := [] } : Act) = a0
 have s0 : a0.tmps.size = 26 := by rw [← ha0, Go.Proofs.Tryz.ntmps12]; simp
 have v0 : a0.tmps.getD 0 undef = v := by rw [← ha0]; simp [Array.getD_eq_getD_getElem?]
 have d0 : a0.defers = [] := by rw [← ha0]
 clear ha0 hP
 have hbody : ∃ o0 o1 o2 o3 o4 o5 i0 i1 i2, (Go.Proofs.Tryz.f12.body).getD .skip = .seq (.region i0 ⟨[o0]⟩ false) (.seq (.region i1 ⟨[o1, o2, o3]⟩ false) (.seq (.region i2 ⟨[o4, o5]⟩ false) (tl3 ((Go.Proofs.Tryz.f12.body).getD .skip)))) ∧
   o0.dst = some 2 ∧ o1.dst = some 4 ∧ o2.dst = some 5 ∧ o3.dst = some 0 ∧ o4.dst = some 6 ∧ o5.dst = some 7 ∧ o0.guard = none ∧ o1.guard = none ∧ o2.guard = none ∧ o3.guard = none ∧ o4.guard = none ∧ o5.guard = none ∧
   o0.op = .assign (.const (.bool false)) ∧ o1.op = .move (.tmp 0) ∧ o2.op = .call { callee := .value (.func 26), args := #[.tmp 4], argTypes := #[22] } ∧ o3.op = .assign (.tmp 5) ∧ o4.op = .move (.tmp 0) ∧
   o5.op = .call { callee := .value (.func 27), args := #[.tmp 6, .func 25], argTypes := #[22, 62] } :=
  ⟨_, _, _, _, _, _, _, _, _, rfl, rfl, rfl, rfl, rfl, rfl, rfl, rfl, rfl, rfl, rfl, rfl, rfl, rfl, rfl, rfl, rfl, rfl, rfl⟩
 obtain ⟨o0, o1, o2, o3, o4, o5, i0, i1, i2, hbody, d0', d1, d2, d3, d4, d5, g0, g1, g2, g3, g4, g5, p0, p1, p2, p3, p4, p5⟩ := hbody
 rw [hbody]
 generalize htl : tl3 ((Go.Proofs.Tryz.f12.body).getD .skip) = tl at hend ⊢
 clear hbody htl
 have g := fun (a : Act) (d : Nat) (z : Value) (t : Nat) (hd : d < a.tmps.size) => Act.put_getD a (some d) z t (by intro x hx; cases hx; exact hd)
 refine wp_seq (wp_region ?_)
 show wpOps _ _ _ [0] _ _
 refine op_hand o0 (z := .bool false) (w' := w) rfl g0 (by simp [execOp, p0, Act.eval]) ?_
 rw [d0']
 show (Code.seq _ _).wp _ _ _ _
 refine wp_seq (wp_region ?_)
 show wpOps _ _ _ [0, 1, 2] _ _
 have e1 : (a0.put (some 2) (.bool false)).tmps.getD 0 undef = v := by rw [g _ _ _ _ (by omega), if_neg (by simp)]; exact v0
 have z1 : (a0.put (some 2) (.bool false)).tmps.size = 26 := by rw [Act.put_size]; exact s0
 have b1 : (a0.put (some 2) (.bool false)).tmps.getD 2 undef = .bool false := by rw [g _ _ _ _ (by omega), if_pos rfl]
 have x1 : (a0.put (some 2) (.bool false)).defers = [] := d0
 generalize a0.put (some 2) (.bool false) = a1 at *
 have ev : ∀ (a : Act) (t : Nat), a.eval (.tmp t) = a.tmps.getD t undef := fun _ _ => rfl
 refine op_hand o1 (z := v) (w' := w) rfl g1 (by simp only [execOp, p1, ev, e1]; rfl) ?_
 rw [d1]
 have e2 : (a1.put (some 4) v).tmps.getD 4 undef = v := by rw [g _ _ _ _ (by omega), if_pos rfl]
 have z2 : (a1.put (some 4) v).tmps.size = 26 := by rw [Act.put_size]; exact z1
 have b2 : (a1.put (some 4) v).tmps.getD 2 undef = .bool false := by rw [g _ _ _ _ (by omega), if_neg (by simp)]; exact b1
 have x2 : (a1.put (some 4) v).defers = [] := x1
 generalize a1.put (some 4) v = a2 at *
 refine op_call o2 (f := 26) (args := #[v]) rfl g2 ?_ (hc1.mono ?_)
 ·have := en Go.Proofs.Tryz.func26 rfl (by kernel_rfl) #[v] w
  have ee : a2.eval (.tmp 4) = v := e2
  have ef : a2.eval (.func 26) = .func (.func 26) #[] #[] := rfl
  simp [execOp, p2, resolve, Deferred.ofValue, invoke, ee, ef, this]
 rintro e w1 ⟨z, rfl, hT1⟩
 refine ⟨z, rfl, ?_⟩
 rw [d2]
 have e3 : (a2.put (some 5) z).tmps.getD 5 undef = z := by rw [g _ _ _ _ (by omega), if_pos rfl]
 have z3 : (a2.put (some 5) z).tmps.size = 26 := by rw [Act.put_size]; exact z2
 have b3 : (a2.put (some 5) z).tmps.getD 2 undef = .bool false := by rw [g _ _ _ _ (by omega), if_neg (by simp)]; exact b2
 have x3 : (a2.put (some 5) z).defers = [] := x2
 generalize a2.put (some 5) z = a3 at *
 refine op_hand o3 (z := z) (w' := w1) rfl g3 (by simp only [execOp, p3, ev, e3]; rfl) ?_
 rw [d3]
 have e4 : (a3.put (some 0) z).tmps.getD 0 undef = z := by rw [g _ _ _ _ (by omega), if_pos rfl]
 have z4 : (a3.put (some 0) z).tmps.size = 26 := by rw [Act.put_size]; exact z3
 have b4 : (a3.put (some 0) z).tmps.getD 2 undef = .bool false := by rw [g _ _ _ _ (by omega), if_neg (by simp)]; exact b3
 have x4 : (a3.put (some 0) z).defers = [] := x3
 generalize a3.put (some 0) z = a4 at *
 show (Code.seq _ _).wp _ _ _ _
 refine wp_seq (wp_region ?_)
 show wpOps _ _ _ [0, 1] _ _
 refine op_hand o4 (z := z) (w' := w1) rfl g4 (by simp only [execOp, p4, ev, e4]; rfl) ?_
 rw [d4]
 have e5 : (a4.put (some 6) z).tmps.getD 0 undef = z := by rw [g _ _ _ _ (by omega), if_neg (by simp)]; exact e4
 have f5 : (a4.put (some 6) z).tmps.getD 6 undef = z := by rw [g _ _ _ _ (by omega), if_pos rfl]
 have z5 : (a4.put (some 6) z).tmps.size = 26 := by rw [Act.put_size]; exact z4
 have b5 : (a4.put (some 6) z).tmps.getD 2 undef = .bool false := by rw [g _ _ _ _ (by omega), if_neg (by simp)]; exact b4
 have x5 : (a4.put (some 6) z).defers = [] := x4
 generalize a4.put (some 6) z = a5 at *
 refine op_call o5 (f := 27) (args := #[z, .func (.func 25) #[] #[]]) rfl g5 ?_ ((hc2 z w1 hT1).mono ?_)
 ·have := en Go.Proofs.Tryz.func27 rfl (by kernel_rfl) #[z, .func (.func 25) #[] #[]] w1
  have ee : a5.eval (.tmp 6) = z := f5
  have ef : ∀ n, a5.eval (.func n) = .func (.func n) #[] #[] := fun _ => rfl
  simp [execOp, p5, resolve, Deferred.ofValue, invoke, ee, ef, this]
 rintro e w2 ⟨rfl, hT2⟩
 refine ⟨_, rfl, ?_⟩
 rw [d5]
 show Code.wp _ tl _ _ _
 refine hend _ w2 z hT2 ?_ ?_ ?_ ?_
 ·rw [g _ _ _ _ (by omega), if_neg (by simp)]; exact e5
 ·rw [g _ _ _ _ (by omega), if_neg (by simp)]; exact b5
 ·rw [Act.put_size]; omega
 ·exact x5
noncomputable def attrTwice : Id → List A → Heap → Option (A × Heap) := by
 classical
 exact fun _ args h => if hx : ∃ l : List KV, args = [.slice (l.map encK) none] ∧ l.length ≤ 549755813888 then some (.bool (dup (Classical.choose hx)), h) else none
theorem attrTwice_at {q : Id} {l : List KV} {h : Heap} (hf : l.length ≤ 549755813888) : attrTwice q [.slice (l.map encK) none] h = some (.bool (dup l), h) := by
 have hx : ∃ m : List KV, [A.slice (l.map encK) none] = [.slice (m.map encK) none] ∧ m.length ≤ 549755813888 := ⟨l, rfl, hf⟩
 unfold attrTwice
 rw [dif_pos hx]
 obtain ⟨e, _⟩ := Classical.choose_spec hx
 generalize Classical.choose hx = m at e ⊢
 simp only [List.cons.injEq, A.slice.injEq, and_true] at e
 rw [mapK_inj e]
theorem attrTwice_dom : PrimDom attrTwice := by
 intro q args h v h' hx id hid
 unfold attrTwice at hx
 split at hx
 ·simp only [Option.some.injEq, Prod.mk.injEq] at hx; obtain ⟨_, rfl⟩ := hx; exact .inl hid
 ·cases hx
theorem attrTwice_ok {B : Nat} {w0 : World} : PrimOK Go.Proofs.Tryz.prog B w0 12 attrTwice := by
 intro q args h v h' hx
 have hx' := hx
 unfold attrTwice at hx'
 split at hx'
 ·rename_i hargs
  obtain ⟨l, rfl, hf⟩ := hargs
  rw [attrTwice_at hf] at hx
  simp only [Option.some.injEq, Prod.mk.injEq] at hx
  obtain ⟨rfl, rfl⟩ := hx
  refine ⟨en Go.Proofs.Tryz.func12 rfl (by kernel_rfl), (by intro xs s e; cases e), fun G O w vs _ hvs hr hfresh => ?_⟩
  cases hvs with
  | cons hv hrest =>
   cases hrest
   refine (twice_w hf hr hv).mono ?_
   rintro e w2 ⟨rfl, hb⟩
   exact prim_same hr rfl .bool (Ext.of_below hb)
 ·cases hx'
end Go.Ai.T0

