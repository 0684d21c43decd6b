/- Part KN of the proof that a law of this program answers yes at every input: no conditions beyond the given statement. -/
import Derived.Deep.LoopGhost
import Derived.Test.YtalicejjbahmpaaGreatDoorKD
import Derived.Test.YtalicejjbahmpaaGreatDoorKM
set_option linter.unusedSimpArgs false
set_option linter.unusedVariables false
set_option linter.all false
namespace Go.Ai
open Go.RowKit
theorem Act.put_other (a : Act) (d : Option Nat) (z : Value) (t : Nat) (h : d ≠ some t) : (a.put d z).tmps.getD t undef = a.tmps.getD t undef := by
 cases d with
 | none => rfl
 | some d =>
  have hd : d ≠ t := fun e => h (by rw [e])
  simp only [Act.put, Array.getD_eq_getD_getElem?]
  rw [Array.getElem?_setIfInBounds_ne hd]
theorem opwp_put {P : Program} {o : Oper} {a : Act} {w : World} {K : Act → World → Prop} {Q : Exit → Act → World → Prop} (h : o.wp P a w K Q) :
  o.wp P a w (fun a' w' => K a' w' ∧ ∀ t, o.dst ≠ some t → a'.tmps.getD t undef = a.tmps.getD t undef) Q := by
 unfold Oper.wp at h ⊢
 generalize (execOp a.eval o).run P w = r at h ⊢
 unfold Oper.upon at h ⊢
 split
 ·exact ⟨h, fun t ht => Act.put_other _ _ _ _ ht⟩
 ·exact ⟨h, fun t ht => Act.put_other _ _ _ _ ht⟩
 ·exact ⟨h, fun t ht => Act.put_other _ _ _ _ ht⟩
 ·refine Calls.mono h ?_
  intro e w' he
  cases e with
  | returned v => exact ⟨he, fun t ht => Act.put_other _ _ _ _ ht⟩
  | panicked c => exact he
  | outgrown => exact he
 ·exact Rows.mono h fun v w' hv => ⟨hv, fun t ht => Act.put_other _ _ _ _ ht⟩
 ·exact h
 ·rename_i n1 n2 n3 n4 n5 n6
  split at h
  ·exact n1 _ _ rfl
  ·exact n2 _ rfl
  ·exact n3 _ _ rfl
  ·exact n4 _ _ _ rfl
  ·exact n5 _ _ _ rfl
  ·exact n6 _ _ rfl
  ·exact h
section
variable {E : Env} {cl : Id → Nat → List A → Heap → Option (A × Heap)} {B : Nat} {w0 : World} {p : Id} {nt : Nat}
theorem runOps_pre {ops : Array Oper} {Q : Exit → Act → World → Prop} (hcl : ClOK E.P B w0 cl) (hd : ∀ o ∈ ops.toList, ∀ x, o.dst = some x → x < nt) :
  ∀ (os : List Oper) (i : Nat) (tail : List Oper) (rest : List Nat) (fr : Fr) (c : Nat) (h : Heap) (G : Ghost) (O : Own) (a : Act) (w : World) (fr' : Fr) (c' : Nat) (h' : Heap), ops.toList.drop i = os ++ tail → SR X0 B w0 p nt G O fr c h a w →
   runOps E cl p ops.toList os fr c h = some (fr', c', h') → (∀ a' w', Later X0 B w0 p nt c G O w fr' c' h' a' w' → (∀ t, (∀ o ∈ os, o.dst ≠ some t) → a'.tmps.getD t undef = a.tmps.getD t undef) → wpOps E.P ops Q rest a' w') → wpOps E.P ops Q (List.range' i os.length ++ rest) a w
 | [], i, tail, rest, fr, c, h, G, O, a, w, fr', c', h', _, hs, hr, hQ => by
  simp only [runOps, Option.some.injEq, Prod.mk.injEq] at hr
  obtain ⟨rfl, rfl, rfl⟩ := hr
  exact hQ _ _ ⟨G, O, hs, .refl _ _ _ _ _⟩ (fun _ _ => rfl)
 | o :: os, i, tail, rest, fr, c, h, G, O, a, w, fr', c', h', hdr, hs, hr, hQ => by
  have ho : ops[i]? = some o := by
   have : ops.toList[i]? = some o := by
    have := congrArg (·[0]?) hdr
    simpa [List.getElem?_drop] using this
   simpa using this
  have hmem : o ∈ ops.toList := by rw [← List.take_append_drop i ops.toList, hdr]; simp
  have hdr' : ops.toList.drop (i + 1) = os ++ tail := by
   have := congrArg (·.drop 1) hdr
   simpa [List.drop_drop, Nat.add_comm] using this
  rw [List.length_cons, List.range'_succ, List.cons_append, wpOps_cons' ho]
  simp only [runOps] at hr
  unfold wpOne
  have next : ∀ (fr1 : Fr) (c1 : Nat) (h1 : Heap), runOps E cl p ops.toList os fr1 c1 h1 = some (fr', c', h') → ∀ a1 w1, Later X0 B w0 p nt c G O w fr1 c1 h1 a1 w1 → (∀ t, o.dst ≠ some t → a1.tmps.getD t undef = a.tmps.getD t undef) → wpOps E.P ops Q (List.range' (i + 1) os.length ++ rest) a1 w1 := by
   intro fr1 c1 h1 hr1 a1 w1 hl ht
   obtain ⟨G1, O1, hs1, hm1⟩ := hl
   refine runOps_pre hcl hd os (i + 1) tail rest fr1 c1 h1 G1 O1 a1 w1 fr' c' h' hdr' hs1 hr1 (fun a' w' hl' ht' => hQ a' w' ?_ ?_)
   ·obtain ⟨G2, O2, hs2, hm2⟩ := hl'
    exact ⟨G2, O2, hs2, hm1.trans hm2⟩
   ·intro t hn
    rw [ht' t (fun o ho => hn o (List.mem_cons_of_mem _ ho)), ht t (hn o (by simp))]
  split at hr
  ·rename_i hg
   rw [if_pos (guard_ok hs.fr.V hg)]
   simp only [Option.bind_eq_some_iff, Prod.exists] at hr
   obtain ⟨fr1, c1, h1, hst, hr⟩ := hr
   left
   exact Oper.wp_mono (fun a1 w1 hl => next fr1 c1 h1 hr a1 w1 hl.1 hl.2) (opwp_put (stepA_ok hcl hs (fun h => h) (hd o hmem) hst))
  ·rename_i hg
   have hw : Region.wanted o (yielded ops a.tmps) = false := guard_ok hs.fr.V hg
   rw [hw]
   simp only [Bool.false_eq_true, if_false]
   exact next _ _ _ hr _ _ (hs.value (hd o hmem) (.tuple .nil) (by intro xs s e; cases e)) (fun t ht => Act.put_other _ _ _ _ ht)
  ·cases hr
end
inductive Pl : A → Prop
 | int {k n} : Pl (.int k n)
 | bool {b} : Pl (.bool b)
 | str {s} : Pl (.str s)
 | slice {xs : List (List A)} : (∀ x ∈ xs, ∀ c ∈ x, Pl c) → Pl (.slice xs none)
theorem VK.re {G G' : Ghost} (hK : ∀ b o v, G.K b o = some v → G'.K b o = some v) {cs : List A} : ∀ {b o : Nat}, (∀ c ∈ cs, ∀ v, V G c v → V G' c v) → VK G cs b o → VK G' cs b o := by
 induction cs with
 | nil => intro b o _ h; exact .nil
 | cons c cs ih =>
  intro b o hc h
  cases h with
  | cons h1 h2 h3 h4 => exact .cons (hK _ _ _ h1) h2 (hc c (by simp) _ h3) (ih (fun c hm => hc c (List.mem_cons_of_mem _ hm)) h4)
theorem VS.re {G G' : Ghost} (hK : ∀ b o v, G.K b o = some v → G'.K b o = some v) {sz : Nat} {xs : List (List A)} : ∀ {b o : Nat}, (∀ x ∈ xs, ∀ c ∈ x, ∀ v, V G c v → V G' c v) → VS G sz xs b o → VS G' sz xs b o := by
 induction xs with
 | nil => intro b o _ h; exact .nil
 | cons c cs ih =>
  intro b o hc h
  cases h with
  | cons h1 h2 h3 => exact .cons h1 (VK.re hK (hc c (by simp)) h2) (ih (fun c hm => hc c (List.mem_cons_of_mem _ hm)) h3)
theorem V.re {G G' : Ghost} (hK : ∀ b o v, G.K b o = some v → G'.K b o = some v) {a : A} (hp : Pl a) : ∀ v, V G a v → V G' a v := by
 induction hp with
 | int => intro v h; cases h; exact .int
 | bool => intro v h; cases h; exact .bool
 | str => intro v h; cases h; exact .str
 | slice _ ih =>
  intro v h
  cases h with
  | sliceNil => exact .sliceNil
  | sliceE => exact .sliceE
  | slice h1 h2 _ => exact .slice (VS.re hK (fun x hx c hc v hv => ih x hx c hc v hv) h1) h2 (fun q hq => by cases hq)
theorem VF.re {G G' : Ghost} (hK : ∀ b o v, G.K b o = some v → G'.K b o = some v) : ∀ {cs : List A} {vs : List Value}, (∀ c ∈ cs, Pl c) → VF G cs vs → VF G' cs vs
 | [], _, _, .nil => .nil
 | c :: cs, _, hp, .cons h hs => .cons (V.re hK (hp c (by simp)) _ h) (VF.re hK (fun c hc => hp c (List.mem_cons_of_mem _ hc)) hs)
theorem Pl.free {a : A} (h : Pl a) : a.free := by
 rintro xs s rfl
 cases h
end Go.Ai

namespace Go.Ai
open Go.RowKit
def Out (e : Nat) (B : Nat) (G : Ghost) (O : Own) (w : World) (l : List KV) (z : Value) : Prop :=
 (l = [] ∧ z = .slice none 0 0) ∨ ∃ b cap us, z = .slice (some ⟨b, 0, none⟩) l.length cap ∧ l.length ≤ cap ∧ B ≤ b ∧ shp w b = some (e, cap * 11) ∧ (∀ x, w.frozen? ⟨b, x, none⟩ = false) ∧ (∀ x, O b x = some .rest) ∧
  (∀ x, x < cap * 11 → (w.cell? ⟨b, x, none⟩).isSome = true) ∧ VF G (cellsK l) us ∧ (∀ u ∈ us, u.oneCell' = true) ∧ ∀ j u, us[j]? = some u → w.cell? ⟨b, j, none⟩ = some u
theorem Out.keeps {e B : Nat} {G G' : Ghost} {O O' : Own} {w w' : World} {p : Id} {l : List KV} {z : Value} (h : Out e B G O w l z) (hg : G.le G') (hk : Keeps p O w O' w') : Out e B G' O' w' l z := by
 rcases h with h | ⟨b, cap, us, h1, h2, h3, h4, h5, h6, h7, h8, h9, h10⟩
 ·exact .inl h
 ·refine .inr ⟨b, cap, us, h1, h2, h3, hk.shape _ _ h4, fun x => ?_, fun x => (hk.lab b x _ (h6 x) trivial).1, fun x hx => ?_, h8.mono hg, h9, fun j u hj => ?_⟩
  ·rw [(hk.lab b x _ (h6 x) trivial).2.2]; exact h5 x
  ·rw [(hk.lab b x _ (h6 x) trivial).2.1]; exact h7 x hx
  ·rw [(hk.lab b j _ (h6 j) trivial).2.1]; exact h10 j u hj
section
variable {X : Nat → Prop} {P : Program} {B : Nat} {w0 : World} {p : Id} {nt : Nat} {G : Ghost} {O : Own} {fr : Fr} {c : Nat} {h : Heap} {a : Act} {w : World}
theorem SR.writeRest (hs : SR X B w0 p nt G O fr c h a w) {b o : Nat} {news : List Value} (hB : B ≤ b) (hl : ∀ j, j < news.length → O b (o + j) = some .rest) : SR X B w0 p nt G O fr c h a (w.setCells b o news) := by
 let S : Lab → Prop := fun l => l = .rest
 have hlS : ∀ j, j < news.length → ∃ l, O b (o + j) = some l ∧ S l := fun j hj => ⟨_, hl j hj, rfl⟩
 refine ⟨⟨hs.fr.size, fun t => ⟨(hs.fr.val t).1, (hs.fr.val t).2.write hlS (by simp [S])⟩⟩, ⟨below_setCells hs.r.below hB _ _, by rw [size_setCells]; exact hs.r.base, ?_, ?_, ?_, hs.r.new, hs.r.bot, ?_⟩, hs.fresh, hs.defers⟩
 ·intro b' o' v hk
  obtain ⟨h1, h2⟩ := hs.r.imm _ _ _ hk
  exact ⟨h1, by rw [setCells_out hlS h1 (by simp [S])]; exact h2⟩
 ·intro id cs hid
  obtain ⟨b', o', hm, ho⟩ := hs.r.obj id cs hid
  refine ⟨b', o', hm, fun j a hj => ?_⟩
  obtain ⟨h1, h2, v, h3, h4, h5, h6⟩ := ho j a hj
  exact ⟨h1, by rw [World.frozen?_setCells]; exact h2, v, by rw [setCells_out hlS h1 (by simp [S])]; exact h3, h4, h5, h6.write hlS (by simp [S])⟩
 ·intro b' o' l hl'
  rw [size_setCells]; exact hs.r.lt _ _ _ hl'
 ·intro id cs b' o' hid hm
  obtain ⟨h1, t, h2, n, h3, h4⟩ := hs.r.typ id cs b' o' hid hm
  exact ⟨h1, t, h2, n, by rw [shape_setCells]; exact h3, h4⟩
theorem SR.newRest (hs : SR X B w0 p nt G O fr c h a w) {w' : World} (hx : Ext w w') (hsz : w.heap.size < w'.heap.size) : SR X B w0 p nt G (fun b x => if b = w.heap.size then some .rest else O b x) fr c h a w' := by
 have hO : ∀ b x, b < w.heap.size → (fun b x => if b = w.heap.size then some Lab.rest else O b x) b x = O b x := by
  intro b x hb
  simp only; rw [if_neg (by omega)]
 refine ⟨hs.fr.ext hx G.le_refl hO hs.r.lt, hs.r.ext hx G.le_refl hO (fun _ _ _ hk => .inl hk) ?_, hs.fresh, hs.defers⟩
 intro b o l hl
 by_cases hb : b = w.heap.size
 ·omega
 ·rw [if_neg hb] at hl
  exact Nat.lt_of_lt_of_le (hs.r.lt _ _ _ hl) hx.size
theorem Out.append (hs : SR X B w0 p nt G O fr c h a w) {e t t2 ty : Nat} {i : TypeInfo} {zv : Value} (ht : P.underlying t = some (.slice e)) (h2 : (kindT P t2).plain = true) (hi : P.info? e = some i) (hz : i.zero = some zv) (hzl : zv.cells.size = 11) (hsz : i.size = 11)
  {l : List KV} {x : KV} {z yv : Value} {news : List Value} (ho : Out e B G O w l z) (src : Src P G w 11 [encK x] yv news) (hfit : (l.length + 1) * i.bytes ≤ 140737488355328) (hN : l.length + 1 ≤ maxStr) :
  ∃ q w' O', (Builtin.append_ #[t, t2] ty #[z, yv]).run P w = .ok q w' ∧ SR X B w0 p nt G O' fr c h a w' ∧ Out e B G O' w' (l ++ [x]) q ∧ ∀ b o, O b o = some .rest → O' b o = some .rest := by
 have hnl : news.length = 11 := by rw [src.vf.length]; simp
 have hvx : VF G (encK x) news := by simpa using src.vf
 have grow : ∀ (base : Option Addr) (cap : Nat) (olds : List Value), z = .slice base l.length cap → cap < l.length + 1 → VF G (cellsK l) olds → (∀ u ∈ olds, u.oneCell' = true) →
   (∀ w', (∀ a, w'.cell? a = w.cell? a) → (Builtin.firstCells i.size l.length (.slice base l.length cap)).run P w' = .ok olds.toArray w') →
   ∃ q w' O', (Builtin.append_ #[t, t2] ty #[z, yv]).run P w = .ok q w' ∧ SR X B w0 p nt G O' fr c h a w' ∧ Out e B G O' w' (l ++ [x]) q ∧ ∀ b o, O b o = some .rest → O' b o = some .rest := by
  intro base cap olds hzz hg hvo ho1 hold
  have hr := run_append_new (P := P) (w := w) (ty := ty) ht h2 hi hz src.len (by rw [hsz]; exact src.cells) hold hg hN hfit
  rw [← hzz] at hr
  have hol : olds.length = l.length * 11 := by rw [hvo.length, cellsK_len]
  have hgc := grownCap_ge w (l.length + 1) cap e
  generalize hrr : (Builtin.zeroCells zv.cells (grownCap w (l.length + [encK x].length) cap e - (l.length + [encK x].length))).toList = rest at hr
  have hrest : rest.length = (grownCap w (l.length + 1) cap e - (l.length + 1)) * 11 := by
   rw [← hrr]; simp [Builtin.zeroCells, hzl]
  have htot : (olds ++ news ++ rest).length = grownCap w (l.length + 1) cap e * 11 := by
   simp only [List.length_append, hol, hnl, hrest]; omega
  have hlt : w.heap.size < (w.drew.alloc (.cells (olds ++ news ++ rest).toArray e)).heap.size := by simp
  refine ⟨_, _, _, hr, hs.newRest (Ext.drewAlloc w _) hlt, .inr ⟨w.heap.size, grownCap w (l.length + 1) cap e, olds ++ news, by simp, by simpa using hgc, hs.r.base, ?_, ?_, ?_, ?_, ?_, ?_, ?_⟩, ?_⟩
  ·have := shape_new w.drew (olds ++ news ++ rest) e
   rw [htot] at this
   exact this
  ·intro y; exact frozen_alloc (w := w.drew) y
  ·intro y; simp
  ·intro y hy
   rw [← htot] at hy
   have := cells_alloc (w := w.drew) (e := e) y _ (List.getElem?_eq_getElem hy)
   have e1 : w.drew.heap.size = w.heap.size := rfl
   rw [e1] at this
   rw [this]; rfl
  ·rw [cellsK_append]
   refine hvo.append ?_
   simpa [cellsK] using hvx
  ·intro u hu; rcases List.mem_append.1 hu with hu | hu; exact ho1 u hu; exact src.one u hu
  ·intro j u hj
   have hj' : (olds ++ news ++ rest)[j]? = some u := by
    rw [List.getElem?_append_left (List.getElem?_eq_some_iff.1 hj).1]; exact hj
   exact cells_alloc (w := w.drew) (e := e) j u hj'
  ·intro b o hb
   simp only [hb]; split <;> rfl
 rcases ho with ⟨rfl, rfl⟩ | ⟨b, cap, us, hzz, h1, h3, h4, h5, h6, h7, h8, h9, h10⟩
 ·exact grow none 0 [] rfl (by simp) .nil (by simp) (by intro w' _; simp [Builtin.firstCells])
 ·by_cases hin : l.length + 1 ≤ cap
  ·have hla : ∀ j, j < news.length → (w.cell? ⟨b, 0 + l.length * i.size + j, none⟩).isSome = true := by
    intro j hj
    rw [hsz, Nat.zero_add]
    exact h7 _ (by omega)
   have hr := run_append_in (P := P) (w := w) (ty := ty) (b := b) (o := 0) (sLen := l.length) (sCap := cap) ht h2 hi src.len (by rw [hsz]; exact src.cells w (fun _ => rfl)) hin hla (fun j hj => h5 _) src.one
   rw [← hzz, hsz, Nat.zero_add] at hr
   have hul : us.length = l.length * 11 := by rw [h8.length, cellsK_len]
   have hla' : ∀ j, j < news.length → (w.cell? ⟨b, l.length * 11 + j, none⟩).isSome = true := fun j hj => h7 _ (by omega)
   refine ⟨_, _, O, hr, hs.writeRest h3 (fun j _ => h6 _), .inr ⟨b, cap, us ++ news, by simp, by simpa using hin, h3, by rw [shape_setCells]; exact h4, fun y => by rw [World.frozen?_setCells]; exact h5 y, h6, fun y hy => ?_, ?_, ?_, ?_⟩, fun _ _ hb => hb⟩
   ·by_cases hy2 : l.length * 11 ≤ y ∧ y < l.length * 11 + news.length
    ·have := World.cell?_setCells_in b news (l.length * 11) w hla' (y - l.length * 11) (by omega)
     rw [show l.length * 11 + (y - l.length * 11) = y by omega] at this
     rw [this]; rfl
    ·rw [World.cell?_setCells_out _ _ _ _ _ (fun _ _ => by simp only; omega)]
     exact h7 y hy
   ·rw [cellsK_append]
    refine h8.append ?_
    simpa [cellsK] using hvx
   ·intro u hu; rcases List.mem_append.1 hu with hu | hu; exact h9 u hu; exact src.one u hu
   ·intro j u hj
    rcases Nat.lt_or_ge j us.length with hjl | hjl
    ·rw [List.getElem?_append_left hjl] at hj
     rw [World.cell?_setCells_out _ _ _ _ _ (fun _ _ => by simp only; omega)]
     exact h10 j u hj
    ·rw [List.getElem?_append_right hjl] at hj
     have hj2 := (List.getElem?_eq_some_iff.1 hj).1
     have := World.cell?_setCells_in b news (l.length * 11) w hla' (j - us.length) hj2
     rw [show l.length * 11 + (j - us.length) = j by omega] at this
     rw [this, ← (List.getElem?_eq_some_iff.1 hj).2]
  ·refine grow (some ⟨b, 0, none⟩) cap us hzz (by omega) h8 h9 ?_
   intro w' hw'
   exact run_firstCells_some w' i.size _ _ _ _ us (by rw [h8.length, cellsK_len, hsz]) (fun j v hj => by rw [Addr.add_lit, hw', Nat.zero_add]; exact h10 j v hj)
end
end Go.Ai

