/- Part KB of the proof that a law of this program answers yes at every input: no conditions beyond the given statement. -/
import Derived.Laws.MakeOwn
import Derived.Laws.IdiomStrings
import Derived.Laws.AppendOwn
import Derived.LoopN
import Derived.Test.YtbpllbpgaiphaaaGreatDoorKA
set_option linter.unusedSimpArgs false
set_option linter.unusedVariables false
set_option linter.all false
/- The evaluator's operations on memory are the model's: new memory that nobody writes, with room behind it. -/
namespace Go.Ai
open Go.RowKit

def immGhost (G : Ghost) (b : Nat) (vs : List Value) : Ghost := ⟨fun b' x => if b' = b then vs[x]? else G.K b' x, G.m⟩
def immLab (O : Own) (b n : Nat) (l : Lab) : Own := fun b' x => if b' = b then (if x < n then some .imm else some l) else O b' x

theorem immGhost_le {B : Nat} {w0 w : World} {G : Ghost} {O : Own} {h : Heap} (hr : R B w0 G O h w) (vs : List Value) : G.le (immGhost G w.heap.size vs) :=
  ⟨fun b o v hk => by
    have hb := hr.lt _ _ _ (hr.imm b o v hk).1
    simp only [immGhost]; rw [if_neg (by omega)]; exact hk, fun _ _ h => h⟩
theorem immLab_old {O : Own} {n : Nat} {l : Lab} {w : World} : ∀ b' x, b' < w.heap.size → immLab O w.heap.size n l b' x = O b' x := by
  intro b' x h; simp only [immLab]; rw [if_neg (by omega)]

theorem immVK {G : Ghost} {b : Nat} : ∀ {cs : List A} {vs us : List Value} {k : Nat}, VF G cs vs → (∀ v ∈ vs, v.oneCell' = true) → G.le (immGhost G b us) → (∀ j v, vs[j]? = some v → us[k + j]? = some v) → VK (immGhost G b us) cs b k
  | _, _, _, _, .nil, _, _, _ => .nil
  | _, _, us, k, .cons (v := v) (vs := vs) hv hs, h1, hg, hk => .cons (by simp only [immGhost, if_true]; have := hk 0 v (by simp); simpa using this) (h1 v (by simp)) (hv.mono hg)
      (immVK hs (fun u hu => h1 u (by simp [hu])) hg (fun j u hj => by have := hk (j + 1) u (by simpa using hj); rwa [show k + 1 + j = k + (j + 1) by omega]))

section
variable {X : Nat → Prop} {B : Nat} {w0 : World} {p : Id} {nt : Nat} {G : Ghost} {O : Own} {fr fr1 : Fr} {c : Nat} {h : Heap} {a : Act} {w w' : World}

/-- a new block: cells that nobody will write, and room behind them that is slot d's -/
theorem SR.immBlock (hs : SR X B w0 p nt G O fr c h a w) (hx : Ext w w') (hsz : w.heap.size < w'.heap.size) {us rest : List Value} (hc : ∀ x v, (us ++ rest)[x]? = some v → w'.cell? ⟨w.heap.size, x, none⟩ = some v)
    {d : Option Nat} (hd : ∀ x, d = some x → x < nt) {v : A} {z : Value} (hf : (∃ xs s, v = .slice xs (some s)) → ∀ x, w'.frozen? ⟨w.heap.size, x, none⟩ = false) (hv : V (immGhost G w.heap.size us) v z)
    (hroom : ∀ x, d = some x → (∀ xs s b o n cap, v = .slice xs (some s) → z = .slice (some ⟨b, o, none⟩) n cap → b = w.heap.size ∧ (o = 0 ∧ shp w' b = some (s.1, cap * s.2)) ∧ us.length ≤ o + n * s.2 ∧ o + cap * s.2 ≤ us.length + rest.length)) :
    Later X B w0 p nt c G O w (fr.put d v) c h (a.put d z) w' := by
  have hg := immGhost_le hs.r us
  let l : Lab := .tsp p (d.getD 0)
  let O' := immLab O w.heap.size us.length l
  have hO : ∀ b' x, b' < w.heap.size → O' b' x = O b' x := immLab_old
  have hlt : ∀ b o l, O' b o = some l → b < w'.heap.size := by
    intro b o l' hl
    simp only [O', immLab] at hl
    split at hl
    · omega
    · exact Nat.lt_of_lt_of_le (hs.r.lt _ _ _ hl) hx.size
  refine ⟨immGhost G w.heap.size us, O', ⟨?_, ?_, hs.fresh, by rw [Act.put_defers']; exact hs.defers⟩, ⟨hg, .ext hx hO hs.r.lt, Nat.le_refl _, fun _ _ => rfl⟩⟩
  · refine (hs.fr.ext hx hg hO hs.r.lt).put hd hv ?_
    rintro x rfl xs s b o n cap e1 e2
    obtain ⟨rfl, hsh, h3, h4⟩ := hroom x rfl xs s b o n cap e1 e2
    refine ⟨⟨hsh.1, hsh.2, fun _ y => hf ⟨_, _, e1⟩ y⟩, fun y h1 => ⟨?_, fun h2 => ?_, hf ⟨_, _, e1⟩ y⟩⟩
    · simp only [O', immLab, if_true, l]
      rw [if_neg (by omega)]; rfl
    · have hy : y < (us ++ rest).length := by simp; omega
      rw [hc y _ (List.getElem?_eq_getElem hy)]; rfl
  · refine hs.r.ext hx hg hO ?_ hlt
    intro b o v hk
    simp only [immGhost] at hk
    split at hk
    · rename_i e; subst e
      right
      have hol : o < us.length := by
        rcases Nat.lt_or_ge o us.length with h | h
        · exact h
        · rw [List.getElem?_eq_none h] at hk; cases hk
      exact ⟨by simp only [O', immLab, if_true]; rw [if_pos hol], hc o v (by rw [List.getElem?_append_left hol]; exact hk)⟩
    · exact .inl hk
end

theorem cells_alloc {w : World} {us : List Value} {e : TypeId} : ∀ x v, us[x]? = some v → (w.alloc (.cells us.toArray e)).cell? ⟨w.heap.size, x, none⟩ = some v := by
  intro x v h; simp [h]

/-! ### Slices written out -/
theorem flatten_set {α : Type} {s : Nat} : ∀ {xs : List (List α)} {i : Nat} {v : List α}, (∀ x ∈ xs, x.length = s) → i < xs.length → v.length = s → (xs.set i v).flatten = xs.flatten.take (i * s) ++ v ++ xs.flatten.drop (i * s + s)
  | [], i, v, _, h, _ => by simp at h
  | x :: xs, 0, v, h, _, hv => by
    have hx := h x (by simp)
    simp [← hx]
  | x :: xs, i + 1, v, h, hi, hv => by
    have hx := h x (by simp)
    have ih := flatten_set (xs := xs) (i := i) (v := v) (fun y hy => h y (by simp [hy])) (by simpa using hi) hv
    simp only [List.set_cons_succ, List.flatten_cons, ih]
    rw [show (i + 1) * s = x.length + i * s by rw [Nat.add_mul, hx]; omega]
    rw [List.take_length_add_append, show x.length + i * s + s = x.length + (i * s + s) by omega, List.drop_length_add_append]
    simp [List.append_assoc]

theorem elemsA_ok {G : Ghost} {s : Nat} : ∀ {ps : List (Nat × A)} {qs : List (Nat × Value)} {xs r : List (List A)} {us : List Value}, elemsA s xs ps = some r → VP G ps qs → VF G xs.flatten us → (∀ x ∈ xs, x.length = s) → (∀ v ∈ us, v.oneCell' = true) →
    ∃ ws, Instr.fill (fun i => some (i * s, s)) us.toArray qs = some ws.toArray ∧ VF G r.flatten ws ∧ (∀ x ∈ r, x.length = s) ∧ (∀ v ∈ ws, v.oneCell' = true) ∧ r.length = xs.length
  | [], qs, xs, r, us, h, hp, hc, hl, h1 => by
    cases hp; simp only [elemsA, Option.some.injEq] at h; subst h
    exact ⟨us, rfl, hc, hl, h1, rfl⟩
  | (i, a) :: ps, qs, xs, r, us, h, hp, hc, hl, h1 => by
    cases hp with
    | @cons _ _ v _ vs hv hp =>
      simp only [elemsA] at h
      split at h
      · rename_i cl hcl
        split at h
        · rename_i hn
          simp only [Option.bind_eq_some_iff] at h
          obtain ⟨xs', hs, hr⟩ := h
          simp only [setAt] at hs
          split at hs
          · rename_i hi
            simp only [Option.some.injEq] at hs; subst hs
            obtain ⟨hc1, hc2⟩ := hv.cells hcl
            have e1 := hc1.length
            have ef := flatten_set hl hi hn
            have hlen : xs.flatten.length = xs.length * s := by
              clear hr ef hc h1 hi
              induction xs with
              | nil => simp
              | cons x xs ih => simp [hl x (by simp), ih (fun y hy => hl y (by simp [hy])), Nat.add_mul, Nat.add_comm]
            have hfit : i * s + s ≤ us.length := by
              rw [hc.length, hlen]
              have : (i + 1) * s ≤ xs.length * s := Nat.mul_le_mul_right _ (by omega)
              rw [Nat.add_mul] at this; omega
            obtain ⟨ws, hf, hw, hw1, hw2, hw3⟩ := elemsA_ok (us := us.take (i * s) ++ v.cells.toList ++ us.drop (i * s + s)) hr hp (by rw [ef]; exact ((hc.take _).append hc1).append (hc.drop _))
              (by
                intro x hx
                rcases List.mem_or_eq_of_mem_set hx with hx | rfl
                · exact hl x hx
                · exact hn)
              (by
                intro x hx
                simp only [List.mem_append] at hx
                rcases hx with (hx | hx) | hx
                · exact h1 x (List.mem_of_mem_take hx)
                · exact hc2 x hx
                · exact h1 x (List.mem_of_mem_drop hx))
            refine ⟨ws, ?_, hw, hw1, hw2, by rw [hw3]; simp⟩
            have e2 : v.cells.size = s := by rw [← hn, ← e1]; simp
            simp only [Instr.fill, e2]
            rw [if_neg (by simp; omega)]
            have hfold := foldl_set (i * s) v.cells.toList 0 us (by simp only [Nat.add_zero]; rw [e1]; omega)
            rw [← hf]
            congr 1
            simp only [Nat.add_zero] at hfold
            rw [show i * s + v.cells.toList.length = i * s + s by rw [e1]; omega] at hfold
            rw [← hfold, ← Array.foldl_toList]
            simp
          · cases hs
        · cases h
      · cases h

theorem range_mod {α : Type} [Inhabited α] (zl : List α) : ∀ n, (List.range (n * zl.length)).map (fun i => zl.toArray[i % zl.toArray.size]!) = (List.replicate n zl).flatten
  | 0 => by simp
  | n + 1 => by
    rw [Nat.add_mul, Nat.one_mul, List.range_add, List.map_append, range_mod zl n, List.replicate_succ', List.flatten_append]
    congr 1
    simp only [List.map_map, List.flatten_singleton]
    apply List.ext_getElem?
    intro j
    by_cases hj : j < zl.length
    · have : (n * zl.length + j) % zl.length = j := by
        rw [Nat.mul_comm, Nat.mul_add_mod]; exact Nat.mod_eq_of_lt hj
      simp [hj, this]
    · simp [hj]

theorem VF.replicate {G : Ghost} {z : List A} {us : List Value} (h : VF G z us) : ∀ n, VF G (List.replicate n z).flatten (List.replicate n us).flatten
  | 0 => by simp; exact .nil
  | n + 1 => by simpa [List.replicate_succ] using h.append (VF.replicate h n)
end Go.Ai

/- The evaluator's operations on memory are the model's: slices written out, made; objects frozen; texts as bytes. -/
namespace Go.Ai
open Go.RowKit

theorem flatten_length {α : Type} {s : Nat} : ∀ {xs : List (List α)}, (∀ x ∈ xs, x.length = s) → xs.flatten.length = xs.length * s
  | [], _ => by simp
  | x :: xs, h => by simp [h x (by simp), flatten_length (fun y hy => h y (List.mem_cons_of_mem _ hy)), Nat.add_mul, Nat.add_comm]

section
variable {X : Nat → Prop} {P : Program} {B : Nat} {w0 : World} {p : Id} {nt : Nat} {G : Ghost} {O : Own} {fr fr1 : Fr} {c : Nat} {h : Heap} {a : Act} {w w' : World}

theorem SR.buildSlice (hs : SR X B w0 p nt G O fr c h a w) {t e s len : Nat} {z : List A} {ps : List (Nat × A)} {qs : Array (Nat × Value)} {xs : List (List A)} (hk : kindT P t = .slice e) (hsz : szT P e = some s) (hz : zeroT P e = some z)
    (hzl : z.length = s) (hfit : len * s ≤ 16777216) (hp : VP G ps qs.toList) (hx : elemsA s (List.replicate len z) ps = some xs) {d : Option Nat} (hd : ∀ x, d = some x → x < nt) :
    ∃ v w', (Instr.buildSlice t len qs).run P w = .ok v w' ∧ Later X B w0 p nt c G O w (fr.put d (.slice xs (some (e, s)))) c h (a.put d v) w' := by
  obtain ⟨i, hi, rfl⟩ := szT_ok hsz
  obtain ⟨i', zv, hi', hzv, hz'⟩ := zeroT_ok hz
  rw [hi] at hi'; cases hi'
  obtain ⟨g1, g2⟩ := hz' G
  have hzlen : zv.cells.toList.length = i.size := by rw [g1.length, hzl]
  obtain ⟨ws, f1, f2, f3, f4, f5⟩ := elemsA_ok (us := (List.replicate len zv.cells.toList).flatten) hx hp (VF.replicate g1 len) (by intro x hx; rw [List.eq_of_mem_replicate hx]; exact hzl)
    (by
      intro u hu
      simp only [List.mem_flatten] at hu
      obtain ⟨l, hl, hu⟩ := hu
      rw [List.eq_of_mem_replicate hl] at hu
      exact g2 u hu)
  have hcells : (Array.range (len * i.size)).map (fun x => zv.cells[x % zv.cells.size]!) = (List.replicate len zv.cells.toList).flatten.toArray := by
    have hr := range_mod zv.cells.toList len
    rw [hzlen] at hr
    rw [← hr]
    apply Array.ext'
    simp
  refine ⟨.slice (some ⟨w.heap.size, 0, none⟩) len len, w.alloc (.cells ws.toArray e), ?_, ?_⟩
  · have f1' : Instr.fill (fun k => some (k * i.size, i.size)) (List.replicate len zv.cells.toList).flatten.toArray qs.toList = some ws.toArray := f1
    simp only [Instr.buildSlice, Sem.run_bind, run_underlying (kindT_slice hk), Result.andThen_ok, run_sizeOf' hi]
    rw [if_neg (by omega)]
    by_cases h0 : len * i.size = 0
    · have e0 : (List.replicate len zv.cells.toList).flatten = [] := by
        rw [List.eq_nil_iff_length_eq_zero]
        simp only [List.length_flatten, List.map_replicate, List.sum_replicate_nat, hzlen]
        exact h0
      rw [e0] at f1'
      have e1 : ∀ f : Nat → Value, Array.map f (Array.range 0) = #[] := fun f => by rw [Array.range_zero']; simp
      simp [h0, e1, f1', newRow]
    · simp [h0, zeroValue, typeInfo, hi, hzv, hcells, f1', newRow]
  · have hlen : xs.length = len := by rw [f5]; simp
    have hx' : Ext w (w.alloc (.cells ws.toArray e)) := Ext.alloc w _
    refine hs.immBlock (us := ws) (rest := []) hx' (by simp) (by rw [List.append_nil]; exact cells_alloc) hd (by simp) ?_ ?_
    · rw [← hlen]
      refine V.slice (sz := i.size) (VS.of_flat i.size (immVK f2 f4 (immGhost_le hs.r ws) (by simp)) f3) (Nat.le_refl _) (by intro q hq; cases hq; exact ⟨rfl, B, hs.r.bot, hs.r.base⟩)
    · intro x _ xs' s' b o n cap e1 e2
      cases e1; cases e2
      have hw : ws.length = len * i.size := by rw [f2.length, flatten_length f3, hlen]
      exact ⟨rfl, ⟨rfl, by rw [shape_new, hw]⟩, by simp; omega, by simp; omega⟩
end
end Go.Ai

/- The evaluator's operations on memory are the model's: slices made, objects frozen, texts as bytes, bytes as texts. -/
namespace Go.Ai
open Go.RowKit

theorem madeCells_eq {z : Value} {s n : Nat} (hl : z.cells.toList.length = s) : madeCells z.cells (n * s) = (List.replicate n z.cells.toList).flatten.toArray := by
  have hr := range_mod z.cells.toList n
  rw [hl] at hr
  rw [← hr]
  unfold madeCells
  apply Array.ext'
  simp

section
variable {X : Nat → Prop} {P : Program} {B : Nat} {w0 : World} {p : Id} {nt : Nat} {G : Ghost} {O : Own} {fr fr1 : Fr} {c : Nat} {h : Heap} {a : Act} {w w' : World}

/-- 'make' of nothing, with room -/
theorem SR.make0 (hs : SR X B w0 p nt G O fr c h a w) {t e s b : Nat} {z : List A} {kl kn : IntKind} {n : Int} (hk : kindT P t = .slice e) (hsz : szT P e = some s) (hz : zeroT P e = some z) (hb : bytesT P e = some b)
    (hzl : z.length = s) (h0 : 0 ≤ n) (hbn : (b : Int) * n ≤ 281474976710656) (h63 : n ≤ 9223372036854775807) {d : Option Nat} (hd : ∀ x, d = some x → x < nt) :
    ∃ v w', (Instr.makeSlice t (.int kl 0) (.int kn n)).run P w = .ok v w' ∧ Later X B w0 p nt c G O w (fr.put d (.slice [] (some (e, s)))) c h (a.put d v) w' := by
  obtain ⟨i, hi, rfl⟩ := szT_ok hsz
  obtain ⟨i', zv, hi', hzv, hz'⟩ := zeroT_ok hz
  rw [hi] at hi'; cases hi'
  obtain ⟨g1, g2⟩ := hz' G
  have hzlen : zv.cells.toList.length = i.size := by rw [g1.length, hzl]
  have hb' : i.bytes = b := by simpa [bytesT, hi] using hb
  have hr := run_make (P := P) w t e i zv (kindT_slice hk) hi hzv kl kn 0 n (Int.le_refl 0) h0 (by rw [hb']; exact hbn) h63
  rw [madeCells_eq hzlen] at hr
  refine ⟨_, _, hr, ?_⟩
  have hlen : (List.replicate n.toNat zv.cells.toList).flatten.length = n.toNat * i.size := by
    rw [flatten_length (s := i.size) (by intro x hx; rw [List.eq_of_mem_replicate hx]; exact hzlen)]; simp
  refine hs.immBlock (us := []) (rest := (List.replicate n.toNat zv.cells.toList).flatten) (Ext.alloc w _) (by simp) (by rw [List.nil_append]; exact cells_alloc) hd (by simp) ?_ ?_
  · exact V.slice (sz := i.size) (xs := []) .nil (by simp) (by intro q hq; cases hq; exact ⟨rfl, B, hs.r.bot, hs.r.base⟩)
  · intro x _ xs' s' b' o' n' cap' e1 e2
    cases e1; cases e2
    exact ⟨rfl, ⟨rfl, by rw [shape_new, hlen]⟩, by simp, by simp only [hlen]; simp⟩

/-- 'make' of an array that is written -/
theorem SR.makeN (hs : SR X B w0 p nt G O fr c h a w) {t e s b : Nat} {z : List A} {kl kn : IntKind} {n : Int} (hk : kindT P t = .slice e) (hsz : szT P e = some s) (hz : zeroT P e = some z) (hb : bytesT P e = some b)
    (hzl : z.length = s) (h0 : 0 ≤ n) (hbn : (b : Int) * n ≤ 281474976710656) (h63 : n ≤ 9223372036854775807) {d : Option Nat} (hd : ∀ x, d = some x → x < nt) (hfree : ∀ x ∈ z, x.free) (hX : ¬ X c) :
    ∃ v w', (Instr.makeSlice t (.int kl n) (.int kn n)).run P w = .ok v w' ∧
      Later X B w0 p nt c G O w (fr.put d (.mslice (e :: c :: p) 0 n.toNat)) (c + 1) (upd h (e :: c :: p) (List.replicate n.toNat z).flatten) (a.put d v) w' := by
  obtain ⟨i, hi, rfl⟩ := szT_ok hsz
  obtain ⟨i', zv, hi', hzv, hz'⟩ := zeroT_ok hz
  rw [hi] at hi'; cases hi'
  obtain ⟨g1, g2⟩ := hz' G
  have hzlen : zv.cells.toList.length = i.size := by rw [g1.length, hzl]
  have hb' : i.bytes = b := by simpa [bytesT, hi] using hb
  have hr := run_make (P := P) w t e i zv (kindT_slice hk) hi hzv kl kn n n h0 (Int.le_refl _) (by rw [hb']; exact hbn) h63
  rw [madeCells_eq hzlen] at hr
  refine ⟨_, _, hr, ?_⟩
  refine hs.objectV hd (VF.replicate g1 n.toNat) ?_ ?_ rfl (fun G' hm => ?_) (by intro xs s e; cases e) hX
  · intro u hu
    simp only [List.mem_flatten] at hu
    obtain ⟨l', hl, hu⟩ := hu
    rw [List.eq_of_mem_replicate hl] at hu
    exact g2 u hu
  · intro j x hj
    have hx := List.mem_of_getElem? hj
    simp only [List.mem_flatten] at hx
    obtain ⟨l', hl, hx⟩ := hx
    rw [List.eq_of_mem_replicate hl] at hx
    exact hfree x hx
  · exact V.mslice (o := 0) (off := 0) hm (Nat.le_refl _)

/-- an object that nobody writes any more -/
theorem SR.freeze (hs : SR X B w0 p nt G O fr c h a w) {id : Id} {cs : List A} {t : Nat} {x : Value} (hid : h id = some cs) (hx : V G (.ptr id 0) x) {d : Option Nat} (hd : ∀ x, d = some x → x < nt) :
    Later X B w0 p nt c G O w (fr.put d (.iface t (.ref (cs.map A.weak1) 0))) c (era h id) (a.put d (.iface t x)) w := by
  cases hx with
  | @ptr _ _ b o hm =>
    obtain ⟨b', o', hm', ho⟩ := hs.r.obj id cs hid
    rw [hm] at hm'; cases hm'
    obtain ⟨vs, h1, h2, h3⟩ := objVals ho 0
    simp only [List.drop_zero, Nat.add_zero] at h1 h3
    have hlen := h1.length
    have hlab : ∀ j, j < vs.length → O b (o + j) = some (.obj id) := fun j hj => by
      have : j < cs.length := by omega
      exact (ho j _ (List.getElem?_eq_getElem this)).1
    let G' : Ghost := ⟨fun b' y => if b' = b ∧ o ≤ y ∧ y < o + vs.length then vs[y - o]? else G.K b' y, G.m⟩
    let O' : Own := fun b' y => if b' = b ∧ o ≤ y ∧ y < o + vs.length then some .imm else O b' y
    have hother : ∀ {b' y l}, O b' y = some l → l ≠ .obj id → O' b' y = some l := by
      intro b' y l hl hne
      simp only [O']
      rw [if_neg]; exact hl
      rintro ⟨rfl, h4, h5⟩
      have := hlab (y - o) (by omega)
      rw [show o + (y - o) = y by omega, hl] at this
      exact hne (by simpa using this)
    have hg : G.le G' := by
      refine ⟨fun b' y v hk => ?_, fun _ _ h => h⟩
      have h6 := (hs.r.imm b' y v hk).1
      show (if _ then _ else _) = _
      rw [if_neg]; exact hk
      rintro ⟨rfl, h4, h5⟩
      have := hlab (y - o) (by omega)
      rw [show o + (y - o) = y by omega, h6] at this
      cases this
    have hroom : ∀ {L : Lab} {u : A} {v : Value}, L ≠ .obj id → Room O w L u v → Room O' w L u v := by
      intro L u v hL hr xs s b o n cap e1 e2
      obtain ⟨⟨s1, s2⟩, hall⟩ := hr xs s b o n cap e1 e2
      refine ⟨⟨s1, s2⟩, fun x h1 => ?_⟩
      obtain ⟨g1, g2, g3⟩ := hall x h1
      exact ⟨hother g1 hL, g2, g3⟩
    refine ⟨G', O', ⟨?_, ?_, hs.fresh, by rw [Act.put_defers']; exact hs.defers⟩, ⟨hg, ⟨fun b' y l hl hp => ⟨hother hl (by rintro rfl; exact hp), rfl, rfl⟩, Nat.le_refl _, fun _ _ h => h, fun _ _ _ _ _ => rfl⟩, Nat.le_refl _, fun _ _ => rfl⟩⟩
    · refine FR.put ⟨hs.fr.size, fun s => ⟨(hs.fr.val s).1.mono hg, hroom (by simp) (hs.fr.val s).2⟩⟩ hd ?_ (fun _ _ => Room.free (by intro xs s e; cases e))
      refine .iface (.ref ?_)
      have key : ∀ (ds : List A) (us : List Value) (k : Nat), VF G ds us → (∀ j v, us[j]? = some v → vs[k + j]? = some v) → VK G' (ds.map A.weak1) b (o + k) := by
        intro ds
        induction ds with
        | nil => intro us k _ _; exact .nil
        | cons x ds ih =>
          intro us k hv hk
          cases hv with
          | @cons _ u _ us hx hxs =>
            have hk0 : vs[k]? = some u := by simpa using hk 0 u (by simp)
            have hkl : k < vs.length := by
              rcases Nat.lt_or_ge k vs.length with h | h
              · exact h
              · rw [List.getElem?_eq_none h] at hk0; cases hk0
            refine .cons (v := u) ?_ (h2 u (List.mem_of_getElem? hk0)) (hx.mono hg).weak1 ?_
            · show (if _ then _ else _) = _
              rw [if_pos ⟨rfl, by omega, by omega⟩, show o + k - o = k by omega]; exact hk0
            · have := ih us (k + 1) hxs (fun j v hj => by have := hk (j + 1) v (by simpa using hj); rwa [show k + 1 + j = k + (j + 1) by omega])
              rwa [show o + (k + 1) = o + k + 1 by omega] at this
      have := key cs vs 0 h1 (by simp)
      simpa using this
    · refine ⟨hs.r.below, hs.r.base, ?_, ?_, ?_, ?_, hs.r.bot, ?_⟩
      rotate_right
      · intro id' cs' b' o' hid' hm'
        simp only [era] at hid'
        split at hid'
        · cases hid'
        · exact hs.r.typ id' cs' b' o' hid' hm'
      · intro b' y v hk
        have hk2 : (if b' = b ∧ o ≤ y ∧ y < o + vs.length then vs[y - o]? else G.K b' y) = some v := hk
        clear hk
        split at hk2
        · rename_i he
          obtain ⟨rfl, h4, h5⟩ := he
          have := h3 (y - o) v hk2
          rw [show o + (y - o) = y by omega] at this
          exact ⟨if_pos ⟨rfl, h4, h5⟩, this⟩
        · obtain ⟨h6, h7⟩ := hs.r.imm b' y v hk2
          exact ⟨hother h6 (by simp), h7⟩
      · intro id' cs' hid'
        simp only [era] at hid'
        split at hid'
        · cases hid'
        · rename_i hne
          obtain ⟨b2, o2, hm2, ho2⟩ := hs.r.obj id' cs' hid'
          refine ⟨b2, o2, hm2, fun j u hj => ?_⟩
          obtain ⟨g1, g2, v, g3, g4, g5, g6⟩ := ho2 j u hj
          exact ⟨hother g1 (by simpa using hne), g2, v, g3, g4, g5.mono hg, hroom (by simp) g6⟩
      · intro b' y l hl
        simp only [O'] at hl
        split at hl
        · rename_i he
          obtain ⟨rfl, h4, h5⟩ := he
          exact hs.r.lt b' _ _ (hlab (y - o) (by omega))
        · exact hs.r.lt b' y l hl
      · intro b' y l hl h4 h5
        simp only [O'] at hl
        split at hl
        · simp at hl; exact absurd hl.symm h4
        · exact hs.r.new b' y l hl h4 h5

/-- a text as bytes -/
theorem SR.strBytes (hs : SR X B w0 p nt G O fr c h a w) {sT dT e : Nat} {s : List UInt8} (hk : kindT P sT = .str) (hd' : kindT P dT = .slice e) (he : kindT P e = .int .u8) {d : Option Nat} (hd : ∀ x, d = some x → x < nt) :
    ∃ v w', (convert sT dT (.string ⟨s.toArray⟩)).run P w = .ok v w' ∧ Later X B w0 p nt c G O w (fr.put d (.slice (bytesA s) none)) c h (a.put d v) w' := by
  have hr := run_bytes_of_string (P := P) w sT dT e ⟨s.toArray⟩ (kindT_str hk) (kindT_slice hd') (kindT_int he)
  refine ⟨_, _, hr, ?_⟩
  rw [size_mk]
  generalize hcap : grownCap w s.length 0 e = cap
  have hcap' : s.length ≤ cap := by rw [← hcap]; exact grownCap_ge w _ _ _
  have hrow : (bytesRow ⟨s.toArray⟩ cap).toList = (s.map fun b => Value.int .u8 b.toNat) ++ List.replicate (cap - s.length) (.int .u8 0) := by
    unfold bytesRow; simp [size_mk]
  have hvf : VF G (bytesA s).flatten (s.map fun b => Value.int .u8 b.toNat) := by
    clear hr hrow hcap hcap'
    induction s with
    | nil => exact .nil
    | cons b s ih => exact .cons .int ih
  refine hs.immBlock (us := s.map fun b => Value.int .u8 b.toNat) (rest := List.replicate (cap - s.length) (.int .u8 0)) (Ext.drewAlloc w _) (by simp) ?_ hd ?_ ?_ ?_
  · intro x v hx
    rw [← hrow] at hx
    have hb : (w.drew.alloc (.cells (bytesRow ⟨s.toArray⟩ cap) e ((bytesRow ⟨s.toArray⟩ cap).size, (bytesRow ⟨s.toArray⟩ cap).size + 1))).heap[w.heap.size]? = some (.cells (bytesRow ⟨s.toArray⟩ cap) e ((bytesRow ⟨s.toArray⟩ cap).size, (bytesRow ⟨s.toArray⟩ cap).size + 1)) := by
      show (w.heap.push _)[w.heap.size]? = _
      simp
    unfold World.cell?
    rw [hb]
    simpa using hx
  · rintro ⟨_, _, e⟩; cases e
  · have e1 : s.length = (bytesA s).length := by simp [bytesA]
    rw [e1]
    exact V.slice (sz := 1) (VS.of_flat 1 (immVK hvf (by simp [Value.oneCell']) (immGhost_le hs.r _) (by simp)) (by intro x hx; simp [bytesA] at hx; obtain ⟨b, _, rfl⟩ := hx; rfl)) (by rw [← e1]; exact hcap') (fun _ h => by cases h)
  · intro x _ xs' s' b' o' n' cap' e1 _
    cases e1

/-- an array's bytes as a text -/
theorem SR.bytesStr (hs : SR X B w0 p nt G O fr c h a w) {sT dT e : Nat} {id : Id} {off len : Nat} {cs : List A} {bs : List UInt8} {x : Value} (hk : kindT P sT = .slice e) (hd' : kindT P dT = .str) (he : kindT P e = .int .u8)
    (hid : h id = some cs) (hfit : off + len ≤ cs.length) (hb : unbytes (((cs.drop off).take len).map ([·])) = some bs) (hx : V G (.mslice id off len) x) :
    (convert sT dT x).run P w = .ok (.string ⟨bs.toArray⟩) w := by
  cases hx with
  | @mslice _ _ _ b o cap hm hl =>
    obtain ⟨b', o', hm', ho⟩ := hs.r.obj id cs hid
    rw [hm] at hm'; cases hm'
    obtain ⟨vs, h1, h2, h3⟩ := objVals ho off
    have hfl : ∀ l : List A, (l.map ([·])).flatten = l := by intro l; induction l with | nil => rfl | cons x l ih => simp [ih]
    have hv := h1.take len
    have e1 := unbytes_ok hb (by rw [hfl]; exact hv)
    rw [run_convert_bytes_string (P := P) w sT dT e _ _ _ (kindT_slice hk) (kindT_int he) (kindT_str hd')]
    refine bytesToString_ok e1 (by rw [hv.length]; simp; omega) (fun j v hj => ?_)
    rw [List.getElem?_take] at hj
    split at hj
    · exact h3 j v hj
    · cases hj
end
end Go.Ai

/- The evaluator's operations on memory are the model's: append. -/
namespace Go.Ai
open Go.RowKit

theorem plain_ok {P : Program} {t : Nat} (h : (kindT P t).plain = true) : (∃ e, P.underlying t = some (.slice e)) ∨ P.underlying t = some .string := by
  cases hk : kindT P t with
  | slice e => exact .inl ⟨_, kindT_slice hk⟩
  | str => exact .inr (kindT_str hk)
  | _ => rw [hk] at h; cases h

section
variable {P : Program} {w : World}

theorem run_append_in {t t2 ty e : TypeId} {i : TypeInfo} (ht : P.underlying t = some (.slice e)) (h2 : (kindT P t2).plain = true) (hi : P.info? e = some i) {yv : Value} {n b o sLen sCap : Nat} {news : List Value}
    (hlen : (Builtin.lenOf yv).run P w = .ok n w) (hnew : (Builtin.firstCells i.size n yv).run P w = .ok news.toArray w) (hfit : sLen + n ≤ sCap)
    (hc : ∀ j, j < news.length → (w.cell? ⟨b, o + sLen * i.size + j, none⟩).isSome = true) (hf : ∀ j, j < news.length → w.frozen? ⟨b, o + sLen * i.size + j, none⟩ = false) (h1 : ∀ u ∈ news, u.oneCell' = true) :
    (Builtin.append_ #[t, t2] ty #[.slice (some ⟨b, o, none⟩) sLen sCap, yv]).run P w = .ok (.slice (some ⟨b, o, none⟩) (sLen + n) sCap) (w.setCells b (o + sLen * i.size) news) := by
  have hst := run_storeCells_cells (P := P) b (o + sLen * i.size) news 0 w (by simpa using hc) (by simpa using hf) h1
  simp only [Nat.add_zero] at hst
  rcases plain_ok h2 with ⟨e', hd⟩ | hd
  all_goals simp [Builtin.append_, run_underlying ht, run_underlying hd, sizeOf, typeInfo, hi, hlen, hfit, hnew, Addr.add_lit, hst]

theorem run_append_nothing {t t2 ty e : TypeId} {i : TypeInfo} (ht : P.underlying t = some (.slice e)) (h2 : (kindT P t2).plain = true) (hi : P.info? e = some i) {yv : Value}
    (hlen : (Builtin.lenOf yv).run P w = .ok 0 w) (hnew : (Builtin.firstCells i.size 0 yv).run P w = .ok #[] w) :
    (Builtin.append_ #[t, t2] ty #[.slice none 0 0, yv]).run P w = .ok (.slice none 0 0) w := by
  rcases plain_ok h2 with ⟨e', hd⟩ | hd
  all_goals simp [Builtin.append_, run_underlying ht, run_underlying hd, sizeOf, typeInfo, hi, hlen, hnew]

theorem run_append_new {t t2 ty e : TypeId} {i : TypeInfo} {z : Value} (ht : P.underlying t = some (.slice e)) (h2 : (kindT P t2).plain = true) (hi : P.info? e = some i) (hz : i.zero = some z) {yv : Value} {base : Option Addr} {n sLen sCap : Nat} {olds news : List Value}
    (hlen : (Builtin.lenOf yv).run P w = .ok n w) (hnew : ∀ w', (∀ a, w'.cell? a = w.cell? a) → (Builtin.firstCells i.size n yv).run P w' = .ok news.toArray w')
    (hold : ∀ w', (∀ a, w'.cell? a = w.cell? a) → (Builtin.firstCells i.size sLen (.slice base sLen sCap)).run P w' = .ok olds.toArray w')
    (hg : sCap < sLen + n) (h63 : sLen + n ≤ maxStr) (hfit : (sLen + n) * i.bytes ≤ 140737488355328) :
    (Builtin.append_ #[t, t2] ty #[.slice base sLen sCap, yv]).run P w = .ok (.slice (some ⟨w.heap.size, 0, none⟩) (sLen + n) (grownCap w (sLen + n) sCap e))
      (w.drew.alloc (.cells (olds ++ news ++ (Builtin.zeroCells z.cells (grownCap w (sLen + n) sCap e - (sLen + n))).toList).toArray e)) := by
  have hn : ¬ (sLen + n ≤ sCap) := by omega
  have h63' : ¬ (9223372036854775807 < ((sLen : Int) + (n : Int))) := by unfold maxStr at h63; omega
  have h48' : ¬ (281474976710656 < Builtin.nextslicecap (sLen + n) sCap * i.bytes) := by have := growslice_fits hg hfit; omega
  have hf := hnew w.drew (fun _ => rfl)
  have hfo := hold w.drew (fun _ => rfl)
  rcases plain_ok h2 with ⟨e', hd⟩ | hd
  all_goals
    simp [Builtin.append_, run_underlying ht, run_underlying hd, sizeOf, typeInfo, zeroValue, hi, hz, hlen, hn, h63', h48', Question.forced, hf, hfo, newRow, grownCap]
    try (congr 2; apply Array.ext'; simp)
end

/-- what is appended -/
structure Src (P : Program) (G : Ghost) (w : World) (s : Nat) (ys : List (List A)) (yv : Value) (news : List Value) : Prop where
  len : (Builtin.lenOf yv).run P w = .ok ys.length w
  cells : ∀ w', (∀ a, w'.cell? a = w.cell? a) → (Builtin.firstCells s ys.length yv).run P w' = .ok news.toArray w'
  vf : VF G ys.flatten news
  one : ∀ u ∈ news, u.oneCell' = true
  size : ∀ y ∈ ys, y.length = s

theorem bytes_vf {G : Ghost} : ∀ b : List UInt8, VF G (bytesA b).flatten (b.map fun x => Value.int .u8 x.toNat)
  | [] => .nil
  | _ :: b => .cons .int (bytes_vf b)

theorem src_ok {P : Program} {B : Nat} {w0 w : World} {G : Ghost} {O : Own} {h : Heap} {s : Nat} {ys : List (List A)} {u : A} {yv : Value} (hr : R B w0 G O h w) (hv : V G u yv)
    (hys : addedA s u = some ys) : ∃ news, Src P G w s ys yv news := by
  cases u with
  | slice ys' own =>
    simp only [addedA] at hys
    split at hys
    · rename_i hl
      simp only [Option.some.injEq] at hys; subst hys
      cases hv with
      | sliceNil => exact ⟨[], by simp [Builtin.lenOf], by intro w' _; simp [Builtin.firstCells], .nil, by simp, by simp⟩
      | sliceE => exact ⟨[], by simp [Builtin.lenOf], by intro w' _; simp [Builtin.firstCells]; rfl, .nil, by simp, by simp⟩
      | slice hvs hcap hown =>
        obtain ⟨g1, g2, g3⟩ := (hvs.size hl).flat
        obtain ⟨vs, g4, g5, g6⟩ := g1.vals
        refine ⟨vs, by simp [Builtin.lenOf], ?_, g4, g5, g3⟩
        intro w' hw'
        exact run_firstCells_some w' s _ _ _ _ vs (by rw [g4.length, g2]) (fun j v hj => by rw [Addr.add_lit, hw']; exact (hr.imm _ _ _ (g6 j v hj)).2)
    · cases hys
  | nils =>
    simp only [addedA, Option.some.injEq] at hys; subst hys
    cases hv
    exact ⟨[], by simp [Builtin.lenOf], by intro w' _; simp [Builtin.firstCells], .nil, by simp, by simp⟩
  | str b =>
    simp only [addedA] at hys
    split at hys
    · rename_i hs
      simp only [Option.some.injEq] at hys; subst hys; subst hs
      rw [V.str_inv hv]
      refine ⟨b.map fun x => Value.int .u8 x.toNat, by simp [Builtin.lenOf, bytesA, size_mk], ?_, bytes_vf b, by simp [Value.oneCell'], by simp [bytesA]⟩
      intro w' _
      simp only [Builtin.firstCells, bytesA_length, extract_mk, Sem.run_pure]
      congr 1
      apply Array.ext'
      simp
    · cases hys
  | _ => cases hys
end Go.Ai

/- The evaluator's append is the model's. -/
namespace Go.Ai
open Go.RowKit

/-- a value laid in a slot: of the others something is known -/
theorem FR.put1 {p : Id} {nt : Nat} {G : Ghost} {O : Own} {w : World} {fr : Fr} {a : Act} {d : Nat} {v : A} {z : Value} (hsz : nt ≤ a.tmps.size) (h : ∀ t, t ≠ d → Ai.V G (fr t) (a.tmps.getD t undef) ∧ Room O w (.tsp p t) (fr t) (a.tmps.getD t undef))
    (hd : d < nt) (hv : Ai.V G v z) (hr : Room O w (.tsp p d) v z) : FR p nt G O w (fr.put (some d) v) (a.put (some d) z).tmps :=
  ⟨by rw [Act.put_size]; exact hsz, fun t => by
    rw [Fr.put_eq, Act.put_getD _ _ _ _ (fun x hx => by cases hx; exact Nat.lt_of_lt_of_le hd hsz)]
    by_cases e : d = t
    · subst e; rw [if_pos rfl, if_pos rfl]; exact ⟨hv, hr⟩
    · rw [if_neg (by simpa using e), if_neg (by simpa using e)]; exact h t (fun e' => e e'.symm)⟩

section
variable {X : Nat → Prop} {P : Program} {B : Nat} {w0 : World} {p : Id} {nt : Nat} {G : Ghost} {O : Own} {fr fr1 : Fr} {c : Nat} {h : Heap} {a : Act} {w w' : World}

/-- cells of slot d's room written for good -/
theorem SR.commit (hs : SR X B w0 p nt G O fr c h a w) {d : Nat} (hd : d < nt) {b o : Nat} {news : List Value} (hl : ∀ j, j < news.length → O b (o + j) = some (.tsp p d)) (hc : ∀ j, j < news.length → (w.cell? ⟨b, o + j, none⟩).isSome = true)
    {v : A} {z : Value} (hv : ∀ G' : Ghost, G.le G' → (∀ j u, news[j]? = some u → G'.K b (o + j) = some u) → V G' v z)
    (hroom : ∀ (O' : Own), (∀ b' x l, O b' x = some l → (b' ≠ b ∨ x < o ∨ o + news.length ≤ x) → O' b' x = some l) → Room O' (w.setCells b o news) (.tsp p d) v z) :
    Later X B w0 p nt c G O w (fr.put (some d) v) c h (a.put (some d) z) (w.setCells b o news) := by
  let S : Lab → Prop := fun l => l = .tsp p d
  have hlS : ∀ j, j < news.length → ∃ l, O b (o + j) = some l ∧ S l := fun j hj => ⟨_, hl j hj, rfl⟩
  let G' : Ghost := ⟨fun b' y => if b' = b ∧ o ≤ y ∧ y < o + news.length then news[y - o]? else G.K b' y, G.m⟩
  let O' : Own := fun b' y => if b' = b ∧ o ≤ y ∧ y < o + news.length then some .imm else O b' y
  have hother : ∀ {b' y l}, O b' y = some l → l ≠ .tsp p d → O' b' y = some l := by
    intro b' y l hl' hne
    simp only [O']
    rw [if_neg]; exact hl'
    rintro ⟨rfl, h4, h5⟩
    have := hl (y - o) (by omega)
    rw [show o + (y - o) = y by omega, hl'] at this
    exact hne (by simpa using this)
  have hg : G.le G' := by
    refine ⟨fun b' y v hk => ?_, fun _ _ h => h⟩
    have h6 := (hs.r.imm b' y v hk).1
    show (if _ then _ else _) = _
    rw [if_neg]; exact hk
    rintro ⟨rfl, h4, h5⟩
    have := hl (y - o) (by omega)
    rw [show o + (y - o) = y by omega, h6] at this
    cases this
  have hRoom : ∀ {L : Lab} {u : A} {x : Value}, L ≠ .tsp p d → Room O w L u x → Room O' (w.setCells b o news) L u x := by
    intro L u x hL hr
    have := hr.write hlS (fun e => hL e)
    intro xs s b1 o1 n cap e1 e2
    obtain ⟨hsh, hall⟩ := this xs s b1 o1 n cap e1 e2
    refine ⟨hsh, fun y h1 => ?_⟩
    obtain ⟨g1, g2, g3⟩ := hall y h1
    exact ⟨hother g1 hL, g2, g3⟩
  have hbel : Below B w0 (w.setCells b o news) := by
    cases news with
    | nil => exact hs.r.below
    | cons u us => exact below_setCells hs.r.below (hs.r.new _ _ _ (hl 0 (by simp)) (by simp) (by simp)) _ _
  refine ⟨G', O', ⟨?_, ?_, hs.fresh, by rw [Act.put_defers']; exact hs.defers⟩, ⟨hg, ⟨fun b' y l hl' hp => ?_, by rw [size_setCells]; exact Nat.le_refl _, fun _ _ h => by rw [shape_setCells]; exact h, fun _ _ _ _ _ => World.frozen?_setCells ..⟩, Nat.le_refl _, fun _ _ => rfl⟩⟩
  · refine FR.put1 hs.fr.size (fun t ht => ⟨(hs.fr.val t).1.mono hg, hRoom (by simpa using ht) (hs.fr.val t).2⟩) hd (hv G' hg ?_) (hroom O' ?_)
    · intro j u hj
      have hjl : j < news.length := by
        rcases Nat.lt_or_ge j news.length with h | h
        · exact h
        · rw [List.getElem?_eq_none h] at hj; cases hj
      show (if _ then _ else _) = _
      rw [if_pos ⟨rfl, by omega, by omega⟩, show o + j - o = j by omega]; exact hj
    · intro b' x l hl' hne
      show (if _ then _ else _) = _
      rw [if_neg]; exact hl'
      rintro ⟨rfl, h4, h5⟩
      rcases hne with h | h | h
      · exact h rfl
      · omega
      · omega
  · refine ⟨hbel, by rw [size_setCells]; exact hs.r.base, ?_, ?_, ?_, ?_, hs.r.bot, ?_⟩
    rotate_right
    · intro id cs b' o' hid hm'
      simp only [shape_setCells]
      exact hs.r.typ id cs b' o' hid hm'
    · intro b' y v hk
      have hk2 : (if b' = b ∧ o ≤ y ∧ y < o + news.length then news[y - o]? else G.K b' y) = some v := hk
      clear hk
      split at hk2
      · rename_i he
        obtain ⟨rfl, h4, h5⟩ := he
        refine ⟨if_pos ⟨rfl, h4, h5⟩, ?_⟩
        have := World.cell?_setCells_in b' news o w hc (y - o) (by omega)
        rw [show o + (y - o) = y by omega] at this
        rw [this]
        rw [List.getElem?_eq_getElem (by omega)] at hk2
        exact hk2
      · obtain ⟨h6, h7⟩ := hs.r.imm b' y v hk2
        exact ⟨hother h6 (by simp), by rw [setCells_out hlS h6 (by simp [S])]; exact h7⟩
    · intro id cs hid
      obtain ⟨b2, o2, hm2, ho2⟩ := hs.r.obj id cs hid
      refine ⟨b2, o2, hm2, fun j u hj => ?_⟩
      obtain ⟨g1, g2, v, g3, g4, g5, g6⟩ := ho2 j u hj
      exact ⟨hother g1 (by simp), by rw [World.frozen?_setCells]; exact g2, v, by rw [setCells_out hlS g1 (by simp [S])]; exact g3, g4, g5.mono hg, hRoom (by simp) g6⟩
    · intro b' y l hl'
      rw [size_setCells]
      simp only [O'] at hl'
      split at hl'
      · rename_i he
        obtain ⟨rfl, h4, h5⟩ := he
        exact hs.r.lt b' _ _ (hl (y - o) (by omega))
      · exact hs.r.lt b' y l hl'
    · intro b' y l hl' h4 h5
      simp only [O'] at hl'
      split at hl'
      · simp at hl'; exact absurd hl'.symm h4
      · exact hs.r.new b' y l hl' h4 h5
  · exact ⟨hother hl' (by rintro rfl; exact hp (List.suffix_refl _)), setCells_out hlS hl' (by rintro rfl; exact hp (List.suffix_refl _)), World.frozen?_setCells ..⟩
end
end Go.Ai

/- The evaluator's append is the model's: the whole. -/
namespace Go.Ai
open Go.RowKit

theorem VS.append {G : Ghost} {sz : Nat} {xs ys : List (List A)} {b o : Nat} (h1 : VS G sz xs b o) (h2 : VS G sz ys b (o + xs.length * sz)) : VS G sz (xs ++ ys) b o := by
  obtain ⟨f1, f2, f3⟩ := h1.flat
  obtain ⟨g1, g2, g3⟩ := h2.flat
  refine VS.of_flat sz ?_ (fun x hx => ?_)
  · rw [List.flatten_append]; exact f1.append (by rw [f2]; exact g1)
  · rcases List.mem_append.1 hx with hx | hx
    · exact f3 x hx
    · exact g3 x hx

theorem VK.of_vals {G : Ghost} {b : Nat} : ∀ {cs : List A} {us : List Value} {o : Nat}, VF G cs us → (∀ u ∈ us, u.oneCell' = true) → (∀ j u, us[j]? = some u → G.K b (o + j) = some u) → VK G cs b o
  | _, _, _, .nil, _, _ => .nil
  | _, _, o, .cons (v := v) (vs := vs) hv hs, h1, hk => .cons (by simpa using hk 0 v (by simp)) (h1 v (by simp)) hv
      (VK.of_vals hs (fun u hu => h1 u (by simp [hu])) (fun j u hj => by have := hk (j + 1) u (by simpa using hj); rwa [show o + 1 + j = o + (j + 1) by omega]))

theorem frozen_alloc {w : World} {c : Array Value} {e : TypeId} (x : Nat) : (w.alloc (.cells c e)).frozen? ⟨w.heap.size, x, none⟩ = false := by simp

section
variable {X : Nat → Prop} {P : Program} {B : Nat} {w0 : World} {p : Id} {nt : Nat} {G : Ghost} {O : Own} {fr fr1 : Fr} {c : Nat} {h : Heap} {a : Act} {w : World}

theorem SR.append (hs : SR X B w0 p nt G O fr c h a w) {t t2 ty e s bytes d : Nat} {z : List A} {x y : Operand} {v u r : A} (hk : kindT P t = .slice e) (h2 : (kindT P t2).plain = true) (hsz : szT P e = some s) (hb : bytesT P e = some bytes)
    (hz : zeroT P e = some z) (hzl : z.length = s) (ht : takeA fr x = some (v, fr1)) (hu : V G u (a.eval y)) (ha : appendA e s bytes v u = some r) (hd : d < nt) :
    ∃ q w', (Builtin.append_ #[t, t2] ty #[a.eval x, a.eval y]).run P w = .ok q w' ∧ Later X B w0 p nt c G O w (fr1.put (some d) r) c h (a.put (some d) q) w' := by
  obtain ⟨i, hi, rfl⟩ := szT_ok hsz
  obtain ⟨i', zv, hi', hzv, hzc⟩ := zeroT_ok hz
  rw [hi] at hi'; cases hi'
  have hby : i.bytes = bytes := by simpa [bytesT, hi] using hb
  obtain ⟨hv, O1, hO, hf, hroom⟩ := hs.fr.take ht (.tsp p d)
  have hs1 : SR X B w0 p nt G O1 fr1 c h a w := ⟨hf, hs.r.take hO, hs.fresh, hs.defers⟩
  have mv1 : Mv p c G O w c G O1 w := .same (.take hO)
  -- what is appended, and to what
  simp only [appendA, Option.bind_eq_some_iff] at ha
  obtain ⟨xs, hxs, ys, hys, ha⟩ := ha
  split at ha
  · rename_i hfit
    simp only [Option.some.injEq] at ha; subst ha
    obtain ⟨news, src⟩ := src_ok (P := P) hs1.r hu hys
    have hnl : news.length = ys.length * i.size := by rw [src.vf.length, flatten_length src.size]
    -- the value at hand: nil, or a slice
    have hform : (a.eval x = .slice none 0 0 ∧ xs = []) ∨ ∃ b o cap, a.eval x = .slice (some ⟨b, o, none⟩) xs.length cap ∧ VS G i.size xs b o ∧ xs.length ≤ cap ∧ ((o = 0 ∧ shp w b = some (e, cap * i.size) ∧ (e ≠ 5 → ∀ x, w.frozen? ⟨b, x, none⟩ = false)) ∧ ∃ B, G.m [] = some (B, 0) ∧ B ≤ b) ∧
        ∀ y, o + xs.length * i.size ≤ y → O1 b y = some (.tsp p d) ∧ (y < o + cap * i.size → (w.cell? ⟨b, y, none⟩).isSome = true) ∧ w.frozen? ⟨b, y, none⟩ = false := by
      cases v with
      | slice xs' own =>
        cases own with
        | none => simp [growA] at hxs
        | some s' =>
          simp only [growA] at hxs
          split at hxs
          · rename_i hs'
            simp only [Option.some.injEq] at hxs; subst hxs; subst hs'
            generalize a.eval x = xv at hv hroom
            cases hv with
            | sliceNil => exact .inl ⟨rfl, rfl⟩
            | @slice _ _ b o cap sz hvs hcap hown =>
              obtain ⟨this, hbot⟩ := hown _ rfl
              subst this
              exact .inr ⟨b, o, cap, rfl, hvs, hcap, ⟨(hroom _ _ _ _ _ _ rfl rfl).1, hbot⟩, fun y h1 => (hroom _ _ _ _ _ _ rfl rfl).2 y h1⟩
          · cases hxs
      | nils =>
        simp only [growA, Option.some.injEq] at hxs; subst hxs
        generalize a.eval x = xv at hv
        cases hv
        exact .inl ⟨rfl, rfl⟩
      | _ => simp [growA] at hxs
    -- into a new block
    have grow : ∀ (base : Option Addr) (cap : Nat) (olds : List Value), a.eval x = .slice base xs.length cap → cap < xs.length + ys.length → VF G xs.flatten olds → (∀ u ∈ olds, u.oneCell' = true) → (∀ x ∈ xs, x.length = i.size) →
        (∀ w', (∀ a, w'.cell? a = w.cell? a) → (Builtin.firstCells i.size xs.length (.slice base xs.length cap)).run P w' = .ok olds.toArray w') →
        ∃ q w', (Builtin.append_ #[t, t2] ty #[a.eval x, a.eval y]).run P w = .ok q w' ∧ Later X B w0 p nt c G O w (fr1.put (some d) (.slice (xs ++ ys) (some (e, i.size)))) c h (a.put (some d) q) w' := by
      intro base cap olds hx hg hvo ho1 hxl hold
      have hr := run_append_new (P := P) (w := w) (ty := ty) (kindT_slice hk) h2 hi hzv src.len src.cells hold hg hfit.2 (by rw [hby]; exact hfit.1)
      rw [← hx] at hr
      refine ⟨_, _, hr, ?_⟩
      have hol : olds.length = xs.length * i.size := by rw [hvo.length, flatten_length hxl]
      have hgc := grownCap_ge w (xs.length + ys.length) cap e
      have hrest : (Builtin.zeroCells zv.cells (grownCap w (xs.length + ys.length) cap e - (xs.length + ys.length))).toList.length = (grownCap w (xs.length + ys.length) cap e - (xs.length + ys.length)) * i.size := by
        have hzs : zv.cells.size = i.size := by rw [← hzl, ← ((hzc G).1).length]; simp
        simp [Builtin.zeroCells, hzs]
      obtain ⟨G', O', h1, h2⟩ := hs1.immBlock (us := olds ++ news) (rest := (Builtin.zeroCells zv.cells (grownCap w (xs.length + ys.length) cap e - (xs.length + ys.length))).toList) (w' := w.drew.alloc (.cells (olds ++ news ++ (Builtin.zeroCells zv.cells (grownCap w (xs.length + ys.length) cap e - (xs.length + ys.length))).toList).toArray e))
        (d := some d) (v := .slice (xs ++ ys) (some (e, i.size))) (z := .slice (some ⟨w.heap.size, 0, none⟩) (xs.length + ys.length) (grownCap w (xs.length + ys.length) cap e))
        (Ext.drewAlloc w _) (by simp) (fun x v hx => cells_alloc (w := w.drew) (e := e) x v hx) (by rintro x hx; cases hx; exact hd) (hf := fun _ x => frozen_alloc (w := w.drew) x)
        (by
          have hl2 : xs.length + ys.length = (xs ++ ys).length := by simp
          rw [hl2]
          refine V.slice (sz := i.size) ?_ (by rw [← hl2]; exact hgc) (by intro q hq; cases hq; exact ⟨rfl, B, hs1.r.bot, hs1.r.base⟩)
          refine VS.of_flat i.size (immVK (us := olds ++ news) (vs := olds ++ news) ?_ ?_ (immGhost_le hs1.r _) (by simp)) ?_
          · rw [List.flatten_append]; exact hvo.append src.vf
          · intro u hu; rcases List.mem_append.1 hu with hu | hu; exact ho1 u hu; exact src.one u hu
          · intro x hx; rcases List.mem_append.1 hx with hx | hx; exact hxl x hx; exact src.size x hx)
        (by
          rintro x hx xs' s' b' o' n' cap' e1 e2
          cases e1; cases e2
          have htot : (olds ++ news ++ (Builtin.zeroCells zv.cells (grownCap w (xs.length + ys.length) cap e - (xs.length + ys.length))).toList).length = grownCap w (xs.length + ys.length) cap e * i.size := by
            simp only [List.length_append, hol, hnl, hrest]
            rw [← Nat.add_mul, ← Nat.add_mul]
            congr 1
            omega
          refine ⟨rfl, ⟨rfl, ?_⟩, by simp [hol, hnl, Nat.add_mul], ?_⟩
          · have := shape_new w.drew (olds ++ news ++ (Builtin.zeroCells zv.cells (grownCap w (xs.length + ys.length) cap e - (xs.length + ys.length))).toList) e
            rw [htot] at this
            exact this
          · simp only [List.length_append] at htot
            simp only [List.length_append, Nat.zero_add]
            omega)
      exact ⟨G', O', h1, mv1.trans h2⟩
    rcases hform with ⟨hx, rfl⟩ | ⟨b, o, cap, hx, hvs, hcap, hshp, hrm⟩
    · by_cases hy0 : ys.length = 0
      · have hy0' : ys = [] := List.eq_nil_of_length_eq_zero hy0
        subst hy0'
        have hn0 : news = [] := by simpa using hnl
        subst hn0
        refine ⟨.slice none 0 0, w, by rw [hx]; exact run_append_nothing (kindT_slice hk) h2 hi src.len (src.cells w (fun _ => rfl)), G, O1, ⟨?_, hs1.r, hs1.fresh, by rw [Act.put_defers']; exact hs.defers⟩, mv1⟩
        exact hs1.fr.put (by rintro x hx; cases hx; exact hd) .sliceNil (by intro x _ xs' s' b' o' n' cap' _ e2; cases e2)
      · exact grow none 0 [] hx (by simp; omega) .nil (by simp) (by simp) (by intro w' _; simp [Builtin.firstCells])
    · by_cases hin : xs.length + ys.length ≤ cap
      · have hla : ∀ j, j < news.length → O1 b (o + xs.length * i.size + j) = some (.tsp p d) ∧ (w.cell? ⟨b, o + xs.length * i.size + j, none⟩).isSome = true ∧ w.frozen? ⟨b, o + xs.length * i.size + j, none⟩ = false := by
          intro j hj
          have hq := hrm (o + xs.length * i.size + j) (by omega)
          refine ⟨hq.1, hq.2.1 ?_, hq.2.2⟩
          have : (xs.length + ys.length) * i.size ≤ cap * i.size := Nat.mul_le_mul_right _ hin
          rw [Nat.add_mul] at this
          omega
        have hr := run_append_in (P := P) (w := w) (ty := ty) (b := b) (o := o) (sLen := xs.length) (sCap := cap) (kindT_slice hk) h2 hi src.len (src.cells w (fun _ => rfl)) hin (fun j hj => (hla j hj).2.1) (fun j hj => (hla j hj).2.2) src.one
        rw [← hx] at hr
        refine ⟨_, _, hr, ?_⟩
        obtain ⟨G', O', h1, h2⟩ := hs1.commit (d := d) (v := .slice (xs ++ ys) (some (e, i.size))) (z := .slice (some ⟨b, o, none⟩) (xs.length + ys.length) cap) hd (fun j hj => (hla j hj).1) (fun j hj => (hla j hj).2.1)
          (by
            intro G' hg hk
            have hl2 : xs.length + ys.length = (xs ++ ys).length := by simp
            rw [hl2]
            refine V.slice (sz := i.size) ((hvs.mono hg).append ?_) (by rw [← hl2]; exact hin) (by intro q hq; cases hq; exact ⟨rfl, hshp.2.imp fun _ hB => ⟨hg.2 _ _ hB.1, hB.2⟩⟩)
            exact VS.of_flat i.size (VK.of_vals (src.vf.mono hg) src.one hk) src.size)
          (by
            intro O' hO' xs' s' b' o' n' cap' e1 e2
            cases e1; cases e2
            refine ⟨⟨hshp.1.1, by rw [shape_setCells]; exact hshp.1.2.1, fun he y => by rw [World.frozen?_setCells]; exact hshp.1.2.2 he y⟩, fun y h1 => ?_⟩
            simp only at h1
            rw [Nat.add_mul] at h1
            obtain ⟨g1, g2, g3⟩ := hrm y (by omega)
            refine ⟨hO' _ _ _ g1 (.inr (.inr (by omega))), fun h2 => ?_, by rw [World.frozen?_setCells]; exact g3⟩
            rw [World.cell?_setCells_out _ _ _ _ _ (fun _ _ => .inr (by simp only; omega))]
            exact g2 h2)
        exact ⟨G', O', h1, mv1.trans h2⟩
      · obtain ⟨f1, f2, f3⟩ := hvs.flat
        obtain ⟨olds, g4, g5, g6⟩ := f1.vals
        refine grow (some ⟨b, o, none⟩) cap olds hx (by omega) g4 g5 f3 ?_
        intro w' hw'
        exact run_firstCells_some w' i.size _ _ _ _ olds (by rw [g4.length, f2]) (fun j v hj => by rw [Addr.add_lit, hw']; exact (hs1.r.imm _ _ _ (g6 j v hj)).2)
  · cases ha
/-- a new object at the head of a block -/
theorem SR.objectR (hs : SR X B w0 p nt G O fr c h a w) {d : Option Nat} (hd : ∀ x, d = some x → x < nt) {cs : List A} {vs rest : List Value} {e : TypeId} (hv : VF G cs vs) (h1 : ∀ v ∈ vs, v.oneCell' = true)
    (hfree : ∀ (j : Nat) (x : A), cs[j]? = some x → x.free) {w' : World} (hw : w' = w.drew.alloc (.cells (vs ++ rest).toArray e)) {u : A} {z : Value} (hu : ∀ G' : Ghost, G'.m (e :: c :: p) = some (w.heap.size, 0) → V G' u z) (huf : u.free) (hX : ¬ X c) (h2 : cs.length ≠ 2) :
    Later X B w0 p nt c G O w (fr.put d u) (c + 1) (upd h (e :: c :: p) cs) (a.put d z) w' := by
  subst hw
  have hx : Ext w (w.drew.alloc (.cells (vs ++ rest).toArray e)) := Ext.drewAlloc w _
  have hm0 : G.m (e :: c :: p) = none := hs.fresh _ (underB_of_suffix (Nat.le_refl c) (List.suffix_cons _ _)) (fun k hk hs => hX (by rw [← cons_suffix_inj hs (List.suffix_cons _ _)]; exact hk))
  let G' : Ghost := ⟨G.K, fun i => if i = e :: c :: p then some (w.heap.size, 0) else G.m i⟩
  have hg : G.le G' := ⟨fun _ _ _ h => h, fun i x hi => by
    show (if i = e :: c :: p then _ else _) = _
    rw [if_neg (by rintro rfl; rw [hm0] at hi; cases hi)]; exact hi⟩
  have hO : ∀ b x, b < w.heap.size → newLab O w.heap.size vs.length (.obj (e :: c :: p)) b x = O b x := newLab_old (O := O) (b := w.heap.size) (n := vs.length) (l := .obj (e :: c :: p)) (w := w) rfl
  have hR : R B w0 G' (newLab O w.heap.size vs.length (.obj (e :: c :: p))) h (w.drew.alloc (.cells (vs ++ rest).toArray e)) :=
    hs.r.ext hx hg hO (fun b o v hk => .inl hk) (fun b o l hl => by
      simp only [newLab] at hl
      split at hl
      · rename_i e1; rw [e1]; simp
      · exact Nat.lt_of_lt_of_le (hs.r.lt _ _ _ hl) hx.size)
  refine ⟨G', newLab O w.heap.size vs.length (.obj (e :: c :: p)), ⟨?_, ?_, ?_, ?_⟩, ⟨hg, .ext hx hO hs.r.lt, by omega, ?_⟩⟩
  · refine FR.put (hs.fr.ext hx hg hO hs.r.lt) hd (hu G' (by simp [G'])) (fun _ _ => Room.free huf)
  · refine ⟨hR.below, hR.base, hR.imm, ?_, hR.lt, hR.new, hR.bot, ?_⟩
    rotate_left
    · intro id cs' b o hid hm
      simp only [upd] at hid
      split at hid
      · rename_i e1; subst e1
        simp only [Option.some.injEq] at hid; subst hid
        simp [G'] at hm
        obtain ⟨rfl, rfl⟩ := hm
        exact ⟨rfl, e, rfl, _, shape_new w.drew (vs ++ rest) e, fun h => absurd h h2⟩
      · exact hR.typ id cs' b o hid hm
    intro id cs' hid
    simp only [upd] at hid
    split at hid
    · rename_i e1; subst e1
      simp only [Option.some.injEq] at hid; subst hid
      refine ⟨w.heap.size, 0, by simp [G'], fun j x hj => ?_⟩
      obtain ⟨v, hv1, hv2⟩ := hv.get j x hj
      have hjl : j < vs.length := by
        rcases Nat.lt_or_ge j vs.length with h | h
        · exact h
        · rw [List.getElem?_eq_none h] at hv1; cases hv1
      refine ⟨by simp [newLab, hjl], ?_, v, ?_, h1 v (List.mem_of_getElem? hv1), hv2.mono hg, Room.free (hfree j x hj)⟩
      · exact frozen_alloc (w := w.drew) _
      · rw [Nat.zero_add]
        exact cells_alloc (w := w.drew) (e := e) j v (by rw [List.getElem?_append_left hjl]; exact hv1)
    · exact hR.obj id cs' hid
  · intro i hi hXi
    show (if i = e :: c :: p then _ else _) = _
    rw [if_neg (by rintro rfl; obtain ⟨k, hk, hsuf⟩ := underB_suffix hi; have := cons_suffix_inj hsuf (List.suffix_cons _ _); omega)]
    exact hs.fresh i (underB_mono (Nat.le_succ c) hi) hXi
  · rw [Act.put_defers']; exact hs.defers
  · intro i hi
    show (if i = e :: c :: p then _ else _) = _
    rw [if_neg (by rintro rfl; exact hi c (Nat.le_refl _) (Nat.lt_succ_self _) (List.suffix_cons _ _))]
/-- an append; to nil, of some types: a new object -/
theorem SR.appendO (hs : SR X B w0 p nt G O fr c h a w) (hX : ¬ X c) {ob : Nat → Bool} {t t2 ty e s bytes d c' : Nat} {h' : Heap} {z : List A} {x y : Operand} {v u r : A} (hk : kindT P t = .slice e) (h2 : (kindT P t2).plain = true) (hsz : szT P e = some s) (hb : bytesT P e = some bytes)
    (hz : zeroT P e = some z) (hzl : z.length = s) (ht : takeA fr x = some (v, fr1)) (hu : V G u (a.eval y)) (ha : Go.Ai.appendO ob e s bytes p c h v u = some (r, c', h')) (hd : d < nt) :
    ∃ q w', (Builtin.append_ #[t, t2] ty #[a.eval x, a.eval y]).run P w = .ok q w' ∧ Later X B w0 p nt c G O w (fr1.put (some d) r) c' h' (a.put (some d) q) w' := by
  unfold Go.Ai.appendO at ha
  split at ha
  · rename_i hob
    obtain ⟨i, hi, rfl⟩ := szT_ok hsz
    obtain ⟨i', zv, hi', hzv, hzc⟩ := zeroT_ok hz
    rw [hi] at hi'; cases hi'
    have hby : i.bytes = bytes := by simpa [bytesT, hi] using hb
    obtain ⟨hv, O1, hO, hf, hroom⟩ := hs.fr.take ht (.tsp p d)
    have hs1 : SR X B w0 p nt G O1 fr1 c h a w := ⟨hf, hs.r.take hO, hs.fresh, hs.defers⟩
    have mv1 : Mv p c G O w c G O1 w := .same (.take hO)
    simp only [Option.bind_eq_some_iff] at ha
    obtain ⟨ys, hys, ha⟩ := ha
    split at ha
    · rename_i hfit
      simp only [Option.some.injEq, Prod.mk.injEq] at ha
      obtain ⟨rfl, rfl, rfl⟩ := ha
      obtain ⟨news, src⟩ := src_ok (P := P) hs1.r hu hys
      have hx : a.eval x = .slice none 0 0 := by
        generalize a.eval x = xv at hv
        cases hv
        rfl
      have hr := run_append_new (P := P) (w := w) (ty := ty) (base := none) (sLen := 0) (sCap := 0) (olds := []) (kindT_slice hk) h2 hi hzv src.len src.cells (by intro w' _; simp [Builtin.firstCells]) (by omega) (by omega) (by rw [hby]; simpa using hfit.1)
      rw [← hx] at hr
      have hgc := grownCap_ge w (0 + ys.length) 0 e
      have hnl : news.length = ys.length * i.size := by rw [src.vf.length, flatten_length src.size]
      refine ⟨_, _, hr, ?_⟩
      have := hs1.objectR (d := some d) (cs := ys.flatten.map A.noOwn1) (vs := news) (rest := (Builtin.zeroCells zv.cells (grownCap w (0 + ys.length) 0 e - (0 + ys.length))).toList) (e := e) (w' := w.drew.alloc (.cells (news ++ (Builtin.zeroCells zv.cells (grownCap w (0 + ys.length) 0 e - (0 + ys.length))).toList).toArray e)) (u := .mslice (e :: c :: p) 0 ys.length)
        (z := .slice (some ⟨w.heap.size, 0, none⟩) (0 + ys.length) (grownCap w (0 + ys.length) 0 e)) (by rintro x hx; cases hx; exact hd) src.vf.noOwn1 src.one (fun j x hj => by
          rw [List.getElem?_map] at hj
          obtain ⟨y, _, rfl⟩ := Option.map_eq_some_iff.1 hj
          exact A.free_noOwn1 y) (by simp) (fun G' hm => by rw [Nat.zero_add] at hgc ⊢; exact V.mslice (o := 0) (off := 0) hm hgc) (by intro xs s e; cases e) hX (by rw [List.length_map, ← src.vf.length, hnl]; exact hfit.2.2.2)
      obtain ⟨G', O', k1, k2⟩ := this
      refine ⟨G', O', ?_, mv1.trans k2⟩
      simpa using k1
    · cases ha
  · simp only [Option.map_eq_some_iff, Prod.mk.injEq] at ha
    obtain ⟨r', hr', rfl, rfl, rfl⟩ := ha
    exact hs.append hk h2 hsz hb hz hzl ht hu hr' hd
end
end Go.Ai

/- Each operation that the evaluator carries out is the model's. -/
namespace Go.Ai
open Go.RowKit

/-- a function may be entered: it has a body, and is none that the model knows by its name -/
def Enters (P : Program) (f : Nat) : Prop := ∀ (args : Array Value) (w : World), (callFunc f args).run P w = .ok (.enter f args) w

/-- what is known of calls -/
def ClOK (P : Program) (B : Nat) (w0 : World) (cl : Id → Nat → List A → Heap → Option (A × Heap)) : Prop :=
  ∀ q f args h v h', cl q f args h = some (v, h') → Enters P f ∧ v.free ∧ ∀ G O w vs, (∀ x ∈ args, x.free) → VF G args vs → R B w0 G O h w → Fresh G q 0 →
    Calls P f ⟨vs⟩ w fun e w' => ∃ z G' O', e = .returned z ∧ V G' v z ∧ R B w0 G' O' h' w' ∧ MvC q G O w G' O' w'

theorem Keeps.of_cons {p : Id} {k : Nat} {O O' : Own} {w w' : World} (h : Keeps (k :: p) O w O' w') : Keeps p O w O' w' :=
  ⟨fun b o l hl hp => h.lab b o l hl (by
    cases l with
    | tsp q t => exact fun hs => hp ((List.suffix_cons k p).trans hs)
    | rest => trivial
    | _ => exact hp), h.size, h.shape, h.frz⟩

theorem not_cons_suffix (k : Nat) (p : Id) : ¬ (k :: p) <:+ p := fun h => by have := h.length_le; simp at this; omega

section
variable {X : Nat → Prop} {E : Env} {cl : Id → Nat → List A → Heap → Option (A × Heap)} {B : Nat} {w0 : World} {p : Id} {nt : Nat} {G : Ghost} {O : Own} {fr : Fr} {c : Nat} {h : Heap} {a : Act} {w : World}

/-- behind a call -/
theorem SR.called (hs : SR X B w0 p nt G O fr c h a w) {h' : Heap} {G' : Ghost} {O' : Own} {w' : World} (hr : R B w0 G' O' h' w') (hm : MvC (c :: p) G O w G' O' w') (_hX : ¬ X c) {d : Option Nat} (hd : ∀ x, d = some x → x < nt) {v : A} {z : Value}
    (hv : V G' v z) (hf : v.free) : Later X B w0 p nt c G O w (fr.put d v) (c + 1) h' (a.put d z) w' := by
  refine ⟨G', O', ⟨FR.put ⟨hs.fr.size, fun t => ⟨(hs.fr.val t).1.mono hm.le, ?_⟩⟩ hd hv (fun _ _ => Room.free hf), hr, ?_, by rw [Act.put_defers']; exact hs.defers⟩, ⟨hm.le, hm.keeps.of_cons, by omega, ?_⟩⟩
  · intro xs s b o n cap e1 e2
    obtain ⟨⟨s1, s2⟩, hall⟩ := (hs.fr.val t).2 xs s b o n cap e1 e2
    refine ⟨⟨s1, hm.keeps.shape _ _ s2.1, fun hs y => by rw [hm.keeps.frz _ _ s2.1 hs]; exact s2.2 hs y⟩, fun x h1 => ?_⟩
    obtain ⟨g1, g2, g3⟩ := hall x h1
    obtain ⟨k1, k2, k3⟩ := hm.keeps.lab _ _ _ g1 (not_cons_suffix c p)
    exact ⟨k1, by rw [k2]; exact g2, by rw [k3]; exact g3⟩
  · intro i hi hXi
    rw [hm.ids i (underB_disj hi)]
    exact hs.fresh i (underB_mono (Nat.le_succ c) hi) hXi
  · intro i hi
    refine hm.ids i ?_
    cases h2 : underB (c :: p) 0 i with
    | false => rfl
    | true => exact absurd (suffix_of_underB h2) (hi c (Nat.le_refl _) (Nat.lt_succ_self _))

theorem free_ofConst {v : Value} {x : A} (h : ofConst v = some x) : x.free := by
  intro xs s e
  subst e
  unfold ofConst at h
  split at h <;> cases h

theorem free_zeroT {P : Program} {t : Nat} {z : List A} (h : zeroT P t = some z) : ∀ x ∈ z, x.free := by
  have key : ∀ (vs : List Value) (as : List A), vs.mapM ofConst = some as → ∀ x ∈ as, x.free := by
    intro vs
    induction vs with
    | nil => intro as h; simp at h; subst h; simp
    | cons v vs ih =>
      intro as h
      simp only [List.mapM_cons, Option.bind_eq_bind, Option.bind_eq_some_iff, Option.pure_def, Option.some.injEq] at h
      obtain ⟨u, hu, us', hus, rfl⟩ := h
      intro x hx
      rcases List.mem_cons.1 hx with rfl | hx
      · exact free_ofConst hu
      · exact ih us' hus x hx
  unfold zeroT at h
  split at h
  · exact key _ _ h
  · simp only [Option.map_eq_some_iff] at h
    obtain ⟨a, ha, rfl⟩ := h
    intro x hx
    simp at hx; subst hx
    exact free_ofConst ha
  · cases h

theorem free_mapM {fr : Fr} : ∀ {xs : List Operand} {us : List A}, xs.mapM (evw fr) = some us → ∀ u ∈ us, u.free
  | [], us, h => by simp at h; subst h; simp
  | x :: xs, us, h => by
    simp only [List.mapM_cons, Option.bind_eq_bind, Option.bind_eq_some_iff, Option.pure_def, Option.some.injEq] at h
    obtain ⟨u, hu, us', hus, rfl⟩ := h
    intro y hy
    rcases List.mem_cons.1 hy with rfl | hy
    · simp only [evw, Option.map_eq_some_iff] at hu
      obtain ⟨b, _, rfl⟩ := hu
      exact A.free_weak b
    · exact free_mapM hus y hy
theorem free_mapMn {fr : Fr} : ∀ {xs : List Operand} {us : List A}, xs.mapM (evn fr) = some us → ∀ u ∈ us, u.free
  | [], us, h => by simp at h; subst h; simp
  | x :: xs, us, h => by
    simp only [List.mapM_cons, Option.bind_eq_bind, Option.bind_eq_some_iff, Option.pure_def, Option.some.injEq] at h
    obtain ⟨u, hu, us', hus, rfl⟩ := h
    intro y hy
    rcases List.mem_cons.1 hy with rfl | hy
    · simp only [evn, Option.map_eq_some_iff] at hu
      obtain ⟨b, _, rfl⟩ := hu
      exact A.free_noOwn b
    · exact free_mapMn hus y hy
theorem free_argsA {E : Env} {fr : Fr} {g : Operand} {xs : List Operand} {us : List A} (h : argsA E fr g xs = some us) : ∀ u ∈ us, u.free := by
  unfold argsA at h
  split at h
  · exact free_mapMn h
  · exact free_mapM h

theorem array_eq2 {α : Type} {xs : Array α} {a b : α} (h : xs.toList = [a, b]) : xs = #[a, b] := by rw [← Array.toArray_toList (xs := xs), h]

theorem noOwnR_free (v : A) : v.noOwnR.free := by
  intro xs s
  cases v <;> simp [A.noOwnR, A.noOwn, A.noOwn1]
theorem weakR_free (v : A) : v.weakR.free := by
  intro xs s
  cases v <;> simp [A.weakR, A.weak, A.weak1]
theorem outK_free (k : Bool) (v : A) : (v.outK k).free := by cases k; exact noOwnR_free v; exact weakR_free v

theorem stepA_ok {all : List Oper} {o : Oper} {fr' : Fr} {c' : Nat} {h' : Heap} {Q : Exit → Act → World → Prop} (hcl : ClOK E.P B w0 cl) (hs : SR X B w0 p nt G O fr c h a w) (hX : ¬ X c) (hd : ∀ x, o.dst = some x → x < nt)
    (hst : stepA E cl p all o fr c h = some (fr', c', h')) : o.wp E.P a w (Later X B w0 p nt c G O w fr' c' h') Q := by
  have hK : ∀ b o v, G.K b o = some v → w.cell? ⟨b, o, none⟩ = some v := fun b o v hk => (hs.r.imm b o v hk).2
  have pure : (pureA E.P fr o).map (fun v => (fr.put o.dst v.noOwn, c, h)) = some (fr', c', h') → o.wp E.P a w (Later X B w0 p nt c G O w fr' c' h') Q := by
    intro h
    simp only [Option.map_eq_some_iff, Prod.mk.injEq] at h
    obtain ⟨v, hv, rfl, rfl, rfl⟩ := h
    obtain ⟨z, h1, h2⟩ := pureA_ok (w := w) hK hs.fr.V hv
    exact wp_value h1 (hs.value hd h2.noOwn (A.free_noOwn v))
  unfold stepA at hst
  split at hst
  · -- move
    rename_i x hop
    split at hst
    · simp only [Option.map_eq_some_iff, Prod.mk.injEq, Prod.exists] at hst
      obtain ⟨v, fr1, ht, rfl, rfl, rfl⟩ := hst
      exact wp_value (by simp [execOp, hop]) (hs.taken ht hd)
    · simp only [Option.map_eq_some_iff, Prod.mk.injEq] at hst
      obtain ⟨v, hv, rfl, rfl, rfl⟩ := hst
      cases hk : E.feed with
      | true =>
        rw [hk] at hv
        refine wp_value (z := a.eval x) (by simp [execOp, hop]) (hs.value hd (V.evw hs.fr.V hv) ?_)
        simp only [evK, evw, Option.map_eq_some_iff] at hv
        obtain ⟨u, _, rfl⟩ := hv
        exact A.free_weak u
      | false =>
        rw [hk] at hv
        simp only [evK, evn, Option.map_eq_some_iff] at hv
        obtain ⟨u, hu, rfl⟩ := hv
        exact wp_value (z := a.eval x) (by simp [execOp, hop]) (hs.value hd (V.ev hs.fr.V hu).noOwn (A.free_noOwn u))
  · -- assign
    rename_i x hop
    simp only [Option.map_eq_some_iff, Prod.mk.injEq, Prod.exists] at hst
    obtain ⟨v, fr1, ht, rfl, rfl, rfl⟩ := hst
    exact wp_value (by simp [execOp, hop]) (hs.taken ht hd)
  · -- alloc
    rename_i t hop
    simp only [Option.map_eq_some_iff, Prod.mk.injEq] at hst
    obtain ⟨z, hz, rfl, rfl, rfl⟩ := hst
    obtain ⟨i, zv, hi, hzv, hzc⟩ := zeroT_ok hz
    obtain ⟨g1, g2⟩ := hzc G
    refine wp_value (z := .pointer (some ⟨w.heap.size, 0, none⟩)) (w' := w.alloc (.cells zv.cells t)) ?_ (hs.object (e := t) hd g1 g2 (fun j x hj => free_zeroT hz x (List.mem_of_getElem? hj)) (by simp) hX)
    simp [execOp, hop, Instr.alloc, zeroValue, typeInfo, hi, hzv, newVar, newRow]
  · -- box
    rename_i t x hop
    simp only [Option.bind_eq_some_iff, Option.map_eq_some_iff, Prod.mk.injEq] at hst
    obtain ⟨v, hv, cs, hcs, rfl, rfl, rfl⟩ := hst
    have hV := (V.ev hs.fr.V hv).noOwn
    obtain ⟨g1, g2⟩ := hV.cells hcs
    refine wp_value (z := .pointer (some ⟨w.heap.size, 0, none⟩)) (w' := w.alloc (.cells (a.eval x).cells t)) ?_ (hs.object (e := t) hd g1 g2 ?_ (by simp) hX)
    · simp [execOp, hop, Instr.box, newVar, newRow]
    · intro j y hj
      cases v with
      | agg as =>
        simp only [A.noOwn, A.cells, Option.some.injEq] at hcs; subst hcs
        simp only [List.getElem?_map, Option.map_eq_some_iff] at hj
        obtain ⟨u, _, rfl⟩ := hj
        exact A.free_noOwn1 u
      | top => cases hcs
      | tuple => cases hcs
      | _ =>
        simp only [A.noOwn, A.noOwn1, A.cells, Option.some.injEq] at hcs; subst hcs
        cases j with
        | zero => simp at hj; subst hj; intro xs s e; cases e
        | succ j => simp at hj
  · -- load
    rename_i t x hop
    simp only [Option.bind_eq_some_iff] at hst
    obtain ⟨u, hu, hst⟩ := hst
    have hV := V.ev hs.fr.V hu
    split at hst
    · split at hst
      · rename_i id off
        simp only [Option.bind_eq_some_iff] at hst
        obtain ⟨cs, hcs, hst⟩ := hst
        split at hst
        · rename_i n hsh
          simp only [Option.map_eq_some_iff, Prod.mk.injEq] at hst
          obtain ⟨v, hv, rfl, rfl, rfl⟩ := hst
          obtain ⟨z, h1, h2⟩ := hs.feed hsh hcs hv hV hd
          exact wp_value (by simp [execOp, hop, h1]) h2
        · cases hst
      · cases hst
    · simp only [Option.map_eq_some_iff, Prod.mk.injEq] at hst
      obtain ⟨v, hv, rfl, rfl, rfl⟩ := hst
      obtain ⟨z, h1, h2⟩ := loadA_ok (P := E.P) hs.r hv hV
      exact wp_value (by simp [execOp, hop, h1]) (hs.value hd h2.noOwn (A.free_noOwn v))
  · -- store
    rename_i t x y hop
    simp only [Option.bind_eq_some_iff, Prod.exists] at hst
    obtain ⟨u, hu, v, fr1, ht, hst⟩ := hst
    have hV := V.ev hs.fr.V hu
    split at hst
    · rename_i id off n hsz
      simp only [Option.bind_eq_some_iff] at hst
      obtain ⟨vs, hvs, hst⟩ := hst
      split at hst
      · rename_i hn
        simp only [Option.bind_eq_some_iff, Option.map_eq_some_iff, Prod.mk.injEq] at hst
        obtain ⟨cs, hcs, cs', hcs', rfl, rfl, rfl⟩ := hst
        obtain ⟨w', h1, h2⟩ := hs.store hsz hV ht hvs hn hcs hcs' hd
        exact wp_skip' (by simp [execOp, hop, h1]) h2
      · cases hst
    · cases hst
  · -- buildSlice
    rename_i t len parts hop
    split at hst
    · rename_i e hk
      split at hst
      · rename_i s z hsz hz
        split at hst
        · rename_i hc
          simp only [Option.bind_eq_some_iff, Option.map_eq_some_iff, Prod.mk.injEq] at hst
          obtain ⟨ps, hps, xs, hxs, rfl, rfl, rfl⟩ := hst
          obtain ⟨v, w', h1, h2⟩ := hs.buildSlice (qs := parts.map fun (i, x) => (i, a.eval x)) hk hsz hz hc.1 hc.2 (by have := VP.ofK hs.fr.V hps; simpa using this) hxs hd
          exact wp_value (by simp [execOp, hop, h1]) h2
        · cases hst
      · cases hst
    · cases hst
  · -- makeSlice
    rename_i t l n hop
    split at hst
    · rename_i e k1 l' k2 n' hk hl hn
      have hL := V.int_inv (V.evw hs.fr.V hl)
      have hN := V.int_inv (V.evw hs.fr.V hn)
      split at hst
      · rename_i s z b hsz hz hb
        split at hst
        · rename_i hc
          obtain ⟨c1, c2, c3, c4, c5⟩ := hc
          split at hst
          · rename_i h0
            simp only [Option.some.injEq, Prod.mk.injEq] at hst
            obtain ⟨rfl, rfl, rfl⟩ := hst
            subst h0
            obtain ⟨v, w', h1, h2⟩ := hs.make0 (kl := k1) (kn := k2) hk hsz hz hb c5 c2 c3 c4 hd
            exact wp_value (by simp [execOp, hop, hL, hN, h1]) h2
          · split at hst
            · rename_i hln
              simp only [Option.some.injEq, Prod.mk.injEq] at hst
              obtain ⟨rfl, rfl, rfl⟩ := hst
              subst hln
              obtain ⟨v, w', h1, h2⟩ := hs.makeN (kl := k1) (kn := k2) hk hsz hz hb c5 c1 c3 c4 hd (free_zeroT hz) hX
              exact wp_value (by simp [execOp, hop, hL, hN, h1]) h2
            · cases hst
        · cases hst
      · cases hst
    · cases hst
  · -- makeInterface
    rename_i t x hop
    simp only [Option.bind_eq_some_iff] at hst
    obtain ⟨u, hu, hst⟩ := hst
    have hV := V.evw hs.fr.V hu
    split at hst
    · cases hst
    · rename_i hne
      split at hst
      · rename_i hcon
        have hr : (Instr.makeInterface t (a.eval x)).run E.P w = .ok (.iface t (a.eval x)) w := run_makeInterface w t _ hcon
        split at hst
        · split at hst
          · rename_i id
            simp only [Option.map_eq_some_iff, Prod.mk.injEq] at hst
            obtain ⟨cs, hcs, rfl, rfl, rfl⟩ := hst
            exact wp_value (by simp [execOp, hop, hr]) (hs.freeze hcs hV hd)
          · rename_i cs off
            simp only [Option.some.injEq, Prod.mk.injEq] at hst
            obtain ⟨rfl, rfl, rfl⟩ := hst
            exact wp_value (by simp [execOp, hop, hr]) (hs.value hd (.iface hV) (by intro xs s e; cases e))
          · cases hst
        · simp only [Option.some.injEq, Prod.mk.injEq] at hst
          obtain ⟨rfl, rfl, rfl⟩ := hst
          exact wp_value (by simp [execOp, hop, hr]) (hs.value hd (.iface hV) (by intro xs s e; cases e))
      · cases hst
  · -- convert
    rename_i s d x hop
    split at hst
    · rename_i e b hk1 hk2 hx
      have hV := V.str_inv (V.evw hs.fr.V hx)
      split at hst
      · rename_i he
        simp only [Option.some.injEq, Prod.mk.injEq] at hst
        obtain ⟨rfl, rfl, rfl⟩ := hst
        obtain ⟨v, w', h1, h2⟩ := hs.strBytes (s := b) hk1 hk2 he hd
        exact wp_value (by simp [execOp, hop, hV, h1]) h2
      · cases hst
    · rename_i id off len hk2 hx
      have hV := V.evw hs.fr.V hx
      split at hst
      · rename_i e hk1
        split at hst
        · rename_i he
          simp only [Option.bind_eq_some_iff, Option.map_eq_some_iff, Prod.mk.injEq] at hst
          obtain ⟨cs, hcs, bs, hbs, rfl, rfl, rfl⟩ := hst
          split at hbs
          · rename_i hfit
            have h1 := hs.bytesStr hk1 hk2 he hcs hfit hbs hV
            exact wp_value (by simp [execOp, hop, h1]) (hs.value hd .str (by intro xs s e; cases e))
          · cases hbs
        · cases hst
      · cases hst
    · exact pure hst
  · -- append
    rename_i args argTypes hop
    split at hst
    · rename_i x y t t2 ha ht
      split at hst
      · rename_i e hk hpl
        rw [Bool.and_eq_true] at hpl
        obtain ⟨d, hdst⟩ := Option.isSome_iff_exists.1 hpl.2
        split at hst
        · rename_i s b z hsz hb hz
          split at hst
          · rename_i hzl
            simp only [Option.bind_eq_some_iff, Option.map_eq_some_iff, Prod.mk.injEq, Prod.exists] at hst
            obtain ⟨u, hu, v, fr1, htk, r, c2, h3, hr, rfl, rfl, rfl⟩ := hst
            obtain ⟨q, w', h1, h2⟩ := hs.appendO hX (ty := o.type) hk hpl.1 hsz hb hz hzl htk (V.evw hs.fr.V hu) hr (hd d hdst)
            rw [hdst]
            refine wp_value (z := q) (w' := w') ?_ (by rw [hdst]; exact h2)
            simp [execOp, hop, array_eq2 ha, array_eq2 ht, resolve, invoke, builtin, h1]
          · cases hst
        · cases hst
      · cases hst
    · cases hst
  · -- call
    rename_i g args argTypes hop
    simp only [Option.bind_eq_some_iff] at hst
    obtain ⟨gv, hg, vs, hvs, hst⟩ := hst
    split at hst
    · rename_i f caps
      simp only [Option.map_eq_some_iff, Prod.mk.injEq, Prod.exists] at hst
      obtain ⟨v, h2, hcall, rfl, rfl, rfl⟩ := hst
      have hG := V.evw hs.fr.V hg
      have hA := VF.argsA hs.fr.V hvs
      obtain ⟨hen, hfree, hC⟩ := hcl _ _ _ _ _ _ hcall
      generalize hgv : a.eval g = gval at hG
      cases hG with
      | @fn _ _ cvs hcaps =>
        have hrun : (execOp a.eval o).run E.P w = .ok (.enter f ⟨args.toList.map a.eval ++ cvs⟩) w := by
          have e1 : (args.map a.eval) = ⟨args.toList.map a.eval⟩ := Array.ext' (by simp)
          simp only [execOp, hop, resolve, hgv, Deferred.ofValue, Sem.run_bind, Sem.run_pure, Result.andThen_ok, invoke, e1]
          rw [hen]
          simp
        unfold Oper.wp
        rw [hrun]
        refine Calls.mono (hC G O w _ ?_ (hA.append hcaps.noOwn) hs.r ?_) ?_
        · intro x hx
          rcases List.mem_append.1 hx with hx | hx
          · exact free_argsA hvs x hx
          · obtain ⟨u, _, rfl⟩ := List.mem_map.1 hx
            exact A.free_noOwn u
        · intro i hi
          exact hs.fresh i (underB_of_cons hi) (fun k hk hsf => hX (by rw [← cons_suffix_inj hsf (suffix_of_underB hi)]; exact hk))
        · rintro e w' ⟨z, G', O', rfl, h3, h4, h5⟩
          exact hs.called h4 h5 hX hd h3 hfree
    · cases hst
  · exact pure hst
end
end Go.Ai

/- Regions whose order is the text's: the evaluator's answer is the model's. -/
namespace Go.Ai
open Go.RowKit

/-- nowhere -/
def X0 : Nat → Prop := fun _ => False

section
variable {E : Env} {cl : Id → Nat → List A → Heap → Option (A × Heap)} {B : Nat} {w0 : World} {p : Id} {nt : Nat} {G : Ghost} {O : Own} {fr : Fr} {c : Nat} {h : Heap} {a : Act} {w : World}

theorem guard_ok {ops : Array Oper} {o : Oper} {g : Bool} {tm : Array Value} (hf : ∀ t, V G (fr t) (tm.getD t undef)) (hg : guardA ops.toList o fr = some g) : Region.wanted o (yielded ops tm) = g := by
  unfold guardA at hg
  unfold Region.wanted
  cases hgd : o.guard with
  | none => simp [hgd] at hg; simp [hg]
  | some jw =>
    obtain ⟨j, want⟩ := jw
    simp only [hgd, Option.bind_eq_some_iff, Option.map_eq_some_iff] at hg
    obtain ⟨x, ⟨d, hd, hx⟩, hg⟩ := hg
    have hd' : (ops[j]?).bind (·.dst) = some d := by
      obtain ⟨o', ho, hd⟩ := hd
      rw [Array.getElem?_toList] at ho
      simp [ho, hd]
    have hV := hf d
    rw [hx] at hV
    cases x with
    | bool b =>
      simp only [wantA, Option.some.injEq] at hg
      have hv := V.bool_inv hV
      have : tm[d]? = some (.bool b) := by
        rw [Array.getD_eq_getD_getElem?] at hv
        cases h : tm[d]? with
        | none => rw [h] at hv; cases hv
        | some x => rw [h] at hv; simp at hv; rw [hv]
      simp [yielded, hd', this, ← hg]
    | tuple vs =>
      simp only [wantA] at hg
      split at hg
      · rename_i hvs
        simp only [Option.some.injEq] at hg
        have : yielded ops tm j = none := by
          simp only [yielded, hd', Option.bind_some]
          split
          · rename_i b e
            rw [Array.getD_eq_getD_getElem?, e] at hV
            simp only [Option.getD_some] at hV
            cases hV
          · rfl
        simp [this, ← hg]
      · cases hg
    | _ => simp [wantA] at hg

/-- one operation, its guard looked at -/
def wpOne (P : Program) (ops : Array Oper) (Q : Exit → Act → World → Prop) (o : Oper) (K : Act → World → Prop) (a : Act) (w : World) : Prop :=
  if Region.wanted o (yielded ops a.tmps) then o.wp P a w K Q ∨ (o.asks P a w ∧ LetsOut Q) else K (a.put o.dst undef) w

theorem wpOps_cons' {P : Program} {ops : Array Oper} {Q : Exit → Act → World → Prop} {i : Nat} {rest : List Nat} {o : Oper} (ho : ops[i]? = some o) :
    wpOps P ops Q (i :: rest) a w = wpOne P ops Q o (wpOps P ops Q rest) a w := by simp only [wpOps, ho, wpOne]

theorem runOps_ok {ops : Array Oper} {Q : Exit → Act → World → Prop} (hcl : ClOK E.P B w0 cl) (hd : ∀ o ∈ ops.toList, ∀ x, o.dst = some x → x < nt) :
    ∀ (os : List Oper) (i : Nat) (fr : Fr) (c : Nat) (h : Heap) (G : Ghost) (O : Own) (a : Act) (w : World) (fr' : Fr) (c' : Nat) (h' : Heap), ops.toList.drop i = os → SR X0 B w0 p nt G O fr c h a w →
      runOps E cl p ops.toList os fr c h = some (fr', c', h') → (∀ a' w', Later X0 B w0 p nt c G O w fr' c' h' a' w' → Q .normal a' w') → wpOps E.P ops Q (List.range' i os.length) a w
  | [], i, fr, c, h, G, O, a, w, fr', c', h', _, hs, hr, hQ => by
    simp only [runOps, Option.some.injEq, Prod.mk.injEq] at hr
    obtain ⟨rfl, rfl, rfl⟩ := hr
    exact hQ _ _ ⟨G, O, hs, .refl _ _ _ _ _⟩
  | o :: os, i, fr, c, h, G, O, a, w, fr', c', h', hdr, hs, hr, hQ => by
    have ho : ops[i]? = some o := by
      have : ops.toList[i]? = some o := by
        have := congrArg (·[0]?) hdr
        simpa [List.getElem?_drop] using this
      simpa using this
    have hmem : o ∈ ops.toList := by rw [← List.take_append_drop i ops.toList, hdr]; simp
    have hdr' : ops.toList.drop (i + 1) = os := by
      have := congrArg (·.drop 1) hdr
      simpa [List.drop_drop, Nat.add_comm] using this
    rw [List.length_cons, List.range'_succ, wpOps_cons' ho]
    simp only [runOps] at hr
    unfold wpOne
    have next : ∀ (fr1 : Fr) (c1 : Nat) (h1 : Heap), runOps E cl p ops.toList os fr1 c1 h1 = some (fr', c', h') → ∀ a1 w1, Later X0 B w0 p nt c G O w fr1 c1 h1 a1 w1 → wpOps E.P ops Q (List.range' (i + 1) os.length) a1 w1 := by
      intro fr1 c1 h1 hr1 a1 w1 hl
      obtain ⟨G1, O1, hs1, hm1⟩ := hl
      refine runOps_ok hcl hd os (i + 1) fr1 c1 h1 G1 O1 a1 w1 fr' c' h' hdr' hs1 hr1 (fun a' w' hl' => hQ a' w' ?_)
      obtain ⟨G2, O2, hs2, hm2⟩ := hl'
      exact ⟨G2, O2, hs2, hm1.trans hm2⟩
    split at hr
    · rename_i hg
      rw [if_pos (guard_ok hs.fr.V hg)]
      simp only [Option.bind_eq_some_iff, Prod.exists] at hr
      obtain ⟨fr1, c1, h1, hst, hr⟩ := hr
      left
      exact Oper.wp_mono (next fr1 c1 h1 hr) (stepA_ok hcl hs (fun h => h) (hd o hmem) hst)
    · rename_i hg
      have hw : Region.wanted o (yielded ops a.tmps) = false := guard_ok hs.fr.V hg
      rw [hw]
      simp only [Bool.false_eq_true, if_false]
      exact next _ _ _ hr _ _ (hs.value (hd o hmem) (.tuple .nil) (by intro xs s e; cases e))
    · cases hr

/-- what an exit of the evaluator is -/
def Ex.as : Ex → Exit
  | .normal => .normal
  | .exit id => .exit id
  | .ret => .ret

theorem drop_r {B : Nat} {w0 : World} {G : Ghost} {O : Own} {h : Heap} {w : World} (hr : R B w0 G O h w) (p : Id) (c : Nat) : R B w0 G O (dropFrom p c h) w :=
  ⟨hr.below, hr.base, hr.imm, fun id cs hid => by
    simp only [dropFrom] at hid
    cases hu : underB p c id with
    | true => rw [hu] at hid; cases hid
    | false => rw [hu] at hid; exact hr.obj id cs hid, hr.lt, hr.new, hr.bot, fun id cs b o hid hm => by
    simp only [dropFrom] at hid
    cases hu : underB p c id with
    | true => rw [hu] at hid; cases hid
    | false => rw [hu] at hid; exact hr.typ id cs b o hid hm⟩
theorem drop_sr (hs : SR X0 B w0 p nt G O fr c h a w) (c0 : Nat) : SR X0 B w0 p nt G O fr c (dropFrom p c0 h) a w := ⟨hs.fr, drop_r hs.r p c0, hs.fresh, hs.defers⟩
end
end Go.Ai

/- Where the evaluator makes objects. -/
namespace Go.Ai
open Go.RowKit

/-- a call makes objects at its own places alone -/
def DomOK (cl : Id → Nat → List A → Heap → Option (A × Heap)) : Prop :=
  ∀ q f args h v h', cl q f args h = some (v, h') → ∀ id, h' id ≠ none → h id ≠ none ∨ underB q 0 id = true

/-- new objects lie at places in between -/
def Grown (p : Id) (c : Nat) (h : Heap) (c' : Nat) (h' : Heap) : Prop := c ≤ c' ∧ ∀ id, h' id ≠ none → h id ≠ none ∨ ∃ k, c ≤ k ∧ k < c' ∧ (k :: p) <:+ id

theorem Grown.refl (p : Id) (c : Nat) (h : Heap) : Grown p c h c h := ⟨Nat.le_refl _, fun _ hi => .inl hi⟩
theorem Grown.trans {p : Id} {c c1 c2 : Nat} {h h1 h2 : Heap} (a : Grown p c h c1 h1) (b : Grown p c1 h1 c2 h2) : Grown p c h c2 h2 :=
  ⟨Nat.le_trans a.1 b.1, fun id hi => by
    have ha := a.1; have hb := b.1
    rcases b.2 id hi with hi | ⟨k, h1, h2, h3⟩
    · rcases a.2 id hi with hi | ⟨k, h1, h2, h3⟩
      · exact .inl hi
      · exact .inr ⟨k, h1, by omega, h3⟩
    · exact .inr ⟨k, by omega, h2, h3⟩⟩
theorem Grown.drop {p : Id} {c c1 : Nat} {h h1 : Heap} (a : Grown p c h c1 h1) (q : Id) (d : Nat) : Grown p c h c1 (dropFrom q d h1) :=
  ⟨a.1, fun id hi => a.2 id (by intro e; apply hi; simp [dropFrom, e])⟩
theorem Grown.upd (p : Id) (c t : Nat) (h : Heap) (cs : List A) : Grown p c h (c + 1) (upd h (t :: c :: p) cs) :=
  ⟨by omega, fun id hi => by
    by_cases e : id = t :: c :: p
    · exact .inr ⟨c, Nat.le_refl _, by omega, by rw [e]; exact List.suffix_cons _ _⟩
    · left; simpa [Ai.upd, e] using hi⟩
theorem Grown.updOld {p : Id} {c : Nat} {h : Heap} {id : Id} {cs cs' : List A} (he : h id = some cs) : Grown p c h c (Ai.upd h id cs') :=
  ⟨Nat.le_refl _, fun i hi => by
    left
    by_cases e : i = id
    · rw [e, he]; simp
    · simpa [Ai.upd, e] using hi⟩
theorem Grown.era {p : Id} {c : Nat} {h : Heap} {id : Id} : Grown p c h c (Ai.era h id) :=
  ⟨Nat.le_refl _, fun i hi => by
    left
    by_cases e : i = id
    · simp [Ai.era, e] at hi
    · simpa [Ai.era, e] using hi⟩

section
variable {E : Env} {cl : Id → Nat → List A → Heap → Option (A × Heap)} {p : Id}

theorem stepA_dom {all : List Oper} {o : Oper} {fr fr' : Fr} {c c' : Nat} {h h' : Heap} (hcl : DomOK cl) (hst : stepA E cl p all o fr c h = some (fr', c', h')) : Grown p c h c' h' := by
  have pure : (pureA E.P fr o).map (fun v => (fr.put o.dst v.noOwn, c, h)) = some (fr', c', h') → Grown p c h c' h' := by
    intro h
    simp only [Option.map_eq_some_iff, Prod.mk.injEq] at h
    obtain ⟨v, hv, rfl, rfl, rfl⟩ := h
    exact .refl _ _ _
  unfold stepA at hst
  split at hst
  · split at hst
    · simp only [Option.map_eq_some_iff, Prod.mk.injEq, Prod.exists] at hst
      obtain ⟨v, fr1, ht, rfl, rfl, rfl⟩ := hst
      exact .refl _ _ _
    · simp only [Option.map_eq_some_iff, Prod.mk.injEq] at hst
      obtain ⟨v, hv, rfl, rfl, rfl⟩ := hst
      exact .refl _ _ _
  · simp only [Option.map_eq_some_iff, Prod.mk.injEq, Prod.exists] at hst
    obtain ⟨v, fr1, ht, rfl, rfl, rfl⟩ := hst
    exact .refl _ _ _
  · simp only [Option.map_eq_some_iff, Prod.mk.injEq] at hst
    obtain ⟨z, hz, rfl, rfl, rfl⟩ := hst
    exact .upd _ _ _ _ _
  · simp only [Option.bind_eq_some_iff, Option.map_eq_some_iff, Prod.mk.injEq] at hst
    obtain ⟨v, hv, cs, hcs, rfl, rfl, rfl⟩ := hst
    exact .upd _ _ _ _ _
  · simp only [Option.bind_eq_some_iff] at hst
    obtain ⟨u, hu, hst⟩ := hst
    split at hst
    · split at hst
      · rename_i id off
        simp only [Option.bind_eq_some_iff] at hst
        obtain ⟨cs, hcs, hst⟩ := hst
        split at hst
        · simp only [Option.map_eq_some_iff, Prod.mk.injEq] at hst
          obtain ⟨v, hv, rfl, rfl, rfl⟩ := hst
          exact .updOld hcs
        · cases hst
      · cases hst
    · simp only [Option.map_eq_some_iff, Prod.mk.injEq] at hst
      obtain ⟨v, hv, rfl, rfl, rfl⟩ := hst
      exact .refl _ _ _
  · simp only [Option.bind_eq_some_iff, Prod.exists] at hst
    obtain ⟨u, hu, v, fr1, ht, hst⟩ := hst
    split at hst
    · simp only [Option.bind_eq_some_iff] at hst
      obtain ⟨vs, hvs, hst⟩ := hst
      split at hst
      · simp only [Option.bind_eq_some_iff, Option.map_eq_some_iff, Prod.mk.injEq] at hst
        obtain ⟨cs, hcs, cs', hcs', rfl, rfl, rfl⟩ := hst
        exact .updOld hcs
      · cases hst
    · cases hst
  · split at hst
    · split at hst
      · split at hst
        · simp only [Option.bind_eq_some_iff, Option.map_eq_some_iff, Prod.mk.injEq] at hst
          obtain ⟨ps, hps, xs, hxs, rfl, rfl, rfl⟩ := hst
          exact .refl _ _ _
        · cases hst
      · cases hst
    · cases hst
  · split at hst
    · split at hst
      · split at hst
        · split at hst
          · simp only [Option.some.injEq, Prod.mk.injEq] at hst
            obtain ⟨rfl, rfl, rfl⟩ := hst
            exact .refl _ _ _
          · split at hst
            · simp only [Option.some.injEq, Prod.mk.injEq] at hst
              obtain ⟨rfl, rfl, rfl⟩ := hst
              exact .upd _ _ _ _ _
            · cases hst
        · cases hst
      · cases hst
    · cases hst
  · simp only [Option.bind_eq_some_iff] at hst
    obtain ⟨u, hu, hst⟩ := hst
    split at hst
    · cases hst
    · split at hst
      · split at hst
        · split at hst
          · simp only [Option.map_eq_some_iff, Prod.mk.injEq] at hst
            obtain ⟨cs, hcs, rfl, rfl, rfl⟩ := hst
            exact .era
          · simp only [Option.some.injEq, Prod.mk.injEq] at hst
            obtain ⟨rfl, rfl, rfl⟩ := hst
            exact .refl _ _ _
          · cases hst
        · simp only [Option.some.injEq, Prod.mk.injEq] at hst
          obtain ⟨rfl, rfl, rfl⟩ := hst
          exact .refl _ _ _
      · cases hst
  · split at hst
    · split at hst
      · simp only [Option.some.injEq, Prod.mk.injEq] at hst
        obtain ⟨rfl, rfl, rfl⟩ := hst
        exact .refl _ _ _
      · cases hst
    · split at hst
      · split at hst
        · simp only [Option.bind_eq_some_iff, Option.map_eq_some_iff, Prod.mk.injEq] at hst
          obtain ⟨cs, hcs, bs, hbs, rfl, rfl, rfl⟩ := hst
          exact .refl _ _ _
        · cases hst
      · cases hst
    · exact pure hst
  · split at hst
    · split at hst
      · split at hst
        · split at hst
          · simp only [Option.bind_eq_some_iff, Option.map_eq_some_iff, Prod.mk.injEq, Prod.exists] at hst
            obtain ⟨u, hu, v, fr1, htk, r, c2, h3, hr, rfl, rfl, rfl⟩ := hst
            unfold appendO at hr
            split at hr
            · simp only [Option.bind_eq_some_iff] at hr
              obtain ⟨ys, hys, hr⟩ := hr
              split at hr
              · simp only [Option.some.injEq, Prod.mk.injEq] at hr
                obtain ⟨rfl, rfl, rfl⟩ := hr
                exact .upd _ _ _ _ _
              · cases hr
            · simp only [Option.map_eq_some_iff, Prod.mk.injEq] at hr
              obtain ⟨r', hr', rfl, rfl, rfl⟩ := hr
              exact .refl _ _ _
          · cases hst
        · cases hst
      · cases hst
    · cases hst
  · simp only [Option.bind_eq_some_iff] at hst
    obtain ⟨gv, hg, vs, hvs, hst⟩ := hst
    split at hst
    · simp only [Option.map_eq_some_iff, Prod.mk.injEq, Prod.exists] at hst
      obtain ⟨v, h2, hcall, rfl, rfl, rfl⟩ := hst
      refine ⟨by omega, fun id hi => ?_⟩
      rcases hcl _ _ _ _ _ _ hcall id hi with h1 | h1
      · exact .inl h1
      · exact .inr ⟨c, Nat.le_refl _, by omega, suffix_of_underB h1⟩
    · cases hst
  · exact pure hst

theorem runOps_dom {all : List Oper} (hcl : DomOK cl) : ∀ (os : List Oper) {fr fr' : Fr} {c c' : Nat} {h h' : Heap}, runOps E cl p all os fr c h = some (fr', c', h') → Grown p c h c' h'
  | [], _, _, _, _, _, _, hx => by
    simp only [runOps, Option.some.injEq, Prod.mk.injEq] at hx
    obtain ⟨rfl, rfl, rfl⟩ := hx
    exact .refl _ _ _
  | o :: os, fr, fr', c, c', h, h', hx => by
    simp only [runOps] at hx
    split at hx
    · simp only [Option.bind_eq_some_iff, Prod.exists] at hx
      obtain ⟨fr1, c1, h1, h2, h3⟩ := hx
      exact (stepA_dom hcl h2).trans (runOps_dom hcl os h3)
    · exact runOps_dom hcl os hx
    · cases hx

theorem runDraw_dom {all : List Oper} {ps : List (Nat × Nat)} (hcl : DomOK cl) : ∀ (os : List Oper) {i : Nat} {ls : List (Nat × Id × Nat × Nat)} {hs : List (Nat × Heap × Heap)} {fr fr' : Fr} {c c' : Nat} {h h' : Heap},
    runDraw E cl p all ps os i ls hs fr c h = some (fr', c', h') → Grown p c h c' h'
  | [], _, _, _, _, _, _, _, _, _, hx => by
    simp only [runDraw] at hx
    split at hx
    · simp only [Option.some.injEq, Prod.mk.injEq] at hx
      obtain ⟨rfl, rfl, rfl⟩ := hx
      exact .refl _ _ _
    · cases hx
  | o :: os, i, ls, hs, fr, fr', c, c', h, h', hx => by
    simp only [runDraw] at hx
    split at hx
    · simp only [Option.bind_eq_some_iff, Prod.exists] at hx
      obtain ⟨fr1, c1, h1, h2, h3⟩ := hx
      exact (stepA_dom hcl h2).trans (runDraw_dom hcl os h3)
    · exact runDraw_dom hcl os hx
    · cases hx

theorem exec_dom {f m : Nat} (hcl : DomOK cl) : ∀ (code : Code) {fr fr' : Fr} {c c' : Nat} {h h' : Heap} {e : Ex}, exec E cl f p m code fr c h = some (e, fr', c', h') → Grown p c h c' h' := by
  intro code
  induction code with
  | skip =>
    intro fr fr' c c' h h' e hx
    simp only [exec, Option.some.injEq, Prod.mk.injEq] at hx
    obtain ⟨rfl, rfl, rfl, rfl⟩ := hx
    exact .refl _ _ _
  | region id ops draw =>
    intro fr fr' c c' h h' e hx
    simp only [exec, Option.map_eq_some_iff, Prod.mk.injEq, Prod.exists] at hx
    obtain ⟨fr1, c1, h1, hx, rfl, rfl, rfl, rfl⟩ := hx
    cases draw with
    | false => exact runOps_dom hcl _ hx
    | true =>
      simp only at hx
      split at hx
      · exact runOps_dom hcl _ hx
      · exact runDraw_dom hcl _ hx
      · cases hx
  | seq x y ihx ihy =>
    intro fr fr' c c' h h' e hx
    simp only [exec, Option.bind_eq_some_iff, Prod.exists] at hx
    obtain ⟨e1, fr1, c1, h1, hx1, hx2⟩ := hx
    have g1 := ihx hx1
    cases e1 with
    | normal => exact g1.trans (ihy hx2)
    | exit i =>
      simp only [Option.some.injEq, Prod.mk.injEq] at hx2
      obtain ⟨rfl, rfl, rfl, rfl⟩ := hx2
      exact g1
    | ret =>
      simp only [Option.some.injEq, Prod.mk.injEq] at hx2
      obtain ⟨rfl, rfl, rfl, rfl⟩ := hx2
      exact g1
  | cond x y z ihy ihz =>
    intro fr fr' c c' h h' e hx
    simp only [exec] at hx
    split at hx
    · split at hx
      · exact ihy hx
      · exact ihz hx
    · cases hx
  | block id x ihx =>
    intro fr fr' c c' h h' e hx
    simp only [exec, Option.map_eq_some_iff, Prod.mk.injEq, Prod.exists] at hx
    obtain ⟨e1, fr1, c1, h1, hx1, rfl, rfl, rfl, rfl⟩ := hx
    exact ihx hx1
  | loop x ihx =>
    intro fr fr' c c' h h' e hx
    simp only [exec] at hx
    have key : ∀ (n : Nat) {c1 : Nat} {fr : Fr} {h1 : Heap}, iter p (E.live f x.key) (exec E cl f p m x) (loop0 (E.keepL f) c) n fr c1 h1 = some (e, fr', c', h') → Grown p c1 h1 c' h' := by
      intro n
      induction n with
      | zero => intro c1 fr h1 hx; simp [iter] at hx
      | succ n ih =>
        intro c1 fr h1 hx
        simp only [iter, Option.bind_eq_some_iff, Prod.exists] at hx
        obtain ⟨e1, fr1, c2, h2, hx1, hx2⟩ := hx
        have g1 := (ihx hx1)
        cases e1 with
        | normal =>
          simp only at hx2
          exact (g1.drop p _).trans (ih hx2)
        | exit i =>
          simp only [Option.some.injEq, Prod.mk.injEq] at hx2
          obtain ⟨rfl, rfl, rfl, rfl⟩ := hx2
          exact g1.drop p _
        | ret =>
          simp only [Option.some.injEq, Prod.mk.injEq] at hx2
          obtain ⟨rfl, rfl, rfl, rfl⟩ := hx2
          exact g1.drop p _
    exact key m hx
  | exit id =>
    intro fr fr' c c' h h' e hx
    simp only [exec, Option.some.injEq, Prod.mk.injEq] at hx
    obtain ⟨rfl, rfl, rfl, rfl⟩ := hx
    exact .refl _ _ _
  | ret =>
    intro fr fr' c c' h h' e hx
    simp only [exec, Option.some.injEq, Prod.mk.injEq] at hx
    obtain ⟨rfl, rfl, rfl, rfl⟩ := hx
    exact .refl _ _ _
  | _ => intro fr fr' c c' h h' e hx; simp [exec] at hx

def PrimDom (g : Id → List A → Heap → Option (A × Heap)) : Prop := ∀ q args h v h', g q args h = some (v, h') → ∀ id, h' id ≠ none → h id ≠ none ∨ underB q 0 id = true

theorem call_dom (hE : ∀ f g, E.prim f = some g → PrimDom g) : ∀ n, DomOK (call E n)
  | 0 => by intro q f args h v h' hc; simp [call] at hc
  | n + 1 => by
    intro q f args h v h' hc
    simp only [call] at hc
    split at hc
    · rename_i g hg
      exact hE f g hg q args h v h' hc
    · simp only [Option.bind_eq_some_iff, Prod.exists] at hc
      obtain ⟨fn, hfn, code, hcode, e, fr, c', h1, hx, hc⟩ := hc
      have hg := exec_dom (call_dom hE n) code hx
      have fin : (fn.results.toList.mapM (resA E.P fr h1)).map (fun vs => ((outA vs).outK E.feed, if E.keep f = true then h1 else dropFrom q 0 h1)) = some (v, h') → ∀ id, h' id ≠ none → h id ≠ none ∨ underB q 0 id = true := by
        intro hres id hi
        simp only [Option.map_eq_some_iff, Prod.mk.injEq] at hres
        obtain ⟨rs, hrs, rfl, rfl⟩ := hres
        have : h1 id ≠ none := by
          split at hi
          · exact hi
          · intro e; apply hi; simp [dropFrom, e]
        rcases hg.2 id this with h2 | ⟨k, h2, h3, h4⟩
        · exact .inl h2
        · exact .inr (underB_of_suffix h2 h4)
      cases e with
      | exit i => simp at hc
      | normal => exact fin hc
      | ret => exact fin hc
end
end Go.Ai

/- Statements: the evaluator's answer is the model's. -/
namespace Go.Ai
open Go.RowKit

/-- a region whose order is drawn may be looked at in the text's order: a check of the operations alone -/
def DrawnOK (E : Env) (B : Nat) (w0 : World) (ops : Array Oper) (ps : List (Nat × Nat)) : Prop :=
  ∀ (cl : Id → Nat → List A → Heap → Option (A × Heap)) (p : Id) (nt id : Nat) (G : Ghost) (O : Own) (fr : Fr) (c : Nat) (h : Heap) (a : Act) (w : World) (fr' : Fr) (c' : Nat) (h' : Heap) (Q : Exit → Act → World → Prop),
    ClOK E.P B w0 cl → DomOK cl → (∀ o ∈ ops.toList, ∀ x, o.dst = some x → x < nt) → SR X0 B w0 p nt G O fr c h a w →
    (match ps with | [] => runOps E cl p ops.toList ops.toList fr c h | ps => runDraw E cl p ops.toList ps ops.toList 0 [] [] fr c h) = some (fr', c', h') →
    (∀ a' w', Later X0 B w0 p nt c G O w fr' c' h' a' w' → Q .normal a' w') → (Code.region id ops true).wp E.P Q a w

/-- what is asked of a function's text -/
def Code.Good (E : Env) (B : Nat) (w0 : World) (f nt : Nat) : Code → Prop
  | .region id ops draw => (∀ o ∈ ops.toList, ∀ x, o.dst = some x → x < nt) ∧ (draw = true → ∀ ps, E.draw f id = some ps → DrawnOK E B w0 ops ps)
  | .seq a b => Code.Good E B w0 f nt a ∧ Code.Good E B w0 f nt b
  | .cond _ a b => Code.Good E B w0 f nt a ∧ Code.Good E B w0 f nt b
  | .block _ a => Code.Good E B w0 f nt a
  | .loop a => Code.Good E B w0 f nt a
  | _ => True

section
variable {E : Env} {cl : Id → Nat → List A → Heap → Option (A × Heap)} {B : Nat} {w0 : World} {f : Nat} {p : Id} {nt : Nat}

def Done (B : Nat) (w0 : World) (p : Id) (nt c : Nat) (G : Ghost) (O : Own) (w : World) (e : Ex) (fr' : Fr) (c' : Nat) (h' : Heap) : Exit → Act → World → Prop :=
  fun e' a' w' => e' = e.as ∧ Later X0 B w0 p nt c G O w fr' c' h' a' w'

theorem trim_or (L : List Nat) (fr : Fr) (t : Nat) : trim L fr t = fr t ∨ trim L fr t = .top := by
  induction L with
  | nil => exact .inr rfl
  | cons x xs ih =>
    simp only [trim, Fr.set]
    split
    · rename_i e; subst e; exact .inl rfl
    · exact ih
theorem SR.trimmed {X : Nat → Prop} {G : Ghost} {O : Own} {fr : Fr} {c : Nat} {h : Heap} {a : Act} {w : World} (hs : SR X B w0 p nt G O fr c h a w) (L : List Nat) : SR X B w0 p nt G O (trim L fr) c h a w :=
  ⟨⟨hs.fr.size, fun t => by
    rcases trim_or L fr t with e | e
    · rw [e]; exact hs.fr.val t
    · rw [e]; exact ⟨.top, by intro xs s b o n cap e1; cases e1⟩⟩, hs.r, hs.fresh, hs.defers⟩

theorem Later.trans {c c1 c2 : Nat} {G G1 : Ghost} {O O1 : Own} {w w1 w2 : World} {fr2 : Fr} {h2 : Heap} {a2 : Act} (hm : Mv p c G O w c1 G1 O1 w1) (h : Later X0 B w0 p nt c1 G1 O1 w1 fr2 c2 h2 a2 w2) :
    Later X0 B w0 p nt c G O w fr2 c2 h2 a2 w2 := by
  obtain ⟨G2, O2, hs, hm2⟩ := h
  exact ⟨G2, O2, hs, hm.trans hm2⟩

theorem exec_ok (hcl : ClOK E.P B w0 cl) (hdom : DomOK cl) (m : Nat) : ∀ (code : Code), Code.Good E B w0 f nt code → ∀ (fr : Fr) (c : Nat) (h : Heap) (G : Ghost) (O : Own) (a : Act) (w : World) (e : Ex) (fr' : Fr) (c' : Nat) (h' : Heap),
    exec E cl f p m code fr c h = some (e, fr', c', h') → SR X0 B w0 p nt G O fr c h a w → code.wp E.P (Done B w0 p nt c G O w e fr' c' h') a w := by
  intro code
  induction code with
  | skip =>
    intro _ fr c h G O a w e fr' c' h' hx hs
    simp only [exec, Option.some.injEq, Prod.mk.injEq] at hx
    obtain ⟨rfl, rfl, rfl, rfl⟩ := hx
    exact wp_skip ⟨rfl, G, O, hs, .refl _ _ _ _ _⟩
  | region id ops draw =>
    intro hg fr c h G O a w e fr' c' h' hx hs
    obtain ⟨hd, hdraw⟩ := hg
    simp only [exec, Option.map_eq_some_iff, Prod.mk.injEq, Prod.exists] at hx
    obtain ⟨fr1, c1, h1, hx, rfl, rfl, rfl, rfl⟩ := hx
    cases draw with
    | false =>
      simp only at hx
      refine wp_region ?_
      have := runOps_ok (Q := Done B w0 p nt c G O w .normal fr1 c1 h1) hcl hd ops.toList 0 fr c h G O a w fr1 c1 h1 rfl hs hx (fun a' w' hl => ⟨rfl, hl⟩)
      rwa [show List.range ops.size = List.range' 0 ops.toList.length by rw [List.range_eq_range']; simp]
    | true =>
      simp only at hx
      split at hx
      · rename_i hps
        exact hdraw rfl [] hps cl p nt id G O fr c h a w fr1 c1 h1 _ hcl hdom hd hs hx (fun a' w' hl => ⟨rfl, hl⟩)
      · rename_i ps hne hps
        refine hdraw rfl ps hps cl p nt id G O fr c h a w fr1 c1 h1 _ hcl hdom hd hs ?_ (fun a' w' hl => ⟨rfl, hl⟩)
        cases ps with
        | nil => exact absurd rfl hne
        | cons q qs => exact hx
      · cases hx
  | seq x y ihx ihy =>
    intro hg fr c h G O a w e fr' c' h' hx hs
    obtain ⟨hgx, hgy⟩ := hg
    simp only [exec, Option.bind_eq_some_iff, Prod.exists] at hx
    obtain ⟨e1, fr1, c1, h1, hx1, hx2⟩ := hx
    refine wp_seq (wp_mono (ihx hgx fr c h G O a w e1 fr1 c1 h1 hx1 hs) ?_)
    rintro e' a' w' ⟨rfl, G1, O1, hs1, hm1⟩
    cases e1 with
    | normal =>
      simp only at hx2
      refine wp_mono (ihy hgy fr1 c1 h1 G1 O1 a' w' e fr' c' h' hx2 hs1) ?_
      rintro e2 a2 w2 ⟨rfl, hl⟩
      exact ⟨rfl, hl.trans hm1⟩
    | exit i =>
      simp only [Option.some.injEq, Prod.mk.injEq] at hx2
      obtain ⟨rfl, rfl, rfl, rfl⟩ := hx2
      exact ⟨rfl, G1, O1, hs1, hm1⟩
    | ret =>
      simp only [Option.some.injEq, Prod.mk.injEq] at hx2
      obtain ⟨rfl, rfl, rfl, rfl⟩ := hx2
      exact ⟨rfl, G1, O1, hs1, hm1⟩
  | cond x y z ihy ihz =>
    intro hg fr c h G O a w e fr' c' h' hx hs
    obtain ⟨hgy, hgz⟩ := hg
    simp only [exec] at hx
    split at hx
    · rename_i t ht
      have hV := V.bool_inv (V.ev hs.fr.V ht)
      refine wp_cond hV ?_
      cases t with
      | true => exact ihy hgy fr c h G O a w e fr' c' h' hx hs
      | false => exact ihz hgz fr c h G O a w e fr' c' h' hx hs
    · cases hx
  | block id x ihx =>
    intro hg fr c h G O a w e fr' c' h' hx hs
    simp only [exec, Option.map_eq_some_iff, Prod.mk.injEq, Prod.exists] at hx
    obtain ⟨e1, fr1, c1, h1, hx1, rfl, rfl, rfl, rfl⟩ := hx
    refine wp_block (wp_mono (ihx hg fr c h G O a w e1 fr1 c1 h1 hx1 hs) ?_)
    rintro e' a' w' ⟨rfl, hl⟩
    cases e1 with
    | normal => exact ⟨rfl, hl⟩
    | exit i =>
      simp only [Ex.as, Exit.inBlock]
      split
      · exact ⟨by simp [*, Ex.as], hl⟩
      · exact ⟨by simp [*, Ex.as], hl⟩
    | ret => exact ⟨rfl, hl⟩
  | loop x ihx =>
    intro hg fr c h G O a w e fr' c' h' hx hs
    simp only [exec] at hx
    refine wp_loop_rounds m ?_
    have key : ∀ (n : Nat) (fr : Fr) (c1 : Nat) (h : Heap) (G1 : Ghost) (O1 : Own) (a : Act) (w1 : World), iter p (E.live f x.key) (exec E cl f p m x) (loop0 (E.keepL f) c) n fr c1 h = some (e, fr', c', h') → SR X0 B w0 p nt G1 O1 fr c1 h a w1 → Mv p c G O w c1 G1 O1 w1 →
        Code.rounds E.P x (Done B w0 p nt c G O w e fr' c' h') n a w1 := by
      intro n
      induction n with
      | zero => intro fr c1 h G1 O1 a w1 hx; simp [iter] at hx
      | succ n ih =>
        intro fr c1 h G1 O1 a w1 hx hs hm
        simp only [iter, Option.bind_eq_some_iff, Prod.exists] at hx
        obtain ⟨e1, fr1, c2, h1, hx1, hx2⟩ := hx
        rw [rounds_succ]
        refine wp_mono (ihx hg fr c1 h G1 O1 a w1 e1 fr1 c2 h1 hx1 hs) ?_
        rintro e' a' w' ⟨rfl, G2, O2, hs2, hm2⟩
        cases e1 with
        | normal =>
          simp only at hx2
          exact ih _ c2 _ G2 O2 a' w' hx2 (drop_sr (hs2.trimmed _) _) (hm.trans hm2)
        | exit i =>
          simp only [Option.some.injEq, Prod.mk.injEq] at hx2
          obtain ⟨rfl, rfl, rfl, rfl⟩ := hx2
          exact ⟨rfl, G2, O2, drop_sr (hs2.trimmed _) _, hm.trans hm2⟩
        | ret =>
          simp only [Option.some.injEq, Prod.mk.injEq] at hx2
          obtain ⟨rfl, rfl, rfl, rfl⟩ := hx2
          exact ⟨rfl, G2, O2, drop_sr (hs2.trimmed _) _, hm.trans hm2⟩
    exact key m _ c h G O a w hx (hs.trimmed _) (.refl _ _ _ _ _)
  | exit id =>
    intro _ fr c h G O a w e fr' c' h' hx hs
    simp only [exec, Option.some.injEq, Prod.mk.injEq] at hx
    obtain ⟨rfl, rfl, rfl, rfl⟩ := hx
    exact wp_exit ⟨rfl, G, O, hs, .refl _ _ _ _ _⟩
  | ret =>
    intro _ fr c h G O a w e fr' c' h' hx hs
    simp only [exec, Option.some.injEq, Prod.mk.injEq] at hx
    obtain ⟨rfl, rfl, rfl, rfl⟩ := hx
    exact wp_ret ⟨rfl, G, O, hs, .refl _ _ _ _ _⟩
  | _ => intro _ fr c h G O a w e fr' c' h' hx hs; simp [exec] at hx
end
end Go.Ai

/- Calls: the evaluator's answer is the model's. -/
namespace Go.Ai
open Go.RowKit

/-- what is asked of one function's own law -/
def PrimOK (P : Program) (B : Nat) (w0 : World) (f : Nat) (g : Id → List A → Heap → Option (A × Heap)) : Prop :=
  ∀ q args h v h', g q args h = some (v, h') → Enters P f ∧ v.free ∧ ∀ G O w vs, (∀ x ∈ args, x.free) → VF G args vs → R B w0 G O h w → Fresh G q 0 →
    Calls P f ⟨vs⟩ w fun e w' => ∃ z G' O', e = .returned z ∧ V G' v z ∧ R B w0 G' O' h' w' ∧ MvC q G O w G' O' w'

structure EnvOK (E : Env) (B : Nat) (w0 : World) : Prop where
  dom : ∀ (f : Nat) g, E.prim f = some g → PrimDom g
  prim : ∀ (f : Nat) g, E.prim f = some g → PrimOK E.P B w0 f g
  name : ∀ (f : Nat) (fn : Func), E.P.funcs[f]? = some fn → (fn.name == "runtime.NumGoroutine") = false
  good : ∀ (f : Nat) (fn : Func) (code : Code), E.P.funcs[f]? = some fn → fn.body = some code → Code.Good E B w0 f fn.ntmps code

theorem enters_of {P : Program} {f : Nat} {fn : Func} {code : Code} (hf : P.funcs[f]? = some fn) (hb : fn.body = some code) (hn : (fn.name == "runtime.NumGoroutine") = false) : Enters P f := by
  intro args w
  simp only [callFunc, Sem.run_bind, run_program, Result.andThen_ok, hf]
  rw [hn]
  simp [hb]

def resSem (tm : Array Value) : ResultVar → Sem Value
  | .tmp t => pure (tm.getD t undef)
  | .cell a t => do loadVar t (← asAddr (tm.getD a undef))
theorem results_eq (fn : Func) (tm : Array Value) : results fn tm = (do let vs ← fn.results.mapM (resSem tm); pure (if h : vs.size = 1 then vs[0] else .tuple vs)) := by
  unfold results
  have : ∀ g : ResultVar → Sem Value, (∀ r, g r = resSem tm r) → (do let vs ← fn.results.mapM g; pure (if h : vs.size = 1 then vs[0] else .tuple vs) : Sem Value) = (do let vs ← fn.results.mapM (resSem tm); pure (if h : vs.size = 1 then vs[0] else .tuple vs)) := by
    intro g hg
    rw [show g = resSem tm from funext hg]
  exact this _ (fun r => by cases r <;> rfl)

theorem resA_ok {P : Program} {B : Nat} {w0 w : World} {G : Ghost} {O : Own} {h : Heap} {p : Id} {nt : Nat} {fr : Fr} {tm : Array Value} (hr : R B w0 G O h w) (hf : FR p nt G O w fr tm) {r : ResultVar} {v : A} (hv : resA P fr h r = some v) :
    ∃ z, (resSem tm r).run P w = .ok z w ∧ V G v z := by
  cases r with
  | tmp t =>
    simp only [resA, Option.some.injEq] at hv; subst hv
    exact ⟨_, rfl, hf.V t⟩
  | cell x t =>
    simp only [resA] at hv
    obtain ⟨z, h1, h2⟩ := loadA_ok (P := P) hr hv (hf.V x)
    refine ⟨z, ?_, h2⟩
    have hV := hf.V x
    simp only [Instr.loadAt, Sem.run_bind, resSem] at h1 ⊢
    generalize tm.getD x undef = xv at h1 hV ⊢
    cases xv with
    | pointer q =>
      cases q with
      | none => simp [Instr.sureAddr] at h1
      | some q => simpa [Instr.sureAddr, asAddr] using h1
    | _ => simp [Instr.sureAddr] at h1

theorem results_ok {P : Program} {B : Nat} {w0 w : World} {G : Ghost} {O : Own} {h : Heap} {p : Id} {nt : Nat} {fr : Fr} {tm : Array Value} (hr : R B w0 G O h w) (hf : FR p nt G O w fr tm) :
    ∀ {rs : List ResultVar} {vs : List A}, rs.mapM (resA P fr h) = some vs →
      ∃ zs, (rs.mapM (resSem tm)).run P w = .ok zs w ∧ VF G vs zs
  | [], vs, hv => by simp at hv; subst hv; exact ⟨[], by simp, .nil⟩
  | r :: rs, vs, hv => by
    simp only [List.mapM_cons, Option.bind_eq_bind, Option.bind_eq_some_iff, Option.pure_def, Option.some.injEq] at hv
    obtain ⟨u, hu, us', hus, rfl⟩ := hv
    obtain ⟨z, h1, h2⟩ := resA_ok (P := P) hr hf hu
    obtain ⟨zs, h3, h4⟩ := results_ok hr hf hus
    refine ⟨z :: zs, ?_, .cons h2 h4⟩
    simp only [List.mapM_cons, Sem.run_bind, h1, Result.andThen_ok, h3, Sem.run_pure]

theorem outA_ok {G : Ghost} {vs : List A} {zs : List Value} (h : VF G vs zs) : V G (outA vs) (if h : zs.toArray.size = 1 then zs.toArray[0] else .tuple zs.toArray) := by
  cases h with
  | nil => exact .tuple .nil
  | cons hv hs =>
    cases hs with
    | nil => exact hv
    | cons hv2 hs => exact .tuple (.cons hv (.cons hv2 hs))

theorem initFr_ok {p : Id} {nt : Nat} {G : Ghost} {O : Own} {w : World} {args : List A} {vs : List Value} (hfree : ∀ x ∈ args, x.free) (hv : VF G args vs) :
    FR p nt G O w (initFr args) ((⟨vs⟩ : Array Value) ++ Array.replicate (nt - (⟨vs⟩ : Array Value).size) undef) := by
  refine ⟨by simp; omega, fun t => ?_⟩
  have hl := hv.length
  unfold initFr
  by_cases ht : t < args.length
  · obtain ⟨v, h1, h2⟩ := hv.get t args[t] (List.getElem?_eq_getElem ht)
    have e1 : args.getD t .top = args[t] := by simp [List.getD, List.getElem?_eq_getElem ht]
    have e2 : ((⟨vs⟩ : Array Value) ++ Array.replicate (nt - (⟨vs⟩ : Array Value).size) undef).getD t undef = v := by
      rw [Array.getD_eq_getD_getElem?, Array.getElem?_append_left (by simp; omega)]
      simp [h1]
    rw [e1, e2]
    exact ⟨h2, Room.free (hfree _ (List.getElem_mem ht))⟩
  · have e1 : args.getD t .top = .top := by simp [List.getD, List.getElem?_eq_none (Nat.le_of_not_lt ht)]
    rw [e1]
    exact ⟨.top, Room.free (by intro xs s e; cases e)⟩

theorem call_ok {E : Env} {B : Nat} {w0 : World} (hE : EnvOK E B w0) : ∀ n, ClOK E.P B w0 (call E n)
  | 0 => by intro q f args h v h' hc; simp [call] at hc
  | n + 1 => by
    intro q f args h v h' hc
    simp only [call] at hc
    split at hc
    · rename_i g hg
      exact hE.prim f g hg q args h v h' hc
    · simp only [Option.bind_eq_some_iff, Prod.exists] at hc
      obtain ⟨fn, hfn, code, hcode, e, fr, c', h1, hx, hc⟩ := hc
      have hen := enters_of hfn hcode (hE.name f fn hfn)
      have fin : e.as = .normal ∨ e.as = .ret → (fn.results.toList.mapM (resA E.P fr h1)).map (fun vs => ((outA vs).outK E.feed, if E.keep f = true then h1 else dropFrom q 0 h1)) = some (v, h') →
          Enters E.P f ∧ v.free ∧ ∀ G O w vs, (∀ x ∈ args, x.free) → VF G args vs → R B w0 G O h w → Fresh G q 0 →
            Calls E.P f ⟨vs⟩ w fun e w' => ∃ z G' O', e = .returned z ∧ V G' v z ∧ R B w0 G' O' h' w' ∧ MvC q G O w G' O' w' := by
        intro he hres
        simp only [Option.map_eq_some_iff, Prod.mk.injEq] at hres
        obtain ⟨rs, hrs, rfl, rfl⟩ := hres
        refine ⟨hen, outK_free _ _, ?_⟩
        intro G O w vs hfree hvs hr hfresh
        refine calls_of_wp hfn hcode ?_
        have hs : SR X0 B w0 q fn.ntmps G O (initFr args) 0 h { tmps := (⟨vs⟩ : Array Value) ++ Array.replicate (fn.ntmps - (⟨vs⟩ : Array Value).size) undef, defers := [] } w :=
          ⟨initFr_ok hfree hvs, hr, fun i hi _ => hfresh i hi, rfl⟩
        refine wp_mono (exec_ok (call_ok hE n) (call_dom hE.dom n) n code (hE.good f fn code hfn hcode) _ _ _ G O _ w e fr c' h1 hx hs) ?_
        rintro e' a' w' ⟨rfl, G', O', hs', hm⟩
        obtain ⟨zs, hz, hV⟩ := results_ok (P := E.P) hs'.r hs'.fr hrs
        have hres : (results fn a'.tmps).run E.P w' = .ok (if h : zs.toArray.size = 1 then zs.toArray[0] else .tuple zs.toArray) w' := by
          rw [results_eq, ← Array.toArray_toList (xs := fn.results), List.mapM_toArray]
          simp [hz]
        have post : ∃ v, (results fn a'.tmps).run E.P w' = .ok v w' ∧ (∃ z G' O', Ending.returned v = .returned z ∧ V G' ((outA rs).outK E.feed) z ∧ R B w0 G' O' (if E.keep f = true then h1 else dropFrom q 0 h1) w' ∧ MvC q G O w G' O' w') := by
          refine ⟨_, hres, _, G', O', rfl, (outA_ok hV).outK _, ?_, ⟨hm.le, hm.keeps, fun i hi => hm.ids i (fun k _ _ hsf => by rw [underB_of_suffix (Nat.zero_le k) hsf] at hi; cases hi)⟩⟩
          split
          · exact hs'.r
          · exact drop_r hs'.r q 0
        rcases he with he | he <;> rw [he] <;> exact ⟨hs'.defers, post⟩
      cases e with
      | exit i => simp at hc
      | normal => exact fin (.inl rfl) hc
      | ret => exact fin (.inr rfl) hc
end Go.Ai

