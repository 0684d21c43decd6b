/- Part KP of the proof that a law of this program answers yes at every input: no conditions beyond the given statement. -/
import Derived.Test.YtceklkdnejcanaaGreatDoorKM
set_option linter.unusedSimpArgs false
set_option linter.unusedVariables false
set_option linter.all false
namespace Go.Ai
def fieldsO (s : List UInt8) (d : Int) : Option (List Rec) := if d < 0 then none else match allE s d 0 with
 | .ok rs => some rs
 | .error _ => none
theorem fieldsO_iff {s : List UInt8} {d : Int} {rs : List Rec} : fieldsO s d = some rs ↔ 0 ≤ d ∧ (∀ r ∈ rs, RecOK d r) ∧ s = rawsR rs := by
 unfold fieldsO
 constructor
 ·intro h
  split at h
  ·cases h
  ·split at h
   ·rename_i rs' hv
    cases h
    exact ⟨by omega, allE_iff.1 hv⟩
   ·cases h
 ·rintro ⟨h0, h1⟩
  rw [if_neg (by omega), allE_iff.2 h1]
theorem fieldsO_join {s t : List UInt8} {d : Int} {rs rt : List Rec} (hs : fieldsO s d = some rs) (ht : fieldsO t d = some rt) : fieldsO (s ++ t) d = some (rs ++ rt) := by
 rw [fieldsO_iff] at *
 refine ⟨hs.1, fun r hr => ?_, by rw [hs.2.2, ht.2.2, rawsR_append]⟩
 rcases List.mem_append.1 hr with h | h
 ·exact hs.2.1 r h
 ·exact ht.2.1 r h
theorem fieldsO_pre {d : Int} (hd : 0 ≤ d) {r : Rec} (hr : RecOK d r) (s : List UInt8) : fieldsO (r.raw ++ s) d = (fieldsO s d).map (r :: ·) := by
 have hrec : recE (r.raw ++ s) d 0 = .ok (r, 0 + r.raw.length) := by
  refine recE_seg (s := r.raw) (p := 0) (k := r.raw.length) (by rw [Nat.zero_add]; exact hr) ⟨by simp, by omega, by simp⟩ (Int.le_refl d)
 rw [Nat.zero_add] at hrec
 unfold fieldsO
 rw [if_neg (by omega), if_neg (by omega), allE_ok hrec]
 cases hs : allE s d 0 with
 | ok rs =>
  obtain ⟨h1, h2⟩ := allE_iff.1 hs
  rw [h2, allE_of rs h1 r.raw]; rfl
 | error e =>
  cases hx : allE (r.raw ++ s) d r.raw.length with
  | error e' => rfl
  | ok rs =>
   obtain ⟨h1, h2⟩ := allE_recs r.raw.length (by simp) rs hx
   rw [List.drop_left] at h2
   rw [allE_iff.2 ⟨h1, h2⟩] at hs
   cases hs
theorem fieldsO_suf {d : Int} {s : List UInt8} {rs : List Rec} (hs : fieldsO s d = some rs) {r : Rec} (hr : RecOK d r) : fieldsO (s ++ r.raw) d = some (rs ++ [r]) :=
 fieldsO_join hs (fieldsO_iff.2 ⟨(fieldsO_iff.1 hs).1, by simpa using hr, by simp⟩)
theorem allE_then {d : Int} {w : List UInt8} {e : Err} : ∀ (rs : List Rec), (∀ r ∈ rs, RecOK d r) → ∀ pre : List UInt8, w ≠ [] → recE (pre ++ rawsR rs ++ w) d (pre ++ rawsR rs).length = .error e → allE (pre ++ rawsR rs ++ w) d pre.length = .error e
 | [], _, pre, hw, h => by
  simp only [rawsR_nil, List.append_nil] at h ⊢
  refine allE_err ?_ h
  have := List.length_pos_iff.2 hw
  simp; omega
 | r :: rs, hr, pre, hw, h => by
  have hrec : recE (pre ++ rawsR (r :: rs) ++ w) d pre.length = .ok (r, pre.length + r.raw.length) :=
   recE_seg (s := r.raw) (p := 0) (k := r.raw.length) (by rw [Nat.zero_add]; exact hr r (by simp)) ⟨by simp, by omega, by simp⟩ (Int.le_refl d)
  rw [allE_ok hrec]
  have i := allE_then rs (fun x hx => hr x (by simp [hx])) (pre ++ r.raw) hw (by
   rw [rawsR_cons] at h
   simp only [List.append_assoc] at h ⊢
   exact h)
  rw [rawsR_cons]
  simp only [List.append_assoc, List.length_append] at i ⊢
  rw [i]; rfl
theorem read_then {d : Int} {s w : List UInt8} {rs : List Rec} {e : Err} {t : Nat → Nat → Bool} (hs : fieldsO s d = some rs) (hw : w ≠ []) (h : recE (s ++ w) d s.length = .error e) : (readE (s ++ w) d t).err = some e := by
 obtain ⟨h0, h1, rfl⟩ := fieldsO_iff.1 hs
 have := allE_then rs h1 [] hw (by simpa using h)
 simp only [List.nil_append, List.length_nil] at this
 unfold readE
 rw [if_neg (by omega), this]
def f32R (num : Nat) (b : List UInt8) : Rec := ⟨num, 5, leN b, [], tagB num 5 ++ b⟩
theorem f32R_ok {d : Int} {num : Nat} {b : List UInt8} (h1 : 1 ≤ num) (h2 : num ≤ 536870911) (hb : b.length = 4) : RecOK d (f32R num b) := by
 unfold RecOK recE
 simp only [f32R]
 rw [tagE_put h1 h2 (by omega)]
 dsimp only
 have := takeE_put (tagB num 5) b []
 rw [List.append_nil, hb] at this
 rw [bodyE, if_neg (by omega), if_neg (by omega), if_pos rfl, this]
 simp [Except.map, List.take_of_length_le, hb]
def groupB (num : Nat) (u : List UInt8) : List UInt8 := tagB num 3 ++ (u ++ tagB num 4)
def groupR (num : Nat) (u : List UInt8) : Rec := ⟨num, 3, 0, [], groupB num u⟩
theorem tagE_at {num kind : Nat} (h1 : 1 ≤ num) (h2 : num ≤ 536870911) (h3 : kind < 8) (pre t : List UInt8) : tagE (pre ++ (tagB num kind ++ t)) pre.length = .ok (num, kind, pre.length + (tagB num kind).length) := by
 have := tagE_put h1 h2 h3 t
 have h := tagE_seg (s' := pre ++ (tagB num kind ++ t)) (p := 0) (p' := pre.length) (k := (tagB num kind).length) (by rw [Nat.zero_add]; exact this) ⟨by simp, by simp, by simp⟩
 exact h
theorem loopE_of {d : Int} {num : Nat} (h1 : 1 ≤ num) (h2 : num ≤ 536870911) : ∀ (rs : List Rec), (∀ r ∈ rs, RecOK d r ∧ r.kind ≠ 4) → ∀ (pre t : List UInt8), loopE (pre ++ (rawsR rs ++ (tagB num 4 ++ t))) d num pre.length = .ok (pre.length + (rawsR rs).length + (tagB num 4).length)
 | [], _, pre, t => by
  rw [rawsR_nil, List.nil_append, loopE_ok (tagE_at h1 h2 (by omega) pre t), if_pos rfl, if_pos rfl]; simp
 | r :: rs, hr, pre, t => by
  obtain ⟨hrk, hk4⟩ := hr r (by simp)
  have hrec : recE (pre ++ (rawsR (r :: rs) ++ (tagB num 4 ++ t))) d pre.length = .ok (r, pre.length + r.raw.length) :=
   recE_seg (s := r.raw) (p := 0) (k := r.raw.length) (by rw [Nat.zero_add]; exact hrk) ⟨by simp, by omega, by simp⟩ (Int.le_refl d)
  have b := recE_lt hrec
  unfold recE at hrec
  cases ht : tagE (pre ++ (rawsR (r :: rs) ++ (tagB num 4 ++ t))) pre.length with
  | error x => rw [ht] at hrec; cases hrec
  | ok x =>
   obtain ⟨n', kind, q⟩ := x
   rw [ht] at hrec
   dsimp only at hrec
   obtain ⟨⟨n, bs, e'⟩, hb, h3⟩ := map_ok hrec
   simp only [Prod.mk.injEq] at h3
   obtain ⟨h3, rfl⟩ := h3
   have hkind : r.kind = kind := by rw [← h3]
   rw [loopE_ok ht, if_neg (by omega), hb]
   dsimp only
   rw [if_pos b.1]
   have i := loopE_of h1 h2 rs (fun x hx => hr x (by simp [hx])) (pre ++ r.raw) t
   rw [rawsR_cons]
   simp only [List.append_assoc, List.length_append] at i ⊢
   rw [i]
   congr 1; omega
theorem groupR_ok {d : Int} (hd : 1 ≤ d) {num : Nat} (h1 : 1 ≤ num) (h2 : num ≤ 536870911) {rs : List Rec} (hr : ∀ r ∈ rs, RecOK (d - 1) r ∧ r.kind ≠ 4) : RecOK d (groupR num (rawsR rs)) := by
 unfold RecOK recE
 simp only [groupR, groupB]
 rw [tagE_put h1 h2 (by omega)]
 dsimp only
 have := loopE_of h1 h2 rs hr (tagB num 3) []
 rw [List.append_nil] at this
 rw [bodyE, if_neg (by omega), if_neg (by omega), if_neg (by omega), if_neg (by omega), if_pos rfl, groupE, if_neg (by omega), this]
 simp [Except.map, Nat.add_assoc, List.take_of_length_le]
def nest : Nat → List UInt8
 | 0 => []
 | k + 1 => groupB 90 (nest k)
theorem nest_ok : ∀ (k : Nat) (d : Int), (k : Int) ≤ d → ∃ rs, nest k = rawsR rs ∧ (∀ r ∈ rs, RecOK d r ∧ r.kind = 3 ∧ r.num = 90) ∧ rs.length ≤ 1
 | 0, d, _ => ⟨[], rfl, by simp, by simp⟩
 | k + 1, d, h => by
  obtain ⟨rs, e, hr, _⟩ := nest_ok k (d - 1) (by omega)
  refine ⟨[groupR 90 (rawsR rs)], by simp [nest, groupR, e], ?_, by simp⟩
  intro r hr'
  simp only [List.mem_singleton] at hr'
  subst hr'
  exact ⟨groupR_ok (by omega) (by omega) (by omega) fun x hx => ⟨(hr x hx).1, by rw [(hr x hx).2.1]; omega⟩, rfl, rfl⟩
theorem nest_len : ∀ k, (nest k).length ≤ 4 * k
 | 0 => by simp [nest]
 | k + 1 => by
  have := nest_len k
  have h3 : (tagB 90 3).length = 2 := by decide +kernel
  have h4 : (tagB 90 4).length = 2 := by decide +kernel
  simp only [nest, groupB, List.length_append, h3, h4]; omega
theorem deep_err : ∀ (k : Nat) (num t : Nat) (pre w : List UInt8), ∃ e, bodyE (pre ++ (nest k ++ w)) k num 3 t pre.length = .error e ∧ e.codeOf = 6
 | 0, num, t, pre, w => by
  rw [bodyE, if_neg (by omega), if_neg (by omega), if_neg (by omega), if_neg (by omega), if_pos rfl, groupE, if_pos (by omega)]
  exact ⟨_, rfl, rfl⟩
 | k + 1, num, t, pre, w => by
  obtain ⟨e, he, hc⟩ := deep_err k 90 pre.length (pre ++ tagB 90 3) (tagB 90 4 ++ w)
  refine ⟨e, ?_, hc⟩
  rw [bodyE, if_neg (by omega), if_neg (by omega), if_neg (by omega), if_neg (by omega), if_pos rfl, groupE, if_neg (by omega)]
  have ht := tagE_at (num := 90) (kind := 3) (by omega) (by omega) (by omega) pre (nest k ++ (tagB 90 4 ++ w))
  have es : pre ++ (nest (k + 1) ++ w) = pre ++ (tagB 90 3 ++ (nest k ++ (tagB 90 4 ++ w))) := by simp [nest, groupB]
  rw [es, loopE_ok ht, if_neg (by omega)]
  rw [List.append_assoc, List.length_append] at he
  rw [show ((k + 1 : Nat) : Int) - 1 = (k : Int) by omega, he]
  rfl
theorem too_deep {d : Nat} {s : List UInt8} : ∃ e, recE (s ++ (tagB 91 3 ++ (nest d ++ tagB 91 4))) d s.length = .error e ∧ e.codeOf = 6 := by
 obtain ⟨e, he, hc⟩ := deep_err d 91 s.length (s ++ tagB 91 3) (tagB 91 4)
 refine ⟨e, ?_, hc⟩
 unfold recE
 rw [tagE_at (by omega) (by omega) (by omega) s]
 dsimp only
 rw [List.append_assoc, List.length_append] at he
 rw [he]; rfl
theorem no_end {d : Int} {s : List UInt8} : ∃ e, recE (s ++ tagB 90 3) d s.length = .error e := by
 unfold recE
 have := tagE_at (num := 90) (kind := 3) (by omega) (by omega) (by omega) s []
 rw [List.append_nil] at this
 rw [this]
 dsimp only
 rw [bodyE, if_neg (by omega), if_neg (by omega), if_neg (by omega), if_neg (by omega), if_pos rfl, groupE]
 split
 ·exact ⟨_, rfl⟩
 ·have ht : ∃ e, tagE (s ++ tagB 90 3) (s.length + (tagB 90 3).length) = .error e := by
   unfold tagE vgetE
   rw [List.drop_eq_nil_of_le (by simp)]
   exact ⟨_, rfl⟩
  obtain ⟨e, ht⟩ := ht
  rw [loopE_err ht]
  exact ⟨_, rfl⟩
theorem other_end {d : Int} {s : List UInt8} : ∃ e, recE (s ++ (tagB 90 3 ++ tagB 92 4)) d s.length = .error e := by
 unfold recE
 rw [tagE_at (num := 90) (kind := 3) (by omega) (by omega) (by omega) s]
 dsimp only
 rw [bodyE, if_neg (by omega), if_neg (by omega), if_neg (by omega), if_neg (by omega), if_pos rfl, groupE]
 split
 ·exact ⟨_, rfl⟩
 ·have ht := tagE_at (num := 92) (kind := 4) (by omega) (by omega) (by omega) (s ++ tagB 90 3) []
  rw [List.append_nil, List.append_assoc, List.length_append] at ht
  rw [loopE_ok ht, if_pos rfl, if_neg (by omega)]
  exact ⟨_, rfl⟩
def subsOK {α : Type} (rd : List UInt8 → α × Option Err) (num : Nat) (tk : List Rec) : Bool := tk.all fun r => !(r.num == num) || (rd r.s).2.isNone
def subsOf {α : Type} (rd : List UInt8 → α × Option Err) (num : Nat) (tk : List Rec) : List α := (tk.filter fun r => r.num == num).map fun r => (rd r.s).1
theorem listR_subs {α : Type} (rd : List UInt8 → α × Option Err) (en num : Nat) : ∀ (rs : List Rec) (e : Option Err), (listR rd en num e rs).1 = subsOf rd num rs ∧ (listR rd en num e rs).2.isNone = (e.isNone && subsOK rd num rs)
 | [], e => by simp [listR, subsOf, subsOK]
 | r :: rs, e => by
  rw [listR]
  by_cases h : r.num = num
  ·rw [if_pos h]
   have i := listR_subs rd en num rs (failO en num e (rd r.s).2)
   dsimp only
   rw [i.1, i.2, failO_none]
   simp [subsOf, subsOK, h, Bool.and_assoc]
  ·rw [if_neg h]
   have i := listR_subs rd en num rs e
   have hb : (r.num == num) = false := by simpa using h
   rw [i.1, i.2]
   simp [subsOf, subsOK, hb]
theorem checkO_txts (en num : Nat) (e : Option Err) (rs : List Rec) : (checkO en num e rs).isNone = (e.isNone && txts num rs) := by
 cases e with
 | none => rw [checkO_none]; rfl
 | some x => rw [checkO_some]; rfl
theorem txts_append (num : Nat) (a b : List Rec) : txts num (a ++ b) = (txts num a && txts num b) := by simp [txts]
theorem subsOK_append {α : Type} (rd : List UInt8 → α × Option Err) (num : Nat) (a b : List Rec) : subsOK rd num (a ++ b) = (subsOK rd num a && subsOK rd num b) := by simp [subsOK]
theorem subsOf_append {α : Type} (rd : List UInt8 → α × Option Err) (num : Nat) (a b : List Rec) : subsOf rd num (a ++ b) = subsOf rd num a ++ subsOf rd num b := by simp [subsOf]
theorem okO_some {α : Type} {r : α × Option Err} {x : α} : okO r = some x ↔ r.1 = x ∧ r.2 = none := by
 unfold okO
 cases h : r.2 <;> simp
theorem okO_none {α : Type} {r : α × Option Err} : okO r = none ↔ r.2 ≠ none := by
 unfold okO
 cases h : r.2 <;> simp
theorem lastR_snoc (num : Nat) (rs : List Rec) (r : Rec) : lastR num (rs ++ [r]) = if r.num = num then r else lastR num rs := by
 unfold lastR
 by_cases h : r.num = num <;> simp [h]
theorem takes32 {t : Nat → Nat → Bool} (h : ∀ n, t n 5 = false) (num : Nat) (b : List UInt8) : takenR t [f32R num b] = [] ∧ unkR t [f32R num b] = (f32R num b).raw := by
 have := takenR_none (t := t) (rs := [f32R num b]) (by simp only [List.mem_singleton, forall_eq]; exact h num)
 rw [this.1, this.2]; simp
def varB (num n : Nat) : List UInt8 := if n = 0 then [] else numB num n
def optB (num n : Nat) : List UInt8 := if n = 0 then [] else fixB num n
end Go.Ai

namespace Go.Ai
structure Kit (M : Type) where
 t : Nat → Nat → Bool
 valid : Int → List Rec → Bool
 make : Int → List Rec → List UInt8 → M
 zero : M
 read : List UInt8 → Int → M × Option Err
 unk : M → List UInt8
 withUnk : M → List UInt8 → M
def Kit.core {M : Type} (K : Kit M) (d : Int) (rs : List Rec) : Option M := if K.valid d (takenR K.t rs) = true then some (K.make d (takenR K.t rs) (unkR K.t rs)) else none
structure Kit.OK {M : Type} (K : Kit M) : Prop where
 t5 : ∀ n, K.t n 5 = false
 t3 : ∀ n, K.t n 3 = false
 t1 : K.t 536870911 1 = false
 append : ∀ d a b, K.valid d (a ++ b) = (K.valid d a && K.valid d b)
 mono : ∀ d d' tk, K.valid d tk = true → d ≤ d' → K.valid d' tk = true ∧ ∀ u, K.make d' tk u = K.make d tk u
 unk_mk : ∀ d tk u, K.unk (K.make d tk u) = u
 with_mk : ∀ d tk u u', K.withUnk (K.make d tk u) u' = K.make d tk u'
 read_core : ∀ s d, okO (K.read s d) = (fieldsO s d).bind (K.core d)
 read_err : ∀ s d e, (readE s d K.t).err = some e → (K.read s d).2 = some e
 read_bad : ∀ s d e, (K.read s d).2 = some e → (K.read s d).1 = K.zero
section
variable {M : Type} {K : Kit M}
theorem Kit.OK.nil (O : K.OK) (d : Int) (h : ∃ tk, K.valid d tk = true) : K.valid d [] = true := by
 obtain ⟨tk, h⟩ := h
 have := O.append d [] tk
 rw [List.nil_append, h] at this
 cases hv : K.valid d [] with
 | true => rfl
 | false => rw [hv] at this; cases this
theorem Kit.OK.ok (O : K.OK) {s : List UInt8} {d : Int} (h : (K.read s d).2 = none) : ∃ rs, fieldsO s d = some rs ∧ K.valid d (takenR K.t rs) = true ∧ (K.read s d).1 = K.make d (takenR K.t rs) (unkR K.t rs) := by
 have hc := O.read_core s d
 have ho : okO (K.read s d) = some (K.read s d).1 := okO_some.2 ⟨rfl, h⟩
 rw [ho] at hc
 cases hf : fieldsO s d with
 | none => rw [hf] at hc; cases hc
 | some rs =>
  rw [hf, Option.bind_some] at hc
  unfold Kit.core at hc
  split at hc
  ·rename_i hv; exact ⟨rs, rfl, hv, by simpa using hc⟩
  ·cases hc
theorem Kit.OK.of (O : K.OK) {s : List UInt8} {d : Int} {rs : List Rec} (hf : fieldsO s d = some rs) (hv : K.valid d (takenR K.t rs) = true) : K.read s d = (K.make d (takenR K.t rs) (unkR K.t rs), none) := by
 have hc := O.read_core s d
 rw [hf, Option.bind_some, Kit.core, if_pos hv, okO_some] at hc
 exact Prod.ext hc.1 hc.2
theorem Kit.OK.bad (O : K.OK) {s : List UInt8} {d : Int} (h : (fieldsO s d).bind (K.core d) = none) : ∃ e, (K.read s d).2 = some e := by
 have hc := O.read_core s d
 rw [h, okO_none] at hc
 cases hx : (K.read s d).2 with
 | none => exact absurd hx hc
 | some e => exact ⟨e, rfl⟩
theorem Kit.OK.joins (O : K.OK) {s t : List UInt8} {d : Int} (hs : (K.read s d).2 = none) (ht : (K.read t d).2 = none) : ∃ rs rt, fieldsO s d = some rs ∧ fieldsO t d = some rt ∧
  (K.read s d).1 = K.make d (takenR K.t rs) (unkR K.t rs) ∧ (K.read t d).1 = K.make d (takenR K.t rt) (unkR K.t rt) ∧
  K.read (s ++ t) d = (K.make d (takenR K.t rs ++ takenR K.t rt) (unkR K.t rs ++ unkR K.t rt), none) := by
 obtain ⟨rs, f1, v1, e1⟩ := O.ok hs
 obtain ⟨rt, f2, v2, e2⟩ := O.ok ht
 refine ⟨rs, rt, f1, f2, e1, e2, ?_⟩
 have := O.of (fieldsO_join f1 f2) (by rw [takenR_append, O.append, v1, v2]; rfl)
 rwa [takenR_append, unkR_append] at this
theorem Kit.OK.behind (O : K.OK) {s : List UInt8} {d : Int} (hs : (K.read s d).2 = none) {us : List Rec} (hu : ∀ r ∈ us, RecOK d r ∧ K.t r.num r.kind = false) : K.read (s ++ rawsR us) d = (K.withUnk (K.read s d).1 (K.unk (K.read s d).1 ++ rawsR us), none) := by
 obtain ⟨rs, f1, v1, e1⟩ := O.ok hs
 have f2 : fieldsO (rawsR us) d = some us := fieldsO_iff.2 ⟨(fieldsO_iff.1 f1).1, fun r hr => (hu r hr).1, rfl⟩
 have hn := takenR_none (t := K.t) (rs := us) fun r hr => (hu r hr).2
 have := O.of (fieldsO_join f1 f2) (by rw [takenR_append, O.append, v1, hn.1, O.nil d ⟨_, v1⟩]; rfl)
 rw [takenR_append, unkR_append, hn.1, hn.2, List.append_nil] at this
 rw [this, e1, O.unk_mk, O.with_mk]
theorem Kit.OK.ahead (O : K.OK) {s : List UInt8} {d : Int} {r : Rec} (hr : RecOK d r) (hk : K.t r.num r.kind = false) :
  ((K.read s d).2 = none → K.read (r.raw ++ s) d = (K.withUnk (K.read s d).1 (r.raw ++ K.unk (K.read s d).1), none)) ∧ (∀ e, (K.read s d).2 = some e → ∃ e', (K.read (r.raw ++ s) d).2 = some e') := by
 have hn : takenR K.t [r] = [] ∧ unkR K.t [r] = r.raw := by
  have := takenR_none (t := K.t) (rs := [r]) (by simp only [List.mem_singleton, forall_eq]; exact hk)
  rw [this.1, this.2]; simp
 have hcons : ∀ rs, takenR K.t (r :: rs) = takenR K.t rs ∧ unkR K.t (r :: rs) = r.raw ++ unkR K.t rs := fun rs => by
  have h1 := takenR_append K.t [r] rs
  have h2 := unkR_append K.t [r] rs
  rw [hn.1] at h1
  rw [hn.2] at h2
  exact ⟨h1, h2⟩
 refine ⟨fun hs => ?_, fun e he => ?_⟩
 ·obtain ⟨rs, f1, v1, e1⟩ := O.ok hs
  have f2 := fieldsO_pre (fieldsO_iff.1 f1).1 hr s
  rw [f1] at f2
  have := O.of f2 (by rw [(hcons rs).1]; exact v1)
  rw [(hcons rs).1, (hcons rs).2] at this
  rw [this, e1, O.unk_mk, O.with_mk]
 ·refine O.bad ?_
  have hc := O.read_core s d
  have ho : okO (K.read s d) = none := okO_none.2 (by rw [he]; simp)
  rw [ho] at hc
  by_cases h0 : d < 0
  ·have : fieldsO (r.raw ++ s) d = none := by unfold fieldsO; rw [if_pos h0]
   rw [this]; rfl
  ·rw [fieldsO_pre (by omega) hr s]
   cases hf : fieldsO s d with
   | none => rfl
   | some rs =>
    rw [hf, Option.bind_some] at hc
    rw [Option.map_some, Option.bind_some]
    unfold Kit.core at hc ⊢
    rw [(hcons rs).1]
    split at hc
    ·cases hc
    ·rename_i hv; rw [if_neg hv]
theorem Kit.OK.deeper (O : K.OK) {s : List UInt8} {d d' : Int} (hs : (K.read s d).2 = none) (hd : d ≤ d') : K.read s d' = K.read s d := by
 obtain ⟨rs, f1, v1, e1⟩ := O.ok hs
 obtain ⟨h0, h1, h2⟩ := fieldsO_iff.1 f1
 have f2 : fieldsO s d' = some rs := fieldsO_iff.2 ⟨by omega, fun r hr => (h1 r hr).mono hd, h2⟩
 obtain ⟨m1, m2⟩ := O.mono _ _ _ v1 hd
 rw [O.of f2 m1, m2]
 exact Prod.ext e1.symm hs.symm
theorem Kit.OK.breaks (O : K.OK) {s w : List UInt8} {d : Int} (hs : (K.read s d).2 = none) (hw : w ≠ []) {e : Err} (h : recE (s ++ w) d s.length = .error e) : (K.read (s ++ w) d).2 = some e := by
 obtain ⟨rs, f1, _, _⟩ := O.ok hs
 exact O.read_err _ _ _ (read_then f1 hw h)
structure Kit.Wr (K : Kit M) (may : M → Int → Bool) (write : M → List UInt8) (good : M → Prop) : Prop where
 back : ∀ x d, may x d = true → good x → (write x).length < 18446744073709551616 → ∃ rs, fieldsO (write x) d = some rs ∧ K.valid d (takenR K.t rs) = true ∧ K.make d (takenR K.t rs) (unkR K.t rs) = x
 may_of : ∀ d rs, (∀ r ∈ rs, RecOK d r) → 0 ≤ d → K.valid d (takenR K.t rs) = true → may (K.make d (takenR K.t rs) (unkR K.t rs)) d = true
variable {may : M → Int → Bool} {write : M → List UInt8} {good : M → Prop}
theorem Kit.Wr.read (W : K.Wr may write good) (O : K.OK) {x : M} {d : Int} (hm : may x d = true) (hg : good x) (hl : (write x).length < 18446744073709551616) : K.read (write x) d = (x, none) := by
 obtain ⟨rs, f, v, e⟩ := W.back x d hm hg hl
 rw [O.of f v, e]
theorem Kit.Wr.mayOf (W : K.Wr may write good) (O : K.OK) {s : List UInt8} {d : Int} (h : (K.read s d).2 = none) : may (K.read s d).1 d = true := by
 obtain ⟨rs, f, v, e⟩ := O.ok h
 obtain ⟨h0, h1, h2⟩ := fieldsO_iff.1 f
 rw [e]
 exact W.may_of d rs h1 h0 v
theorem Kit.Wr.less (W : K.Wr may write good) (O : K.OK) {x : M} {d d' : Int} (hm : may x d = true) (hg : good x) (hl : (write x).length < 18446744073709551616) (hd : d' ≤ d) :
  (K.read (write x) d').2.isNone = may x d' ∧ ((K.read (write x) d').2 = none → (K.read (write x) d').1 = x) := by
 have key : (K.read (write x) d').2 = none → (K.read (write x) d').1 = x := fun h => by
  have e := O.deeper h hd
  rw [W.read O hm hg hl] at e
  rw [← e]
 refine ⟨?_, key⟩
 cases h : may x d' with
 | true => rw [W.read O (x := x) (d := d') h hg hl]; rfl
 | false =>
  cases hr : (K.read (write x) d').2 with
  | some e => rfl
  | none =>
   have h2 := W.mayOf O hr
   rw [key hr, h] at h2
   cases h2
end
end Go.Ai

namespace Go.Ai
theorem lastR_skip {num : Nat} {a b : List Rec} (h : ∀ r ∈ b, r.num ≠ num) : lastR num (a ++ b) = lastR num a := by
 unfold lastR
 have : b.reverse.find? (fun r => r.num == num) = none := by
  rw [List.find?_eq_none]
  intro r hr
  simpa using h r (List.mem_reverse.1 hr)
 rw [List.reverse_append, List.find?_append, this]; rfl
theorem lastR_pre {num : Nat} {a b : List Rec} (h : ∀ r ∈ a, r.num ≠ num) : lastR num (a ++ b) = lastR num b := by
 unfold lastR
 have : a.reverse.find? (fun r => r.num == num) = none := by
  rw [List.find?_eq_none]
  intro r hr
  simpa using h r (List.mem_reverse.1 hr)
 rw [List.reverse_append, List.find?_append, this]
 cases b.reverse.find? (fun r => r.num == num) <;> rfl
theorem txts_none {num : Nat} {a : List Rec} (h : ∀ r ∈ a, r.num ≠ num) : txts num a = true := by
 unfold txts
 rw [List.all_eq_true]
 intro r hr
 have := h r hr
 simp [this]
theorem subsOK_none {α : Type} {rd : List UInt8 → α × Option Err} {num : Nat} {a : List Rec} (h : ∀ r ∈ a, r.num ≠ num) : subsOK rd num a = true := by
 unfold subsOK
 rw [List.all_eq_true]
 intro r hr
 have := h r hr
 simp [this]
theorem subsOf_none {α : Type} {rd : List UInt8 → α × Option Err} {num : Nat} {a : List Rec} (h : ∀ r ∈ a, r.num ≠ num) : subsOf rd num a = [] := by
 unfold subsOf
 rw [List.filter_eq_nil_iff.2 fun r hr => by simpa using h r hr]; rfl
theorem subs_map {α : Type} {rd : List UInt8 → α × Option Err} {wr : α → List UInt8} {num : Nat} : ∀ {l : List α}, (∀ x ∈ l, rd (wr x) = (x, none)) → subsOK rd num (l.map fun x => bytesR num (wr x)) = true ∧ subsOf rd num (l.map fun x => bytesR num (wr x)) = l
 | [], _ => ⟨rfl, rfl⟩
 | x :: xs, h => by
  have i := subs_map (num := num) (l := xs) fun y hy => h y (by simp [hy])
  have hx := h x (by simp)
  have e1 : (bytesR num (wr x)).num = num := rfl
  have e2 : (bytesR num (wr x)).s = wr x := rfl
  refine ⟨?_, ?_⟩
  ·have := i.1
   unfold subsOK at this ⊢
   rw [List.map_cons, List.all_cons, this, e1, e2, hx]; simp
  ·have := i.2
   unfold subsOf at this ⊢
   rw [List.map_cons, List.filter_cons, if_pos (by rw [e1]; simp), List.map_cons, this, e2, hx]
theorem subsK_mono {d d' : Int} (hd : d ≤ d') {num : Nat} : ∀ {tk : List Rec}, subsOK (fun t => readK t d) num tk = true → subsOK (fun t => readK t d') num tk = true ∧ subsOf (fun t => readK t d') num tk = subsOf (fun t => readK t d) num tk
 | [], _ => ⟨rfl, rfl⟩
 | r :: tk, h => by
  unfold subsOK at h
  rw [List.all_cons, Bool.and_eq_true] at h
  have i := subsK_mono hd (num := num) (tk := tk) h.2
  unfold subsOK at i ⊢
  unfold subsOf at i ⊢
  rw [List.all_cons, i.1]
  by_cases hn : r.num = num
  ·have h1 := h.1
   simp [hn] at h1
   have := readK_deeper h1 hd
   refine ⟨by simp [this, h1], ?_⟩
   rw [List.filter_cons, if_pos (by simp [hn]), List.map_cons, List.map_cons, i.2]
   dsimp only
   rw [this]
  ·have hb : (r.num == num) = false := by simpa using hn
   refine ⟨by simp [hb], ?_⟩
   rw [List.filter_cons, if_neg (by simp [hb]), i.2]
theorem subsK_may {d : Int} {num : Nat} : ∀ {tk : List Rec}, subsOK (fun t => readK t d) num tk = true → mayKs (subsOf (fun t => readK t d) num tk) d = true
 | [], _ => by simp [subsOf, mayKs]
 | r :: tk, h => by
  unfold subsOK at h
  rw [List.all_cons, Bool.and_eq_true] at h
  have i := subsK_may (num := num) (tk := tk) h.2
  unfold subsOf at i ⊢
  by_cases hn : r.num = num
  ·have h1 := h.1
   simp [hn] at h1
   rw [List.filter_cons, if_pos (by simp [hn]), List.map_cons, mayKs, i, (readK_may h1).1]; rfl
  ·rw [List.filter_cons, if_neg (by simpa using hn)]; exact i
theorem subsK_sz {d : Int} {num : Nat} : ∀ {tk : List Rec}, subsOK (fun t => readK t d) num tk = true → KV.szs (subsOf (fun t => readK t d) num tk) ≤ 60 * tk.length + 30 * strLen tk
 | [], _ => by simp [subsOf, KV.szs]
 | r :: tk, h => by
  unfold subsOK at h
  rw [List.all_cons, Bool.and_eq_true] at h
  have i := subsK_sz (num := num) (tk := tk) h.2
  rw [strLen_cons, List.length_cons]
  unfold subsOf at i ⊢
  by_cases hn : r.num = num
  ·have h1 := h.1
   simp [hn] at h1
   have hm := readK_may h1
   have hs := may_sz.2 _ d hm.1
   rw [List.filter_cons, if_pos (by simp [hn]), List.map_cons, KV.szs]
   dsimp only at i ⊢
   omega
  ·rw [List.filter_cons, if_neg (by simpa using hn)]; omega
theorem subsK_wf {d : Int} {num : Nat} {tk : List Rec} (h : ∀ r ∈ tk, r.s.length ≤ 549755813888) : ∀ x ∈ subsOf (fun t => readK t d) num tk, x.wf := by
 intro x hx
 unfold subsOf at hx
 obtain ⟨r, hr, rfl⟩ := List.mem_map.1 hx
 exact readK_wf (h r (List.mem_filter.1 hr).1) d
theorem subsOf_len {α : Type} {rd : List UInt8 → α × Option Err} {num : Nat} {tk : List Rec} : (subsOf rd num tk).length ≤ tk.length := by
 unfold subsOf
 rw [List.length_map]
 exact List.length_filter_le _ _
def partsN {α : Type} (num : Nat) (wr : α → List UInt8) (l : List α) : List UInt8 := rawsR (l.map fun x => bytesR num (wr x))
theorem partsN_cons {α : Type} {num : Nat} {wr : α → List UInt8} {x : α} {l : List α} : partsN num wr (x :: l) = bytesB num (wr x) ++ partsN num wr l := rfl
theorem partsN_mem {α : Type} {num : Nat} {wr : α → List UInt8} : ∀ {l : List α}, ∀ x ∈ l, (wr x).length ≤ (partsN num wr l).length
 | y :: ys, x, hx => by
  rw [partsN_cons, List.length_append]
  have := bytesB_len num (wr y)
  rcases List.mem_cons.1 hx with rfl | hx
  ·omega
  ·have := partsN_mem (num := num) (wr := wr) x hx; omega
theorem partsK_sz {num : Nat} (hn : num < 16) : ∀ {l : List KV}, (∀ x ∈ l, x.wf) → KV.szs l ≤ 549755813888 → (partsN num writeK l).length ≤ KV.szs l
 | [], _, _ => by simp [partsN, KV.szs]
 | x :: xs, hw, hs => by
  rw [KV.szs] at hs ⊢
  have i := partsK_sz hn (l := xs) (fun y hy => hw y (by simp [hy])) (by omega)
  have h1 := write_sz.2 x (hw x (by simp)) (by omega)
  have h2 := bytesB_le hn (s := writeK x) (by omega)
  rw [partsN_cons, List.length_append]; omega
structure ScopeM where
 name : List UInt8
 version : List UInt8
 attrs : List KV
 dropped : Nat
 unk : List UInt8
def scope0 : ScopeM := ⟨[], [], [], 0, []⟩
def ScopeM.wf (x : ScopeM) : Prop := x.name.length ≤ maxStr ∧ x.version.length ≤ maxStr ∧ x.attrs.length ≤ maxStr ∧ (∀ a ∈ x.attrs, a.wf) ∧ x.dropped < 4294967296 ∧ x.unk.length ≤ maxStr
def ScopeM.sz (x : ScopeM) : Nat := 30 + x.name.length + x.version.length + x.unk.length + KV.szs x.attrs
def encScope (x : ScopeM) : List A := [.str x.name, .str x.version, .slice (x.attrs.map encK) none, .int .u32 x.dropped, .str x.unk]
def takesS (num kind : Nat) : Bool := match num with
 | 1 | 2 | 3 => kind == 2
 | 4 => kind == 0
 | _ => false
def readS (s : List UInt8) (d : Int) : ScopeM × Option Err :=
 let m := readE s d takesS
 let y := listR (fun t => readK t (d - 1)) s.length 3 (checkO s.length 2 (checkO s.length 1 m.err m.recs) m.recs) m.recs
 orNone scope0 (⟨(lastR 1 m.recs).s, (lastR 2 m.recs).s, y.1, (lastR 4 m.recs).n % 4294967296, m.unk⟩, y.2)
def kitS : Kit ScopeM where
 t := takesS
 valid d tk := txts 1 tk && txts 2 tk && subsOK (fun t => readK t (d - 1)) 3 tk
 make d tk u := ⟨(lastR 1 tk).s, (lastR 2 tk).s, subsOf (fun t => readK t (d - 1)) 3 tk, (lastR 4 tk).n % 4294967296, u⟩
 zero := scope0
 read := readS
 unk x := x.unk
 withUnk x u := ⟨x.name, x.version, x.attrs, x.dropped, u⟩
theorem kitS_ok : kitS.OK where
 t5 n := by simp only [kitS]; unfold takesS; split <;> rfl
 t3 n := by simp only [kitS]; unfold takesS; split <;> rfl
 t1 := rfl
 append d a b := by
  simp only [kitS]
  rw [txts_append, txts_append, subsOK_append]
  cases txts 1 a <;> cases txts 1 b <;> cases txts 2 a <;> cases txts 2 b <;> simp
 mono d d' tk h hd := by
  simp only [kitS, Bool.and_eq_true] at h ⊢
  have := subsK_mono (d := d - 1) (d' := d' - 1) (by omega) h.2
  exact ⟨⟨h.1, this.1⟩, fun u => by rw [this.2]⟩
 unk_mk d tk u := rfl
 with_mk d tk u u' := rfl
 read_core s d := by
  show okO (readS s d) = _
  unfold readS
  rw [okO_orNone]
  unfold fieldsO readE
  by_cases h0 : d < 0
  ·rw [if_pos h0, if_pos h0]; simp [okO, checkO, listR]
  ·rw [if_neg h0, if_neg h0]
   cases allE s d 0 with
   | error e => simp [okO, checkO_some, listR_some]
   | ok rs =>
    have hl := listR_subs (fun t => readK t (d - 1)) s.length 3 (takenR takesS rs) (checkO s.length 2 (checkO s.length 1 none (takenR takesS rs)) (takenR takesS rs))
    dsimp only
    simp only [okO, hl.1, hl.2, checkO_txts, Option.bind_some, Kit.core, kitS]
    simp
 read_err s d e h := by
  show (readS s d).2 = some e
  have h' : (readE s d takesS).err = some e := h
  unfold readS
  dsimp only
  rw [orNone_err, h', checkO_some, checkO_some, listR_some]
 read_bad s d e h := by
  have h' : (readS s d).2 = some e := h
  show (readS s d).1 = scope0
  unfold readS at h' ⊢
  exact orNone_bad _ _ h'
theorem readS_fine (s : List UInt8) (d : Int) : fineO s.length (readS s d).2 := by
 unfold readS
 dsimp only
 rw [orNone_err]
 refine listR_fine _ _ _ (fun t x hx => (readK_fine t (d - 1) x hx).1) _ _ (checkO_fine _ _ _ _ (checkO_fine _ _ _ _ readE_fine))
def mayS (x : ScopeM) (d : Int) : Bool := decide (0 ≤ d) && textOk x.name && textOk x.version && mayKs x.attrs (d - 1) && restE takesS x.unk d
def writeS (x : ScopeM) : List UInt8 := textB 1 x.name ++ (textB 2 x.version ++ (partsN 3 writeK x.attrs ++ (varB 4 x.dropped ++ x.unk)))
def optR (num : Nat) (s : List UInt8) : List Rec := if s = [] then [] else [bytesR num s]
def varR (num n : Nat) : List Rec := if n = 0 then [] else [numR num n]
theorem optR_raw (num : Nat) (s : List UInt8) : rawsR (optR num s) = textB num s := by
 unfold optR textB; split <;> simp [bytesR]
theorem varR_raw (num n : Nat) : rawsR (varR num n) = varB num n := by
 unfold varR varB; split <;> simp [numR]
theorem optR_num {num : Nat} {s : List UInt8} : ∀ r ∈ optR num s, r.num = num ∧ r.kind = 2 := by
 unfold optR; split <;> simp [bytesR]
theorem varR_num {num n : Nat} : ∀ r ∈ varR num n, r.num = num ∧ r.kind = 0 := by
 unfold varR; split <;> simp [numR]
theorem optR_last (num : Nat) (s : List UInt8) : (lastR num (optR num s)).s = s := by
 unfold optR lastR; split
 ·rename_i h; simp [h]
 ·simp [bytesR]
theorem varR_last (num n : Nat) : (lastR num (varR num n)).n = n := by
 unfold varR lastR; split
 ·rename_i h; simp [h]
 ·simp [numR]
theorem optR_txt {num : Nat} {s : List UInt8} (h : textOk s = true) : txts num (optR num s) = true := by
 unfold optR txts; split <;> simp [bytesR, h]
theorem optR_ok {d : Int} {num : Nat} (h1 : 1 ≤ num) (h2 : num ≤ 536870911) {s : List UInt8} (hs : s.length < 18446744073709551616) : ∀ r ∈ optR num s, RecOK d r := by
 unfold optR; split
 ·simp
 ·simpa using bytesR_ok h1 h2 hs
theorem varR_ok {d : Int} {num n : Nat} (h1 : 1 ≤ num) (h2 : num ≤ 536870911) (hn : n < 18446744073709551616) : ∀ r ∈ varR num n, RecOK d r := by
 unfold varR; split
 ·simp
 ·simpa using numR_ok h1 h2 hn
theorem mapR_num {α : Type} {wr : α → List UInt8} {num : Nat} {l : List α} : ∀ r ∈ l.map (fun x => bytesR num (wr x)), r.num = num ∧ r.kind = 2 := by
 intro r hr
 obtain ⟨x, _, rfl⟩ := List.mem_map.1 hr
 exact ⟨rfl, rfl⟩
theorem mapR_ok {α : Type} {wr : α → List UInt8} {d : Int} {num : Nat} (h1 : 1 ≤ num) (h2 : num ≤ 536870911) {l : List α} (hl : (partsN num wr l).length < 18446744073709551616) : ∀ r ∈ l.map (fun x => bytesR num (wr x)), RecOK d r := by
 intro r hr
 obtain ⟨x, hx, rfl⟩ := List.mem_map.1 hr
 have := partsN_mem (num := num) (wr := wr) x hx
 exact bytesR_ok h1 h2 (by omega)
theorem textOk_getD {rs : List Rec} {num : Nat} (h : txts num rs = true) : textOk (lastR num rs).s = true := by
 unfold lastR
 cases hf : rs.reverse.find? fun r => r.num == num with
 | none => exact textOk_nil
 | some r => exact txts_mem h (List.mem_reverse.1 (List.mem_of_find?_eq_some hf)) (by simpa using List.find?_some hf)
theorem takenR_two {t : Nat → Nat → Bool} {ks us : List Rec} (hk : ∀ r ∈ ks, t r.num r.kind = true) (hu : ∀ r ∈ us, t r.num r.kind = false) : takenR t (ks ++ us) = ks ∧ unkR t (ks ++ us) = rawsR us := by
 have h1 := takenR_all hk
 have h2 := takenR_none hu
 rw [takenR_append, unkR_append, h1.1, h1.2, h2.1, h2.2]; simp
theorem writeS_le {x : ScopeM} (hw : x.wf) (hs : x.sz ≤ 549755813888) : (writeS x).length ≤ x.sz + 60 := by
 obtain ⟨w1, w2, w3, w4, w5, w6⟩ := hw
 unfold ScopeM.sz at *
 have hp := partsK_sz (num := 3) (by omega) w4 (by omega)
 have h1 := bytesB_le (num := 1) (by omega) (s := x.name) (by omega)
 have h2 := bytesB_le (num := 2) (by omega) (s := x.version) (by omega)
 have h4 := numB_le (num := 4) (by omega) (n := x.dropped) (by omega)
 have t1 : (textB 1 x.name).length ≤ 11 + x.name.length := by
  unfold textB; split
  ·simp
  ·exact h1
 have t2 : (textB 2 x.version).length ≤ 11 + x.version.length := by
  unfold textB; split
  ·simp
  ·exact h2
 have t4 : (varB 4 x.dropped).length ≤ 11 := by
  unfold varB; split
  ·simp
  ·exact h4
 unfold writeS
 simp only [List.length_append]; omega
theorem kitS_wr : kitS.Wr mayS writeS ScopeM.wf where
 back x d hm hg hl := by
  obtain ⟨w1, w2, w3, w4, w5, w6⟩ := hg
  unfold mayS at hm
  simp only [Bool.and_eq_true, decide_eq_true_eq] at hm
  obtain ⟨⟨⟨⟨h0, ht1⟩, ht2⟩, hk⟩, hu⟩ := hm
  obtain ⟨us, hus, hue⟩ := restE_iff.1 hu
  rw [mayKs_all, List.all_eq_true] at hk
  have hll := hl
  unfold writeS at hll
  simp only [List.length_append] at hll
  have hA := optR_num (num := 1) (s := x.name)
  have hB := optR_num (num := 2) (s := x.version)
  have hC := mapR_num (wr := writeK) (num := 3) (l := x.attrs)
  have hD := varR_num (num := 4) (n := x.dropped)
  have okA := optR_ok (d := d) (num := 1) (by omega) (by omega) (s := x.name) (by unfold maxStr at w1; omega)
  have okB := optR_ok (d := d) (num := 2) (by omega) (by omega) (s := x.version) (by unfold maxStr at w2; omega)
  have okC := mapR_ok (wr := writeK) (d := d) (num := 3) (by omega) (by omega) (l := x.attrs) (by omega)
  have okD := varR_ok (d := d) (num := 4) (n := x.dropped) (by omega) (by omega) (by omega)
  generalize hAe : optR 1 x.name = RA at *
  generalize hBe : optR 2 x.version = RB at *
  generalize hCe : x.attrs.map (fun a => bytesR 3 (writeK a)) = RC at *
  generalize hDe : varR 4 x.dropped = RD at *
  have hks : ∀ r ∈ RA ++ (RB ++ (RC ++ RD)), RecOK d r ∧ takesS r.num r.kind = true := by
   intro r hr
   simp only [List.mem_append] at hr
   rcases hr with h | h | h | h
   ·exact ⟨okA r h, by rw [(hA r h).1, (hA r h).2]; rfl⟩
   ·exact ⟨okB r h, by rw [(hB r h).1, (hB r h).2]; rfl⟩
   ·exact ⟨okC r h, by rw [(hC r h).1, (hC r h).2]; rfl⟩
   ·exact ⟨okD r h, by rw [(hD r h).1, (hD r h).2]; rfl⟩
  have htwo := takenR_two (t := takesS) (ks := RA ++ (RB ++ (RC ++ RD))) (us := us) (fun r hr => (hks r hr).2) (fun r hr => (hus r hr).2)
  have hraw : writeS x = rawsR ((RA ++ (RB ++ (RC ++ RD))) ++ us) := by
   unfold writeS partsN
   rw [rawsR_append, rawsR_append, rawsR_append, rawsR_append, ← hAe, ← hBe, ← hCe, ← hDe, optR_raw, optR_raw, varR_raw, hue]
   simp only [List.append_assoc]
  have ne : ∀ {a : Nat} {R : List Rec} {k : Nat}, (∀ r ∈ R, r.num = a ∧ r.kind = k) → ∀ n, a ≠ n → ∀ r ∈ R, r.num ≠ n := fun h n hn r hr => by rw [(h r hr).1]; exact hn
  have nl : ∀ {n : Nat} {a b : List Rec}, (∀ r ∈ a, r.num ≠ n) → (∀ r ∈ b, r.num ≠ n) → ∀ r ∈ a ++ b, r.num ≠ n := fun h1 h2 r hr => (List.mem_append.1 hr).elim (h1 r) (h2 r)
  have hsub := subs_map (rd := fun t => readK t (d - 1)) (wr := writeK) (num := 3) (l := x.attrs) fun a ha => by
   have := partsN_mem (num := 3) (wr := writeK) a ha
   exact readK_writeK (hk a ha) (by omega) (w4 a ha)
  rw [hCe] at hsub
  refine ⟨(RA ++ (RB ++ (RC ++ RD))) ++ us, fieldsO_iff.2 ⟨h0, ?_, hraw⟩, ?_, ?_⟩
  ·intro r hr
   rcases List.mem_append.1 hr with h | h
   ·exact (hks r h).1
   ·exact (hus r h).1
  ·show (txts 1 (takenR takesS _) && txts 2 (takenR takesS _) && subsOK _ 3 (takenR takesS _)) = true
   rw [htwo.1]
   simp only [txts_append, subsOK_append]
   rw [txts_none (ne hB 1 (by omega)), txts_none (ne hC 1 (by omega)), txts_none (ne hD 1 (by omega)), txts_none (ne hA 2 (by omega)), txts_none (ne hC 2 (by omega)), txts_none (ne hD 2 (by omega)),
    subsOK_none (ne hA 3 (by omega)), subsOK_none (ne hB 3 (by omega)), subsOK_none (ne hD 3 (by omega)), hsub.1, ← hAe, ← hBe, optR_txt ht1, optR_txt ht2]
   rfl
  ·show ScopeM.mk _ _ _ _ _ = x
   change ScopeM.mk (lastR 1 (takenR takesS _)).s (lastR 2 (takenR takesS _)).s (subsOf _ 3 (takenR takesS _)) ((lastR 4 (takenR takesS _)).n % 4294967296) (unkR takesS _) = x
   rw [htwo.1, htwo.2, ← hue]
   have l1 : lastR 1 (RA ++ (RB ++ (RC ++ RD))) = lastR 1 RA := lastR_skip (nl (ne hB 1 (by omega)) (nl (ne hC 1 (by omega)) (ne hD 1 (by omega))))
   have l2 : lastR 2 (RA ++ (RB ++ (RC ++ RD))) = lastR 2 RB := by
    rw [lastR_pre (ne hA 2 (by omega)), lastR_skip (nl (ne hC 2 (by omega)) (ne hD 2 (by omega)))]
   have l4 : lastR 4 (RA ++ (RB ++ (RC ++ RD))) = lastR 4 RD := by
    rw [lastR_pre (ne hA 4 (by omega)), lastR_pre (ne hB 4 (by omega)), lastR_pre (ne hC 4 (by omega))]
   have l3 : subsOf (fun t => readK t (d - 1)) 3 (RA ++ (RB ++ (RC ++ RD))) = x.attrs := by
    simp only [subsOf_append]
    rw [subsOf_none (ne hA 3 (by omega)), subsOf_none (ne hB 3 (by omega)), subsOf_none (ne hD 3 (by omega)), hsub.2]; simp
   rw [l1, l2, l3, l4, ← hAe, ← hBe, ← hDe, optR_last, optR_last, varR_last, Nat.mod_eq_of_lt w5]
 may_of d rs hrs h0 hv := by
  have hv' : (txts 1 (takenR takesS rs) && txts 2 (takenR takesS rs) && subsOK (fun t => readK t (d - 1)) 3 (takenR takesS rs)) = true := hv
  simp only [Bool.and_eq_true] at hv'
  show mayS ⟨_, _, _, _, _⟩ d = true
  unfold mayS
  simp only [Bool.and_eq_true, decide_eq_true_eq]
  exact ⟨⟨⟨⟨h0, textOk_getD hv'.1.1⟩, textOk_getD hv'.1.2⟩, subsK_may hv'.2⟩, unkR_rest hrs⟩
theorem readS_wf {s : List UInt8} (hb : s.length ≤ 549755813888) (d : Int) : (readS s d).1.wf := by
 unfold readS
 dsimp only
 have hm := readE_mem (s := s) (d := d) (t := takesS)
 have hl := readE_lens (s := s) (d := d) (t := takesS)
 refine orNone_of (q := ScopeM.wf) ?_ ?_
 ·simp [ScopeM.wf, scope0, maxStr]
 ·unfold ScopeM.wf
  dsimp only
  refine ⟨?_, ?_, ?_, ?_, Nat.mod_lt _ (by omega), by unfold maxStr; omega⟩
  ·have := lastR_len 1 (rs := (readE s d takesS).recs) (n := s.length) fun r hr => (hm r hr).2.2.2.2.2
   unfold maxStr; omega
  ·have := lastR_len 2 (rs := (readE s d takesS).recs) (n := s.length) fun r hr => (hm r hr).2.2.2.2.2
   unfold maxStr; omega
  ·rw [(listR_subs _ _ _ _ _).1]
   have := subsOf_len (rd := fun t => readK t (d - 1)) (num := 3) (tk := (readE s d takesS).recs)
   unfold maxStr; omega
  ·rw [(listR_subs _ _ _ _ _).1]
   exact subsK_wf fun r hr => by have := (hm r hr).2.2.2.2.2; omega
theorem fieldsO_readE {s : List UInt8} {d : Int} {rs : List Rec} {t : Nat → Nat → Bool} (h : fieldsO s d = some rs) : readE s d t = ⟨none, unkR t rs, takenR t rs⟩ := by
 obtain ⟨h0, h1⟩ := fieldsO_iff.1 h
 unfold readE
 rw [if_neg (by omega), allE_iff.2 h1]
theorem readS_sz {s : List UInt8} {d : Int} (h : (readS s d).2 = none) : (readS s d).1.sz ≤ 30 + 100 * s.length := by
 obtain ⟨rs, f, v, e⟩ := kitS_ok.ok (K := kitS) h
 have hr := fieldsO_readE (t := takesS) f
 have hm := readE_mem (s := s) (d := d) (t := takesS)
 have hl := readE_lens (s := s) (d := d) (t := takesS)
 have hst := readE_str (s := s) (d := d) (t := takesS)
 rw [hr] at hm hl hst
 have v' : (txts 1 (takenR takesS rs) && txts 2 (takenR takesS rs) && subsOK (fun t => readK t (d - 1)) 3 (takenR takesS rs)) = true := v
 simp only [Bool.and_eq_true] at v'
 have hz := subsK_sz v'.2
 have e' : (readS s d).1 = ⟨(lastR 1 (takenR takesS rs)).s, (lastR 2 (takenR takesS rs)).s, subsOf (fun t => readK t (d - 1)) 3 (takenR takesS rs), (lastR 4 (takenR takesS rs)).n % 4294967296, unkR takesS rs⟩ := e
 rw [e']
 unfold ScopeM.sz
 have l1 := lastR_len 1 (rs := takenR takesS rs) (n := s.length) fun r hr => (hm r hr).2.2.2.2.2
 have l2 := lastR_len 2 (rs := takenR takesS rs) (n := s.length) fun r hr => (hm r hr).2.2.2.2.2
 dsimp only at hl hst ⊢
 omega
def rsStep (rd : List UInt8 → Option KV) (st : ScopeM) (r : Rec) : Option ScopeM :=
 if takesS r.num r.kind = false then some ⟨st.name, st.version, st.attrs, st.dropped, st.unk ++ r.raw⟩
 else if r.num = 1 then (if textOk r.s = true then some ⟨r.s, st.version, st.attrs, st.dropped, st.unk⟩ else none)
 else if r.num = 2 then (if textOk r.s = true then some ⟨st.name, r.s, st.attrs, st.dropped, st.unk⟩ else none)
 else if r.num = 3 then (rd r.s).map fun k => ⟨st.name, st.version, st.attrs ++ [k], st.dropped, st.unk⟩
 else some ⟨st.name, st.version, st.attrs, r.n % 4294967296, st.unk⟩
def rsLoop (rd : List UInt8 → Option KV) : ScopeM → List Rec → Option ScopeM
 | st, [] => some st
 | st, r :: rs => (rsStep rd st r).bind fun st => rsLoop rd st rs
def findR (num : Nat) (rs : List Rec) : Option Rec := rs.reverse.find? fun r => r.num == num
theorem findR_cons (num : Nat) (r : Rec) (rs : List Rec) : findR num (r :: rs) = (findR num rs).or (if r.num = num then some r else none) := by
 unfold findR
 rw [List.reverse_cons, List.find?_append]
 by_cases h : r.num = num <;> simp [h]
theorem lastR_find (num : Nat) (rs : List Rec) : lastR num rs = (findR num rs).getD ⟨0, 0, 0, [], []⟩ := rfl
theorem rsLoop_eq (rd : List UInt8 → KV × Option Err) : ∀ (rs : List Rec) (st : ScopeM), rsLoop (fun t => okO (rd t)) st rs =
  if (txts 1 (takenR takesS rs) && txts 2 (takenR takesS rs) && subsOK rd 3 (takenR takesS rs)) = true then
   some ⟨((findR 1 (takenR takesS rs)).map (·.s)).getD st.name, ((findR 2 (takenR takesS rs)).map (·.s)).getD st.version, st.attrs ++ subsOf rd 3 (takenR takesS rs), ((findR 4 (takenR takesS rs)).map (·.n % 4294967296)).getD st.dropped, st.unk ++ unkR takesS rs⟩ else none
 | [], st => by simp [rsLoop, takenR, txts, subsOK, subsOf, findR, unkR]
 | r :: rs, st => by
  rw [rsLoop]
  cases ht : takesS r.num r.kind with
  | false =>
   have e1 : takenR takesS (r :: rs) = takenR takesS rs := by simp [takenR, ht]
   have e2 : unkR takesS (r :: rs) = r.raw ++ unkR takesS rs := by simp [unkR, ht]
   rw [rsStep, if_pos ht, Option.bind_some, rsLoop_eq rd rs, e1, e2]
   simp
  | true =>
   have e1 : takenR takesS (r :: rs) = r :: takenR takesS rs := by simp [takenR, ht]
   have e2 : unkR takesS (r :: rs) = unkR takesS rs := by simp [unkR, ht]
   rw [e1, e2]
   have hn : r.num = 1 ∨ r.num = 2 ∨ r.num = 3 ∨ r.num = 4 := by
    unfold takesS at ht
    split at ht <;> first | omega | cases ht
   have hsp : ∀ n, txts n (r :: takenR takesS rs) = ((!(r.num == n) || textOk r.s) && txts n (takenR takesS rs)) := fun n => by simp [txts]
   have hsk : subsOK rd 3 (r :: takenR takesS rs) = ((!(r.num == 3) || (rd r.s).2.isNone) && subsOK rd 3 (takenR takesS rs)) := by simp [subsOK]
   have hso : subsOf rd 3 (r :: takenR takesS rs) = (if r.num = 3 then [(rd r.s).1] else []) ++ subsOf rd 3 (takenR takesS rs) := by
    unfold subsOf
    by_cases h : r.num = 3 <;> simp [h]
   rw [rsStep, if_neg (by simp [ht]), hsp, hsp, hsk, hso, findR_cons, findR_cons, findR_cons]
   rcases hn with h | h | h | h
   ·cases hx : textOk r.s with
    | true =>
     rw [if_pos h, if_pos rfl, Option.bind_some, rsLoop_eq rd rs]
     cases findR 1 (takenR takesS rs) <;> simp [h]
    | false => rw [if_pos h]; simp [h]
   ·cases hx : textOk r.s with
    | true =>
     rw [if_neg (by omega), if_pos h, if_pos rfl, Option.bind_some, rsLoop_eq rd rs]
     cases findR 2 (takenR takesS rs) <;> simp [h]
    | false => rw [if_neg (by omega), if_pos h]; simp [h]
   ·rw [if_neg (by omega), if_neg (by omega), if_pos h]
    cases hx : (rd r.s).2 with
    | none =>
     have : okO (rd r.s) = some (rd r.s).1 := by simp [okO, hx]
     rw [this, Option.map_some, Option.bind_some, rsLoop_eq rd rs]
     simp [h]
    | some e =>
     have : okO (rd r.s) = none := by simp [okO, hx]
     rw [this]
     simp [h]
   ·rw [if_neg (by omega), if_neg (by omega), if_neg (by omega), Option.bind_some, rsLoop_eq rd rs]
    cases findR 4 (takenR takesS rs) <;> simp [h]
def refS (s : List UInt8) (d : Int) : Option ScopeM := (fieldsO s d).bind fun rs => rsLoop (fun t => refK t (d - 1)) scope0 rs
theorem refS_eq (s : List UInt8) (d : Int) : refS s d = okO (readS s d) := by
 have e : (fun t => refK t (d - 1)) = fun t => okO (readK t (d - 1)) := funext fun t => refK_eq t (d - 1)
 have hc := kitS_ok.read_core s d
 have hr : kitS.read s d = readS s d := rfl
 rw [hr] at hc
 rw [hc]
 unfold refS
 congr 1
 funext rs
 rw [e, rsLoop_eq]
 show _ = if (txts 1 (takenR takesS rs) && txts 2 (takenR takesS rs) && subsOK (fun t => readK t (d - 1)) 3 (takenR takesS rs)) = true then some (ScopeM.mk (lastR 1 (takenR takesS rs)).s (lastR 2 (takenR takesS rs)).s (subsOf (fun t => readK t (d - 1)) 3 (takenR takesS rs)) ((lastR 4 (takenR takesS rs)).n % 4294967296) (unkR takesS rs)) else none
 split
 ·simp only [scope0, lastR_find, List.nil_append, Option.some.injEq, ScopeM.mk.injEq, true_and, and_true]
  refine ⟨?_, ?_, ?_⟩
  ·cases findR 1 (takenR takesS rs) <;> rfl
  ·cases findR 2 (takenR takesS rs) <;> rfl
  ·cases findR 4 (takenR takesS rs) <;> rfl
 ·rfl
end Go.Ai

namespace Go.Ai
structure ResM where
 attrs : List KV
 dropped : Nat
 unk : List UInt8
def res0 : ResM := ⟨[], 0, []⟩
def ResM.wf (x : ResM) : Prop := x.attrs.length ≤ maxStr ∧ (∀ a ∈ x.attrs, a.wf) ∧ x.dropped < 4294967296 ∧ x.unk.length ≤ maxStr
def ResM.sz (x : ResM) : Nat := 30 + x.unk.length + KV.szs x.attrs
def encRes (x : ResM) : List A := [.slice (x.attrs.map encK) none, .int .u32 x.dropped, .str x.unk]
def takesRs (num kind : Nat) : Bool := (num == 1 && kind == 2) || (num == 2 && kind == 0)
def readRs (s : List UInt8) (d : Int) : ResM × Option Err :=
 let m := readE s d takesRs
 let y := listR (fun t => readK t (d - 1)) s.length 1 m.err m.recs
 orNone res0 (⟨y.1, (lastR 2 m.recs).n % 4294967296, m.unk⟩, y.2)
def kitRs : Kit ResM where
 t := takesRs
 valid d tk := subsOK (fun t => readK t (d - 1)) 1 tk
 make d tk u := ⟨subsOf (fun t => readK t (d - 1)) 1 tk, (lastR 2 tk).n % 4294967296, u⟩
 zero := res0
 read := readRs
 unk x := x.unk
 withUnk x u := ⟨x.attrs, x.dropped, u⟩
theorem kitRs_ok : kitRs.OK where
 t5 n := by simp [kitRs, takesRs]
 t3 n := by simp [kitRs, takesRs]
 t1 := rfl
 append d a b := by
  simp only [kitRs]
  rw [subsOK_append]
 mono d d' tk h hd := by
  have h' : subsOK (fun t => readK t (d - 1)) 1 tk = true := h
  have := subsK_mono (d := d - 1) (d' := d' - 1) (by omega) h'
  refine ⟨this.1, fun u => ?_⟩
  show ResM.mk (subsOf (fun t => readK t (d' - 1)) 1 tk) _ _ = ResM.mk (subsOf (fun t => readK t (d - 1)) 1 tk) _ _
  rw [this.2]
 unk_mk d tk u := rfl
 with_mk d tk u u' := rfl
 read_core s d := by
  show okO (readRs s d) = _
  unfold readRs
  rw [okO_orNone]
  unfold fieldsO readE
  by_cases h0 : d < 0
  ·rw [if_pos h0, if_pos h0]; simp [okO, listR]
  ·rw [if_neg h0, if_neg h0]
   cases allE s d 0 with
   | error e => simp [okO, listR_some]
   | ok rs =>
    have hl := listR_subs (fun t => readK t (d - 1)) s.length 1 (takenR takesRs rs) none
    dsimp only
    simp only [okO, hl.1, hl.2, Option.bind_some, Kit.core, kitRs]
    simp
 read_err s d e h := by
  show (readRs s d).2 = some e
  have h' : (readE s d takesRs).err = some e := h
  unfold readRs
  dsimp only
  rw [orNone_err, h', listR_some]
 read_bad s d e h := by
  have h' : (readRs s d).2 = some e := h
  show (readRs s d).1 = res0
  unfold readRs at h' ⊢
  exact orNone_bad _ _ h'
theorem readRs_fine (s : List UInt8) (d : Int) : fineO s.length (readRs s d).2 := by
 unfold readRs
 dsimp only
 rw [orNone_err]
 exact listR_fine _ _ _ (fun t x hx => (readK_fine t (d - 1) x hx).1) _ _ readE_fine
def mayRs (x : ResM) (d : Int) : Bool := decide (0 ≤ d) && mayKs x.attrs (d - 1) && restE takesRs x.unk d
def writeRs (x : ResM) : List UInt8 := partsN 1 writeK x.attrs ++ (varB 2 x.dropped ++ x.unk)
theorem writeRs_le {x : ResM} (hw : x.wf) (hs : x.sz ≤ 549755813888) : (writeRs x).length ≤ x.sz + 60 := by
 obtain ⟨w3, w4, w5, w6⟩ := hw
 unfold ResM.sz at *
 have hp := partsK_sz (num := 1) (by omega) w4 (by omega)
 have h4 := numB_le (num := 2) (by omega) (n := x.dropped) (by omega)
 have t4 : (varB 2 x.dropped).length ≤ 11 := by
  unfold varB; split
  ·simp
  ·exact h4
 unfold writeRs
 simp only [List.length_append]; omega
theorem kitRs_wr : kitRs.Wr mayRs writeRs ResM.wf where
 back x d hm hg hl := by
  obtain ⟨w3, w4, w5, w6⟩ := hg
  unfold mayRs at hm
  simp only [Bool.and_eq_true, decide_eq_true_eq] at hm
  obtain ⟨⟨h0, hk⟩, hu⟩ := hm
  obtain ⟨us, hus, hue⟩ := restE_iff.1 hu
  rw [mayKs_all, List.all_eq_true] at hk
  have hll := hl
  unfold writeRs at hll
  simp only [List.length_append] at hll
  have hC := mapR_num (wr := writeK) (num := 1) (l := x.attrs)
  have hD := varR_num (num := 2) (n := x.dropped)
  have okC := mapR_ok (wr := writeK) (d := d) (num := 1) (by omega) (by omega) (l := x.attrs) (by omega)
  have okD := varR_ok (d := d) (num := 2) (n := x.dropped) (by omega) (by omega) (by omega)
  generalize hCe : x.attrs.map (fun a => bytesR 1 (writeK a)) = RC at *
  generalize hDe : varR 2 x.dropped = RD at *
  have hks : ∀ r ∈ RC ++ RD, RecOK d r ∧ takesRs r.num r.kind = true := by
   intro r hr
   simp only [List.mem_append] at hr
   rcases hr with h | h
   ·exact ⟨okC r h, by rw [(hC r h).1, (hC r h).2]; rfl⟩
   ·exact ⟨okD r h, by rw [(hD r h).1, (hD r h).2]; rfl⟩
  have htwo := takenR_two (t := takesRs) (ks := RC ++ RD) (us := us) (fun r hr => (hks r hr).2) (fun r hr => (hus r hr).2)
  have hraw : writeRs x = rawsR ((RC ++ RD) ++ us) := by
   unfold writeRs partsN
   rw [rawsR_append, rawsR_append, ← hCe, ← hDe, varR_raw, hue]
   simp only [List.append_assoc]
  have ne : ∀ {a : Nat} {R : List Rec} {k : Nat}, (∀ r ∈ R, r.num = a ∧ r.kind = k) → ∀ n, a ≠ n → ∀ r ∈ R, r.num ≠ n := fun h n hn r hr => by rw [(h r hr).1]; exact hn
  have hsub := subs_map (rd := fun t => readK t (d - 1)) (wr := writeK) (num := 1) (l := x.attrs) fun a ha => by
   have := partsN_mem (num := 1) (wr := writeK) a ha
   exact readK_writeK (hk a ha) (by omega) (w4 a ha)
  rw [hCe] at hsub
  refine ⟨(RC ++ RD) ++ us, fieldsO_iff.2 ⟨h0, ?_, hraw⟩, ?_, ?_⟩
  ·intro r hr
   rcases List.mem_append.1 hr with h | h
   ·exact (hks r h).1
   ·exact (hus r h).1
  ·show subsOK (fun t => readK t (d - 1)) 1 (takenR takesRs (RC ++ RD ++ us)) = true
   rw [htwo.1, subsOK_append, subsOK_none (ne hD 1 (by omega)), hsub.1]
   rfl
  ·change ResM.mk (subsOf _ 1 (takenR takesRs _)) ((lastR 2 (takenR takesRs _)).n % 4294967296) (unkR takesRs _) = x
   rw [htwo.1, htwo.2, ← hue]
   have l4 : lastR 2 (RC ++ RD) = lastR 2 RD := by rw [lastR_pre (ne hC 2 (by omega))]
   have l3 : subsOf (fun t => readK t (d - 1)) 1 (RC ++ RD) = x.attrs := by
    simp only [subsOf_append]
    rw [subsOf_none (ne hD 1 (by omega)), hsub.2]; simp
   rw [l3, l4, ← hDe, varR_last, Nat.mod_eq_of_lt w5]
 may_of d rs hrs h0 hv := by
  have hv' : subsOK (fun t => readK t (d - 1)) 1 (takenR takesRs rs) = true := hv
  show mayRs ⟨_, _, _⟩ d = true
  unfold mayRs
  simp only [Bool.and_eq_true, decide_eq_true_eq]
  exact ⟨⟨h0, subsK_may hv'⟩, unkR_rest hrs⟩
theorem readRs_wf {s : List UInt8} (hb : s.length ≤ 549755813888) (d : Int) : (readRs s d).1.wf := by
 unfold readRs
 dsimp only
 have hm := readE_mem (s := s) (d := d) (t := takesRs)
 have hl := readE_lens (s := s) (d := d) (t := takesRs)
 refine orNone_of (q := ResM.wf) ?_ ?_
 ·simp [ResM.wf, res0, maxStr]
 ·unfold ResM.wf
  dsimp only
  refine ⟨?_, ?_, Nat.mod_lt _ (by omega), by unfold maxStr; omega⟩
  ·rw [(listR_subs _ _ _ _ _).1]
   have := subsOf_len (rd := fun t => readK t (d - 1)) (num := 1) (tk := (readE s d takesRs).recs)
   unfold maxStr; omega
  ·rw [(listR_subs _ _ _ _ _).1]
   exact subsK_wf fun r hr => by have := (hm r hr).2.2.2.2.2; omega
theorem readRs_sz {s : List UInt8} {d : Int} (h : (readRs s d).2 = none) : (readRs s d).1.sz ≤ 30 + 100 * s.length := by
 obtain ⟨rs, f, v, e⟩ := kitRs_ok.ok (K := kitRs) h
 have hr := fieldsO_readE (t := takesRs) f
 have hl := readE_lens (s := s) (d := d) (t := takesRs)
 have hst := readE_str (s := s) (d := d) (t := takesRs)
 rw [hr] at hl hst
 have v' : subsOK (fun t => readK t (d - 1)) 1 (takenR takesRs rs) = true := v
 have hz := subsK_sz v'
 have e' : (readRs s d).1 = ⟨subsOf (fun t => readK t (d - 1)) 1 (takenR takesRs rs), (lastR 2 (takenR takesRs rs)).n % 4294967296, unkR takesRs rs⟩ := e
 rw [e']
 unfold ResM.sz
 dsimp only at hl hst ⊢
 omega
def rrStep (rd : List UInt8 → Option KV) (st : ResM) (r : Rec) : Option ResM :=
 if takesRs r.num r.kind = false then some ⟨st.attrs, st.dropped, st.unk ++ r.raw⟩
 else if r.num = 1 then (rd r.s).map fun k => ⟨st.attrs ++ [k], st.dropped, st.unk⟩
 else some ⟨st.attrs, r.n % 4294967296, st.unk⟩
def rrLoop (rd : List UInt8 → Option KV) : ResM → List Rec → Option ResM
 | st, [] => some st
 | st, r :: rs => (rrStep rd st r).bind fun st => rrLoop rd st rs
theorem rrLoop_eq (rd : List UInt8 → KV × Option Err) : ∀ (rs : List Rec) (st : ResM), rrLoop (fun t => okO (rd t)) st rs =
  if subsOK rd 1 (takenR takesRs rs) = true then
   some ⟨st.attrs ++ subsOf rd 1 (takenR takesRs rs), ((findR 2 (takenR takesRs rs)).map (·.n % 4294967296)).getD st.dropped, st.unk ++ unkR takesRs rs⟩ else none
 | [], st => by simp [rrLoop, takenR, subsOK, subsOf, findR, unkR]
 | r :: rs, st => by
  rw [rrLoop]
  cases ht : takesRs r.num r.kind with
  | false =>
   have e1 : takenR takesRs (r :: rs) = takenR takesRs rs := by simp [takenR, ht]
   have e2 : unkR takesRs (r :: rs) = r.raw ++ unkR takesRs rs := by simp [unkR, ht]
   rw [rrStep, if_pos ht, Option.bind_some, rrLoop_eq rd rs, e1, e2]
   simp
  | true =>
   have e1 : takenR takesRs (r :: rs) = r :: takenR takesRs rs := by simp [takenR, ht]
   have e2 : unkR takesRs (r :: rs) = unkR takesRs rs := by simp [unkR, ht]
   rw [e1, e2]
   have hn : r.num = 1 ∨ r.num = 2 := by
    unfold takesRs at ht; simp at ht; omega
   have hsk : subsOK rd 1 (r :: takenR takesRs rs) = ((!(r.num == 1) || (rd r.s).2.isNone) && subsOK rd 1 (takenR takesRs rs)) := by simp [subsOK]
   have hso : subsOf rd 1 (r :: takenR takesRs rs) = (if r.num = 1 then [(rd r.s).1] else []) ++ subsOf rd 1 (takenR takesRs rs) := by
    unfold subsOf
    by_cases h : r.num = 1 <;> simp [h]
   rw [rrStep, if_neg (by simp [ht]), hsk, hso, findR_cons]
   rcases hn with h | h
   ·rw [if_pos h]
    cases hx : (rd r.s).2 with
    | none =>
     have : okO (rd r.s) = some (rd r.s).1 := by simp [okO, hx]
     rw [this, Option.map_some, Option.bind_some, rrLoop_eq rd rs]
     simp [h]
    | some e =>
     have : okO (rd r.s) = none := by simp [okO, hx]
     rw [this]
     simp [h]
   ·rw [if_neg (by omega), Option.bind_some, rrLoop_eq rd rs]
    cases findR 2 (takenR takesRs rs) <;> simp [h]
def refRs (s : List UInt8) (d : Int) : Option ResM := (fieldsO s d).bind fun rs => rrLoop (fun t => refK t (d - 1)) res0 rs
theorem refRs_eq (s : List UInt8) (d : Int) : refRs s d = okO (readRs s d) := by
 have e : (fun t => refK t (d - 1)) = fun t => okO (readK t (d - 1)) := funext fun t => refK_eq t (d - 1)
 have hc := kitRs_ok.read_core s d
 have hr : kitRs.read s d = readRs s d := rfl
 rw [hr] at hc
 rw [hc]
 unfold refRs
 congr 1
 funext rs
 rw [e, rrLoop_eq]
 show _ = if subsOK (fun t => readK t (d - 1)) 1 (takenR takesRs rs) = true then some (ResM.mk (subsOf (fun t => readK t (d - 1)) 1 (takenR takesRs rs)) ((lastR 2 (takenR takesRs rs)).n % 4294967296) (unkR takesRs rs)) else none
 split
 ·simp only [res0, lastR_find, List.nil_append, Option.some.injEq, ResM.mk.injEq, true_and, and_true]
  cases findR 2 (takenR takesRs rs) <;> rfl
 ·rfl
end Go.Ai

namespace Go.Ai
theorem WT.fields {P : Program} {t : Nat} {as : List A} {tys : List Nat} (h : WT P t as) (hs : (match P.underlying t with | some (.struct fs) => fs.toList.map (fun (f : Field) => f.type) == tys | _ => false) = true) :
  ∃ ps : List (List A), as = ps.flatten ∧ ps.length = tys.length ∧ ∀ (i : Nat) (t : Nat) (p : List A), tys[i]? = some t → ps[i]? = some p → WT P t p := by
 obtain ⟨fv, huv, hfv⟩ : ∃ fs : Array Field, P.underlying t = some (.struct fs) ∧ fs.toList.map (fun (f : Field) => f.type) = tys := by
  split at hs
  ·exact ⟨_, by assumption, by simpa using hs⟩
  ·cases hs
 cases h with
 | @struct _ fs ps hu hlen hp =>
  rw [huv] at hu; cases hu
  obtain ⟨h1, h2⟩ := WT.parts hlen hp hfv
  exact ⟨ps, rfl, h1, h2⟩
 | _ => simp_all
theorem WT.u64_inv {P : Program} {t : Nat} {as : List A} (h : WT P t as) (hu : P.underlying t = some (.int .u64)) : ∃ n : Nat, as = [.int .u64 n] ∧ n < 18446744073709551616 := by
 obtain ⟨n, rfl, h1⟩ := h.int_inv hu
 simp [IntKind.min, IntKind.max, IntKind.bits, IntKind.signed] at h1
 obtain ⟨m, rfl⟩ := Int.eq_ofNat_of_zero_le h1.1
 exact ⟨m, rfl, by omega⟩
theorem WT.u32_inv {P : Program} {t : Nat} {as : List A} (h : WT P t as) (hu : P.underlying t = some (.int .u32)) : ∃ n : Nat, as = [.int .u32 n] ∧ n < 4294967296 := by
 obtain ⟨n, rfl, h1⟩ := h.int_inv hu
 simp [IntKind.min, IntKind.max, IntKind.bits, IntKind.signed] at h1
 obtain ⟨m, rfl⟩ := Int.eq_ofNat_of_zero_le h1.1
 exact ⟨m, rfl, by omega⟩
theorem WT.kvs {P : Program} {v k i s b u vs ks : Nat} (T : ValTypes P v k i s b u vs ks) {as : List A} (h : WT P ks as) : ∃ l : List KV, as = [.slice (l.map encK) none] ∧ l.length ≤ maxStr ∧ ∀ x ∈ l, x.wf := (h.values T).2.2.2 rfl
theorem WT.scope {P : Program} {v k i s b u vs ks t u32 : Nat} (T : ValTypes P v k i s b u vs ks) (hs : (match P.underlying t with | some (.struct fs) => fs.toList.map (fun (f : Field) => f.type) == [s, s, ks, u32, s] | _ => false) = true) (h32 : P.underlying u32 = some (.int .u32)) {as : List A} (h : WT P t as) :
  ∃ x : ScopeM, as = encScope x ∧ x.wf := by
 obtain ⟨ps, rfl, hl, hp⟩ := h.fields hs
 match ps, hl, hp with
 | [p0, p1, p2, p3, p4], _, hp =>
  obtain ⟨s0, rfl, w0⟩ := (hp 0 s p0 rfl rfl).str_inv T.hs
  obtain ⟨s1, rfl, w1⟩ := (hp 1 s p1 rfl rfl).str_inv T.hs
  obtain ⟨l, rfl, w2, a2⟩ := (hp 2 ks p2 rfl rfl).kvs T
  obtain ⟨n, rfl, w3⟩ := (hp 3 u32 p3 rfl rfl).u32_inv h32
  obtain ⟨s4, rfl, w4⟩ := (hp 4 s p4 rfl rfl).str_inv T.hs
  exact ⟨⟨s0, s1, l, n, s4⟩, rfl, w0, w1, w2, a2, w3, w4⟩
theorem WT.res {P : Program} {v k i s b u vs ks t u32 : Nat} (T : ValTypes P v k i s b u vs ks) (hs : (match P.underlying t with | some (.struct fs) => fs.toList.map (fun (f : Field) => f.type) == [ks, u32, s] | _ => false) = true) (h32 : P.underlying u32 = some (.int .u32)) {as : List A} (h : WT P t as) :
  ∃ x : ResM, as = encRes x ∧ x.wf := by
 obtain ⟨ps, rfl, hl, hp⟩ := h.fields hs
 match ps, hl, hp with
 | [p0, p1, p2], _, hp =>
  obtain ⟨l, rfl, w2, a2⟩ := (hp 0 ks p0 rfl rfl).kvs T
  obtain ⟨n, rfl, w3⟩ := (hp 1 u32 p1 rfl rfl).u32_inv h32
  obtain ⟨s4, rfl, w4⟩ := (hp 2 s p2 rfl rfl).str_inv T.hs
  exact ⟨⟨l, n, s4⟩, rfl, w2, a2, w3, w4⟩
end Go.Ai

namespace Go.Ai
theorem enough (s : List UInt8) : ∀ m q, s.length + 1 - q ≤ m → q ≤ s.length → ∀ d num,
  (∀ e (d' : Int), loopE s d num q = .ok e → (e : Int) - q - 1 ≤ d' → loopE s d' num q = .ok e) ∧ (∀ kind t n bs e (d' : Int), bodyE s d num kind t q = .ok (n, bs, e) → (e : Int) - q ≤ d' → bodyE s d' num kind t q = .ok (n, bs, e)) := by
 intro m
 induction m with
 | zero => intro q hm hq; omega
 | succ m ih =>
  intro q hm hq
  have hl : ∀ d num e (d' : Int), loopE s d num q = .ok e → (e : Int) - q - 1 ≤ d' → loopE s d' num q = .ok e := by
   intro d num e d' h hd
   cases ht : tagE s q with
   | error x => rw [loopE_err ht] at h; cases h
   | ok r =>
    obtain ⟨n, kind, q1⟩ := r
    have h1 := tagE_lt ht
    rw [loopE_ok ht] at h ⊢
    by_cases h4 : kind = 4
    ·rw [if_pos h4] at h ⊢; exact h
    ·rw [if_neg h4] at h ⊢
     split at h
     ·cases h
     ·rename_i n2 b2 q2 hb
      have h2 := bodyE_lt hb h1.2.1
      rw [if_pos (by omega)] at h
      have h3 := loopE_lt h h2.2.1
      rw [(ih q1 (by omega) h1.2.1 d n).2 kind q n2 b2 q2 d' hb (by omega)]
      dsimp only
      rw [if_pos (by omega)]
      exact (ih q2 (by omega) h2.2.1 d num).1 e d' h (by omega)
  intro d num
  refine ⟨hl d num, ?_⟩
  intro kind t n bs e d' h hd
  rw [bodyE] at h ⊢
  by_cases k0 : kind = 0
  ·rw [if_pos k0] at h ⊢; exact h
  rw [if_neg k0] at h ⊢
  by_cases k1 : kind = 1
  ·rw [if_pos k1] at h ⊢; exact h
  rw [if_neg k1] at h ⊢
  by_cases k5 : kind = 5
  ·rw [if_pos k5] at h ⊢; exact h
  rw [if_neg k5] at h ⊢
  by_cases k2 : kind = 2
  ·rw [if_pos k2] at h ⊢; exact h
  rw [if_neg k2] at h ⊢
  by_cases k3 : kind = 3
  ·rw [if_pos k3] at h ⊢
   obtain ⟨e', h1, h2⟩ := map_ok h
   simp only [Prod.mk.injEq] at h2
   obtain ⟨rfl, rfl, rfl⟩ := h2
   rw [groupE] at h1 ⊢
   split at h1
   ·cases h1
   ·have := loopE_lt h1 hq
    rw [if_neg (by omega), hl (d - 1) num e' (d' - 1) h1 (by omega)]
    rfl
  ·rw [if_neg k3] at h; cases h
theorem RecOK.enough {d d' : Int} {r : Rec} (h : RecOK d r) (hd : (r.raw.length : Int) ≤ d') : RecOK d' r := by
 unfold RecOK at *
 unfold recE at h ⊢
 cases ht : tagE r.raw 0 with
 | error x => rw [ht] at h; cases h
 | ok x =>
  obtain ⟨num, kind, q⟩ := x
  rw [ht] at h
  dsimp only at h ⊢
  have h1 := tagE_lt ht
  obtain ⟨⟨n, bs, e'⟩, hb, h2⟩ := map_ok h
  have h3 := bodyE_lt hb h1.2.1
  rw [(Go.Ai.enough r.raw _ q (Nat.le_refl _) h1.2.1 d num).2 kind 0 n bs e' d' hb (by omega), ← h, hb]
theorem restE_enough {t : Nat → Nat → Bool} {s : List UInt8} {d d' : Int} (h : restE t s d = true) (hd : (s.length : Int) ≤ d') : restE t s d' = true := by
 rw [restE_iff] at h ⊢
 obtain ⟨us, h1, h2⟩ := h
 refine ⟨us, fun r hr => ⟨(h1 r hr).1.enough ?_, (h1 r hr).2⟩, h2⟩
 have : r.raw.length ≤ s.length := by
  rw [h2]
  obtain ⟨a, b, rfl⟩ := List.append_of_mem hr
  rw [rawsR_append, rawsR_cons]
  simp only [List.length_append]; omega
 omega
theorem may_enough : (∀ x : Val, ∀ d d' : Int, mayV x d = true → (x.sz : Int) ≤ d' → mayV x d' = true) ∧ ∀ x : KV, ∀ d d' : Int, mayK x d = true → (x.sz : Int) ≤ d' → mayK x d' = true := by
 refine Val.ind2 ?_ ?_
 ·intro k s b n l m i u ihl ihm d d' hm hs
  rw [Val.sz_mk] at hs
  rw [mayV] at hm ⊢
  simp only [Bool.and_eq_true, decide_eq_true_eq] at hm ⊢
  obtain ⟨⟨⟨h0, hb⟩, hu⟩, hi⟩ := hm
  refine ⟨⟨⟨by omega, hb⟩, restE_enough hu (by omega)⟩, ?_⟩
  split at hi
  ·rename_i hk
   rw [if_pos hk]
   simp only [Bool.and_eq_true, decide_eq_true_eq, mayVs_all, mayKs_all, List.all_eq_true] at hi ⊢
   obtain ⟨⟨⟨h1, h2⟩, h3⟩, h4⟩ := hi
   exact ⟨⟨⟨by omega, restE_enough h2 (by omega)⟩, fun x hx => ihl x hx _ _ (h3 x hx) (by have := Val.szs_mem hx; omega)⟩, fun x hx => ihm x hx _ _ (h4 x hx) (by have := KV.szs_mem hx; omega)⟩
  ·rename_i hk
   rw [if_neg hk]
 ·intro key has v u ih d d' hm hs
  rw [KV.sz_mk] at hs
  rw [mayK] at hm ⊢
  simp only [Bool.and_eq_true, decide_eq_true_eq] at hm ⊢
  obtain ⟨⟨⟨h0, hk⟩, hu⟩, hi⟩ := hm
  refine ⟨⟨⟨by omega, hk⟩, restE_enough hu (by omega)⟩, ?_⟩
  cases has with
  | true =>
   rw [if_pos rfl] at hi ⊢
   exact ih _ _ hi (by omega)
  | false => exact hi
theorem mayKs_enough {l : List KV} {d d' : Int} (h : mayKs l d = true) (hd : (KV.szs l : Int) ≤ d') : mayKs l d' = true := by
 rw [mayKs_all, List.all_eq_true] at h ⊢
 exact fun x hx => may_enough.2 x _ _ (h x hx) (by have := KV.szs_mem hx; omega)
theorem mayS_enough {x : ScopeM} {d d' : Int} (h : mayS x d = true) (hd : (x.sz : Int) ≤ d') : mayS x d' = true := by
 unfold ScopeM.sz at hd
 unfold mayS at h ⊢
 simp only [Bool.and_eq_true, decide_eq_true_eq] at h ⊢
 obtain ⟨⟨⟨⟨h0, h1⟩, h2⟩, h3⟩, h4⟩ := h
 exact ⟨⟨⟨⟨by omega, h1⟩, h2⟩, mayKs_enough h3 (by omega)⟩, restE_enough h4 (by omega)⟩
theorem mayRs_enough {x : ResM} {d d' : Int} (h : mayRs x d = true) (hd : (x.sz : Int) ≤ d') : mayRs x d' = true := by
 unfold ResM.sz at hd
 unfold mayRs at h ⊢
 simp only [Bool.and_eq_true, decide_eq_true_eq] at h ⊢
 obtain ⟨⟨h0, h3⟩, h4⟩ := h
 exact ⟨⟨by omega, mayKs_enough h3 (by omega)⟩, restE_enough h4 (by omega)⟩
theorem joinS {s t : List UInt8} {d : Int} (hs : (readS s d).2 = none) (ht : (readS t d).2 = none) :
  (readS (s ++ t) d).2 = none ∧ (readS (s ++ t) d).1.unk = (readS s d).1.unk ++ (readS t d).1.unk ∧ (readS (s ++ t) d).1.attrs = (readS s d).1.attrs ++ (readS t d).1.attrs := by
 obtain ⟨rs, rt, f1, f2, e1, e2, e3⟩ := kitS_ok.joins (s := s) (t := t) (d := d) hs ht
 have e1' : (readS s d).1 = _ := e1
 have e2' : (readS t d).1 = _ := e2
 have e3' : readS (s ++ t) d = _ := e3
 rw [e1', e2', e3']
 exact ⟨rfl, rfl, subsOf_append (fun t => readK t (d - 1)) 3 (takenR takesS rs) (takenR takesS rt)⟩
theorem joinRs {s t : List UInt8} {d : Int} (hs : (readRs s d).2 = none) (ht : (readRs t d).2 = none) :
  (readRs (s ++ t) d).2 = none ∧ (readRs (s ++ t) d).1.unk = (readRs s d).1.unk ++ (readRs t d).1.unk ∧ (readRs (s ++ t) d).1.attrs = (readRs s d).1.attrs ++ (readRs t d).1.attrs := by
 obtain ⟨rs, rt, f1, f2, e1, e2, e3⟩ := kitRs_ok.joins (s := s) (t := t) (d := d) hs ht
 have e1' : (readRs s d).1 = _ := e1
 have e2' : (readRs t d).1 = _ := e2
 have e3' : readRs (s ++ t) d = _ := e3
 rw [e1', e2', e3']
 exact ⟨rfl, rfl, subsOf_append (fun t => readK t (d - 1)) 1 (takenR takesRs rs) (takenR takesRs rt)⟩
theorem Kit.OK.others {M : Type} {K : Kit M} (O : K.OK) {s : List UInt8} {d : Int} (hs : (K.read s d).2 = none) {num : Nat} (h1 : 1 ≤ num) (h2 : num ≤ 536870911) {b : List UInt8} (hb : b.length = 4) {x : Nat} (hx : x < 18446744073709551616) :
  K.read (s ++ (tagB num 5 ++ b)) d = (K.withUnk (K.read s d).1 (K.unk (K.read s d).1 ++ (tagB num 5 ++ b)), none) ∧
  K.read ((tagB num 5 ++ b) ++ s) d = (K.withUnk (K.read s d).1 ((tagB num 5 ++ b) ++ K.unk (K.read s d).1), none) ∧
  (K.read (fixB 536870911 x ++ s ++ fixB 536870911 x) d).2 = none ∧ K.unk (K.read (fixB 536870911 x ++ s ++ fixB 536870911 x) d).1 = K.unk (K.withUnk (K.withUnk (K.read s d).1 (fixB 536870911 x ++ K.unk (K.read s d).1)) (K.unk (K.withUnk (K.read s d).1 (fixB 536870911 x ++ K.unk (K.read s d).1)) ++ fixB 536870911 x)) := by
 have ok1 := f32R_ok (d := d) h1 h2 hb
 have ok2 : RecOK d (fixR 536870911 x) := fixR_ok (by omega) (by omega) hx
 have b1 := O.behind hs (us := [f32R num b]) (by simp only [List.mem_singleton, forall_eq]; exact ⟨ok1, O.t5 num⟩)
 have a1 := (O.ahead (s := s) ok1 (O.t5 num)).1 hs
 have a2 := (O.ahead (s := s) ok2 O.t1).1 hs
 have b2 := O.behind (s := (fixR 536870911 x).raw ++ s) (d := d) (by rw [a2]) (us := [fixR 536870911 x]) (by simp only [List.mem_singleton, forall_eq]; exact ⟨ok2, O.t1⟩)
 have r1 : rawsR [f32R num b] = tagB num 5 ++ b := by simp [f32R]
 have r2 : rawsR [fixR 536870911 x] = fixB 536870911 x := by simp [fixR]
 have r3 : (fixR 536870911 x).raw = fixB 536870911 x := rfl
 have r4 : (f32R num b).raw = tagB num 5 ++ b := rfl
 rw [r1] at b1
 rw [r4] at a1
 rw [r3] at a2 b2
 rw [r2] at b2
 rw [a2] at b2
 refine ⟨b1, a1, by rw [b2], by rw [b2]⟩
theorem Kit.OK.others_bad {M : Type} {K : Kit M} (O : K.OK) {s : List UInt8} {d : Int} {e : Err} (hs : (K.read s d).2 = some e) {num : Nat} (h1 : 1 ≤ num) (h2 : num ≤ 536870911) {b : List UInt8} (hb : b.length = 4) : ∃ e', (K.read ((tagB num 5 ++ b) ++ s) d).2 = some e' :=
 (O.ahead (s := s) (f32R_ok (d := d) h1 h2 hb) (O.t5 num)).2 e hs
theorem Kit.OK.deep {M : Type} {K : Kit M} (O : K.OK) {s : List UInt8} {d : Nat} (hs : (K.read s d).2 = none) :
  K.read (s ++ nest d) d = (K.withUnk (K.read s d).1 (K.unk (K.read s d).1 ++ nest d), none) ∧
  (∃ e, (K.read (s ++ (tagB 91 3 ++ (nest d ++ tagB 91 4))) d).2 = some e ∧ e.codeOf = 6) ∧
  (∃ e, (K.read (s ++ tagB 90 3) d).2 = some e) ∧ ∃ e, (K.read (s ++ (tagB 90 3 ++ tagB 92 4)) d).2 = some e := by
 have hp : ∀ n k, tagB n k ≠ [] := fun n k h => by
  have h2 := putV_pos (n * 8 + k)
  unfold tagB at h
  rw [h] at h2
  simp at h2
 refine ⟨?_, ?_, ?_, ?_⟩
 ·obtain ⟨rs, h1, h2, _⟩ := nest_ok d d (by omega)
  have := O.behind hs (us := rs) fun r hr => ⟨(h2 r hr).1, by rw [(h2 r hr).2.1]; exact O.t3 _⟩
  rwa [← h1] at this
 ·obtain ⟨e, h1, h2⟩ := too_deep (d := d) (s := s)
  exact ⟨e, O.breaks hs (by simp [hp]) h1, h2⟩
 ·obtain ⟨e, h1⟩ := no_end (d := d) (s := s)
  exact ⟨e, O.breaks hs (hp _ _) h1⟩
 ·obtain ⟨e, h1⟩ := other_end (d := d) (s := s)
  exact ⟨e, O.breaks hs (by simp [hp]) h1⟩
end Go.Ai

