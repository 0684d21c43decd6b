/- Part KC of the proof that a law of this program answers yes at every input: no conditions beyond the given statement. -/
import Derived.Orders
import Derived.Lib.Join
import Derived.Test.YtbpllbpgaiphaaaGreatDoorKB
import Derived.Test.YtbpllbpgaiphaaaGreatDoorKA
set_option linter.unusedSimpArgs false
set_option linter.unusedVariables false
set_option linter.all false
/- What an operation of the evaluator looks at and what it turns. -/
namespace Go.Ai
open Go.RowKit

def tmpsOf (xs : List Operand) : List Nat := xs.filterMap fun | .tmp t => some t | _ => none

/-- the slots that an operation looks at -/
def looks (o : Oper) : List Nat := tmpsOf o.op.operands.toList
/-- the slots that lose a right to grow -/
def takesOf (all : List Oper) (o : Oper) : List Nat := match o.op with
  | .move x => if feeds all o.dst then tmpsOf [x] else []
  | .assign x => tmpsOf [x]
  | .store _ _ y => tmpsOf [y]
  | .call { callee := .builtin .append, args, .. } => match args.toList with | x :: _ => tmpsOf [x] | [] => []
  | _ => []
def touch (all : List Oper) (o : Oper) : List Nat := o.dst.toList ++ takesOf all o

/-- slots set one behind the other -/
def applyU : List (Nat × A) → Fr → Fr
  | [], fr => fr
  | (t, v) :: us, fr => applyU us (fr.set t v)

def agree (ts : List Nat) (fr fr2 : Fr) : Prop := ∀ t ∈ ts, fr t = fr2 t

theorem mem_tmpsOf {xs : List Operand} {t : Nat} : t ∈ tmpsOf xs ↔ Operand.tmp t ∈ xs := by
  simp only [tmpsOf, List.mem_filterMap]
  constructor
  · rintro ⟨x, hx, h⟩
    cases x <;> simp at h
    subst h; exact hx
  · intro h; exact ⟨_, h, rfl⟩

theorem ev_agree {fr fr2 : Fr} {x : Operand} (h : ∀ t, x = .tmp t → fr t = fr2 t) : ev fr x = ev fr2 x := by
  cases x with
  | tmp t => simp [ev, h t rfl]
  | _ => rfl
theorem evw_agree {fr fr2 : Fr} {x : Operand} (h : ∀ t, x = .tmp t → fr t = fr2 t) : evw fr x = evw fr2 x := by simp [evw, ev_agree h]

/-- a slot without its right -/
def takeF (x : Operand) (v : A) : List (Nat × A) := match x with | .tmp t => [(t, v.weak)] | _ => []
theorem takeA_eq (fr : Fr) (x : Operand) : takeA fr x = (ev fr x).map fun v => (v, applyU (takeF x v) fr) := by
  cases x <;> simp [takeA, ev, takeF, applyU]

theorem mapM_agree {fr fr2 : Fr} : ∀ {xs : List Operand}, (∀ x ∈ xs, evw fr x = evw fr2 x) → xs.mapM (evw fr) = xs.mapM (evw fr2)
  | [], _ => rfl
  | x :: xs, h => by simp only [List.mapM_cons, h x (by simp), mapM_agree (fun y hy => h y (List.mem_cons_of_mem _ hy))]
theorem mapM_agreeN {fr fr2 : Fr} : ∀ {xs : List Operand}, (∀ x ∈ xs, ev fr x = ev fr2 x) → xs.mapM (evn fr) = xs.mapM (evn fr2)
  | [], _ => rfl
  | x :: xs, h => by simp only [List.mapM_cons, evn, h x (by simp), mapM_agreeN (fun y hy => h y (List.mem_cons_of_mem _ hy))]
theorem argsA_agree {E : Env} {fr fr2 : Fr} {g : Operand} {xs : List Operand} (h : ∀ x ∈ xs, ev fr x = ev fr2 x ∧ evw fr x = evw fr2 x) : argsA E fr g xs = argsA E fr2 g xs := by
  unfold argsA
  rw [mapM_agree fun x hx => (h x hx).2, mapM_agreeN fun x hx => (h x hx).1]
theorem mapM_agreeK {k : Bool} {fr fr2 : Fr} : ∀ {xs : List (Nat × Operand)}, (∀ x ∈ xs, ev fr x.2 = ev fr2 x.2 ∧ evw fr x.2 = evw fr2 x.2) → xs.mapM (evpK k fr) = xs.mapM (evpK k fr2)
  | [], _ => rfl
  | x :: xs, h => by
    have hx := h x (by simp)
    have e : evpK k fr x = evpK k fr2 x := by cases k <;> simp only [evpK, evp, evn, hx.1, hx.2]
    simp only [List.mapM_cons, e, mapM_agreeK (fun y hy => h y (List.mem_cons_of_mem _ hy))]
theorem mapM_agreeP {fr fr2 : Fr} : ∀ {xs : List (Nat × Operand)}, (∀ x ∈ xs, evw fr x.2 = evw fr2 x.2) → xs.mapM (evp fr) = xs.mapM (evp fr2)
  | [], _ => rfl
  | x :: xs, h => by simp only [List.mapM_cons, evp, h x (by simp), mapM_agreeP (fun y hy => h y (List.mem_cons_of_mem _ hy))]

theorem put_applyU (us : List (Nat × A)) (fr : Fr) (d : Option Nat) (v : A) : (applyU us fr).put d v = applyU (us ++ (d.toList.map fun t => (t, v))) fr := by
  induction us generalizing fr with
  | nil => cases d <;> rfl
  | cons u us ih => exact ih _
theorem put_eqU (fr : Fr) (d : Option Nat) (v : A) : fr.put d v = applyU (d.toList.map fun t => (t, v)) fr := put_applyU [] fr d v

/-- a frame's operands agree -/
theorem op_agree {o : Oper} {fr fr2 : Fr} (h : agree (looks o) fr fr2) {x : Operand} (hx : x ∈ o.op.operands.toList) : ev fr x = ev fr2 x ∧ evw fr x = evw fr2 x := by
  have : ∀ t, x = .tmp t → fr t = fr2 t := fun t e => h t (mem_tmpsOf.2 (by rw [← e]; exact hx))
  exact ⟨ev_agree this, evw_agree this⟩

theorem pureA_agree {P : Program} {o : Oper} {fr fr2 : Fr} (h : agree (looks o) fr fr2) : pureA P fr o = pureA P fr2 o := by
  have hop : ∀ x ∈ o.op.operands.toList, ev fr x = ev fr2 x ∧ evw fr x = evw fr2 x := fun x hx => op_agree h hx
  unfold pureA
  split
  · rename_i e; rw [e] at hop; simp [Op.operands] at hop; rw [hop.1.2, hop.2.2]
  · rename_i e; rw [e] at hop; simp [Op.operands] at hop; rw [hop.2]
  · rename_i e; rw [e] at hop; simp [Op.operands] at hop; rw [hop.2]
  · rename_i e; rw [e] at hop; simp [Op.operands] at hop; rw [hop.2]
  · rename_i e; rw [e] at hop; simp [Op.operands] at hop; rw [hop.2]
  · rename_i e; rw [e] at hop; simp [Op.operands] at hop; rw [hop.2]
  · rename_i e; rw [e] at hop; simp [Op.operands] at hop; rw [hop.1.2, hop.2.2]
  · rename_i e; rw [e] at hop; simp [Op.operands] at hop; rw [hop.1.2, hop.2.2]
  · rename_i e; rw [e] at hop; simp [Op.operands] at hop; rw [hop.1]
  · rename_i e
    rw [e] at hop
    split
    · rw [mapM_agree (fun x hx => (hop x (by simp [Op.operands]; exact .inr (by simpa using hx))).2)]
    · rfl
  · rename_i e; rw [e] at hop; simp [Op.operands] at hop; rw [hop.1.2, hop.2.1.2, hop.2.2.2]
  · rename_i t parts e
    rw [e] at hop
    rw [mapM_agreeP (xs := parts.toList) (fun x hx => (hop x.2 (by simp [Op.operands]; exact ⟨x.1, by simpa using hx⟩)).2)]
  · rename_i t x lo hi e
    rw [e] at hop
    have h1 := (hop x (by simp [Op.operands])).2
    have h2 : evo fr lo = evo fr2 lo := by
      cases lo with
      | none => rfl
      | some y => simp only [evo]; rw [(hop y (by simp [Op.operands])).2]
    have h3 : evo fr hi = evo fr2 hi := by
      cases hi with
      | none => rfl
      | some y => simp only [evo]; rw [(hop y (by simp [Op.operands])).2]
    rw [h1, h2, h3]
  · rename_i b args ts e
    rw [e] at hop
    split
    · rename_i x t ha ht
      have := (hop x (by simp [Op.operands, Call.operands, ha])).2
      rw [this]
    · rename_i x y ha
      have h1 := (hop x (by simp [Op.operands, Call.operands, ha])).2
      have h2 := (hop y (by simp [Op.operands, Call.operands, ha])).2
      rw [h1, h2]
    · rename_i x y ha
      have h1 := (hop x (by simp [Op.operands, Call.operands, ha])).2
      have h2 := (hop y (by simp [Op.operands, Call.operands, ha])).2
      rw [h1, h2]
    · rfl
  · rfl

/-- An operation's answer is a list of slots set, whatever the others hold. -/
theorem stepA_eff {E : Env} {cl : Id → Nat → List A → Heap → Option (A × Heap)} {p : Id} {all : List Oper} {o : Oper} {fr fr' : Fr} {c c' : Nat} {h h' : Heap} (hst : stepA E cl p all o fr c h = some (fr', c', h')) :
    ∃ us : List (Nat × A), fr' = applyU us fr ∧ (∀ u ∈ us, u.1 ∈ touch all o) ∧ ∀ fr2, agree (looks o) fr fr2 → stepA E cl p all o fr2 c h = some (applyU us fr2, c', h') := by
  have hdst : ∀ (v : A) (u : Nat × A), u ∈ (o.dst.toList.map fun t => (t, v)) → u.1 ∈ touch all o := by
    intro v u hu
    simp only [List.mem_map] at hu
    obtain ⟨t, ht, rfl⟩ := hu
    exact List.mem_append_left _ ht
  have hop : ∀ fr2, agree (looks o) fr fr2 → ∀ x ∈ o.op.operands.toList, ev fr x = ev fr2 x ∧ evw fr x = evw fr2 x := fun fr2 h x hx => op_agree h hx
  have pure : (pureA E.P fr o).map (fun v => (fr.put o.dst v.noOwn, c, h)) = some (fr', c', h') →
      ∃ us : List (Nat × A), fr' = applyU us fr ∧ (∀ u ∈ us, u.1 ∈ touch all o) ∧ ∀ fr2, agree (looks o) fr fr2 → (pureA E.P fr2 o).map (fun v => (fr2.put o.dst v.noOwn, c, h)) = some (applyU us fr2, c', h') := by
    intro hp
    simp only [Option.map_eq_some_iff, Prod.mk.injEq] at hp
    obtain ⟨v, hv, rfl, rfl, rfl⟩ := hp
    refine ⟨_, put_eqU .., hdst _, fun fr2 hag => ?_⟩
    rw [← pureA_agree hag, hv]
    simp [put_eqU]
  have take1 : ∀ (x : Operand) (v : A) (u : Nat × A), (∀ t, x = .tmp t → t ∈ touch all o) → u ∈ takeF x v → u.1 ∈ touch all o := by
    intro x v u hx hu
    cases x with
    | tmp t => simp [takeF] at hu; subst hu; exact hx t rfl
    | _ => simp [takeF] at hu
  unfold stepA at hst
  split at hst
  · -- move
    rename_i x hopx
    split at hst
    · rename_i hfeed
      rw [takeA_eq] at hst
      simp only [Option.map_map, Option.map_eq_some_iff, Function.comp, Prod.mk.injEq] at hst
      obtain ⟨v, hv, rfl, rfl, rfl⟩ := hst
      refine ⟨_, put_applyU .., ?_, fun fr2 hag => ?_⟩
      · intro u hu
        rcases List.mem_append.1 hu with hu | hu
        · exact take1 x v u (fun t e => List.mem_append_right _ (by simp [takesOf, hopx, (Bool.and_eq_true_iff.1 hfeed).2, e, mem_tmpsOf])) hu
        · exact hdst _ u hu
      · unfold stepA
        simp only [hopx, hfeed, if_true]
        rw [takeA_eq, ← ((hop fr2 hag) x (by simp [hopx, Op.operands])).1, hv]
        simp [put_applyU]
    · rename_i hfeed
      simp only [Option.map_eq_some_iff, Prod.mk.injEq] at hst
      obtain ⟨v, hv, rfl, rfl, rfl⟩ := hst
      refine ⟨_, put_eqU .., hdst _, fun fr2 hag => ?_⟩
      unfold stepA
      simp only [hopx, hfeed]
      have hxx := (hop fr2 hag) x (by simp [hopx, Op.operands])
      have e : evK E.feed fr x = evK E.feed fr2 x := by cases E.feed <;> simp only [evK, evn, hxx.1, hxx.2]
      rw [← e, hv]
      simp [put_eqU]
  · -- assign
    rename_i x hopx
    rw [takeA_eq] at hst
    simp only [Option.map_map, Option.map_eq_some_iff, Function.comp, Prod.mk.injEq] at hst
    obtain ⟨v, hv, rfl, rfl, rfl⟩ := hst
    refine ⟨_, put_applyU .., ?_, fun fr2 hag => ?_⟩
    · intro u hu
      rcases List.mem_append.1 hu with hu | hu
      · exact take1 x v u (fun t e => List.mem_append_right _ (by simp [takesOf, hopx, e, mem_tmpsOf])) hu
      · exact hdst _ u hu
    · unfold stepA
      simp only [hopx]
      rw [takeA_eq, ← ((hop fr2 hag) x (by simp [hopx, Op.operands])).1, hv]
      simp [put_applyU]
  · -- alloc
    rename_i t hopx
    simp only [Option.map_eq_some_iff, Prod.mk.injEq] at hst
    obtain ⟨z, hz, rfl, rfl, rfl⟩ := hst
    refine ⟨_, put_eqU .., hdst _, fun fr2 hag => ?_⟩
    unfold stepA
    simp [hopx, hz, put_eqU]
  · -- box
    rename_i t x hopx
    simp only [Option.bind_eq_some_iff, Option.map_eq_some_iff, Prod.mk.injEq] at hst
    obtain ⟨v, hv, cs, hcs, rfl, rfl, rfl⟩ := hst
    refine ⟨_, put_eqU .., hdst _, fun fr2 hag => ?_⟩
    unfold stepA
    simp only [hopx]
    rw [← ((hop fr2 hag) x (by simp [hopx, Op.operands])).1, hv]
    simp [hcs, put_eqU]
  · -- load
    rename_i t x hopx
    simp only [Option.bind_eq_some_iff] at hst
    obtain ⟨a, ha, hst⟩ := hst
    have hx := fun fr2 hag => ((hop fr2 hag) x (by simp [hopx, Op.operands])).1
    split at hst
    · rename_i hfeed
      split at hst
      · rename_i id off
        simp only [Option.bind_eq_some_iff] at hst
        obtain ⟨cs, hcs, hst⟩ := hst
        split at hst
        · rename_i n hsh
          simp only [Option.map_eq_some_iff, Prod.mk.injEq] at hst
          obtain ⟨v, hv, rfl, rfl, rfl⟩ := hst
          refine ⟨_, put_eqU .., hdst _, fun fr2 hag => ?_⟩
          unfold stepA
          simp only [hopx]
          rw [← hx fr2 hag, ha]
          simp [hfeed, hcs, hsh, hv, put_eqU]
        · cases hst
      · cases hst
    · rename_i hfeed
      simp only [Option.map_eq_some_iff, Prod.mk.injEq] at hst
      obtain ⟨v, hv, rfl, rfl, rfl⟩ := hst
      refine ⟨_, put_eqU .., hdst _, fun fr2 hag => ?_⟩
      unfold stepA
      simp only [hopx]
      rw [← hx fr2 hag, ha]
      simp [hfeed, hv, put_eqU]
  · -- store
    rename_i t x y hopx
    simp only [Option.bind_eq_some_iff, Prod.exists] at hst
    obtain ⟨a, ha, v, fr1, htk, hst⟩ := hst
    rw [takeA_eq] at htk
    simp only [Option.map_eq_some_iff, Prod.mk.injEq] at htk
    obtain ⟨v', hv', rfl, rfl⟩ := htk
    split at hst
    · rename_i id off n hsz
      simp only [Option.bind_eq_some_iff] at hst
      obtain ⟨vs, hvs, hst⟩ := hst
      split at hst
      · rename_i hn
        simp only [Option.bind_eq_some_iff, Option.map_eq_some_iff, Prod.mk.injEq] at hst
        obtain ⟨cs, hcs, cs', hcs', rfl, rfl, rfl⟩ := hst
        refine ⟨_, put_applyU .., ?_, fun fr2 hag => ?_⟩
        · intro u hu
          rcases List.mem_append.1 hu with hu | hu
          · exact take1 y v' u (fun t e => List.mem_append_right _ (by simp [takesOf, hopx, e, mem_tmpsOf])) hu
          · exact hdst _ u hu
        · unfold stepA
          simp only [hopx]
          rw [← ((hop fr2 hag) x (by simp [hopx, Op.operands])).1, ha, takeA_eq, ← ((hop fr2 hag) y (by simp [hopx, Op.operands])).1, hv']
          simp [hsz, hvs, hn, hcs, hcs', put_applyU]
      · cases hst
    · cases hst
  · -- buildSlice
    rename_i t len parts hopx
    split at hst
    · rename_i e hk
      split at hst
      · rename_i s z hsz hz
        split at hst
        · rename_i hc
          simp only [Option.bind_eq_some_iff, Option.map_eq_some_iff, Prod.mk.injEq] at hst
          obtain ⟨ps, hps, xs, hxs, rfl, rfl, rfl⟩ := hst
          refine ⟨_, put_eqU .., hdst _, fun fr2 hag => ?_⟩
          unfold stepA
          simp only [hopx, hk, hsz, hz, if_pos hc]
          rw [← mapM_agreeK (fr := fr) (fun x hx => (hop fr2 hag) x.2 (by simp [hopx, Op.operands]; exact ⟨x.1, by simpa using hx⟩)), hps]
          simp [hxs, put_eqU]
        · cases hst
      · cases hst
    · cases hst
  · -- makeSlice
    rename_i t l n hopx
    split at hst
    · rename_i e k1 l' k2 n' hk hl hn
      split at hst
      · rename_i s z b hsz hz hb
        split at hst
        · rename_i hc
          have h1 := fun fr2 hag => ((hop fr2 hag) l (by simp [hopx, Op.operands])).2
          have h2 := fun fr2 hag => ((hop fr2 hag) n (by simp [hopx, Op.operands])).2
          split at hst
          · rename_i h0
            simp only [Option.some.injEq, Prod.mk.injEq] at hst
            obtain ⟨rfl, rfl, rfl⟩ := hst
            refine ⟨_, put_eqU .., hdst _, fun fr2 hag => ?_⟩
            unfold stepA
            simp only [hopx, ← h1 fr2 hag, ← h2 fr2 hag, hk, hl, hn, hsz, hz, hb, if_pos hc, if_pos h0, put_eqU]
          · rename_i h0
            split at hst
            · rename_i hln
              simp only [Option.some.injEq, Prod.mk.injEq] at hst
              obtain ⟨rfl, rfl, rfl⟩ := hst
              refine ⟨_, put_eqU .., hdst _, fun fr2 hag => ?_⟩
              unfold stepA
              simp only [hopx, ← h1 fr2 hag, ← h2 fr2 hag, hk, hl, hn, hsz, hz, hb, if_pos hc, if_neg h0, if_pos hln, put_eqU]
            · cases hst
        · cases hst
      · cases hst
    · cases hst
  · -- makeInterface
    rename_i t x hopx
    simp only [Option.bind_eq_some_iff] at hst
    obtain ⟨a, ha, hst⟩ := hst
    have hx := fun fr2 hag => ((hop fr2 hag) x (by simp [hopx, Op.operands])).2
    split at hst
    · cases hst
    · rename_i hne
      split at hst
      · rename_i hcon
        split at hst
        · rename_i hfz
          split at hst
          · rename_i id
            simp only [Option.map_eq_some_iff, Prod.mk.injEq] at hst
            obtain ⟨cs, hcs, rfl, rfl, rfl⟩ := hst
            refine ⟨_, put_eqU .., hdst _, fun fr2 hag => ?_⟩
            unfold stepA
            simp only [hopx]
            rw [← hx fr2 hag, ha]
            simp only [Option.bind_some]
            split
            · simp [hfz, hcs, put_eqU]
            · rename_i e; exact absurd hcon e
          · rename_i cs off
            simp only [Option.some.injEq, Prod.mk.injEq] at hst
            obtain ⟨rfl, rfl, rfl⟩ := hst
            refine ⟨_, put_eqU .., hdst _, fun fr2 hag => ?_⟩
            unfold stepA
            simp only [hopx]
            rw [← hx fr2 hag, ha]
            simp only [Option.bind_some]
            split
            · simp [hfz, put_eqU]
            · rename_i e; exact absurd hcon e
          · cases hst
        · rename_i hfz
          simp only [Option.some.injEq, Prod.mk.injEq] at hst
          obtain ⟨rfl, rfl, rfl⟩ := hst
          refine ⟨_, put_eqU .., hdst _, fun fr2 hag => ?_⟩
          unfold stepA
          simp only [hopx]
          rw [← hx fr2 hag, ha]
          simp only [Option.bind_some]
          split
          · simp [hfz, put_eqU]
          · rename_i e; exact absurd hcon e
      · cases hst
  · -- convert
    rename_i s d x hopx
    have hx := fun fr2 hag => ((hop fr2 hag) x (by simp [hopx, Op.operands])).2
    split at hst
    · rename_i e b hk1 hk2 hxb
      split at hst
      · rename_i he
        simp only [Option.some.injEq, Prod.mk.injEq] at hst
        obtain ⟨rfl, rfl, rfl⟩ := hst
        refine ⟨_, put_eqU .., hdst _, fun fr2 hag => ?_⟩
        unfold stepA
        simp only [hopx, ← hx fr2 hag, hk1, hk2, hxb, if_pos he, put_eqU]
      · cases hst
    · rename_i id off len hk2 hxb
      split at hst
      · rename_i e hk1
        split at hst
        · rename_i he
          simp only [Option.bind_eq_some_iff, Option.map_eq_some_iff, Prod.mk.injEq] at hst
          obtain ⟨cs, hcs, bs, hbs, rfl, rfl, rfl⟩ := hst
          refine ⟨_, put_eqU .., hdst _, fun fr2 hag => ?_⟩
          unfold stepA
          simp only [hopx, ← hx fr2 hag, hk1, hk2, hxb, if_pos he, hcs, Option.bind_some, hbs, Option.map_some, put_eqU]
        · cases hst
      · cases hst
    · rename_i hn1 hn2
      obtain ⟨us, h1, h2, h3⟩ := pure hst
      refine ⟨us, h1, h2, fun fr2 hag => ?_⟩
      rw [← h3 fr2 hag]
      unfold stepA
      simp only [hopx, ← hx fr2 hag]
  · -- append
    rename_i args argTypes hopx
    split at hst
    · rename_i x y t t2 ha ht
      split at hst
      · rename_i e hk hpl
        split at hst
        · rename_i s b z hsz hb hz
          split at hst
          · rename_i hzl
            simp only [Option.bind_eq_some_iff, Option.map_eq_some_iff, Prod.mk.injEq, Prod.exists] at hst
            obtain ⟨u, hu, v, fr1, htk, r, c2, h3, hr, rfl, rfl, rfl⟩ := hst
            rw [takeA_eq] at htk
            simp only [Option.map_eq_some_iff, Prod.mk.injEq] at htk
            obtain ⟨v', hv', rfl, rfl⟩ := htk
            refine ⟨_, put_applyU .., ?_, fun fr2 hag => ?_⟩
            · intro q hq
              rcases List.mem_append.1 hq with hq | hq
              · exact take1 x v' q (fun t e => List.mem_append_right _ (by simp [takesOf, hopx, ha, e, mem_tmpsOf])) hq
              · exact hdst _ q hq
            · unfold stepA
              simp only [hopx, ha, ht, hk, hpl, hsz, hb, hz, if_pos hzl]
              rw [← ((hop fr2 hag) y (by simp [hopx, Op.operands, Call.operands, ha])).2, hu, takeA_eq, ← ((hop fr2 hag) x (by simp [hopx, Op.operands, Call.operands, ha])).1, hv']
              simp [hr, put_applyU]
          · cases hst
        · cases hst
      · cases hst
    · cases hst
  · -- call
    rename_i g args argTypes hopx
    simp only [Option.bind_eq_some_iff] at hst
    obtain ⟨gv, hg, vs, hvs, hst⟩ := hst
    split at hst
    · rename_i f caps
      simp only [Option.map_eq_some_iff, Prod.mk.injEq, Prod.exists] at hst
      obtain ⟨v, h2, hcall, rfl, rfl, rfl⟩ := hst
      refine ⟨_, put_eqU .., hdst _, fun fr2 hag => ?_⟩
      unfold stepA
      simp only [hopx]
      rw [← ((hop fr2 hag) g (by simp [hopx, Op.operands, Call.operands])).2, hg, ← argsA_agree (fr := fr) (fun x hx => (hop fr2 hag) x (by simp [hopx, Op.operands, Call.operands]; exact .inr (by simpa using hx))), hvs]
      simp [hcall, put_eqU]
    · cases hst
  · rename_i hn
    obtain ⟨us, h1, h2, h3⟩ := pure hst
    refine ⟨us, h1, h2, fun fr2 hag => ?_⟩
    rw [← h3 fr2 hag]
    unfold stepA
    split <;> first | rfl | (exfalso; simp_all; done)
end Go.Ai

/- Regions in any order: quiet operations; the text's run as a row of steps. -/
namespace Go.Ai
open Go.RowKit

/-- what a load may see of a heap -/
def view (q : Id × Nat × Nat) (h : Heap) : Option (Nat × List A) := (h q.1).map fun cs => (cs.length, ((cs.drop q.2.1).take q.2.2).map A.noOwn1)

mutual
theorem A.beq_eq : ∀ {a b : A}, A.beq a b = true → a = b
  | a, b, h => by
    cases a <;> cases b <;> simp only [A.beq, Bool.and_eq_true, decide_eq_true_eq] at h <;> try (first | rfl | cases h; done)
    all_goals first
      | (obtain ⟨h1, h2⟩ := h; subst h1; subst h2; rfl)
      | (subst h; rfl)
      | (obtain ⟨⟨h1, h2⟩, h3⟩ := h; subst h1; subst h2; subst h3; rfl)
      | (obtain ⟨h1, h2⟩ := h; have := A.beqL_eq h1; subst this; subst h2; rfl)
      | (obtain ⟨h1, h2⟩ := h; have := A.beqS_eq h1; subst this; subst h2; rfl)
      | (obtain ⟨h1, h2⟩ := h; have := A.beqL_eq h2; subst this; subst h1; rfl)
      | (obtain ⟨h1, h2⟩ := h; have := A.beq_eq h2; subst this; subst h1; rfl)
      | (have := A.beqL_eq h; subst this; rfl)
theorem A.beqL_eq : ∀ {a b : List A}, A.beqL a b = true → a = b
  | [], [], _ => rfl
  | [], _ :: _, h => by simp [A.beqL] at h
  | _ :: _, [], h => by simp [A.beqL] at h
  | a :: as, b :: bs, h => by
    simp only [A.beqL, Bool.and_eq_true] at h
    rw [A.beq_eq h.1, A.beqL_eq h.2]
theorem A.beqS_eq : ∀ {a b : List (List A)}, A.beqS a b = true → a = b
  | [], [], _ => rfl
  | [], _ :: _, h => by simp [A.beqS] at h
  | _ :: _, [], h => by simp [A.beqS] at h
  | a :: as, b :: bs, h => by
    simp only [A.beqS, Bool.and_eq_true] at h
    rw [A.beqL_eq h.1, A.beqS_eq h.2]
end

theorem view_of_sameAt {h h' : Heap} {q : Id × Nat × Nat} (hs : sameAt h h' q = true) : view q h = view q h' := by
  unfold sameAt at hs
  unfold view
  split at hs
  · rename_i cs cs' e1 e2
    simp only [Bool.and_eq_true, decide_eq_true_eq] at hs
    rw [e1, e2]
    simp only [Option.map_some]
    rw [hs.1, A.beqL_eq hs.2]
  · rename_i e1 e2; rw [e1, e2]
  · cases hs

theorem loadA_view {P : Program} {t n : Nat} {g : Bool} {id : Id} {off : Nat} {h h2 : Heap} (hsh : shapeT P t = some (n, g)) (hv : view (id, off, if g then n else 1) h2 = view (id, off, if g then n else 1) h) :
    loadA P t (.ptr id off) h2 = loadA P t (.ptr id off) h := by
  simp only [loadA, hsh, Option.bind_some]
  simp only [view] at hv
  cases h1 : h id with
  | none => rw [h1] at hv; simp at hv; rw [hv]
  | some cs =>
    rw [h1] at hv
    cases h3 : h2 id with
    | none => rw [h3] at hv; simp at hv
    | some cs' =>
      rw [h3] at hv
      simp only [Option.map_some, Option.some.injEq, Prod.mk.injEq] at hv
      obtain ⟨hl, hv⟩ := hv
      simp only [Option.bind_some, pickCells]
      cases g with
      | true => simp only [if_true] at hv ⊢; rw [hl, hv]
      | false =>
        simp only [Bool.false_eq_true, if_false] at hv ⊢
        have hw : ∀ a : A, a.noOwn1.noOwn1 = a.noOwn1 := fun a => by cases a <;> rfl
        have := congrArg (fun l => (l[0]?).map A.noOwn1) hv
        simpa [List.getElem?_take, List.getElem?_drop, Function.comp_def, hw] using this

/-- the type of what an operation makes -/
def madeT (P : Program) (o : Oper) : Nat := match o.op with
  | .alloc t => t
  | .box t _ => t
  | .makeSlice t _ _ => match kindT P t with | .slice e => e | _ => 0
  | _ => 0

theorem quiet_class {E : Env} {cl : Id → Nat → List A → Heap → Option (A × Heap)} {p : Id} {all : List Oper} {o : Oper} {fr fr' : Fr} {c c' : Nat} {h h' : Heap} (hst : stepA E cl p all o fr c h = some (fr', c', h')) (hq : isLoud E all o = false) :
    (c' = c ∧ h' = h ∧ ∀ h2, (∀ q, loadAt E.P fr o = some q → view q h2 = view q h) → stepA E cl p all o fr c h2 = some (fr', c, h2)) ∨
    (allocLike o = true ∧ c' = c + 1 ∧ ∃ init, h' = upd h (madeT E.P o :: c :: p) init ∧ (∀ x ∈ init, x.free) ∧ ∀ h2, stepA E cl p all o fr c h2 = some (fr', c + 1, upd h2 (madeT E.P o :: c :: p) init)) := by
  have pure : (pureA E.P fr o).map (fun v => (fr.put o.dst v.noOwn, c, h)) = some (fr', c', h') → c' = c ∧ h' = h ∧ ∀ h2 : Heap, (pureA E.P fr o).map (fun v => (fr.put o.dst v.noOwn, c, h2)) = some (fr', c, h2) := by
    intro hp
    simp only [Option.map_eq_some_iff, Prod.mk.injEq] at hp
    obtain ⟨v, hv, rfl, rfl, rfl⟩ := hp
    exact ⟨rfl, rfl, fun h2 => by rw [hv]; rfl⟩
  unfold stepA at hst
  split at hst
  · rename_i x hopx
    have hf : (E.feed && feeds all o.dst) = false := by simpa only [isLoud, hopx] using hq
    simp only [hf, Bool.false_eq_true, if_false, Option.map_eq_some_iff, Prod.mk.injEq] at hst
    obtain ⟨v, hv, rfl, rfl, rfl⟩ := hst
    exact .inl ⟨rfl, rfl, fun h2 _ => by unfold stepA; simp [hopx, hf, hv]⟩
  · rename_i x hopx; simp [isLoud, hopx] at hq
  · rename_i t hopx
    simp only [Option.map_eq_some_iff, Prod.mk.injEq] at hst
    obtain ⟨z, hz, rfl, rfl, rfl⟩ := hst
    exact .inr ⟨by simp [allocLike, hopx], rfl, z, by simp [madeT, hopx], free_zeroT hz, fun h2 => by unfold stepA; simp [hopx, hz, madeT]⟩
  · rename_i t x hopx
    simp only [Option.bind_eq_some_iff, Option.map_eq_some_iff, Prod.mk.injEq] at hst
    obtain ⟨v, hv, cs, hcs, rfl, rfl, rfl⟩ := hst
    refine .inr ⟨by simp [allocLike, hopx], rfl, cs, by simp [madeT, hopx], ?_, fun h2 => by unfold stepA; simp [hopx, hv, hcs, madeT]⟩
    intro y hy
    cases v with
    | agg as =>
      simp only [A.noOwn, A.cells, Option.some.injEq] at hcs; subst hcs
      obtain ⟨u, _, rfl⟩ := List.mem_map.1 hy
      exact A.free_noOwn1 u
    | top => cases hcs
    | tuple => cases hcs
    | _ =>
      simp only [A.noOwn, A.noOwn1, A.cells, Option.some.injEq] at hcs; subst hcs
      simp at hy; subst hy; intro xs s e; cases e
  · rename_i t x hopx
    have hf : (E.feed && feeds all o.dst) = false := by simpa only [isLoud, hopx] using hq
    simp only [Option.bind_eq_some_iff, hf, Bool.false_eq_true, if_false, Option.map_eq_some_iff, Prod.mk.injEq] at hst
    obtain ⟨a, ha, v, hv, rfl, rfl, rfl⟩ := hst
    refine .inl ⟨rfl, rfl, fun h2 hvw => ?_⟩
    unfold stepA
    simp only [hopx, ha, Option.bind_some, hf, Bool.false_eq_true, if_false]
    have : loadA E.P t a h2 = loadA E.P t a h := by
      cases a with
      | ptr id off =>
        cases hsh : shapeT E.P t with
        | none => simp [loadA, hsh]
        | some ng =>
          obtain ⟨n, g⟩ := ng
          exact loadA_view hsh (hvw _ (by simp [loadAt, hopx, ha, hsh]))
      | _ => rfl
    rw [this, hv]
    rfl
  · rename_i t x y hopx; simp [isLoud, hopx] at hq
  · rename_i t len parts hopx
    split at hst
    · rename_i e hk
      split at hst
      · rename_i s z hsz hz
        split at hst
        · rename_i hc
          simp only [Option.bind_eq_some_iff, Option.map_eq_some_iff, Prod.mk.injEq] at hst
          obtain ⟨ps, hps, xs, hxs, rfl, rfl, rfl⟩ := hst
          exact .inl ⟨rfl, rfl, fun h2 _ => by unfold stepA; simp only [hopx, hk, hsz, hz, if_pos hc, hps, Option.bind_some, hxs, Option.map_some]⟩
        · cases hst
      · cases hst
    · cases hst
  · rename_i t l n hopx
    split at hst
    · rename_i e k1 l' k2 n' hk hl hn
      split at hst
      · rename_i s z b hsz hz hb
        split at hst
        · rename_i hc
          split at hst
          · rename_i h0
            simp only [Option.some.injEq, Prod.mk.injEq] at hst
            obtain ⟨rfl, rfl, rfl⟩ := hst
            exact .inl ⟨rfl, rfl, fun h2 _ => by unfold stepA; simp only [hopx, hk, hl, hn, hsz, hz, hb, if_pos hc, if_pos h0]⟩
          · rename_i h0
            split at hst
            · rename_i hln
              simp only [Option.some.injEq, Prod.mk.injEq] at hst
              obtain ⟨rfl, rfl, rfl⟩ := hst
              refine .inr ⟨by simp [allocLike, hopx], rfl, (List.replicate n'.toNat z).flatten, by simp [madeT, hopx, hk], ?_, fun h2 => by unfold stepA; simp only [hopx, hk, hl, hn, hsz, hz, hb, if_pos hc, if_neg h0, if_pos hln, madeT]⟩
              intro x hx
              obtain ⟨y, hy, hxy⟩ := List.mem_flatten.1 hx
              rw [(List.mem_replicate.1 hy).2] at hxy
              exact free_zeroT hz x hxy
            · cases hst
        · cases hst
      · cases hst
    · cases hst
  · rename_i t x hopx
    have hf : E.frz t = false := by simpa [isLoud, hopx] using hq
    simp only [Option.bind_eq_some_iff] at hst
    obtain ⟨a, ha, hst⟩ := hst
    split at hst
    · cases hst
    · rename_i hne
      simp only [hf, Bool.false_eq_true, if_false] at hst
      split at hst
      · rename_i hcon
        simp only [Option.some.injEq, Prod.mk.injEq] at hst
        obtain ⟨rfl, rfl, rfl⟩ := hst
        refine .inl ⟨rfl, rfl, fun h2 _ => ?_⟩
        unfold stepA
        simp only [hopx, ha, Option.bind_some]
        rw [if_pos hcon]
        simp [hf]
      · cases hst
  · rename_i s d x hopx
    have hns : ∀ e, kindT E.P s ≠ .slice e := by
      intro e he
      simp [isLoud, hopx, he] at hq
    left
    split at hst
    · rename_i e b hk1 hk2 hx
      split at hst
      · rename_i he
        simp only [Option.some.injEq, Prod.mk.injEq] at hst
        obtain ⟨rfl, rfl, rfl⟩ := hst
        exact ⟨rfl, rfl, fun h2 _ => by unfold stepA; simp only [hopx, hk1, hk2, hx, if_pos he]⟩
      · cases hst
    · rename_i id off len hk2 hx
      split at hst
      · rename_i e hk1; exact absurd hk1 (hns e)
      · cases hst
    · rename_i hn1 hn2
      obtain ⟨h1, h2, h3⟩ := pure hst
      refine ⟨h1, h2, fun h2 _ => ?_⟩
      rw [← h3 h2]
      unfold stepA
      simp only [hopx]
  · rename_i args argTypes hopx; simp [isLoud, hopx] at hq
  · rename_i g args argTypes hopx; simp [isLoud, hopx] at hq
  · rename_i hn
    obtain ⟨h1, h2, h3⟩ := pure hst
    refine .inl ⟨h1, h2, fun h2 _ => ?_⟩
    rw [← h3 h2]
    unfold stepA
    split <;> first | rfl | (exfalso; simp_all; done)

theorem loadAt_agree {P : Program} {o : Oper} {fr fr2 : Fr} (h : agree (looks o) fr fr2) : loadAt P fr o = loadAt P fr2 o := by
  unfold loadAt
  split
  · rename_i t x e
    have : ev fr x = ev fr2 x := (op_agree h (x := x) (by simp [e, Op.operands])).1
    rw [this]
  · rfl

/-- the slot that an operation's guard looks at -/
def gslot (all : List Oper) (o : Oper) : List Nat := match o.guard with
  | some (j, _) => ((all[j]?).bind (·.dst)).toList
  | none => []
theorem guardA_agree {all : List Oper} {o : Oper} {fr fr2 : Fr} (h : agree (gslot all o) fr fr2) : guardA all o fr = guardA all o fr2 := by
  unfold guardA
  unfold gslot at h
  split
  · rfl
  · rename_i j want e
    rw [e] at h
    simp only at h
    cases hd : (all[j]?).bind (·.dst) with
    | none => rfl
    | some d => rw [hd] at h; simp only [Option.map_some]; rw [h d (by simp)]

/-- what an operation does to the heap -/
inductive He where
  | keep | make (t : Nat) (init : List A) | turn
def He.go (p : Id) (c : Nat) (h' : Heap) : He → Heap → Heap
  | .keep, h => h
  | .make t init, h => upd h (t :: c :: p) init
  | .turn, _ => h'

/-- one operation, its guard looked at -/
def one (E : Env) (cl : Id → Nat → List A → Heap → Option (A × Heap)) (p : Id) (all : List Oper) (o : Oper) (s : Fr × Nat × Heap) : Option (Fr × Nat × Heap) := match guardA all o s.1 with
  | some true => stepA E cl p all o s.1 s.2.1 s.2.2
  | some false => some (s.1.put o.dst (.tuple []), s.2.1, s.2.2)
  | none => none

/-- what one operation of the text's run did -/
structure Did (E : Env) (cl : Id → Nat → List A → Heap → Option (A × Heap)) (p : Id) (all : List Oper) (o : Oper) (s s' : Fr × Nat × Heap) (us : List (Nat × A)) (he : He) : Prop where
  fr : s'.1 = applyU us s.1
  key : ∀ u ∈ us, u.1 ∈ touch all o
  heap : s'.2.2 = he.go p s.2.1 s'.2.2 s.2.2
  cnt : s.2.1 ≤ s'.2.1
  what : (guardA all o s.1 = some false ∧ us = (o.dst.toList.map fun t => (t, .tuple [])) ∧ s'.2.1 = s.2.1 ∧ he = .keep) ∨
    (guardA all o s.1 = some true ∧
      ((he = .turn ∧ isLoud E all o = true ∧ ∀ fr2, agree (looks o) s.1 fr2 → stepA E cl p all o fr2 s.2.1 s.2.2 = some (applyU us fr2, s'.2.1, s'.2.2)) ∨
       (isLoud E all o = false ∧ he = .keep ∧ s'.2.1 = s.2.1 ∧ ∀ fr2 h2, agree (looks o) s.1 fr2 → (∀ q, loadAt E.P s.1 o = some q → view q h2 = view q s.2.2) → stepA E cl p all o fr2 s.2.1 h2 = some (applyU us fr2, s.2.1, h2)) ∨
       (isLoud E all o = false ∧ allocLike o = true ∧ s'.2.1 = s.2.1 + 1 ∧ ∃ init, he = .make (madeT E.P o) init ∧ (∀ x ∈ init, x.free) ∧ ∀ fr2 h2, agree (looks o) s.1 fr2 → stepA E cl p all o fr2 s.2.1 h2 = some (applyU us fr2, s.2.1 + 1, upd h2 (madeT E.P o :: s.2.1 :: p) init))))

theorem did_of_one {E : Env} {cl : Id → Nat → List A → Heap → Option (A × Heap)} {p : Id} {all : List Oper} {o : Oper} {s s' : Fr × Nat × Heap} (hdom : DomOK cl) (h : one E cl p all o s = some s') : ∃ us he, Did E cl p all o s s' us he := by
  obtain ⟨fr, c, hp⟩ := s
  obtain ⟨fr', c', hp'⟩ := s'
  unfold one at h
  simp only at h
  split at h
  · rename_i hg
    obtain ⟨us, e1, e2, e3⟩ := stepA_eff h
    have hcnt := (stepA_dom hdom h).1
    cases hq : isLoud E all o with
    | true => exact ⟨us, .turn, e1, e2, rfl, hcnt, .inr ⟨hg, .inl ⟨rfl, hq, e3⟩⟩⟩
    | false =>
      rcases quiet_class h hq with ⟨rfl, rfl, h3⟩ | ⟨ha, rfl, init, rfl, hfree, h3⟩
      · refine ⟨us, .keep, e1, e2, rfl, hcnt, .inr ⟨hg, .inr (.inl ⟨hq, rfl, rfl, fun fr2 h2 hag hvw => ?_⟩)⟩⟩
        rcases quiet_class (e3 fr2 hag) hq with ⟨_, _, k3⟩ | ⟨_, k, _⟩
        · exact k3 h2 (fun q hq' => hvw q (by rw [← hq']; exact loadAt_agree hag))
        · simp at k
      · refine ⟨us, .make (madeT E.P o) init, e1, e2, rfl, hcnt, .inr ⟨hg, .inr (.inr ⟨hq, ha, rfl, init, rfl, hfree, fun fr2 h2 hag => ?_⟩)⟩⟩
        rcases quiet_class (e3 fr2 hag) hq with ⟨k, _, _⟩ | ⟨_, _, init2, k2, _, k3⟩
        · simp at k
        · have : init2 = init := by
            have := congrArg (· (madeT E.P o :: c :: p)) k2
            simpa [upd] using this.symm
          rw [← this]; exact k3 h2
  · rename_i hg
    simp only [Option.some.injEq, Prod.mk.injEq] at h
    obtain ⟨rfl, rfl, rfl⟩ := h
    refine ⟨_, .keep, put_eqU .., ?_, rfl, Nat.le_refl _, .inl ⟨hg, rfl, rfl, rfl⟩⟩
    intro u hu
    simp only [List.mem_map] at hu
    obtain ⟨t, ht, rfl⟩ := hu
    exact List.mem_append_left _ ht
  · cases h

/-- the text's run, step by step -/
structure Tr (E : Env) (cl : Id → Nat → List A → Heap → Option (A × Heap)) (p : Id) (all : List Oper) (ps : List (Nat × Nat)) (S : Nat → Fr × Nat × Heap) : Prop where
  step : ∀ k o, all[k]? = some o → one E cl p all o (S k) = some (S (k + 1))
  same : ∀ i j, (i, j) ∈ ps → ∀ oi oj q, all[i]? = some oi → all[j]? = some oj → guardA all oi (S i).1 = some true → guardA all oj (S j).1 = some true → loadAt E.P (S i).1 oi = some q → view q (S j).2.2 = view q (S (j + 1)).2.2

/-- a row of states set ahead of others -/
def consS (s : Fr × Nat × Heap) (S : Nat → Fr × Nat × Heap) : Nat → Fr × Nat × Heap
  | 0 => s
  | k + 1 => S k

theorem runOps_tr {E : Env} {cl : Id → Nat → List A → Heap → Option (A × Heap)} {p : Id} {all : List Oper} : ∀ (os : List Oper) {fr : Fr} {c : Nat} {h : Heap} {r : Fr × Nat × Heap}, runOps E cl p all os fr c h = some r →
    ∃ S : Nat → Fr × Nat × Heap, S 0 = (fr, c, h) ∧ S os.length = r ∧ ∀ k o, os[k]? = some o → one E cl p all o (S k) = some (S (k + 1))
  | [], fr, c, h, r, hx => by
    simp only [runOps, Option.some.injEq] at hx
    subst hx
    exact ⟨fun _ => (fr, c, h), rfl, rfl, fun k o hk => by simp at hk⟩
  | o :: os, fr, c, h, r, hx => by
    have : ∃ s', one E cl p all o (fr, c, h) = some s' ∧ runOps E cl p all os s'.1 s'.2.1 s'.2.2 = some r := by
      simp only [runOps] at hx
      split at hx
      · rename_i hg
        simp only [Option.bind_eq_some_iff] at hx
        obtain ⟨s', h1, h2⟩ := hx
        exact ⟨s', by simp [one, hg, h1], h2⟩
      · rename_i hg
        exact ⟨(fr.put o.dst (.tuple []), c, h), by simp only [one, hg], hx⟩
      · cases hx
    obtain ⟨s', h1, h2⟩ := this
    obtain ⟨S, e0, e1, e2⟩ := runOps_tr os h2
    refine ⟨consS (fr, c, h) S, rfl, e1, fun k o' hk => ?_⟩
    cases k with
    | zero => simp at hk; subst hk; simp only [consS, e0]; exact h1
    | succ k => exact e2 k o' (by simpa using hk)

theorem runDraw_tr {E : Env} {cl : Id → Nat → List A → Heap → Option (A × Heap)} {p : Id} {all : List Oper} {ps : List (Nat × Nat)} :
    ∀ (os : List Oper) {i : Nat} {ls : List (Nat × Id × Nat × Nat)} {hs : List (Nat × Heap × Heap)} {fr : Fr} {c : Nat} {h : Heap} {r : Fr × Nat × Heap}, runDraw E cl p all ps os i ls hs fr c h = some r →
    ∃ (S : Nat → Fr × Nat × Heap) (ls' : List (Nat × Id × Nat × Nat)) (hs' : List (Nat × Heap × Heap)), S 0 = (fr, c, h) ∧ S os.length = r ∧ (∀ k o, os[k]? = some o → one E cl p all o (S k) = some (S (k + 1))) ∧
      (∀ l ∈ ls, l ∈ ls') ∧ (∀ g ∈ hs, g ∈ hs') ∧
      (∀ k o q, os[k]? = some o → guardA all o (S k).1 = some true → loadAt E.P (S k).1 o = some q → ps.any (·.1 == i + k) = true → (i + k, q) ∈ ls') ∧
      (∀ k o, os[k]? = some o → guardA all o (S k).1 = some true → ps.any (·.2 == i + k) = true → (i + k, (S k).2.2, (S (k + 1)).2.2) ∈ hs') ∧
      (ps.all fun (i, j) => ls'.all fun l => hs'.all fun g => !(l.1 == i && g.1 == j) || sameAt g.2.1 g.2.2 l.2) = true
  | [], i, ls, hs, fr, c, h, r, hx => by
    simp only [runDraw] at hx
    split at hx
    · rename_i hc
      simp only [Option.some.injEq] at hx
      subst hx
      exact ⟨fun _ => (fr, c, h), ls, hs, rfl, rfl, fun k o hk => by simp at hk, fun _ h => h, fun _ h => h, fun k o q hk => by simp at hk, fun k o hk => by simp at hk, hc⟩
    · cases hx
  | o :: os, i, ls, hs, fr, c, h, r, hx => by
    simp only [runDraw] at hx
    split at hx
    · rename_i hg
      simp only [Option.bind_eq_some_iff] at hx
      obtain ⟨s', h1, h2⟩ := hx
      obtain ⟨S, ls', hs', e0, e1, e2, e3, e4, e5, e6, e7⟩ := runDraw_tr os h2
      refine ⟨consS (fr, c, h) S, ls', hs', rfl, e1, ?_, ?_, ?_, ?_, ?_, e7⟩
      · intro k o' hk
        cases k with
        | zero => simp at hk; subst hk; simp only [consS, e0, one, hg]; exact h1
        | succ k => exact e2 k o' (by simpa using hk)
      · intro l hl
        apply e3
        split
        · split
          · exact List.mem_cons_of_mem _ hl
          · exact hl
        · exact hl
      · intro g hg'
        apply e4
        split
        · exact List.mem_cons_of_mem _ hg'
        · exact hg'
      · intro k o' q hk hga hla hps
        cases k with
        | zero =>
          simp at hk; subst hk
          simp only [consS] at hla
          apply e3
          rw [hla]
          simp only
          rw [if_pos (by simpa using hps)]
          exact List.mem_cons_self
        | succ k =>
          have := e5 k o' q (by simpa using hk) hga hla (by rw [← hps]; congr 1; funext x; rw [show i + 1 + k = i + (k + 1) by omega])
          rwa [show i + 1 + k = i + (k + 1) by omega] at this
      · intro k o' hk hga hps
        cases k with
        | zero =>
          simp at hk; subst hk
          apply e4
          rw [if_pos (by simpa using hps)]
          simp only [consS, e0, Nat.add_zero]
          exact List.mem_cons_self
        | succ k =>
          have := e6 k o' (by simpa using hk) hga (by rw [← hps]; congr 1; funext x; rw [show i + 1 + k = i + (k + 1) by omega])
          rwa [show i + 1 + k = i + (k + 1) by omega] at this
    · rename_i hg
      obtain ⟨S, ls', hs', e0, e1, e2, e3, e4, e5, e6, e7⟩ := runDraw_tr os hx
      refine ⟨consS (fr, c, h) S, ls', hs', rfl, e1, ?_, e3, e4, ?_, ?_, e7⟩
      · intro k o' hk
        cases k with
        | zero => simp at hk; subst hk; simp only [consS, e0, one, hg]
        | succ k => exact e2 k o' (by simpa using hk)
      · intro k o' q hk hga hla hps
        cases k with
        | zero => simp at hk; subst hk; simp only [consS, hg] at hga; cases hga
        | succ k =>
          have := e5 k o' q (by simpa using hk) hga hla (by rw [← hps]; congr 1; funext x; rw [show i + 1 + k = i + (k + 1) by omega])
          rwa [show i + 1 + k = i + (k + 1) by omega] at this
      · intro k o' hk hga hps
        cases k with
        | zero => simp at hk; subst hk; simp only [consS, hg] at hga; cases hga
        | succ k =>
          have := e6 k o' (by simpa using hk) hga (by rw [← hps]; congr 1; funext x; rw [show i + 1 + k = i + (k + 1) by omega])
          rwa [show i + 1 + k = i + (k + 1) by omega] at this
    · cases hx

/-- either way of running a region gives its steps -/
theorem draw_tr {E : Env} {cl : Id → Nat → List A → Heap → Option (A × Heap)} {p : Id} {all : List Oper} {ps : List (Nat × Nat)} {fr : Fr} {c : Nat} {h : Heap} {r : Fr × Nat × Heap}
    (hx : (match ps with | [] => runOps E cl p all all fr c h | ps => runDraw E cl p all ps all 0 [] [] fr c h) = some r) : ∃ S, S 0 = (fr, c, h) ∧ S all.length = r ∧ Tr E cl p all ps S := by
  cases ps with
  | nil =>
    obtain ⟨S, e0, e1, e2⟩ := runOps_tr all hx
    exact ⟨S, e0, e1, e2, fun i j hij => by cases hij⟩
  | cons q qs =>
    obtain ⟨S, ls', hs', e0, e1, e2, _, _, e5, e6, e7⟩ := runDraw_tr all hx
    refine ⟨S, e0, e1, e2, fun i j hij oi oj q' hi hj hgi hgj hla => ?_⟩
    have h5 := e5 i oi q' hi hgi hla (by rw [List.any_eq_true]; exact ⟨_, hij, by simp⟩)
    have h6 := e6 j oj hj hgj (by rw [List.any_eq_true]; exact ⟨_, hij, by simp⟩)
    rw [Nat.zero_add] at h5 h6
    rw [List.all_eq_true] at e7
    have := e7 _ hij
    simp only [List.all_eq_true] at this
    have := this _ h5 _ h6
    simp only [beq_self_eq_true, Bool.and_self, Bool.not_true, Bool.false_or] at this
    exact view_of_sameAt this
end Go.Ai

/- Objects set aside; the count does not matter where no object is made; sets of operations carried out. -/
namespace Go.Ai
open Go.RowKit

/-- objects laid over a heap -/
def overlay (F h : Heap) : Heap := fun id => match F id with | some cs => some cs | none => h id
/-- the objects' cells are nobody's here for a while -/
def hidO (F : Heap) (O : Own) : Own := fun b x => match O b x with | some (.obj id) => (match F id with | some _ => some .rest | none => some (.obj id)) | l => l
/-- they are the objects' again -/
def unhO (F : Heap) (O O' : Own) : Own := fun b x => match O b x with | some (.obj id) => (match F id with | some _ => some (.obj id) | none => O' b x) | _ => O' b x

theorem appendO_count {ob : Nat → Bool} {e s b : Nat} {p : Id} {c c' d : Nat} {h h' : Heap} {v u r : A} (hr : appendO ob e s b p c h v u = some (r, c', h')) (hc : c' = c) : appendO ob e s b p d h v u = some (r, d, h') := by
  unfold appendO at hr ⊢
  generalize ob e = q at hr ⊢
  cases q with
  | true =>
    by_cases hv : v = .nils
    · subst hv
      simp only [Option.bind_eq_some_iff] at hr
      obtain ⟨ys, _, hr⟩ := hr
      split at hr
      · simp only [Option.some.injEq, Prod.mk.injEq] at hr
        omega
      · cases hr
    · cases v <;> first | (exact absurd rfl hv) | (simp only [Option.map_eq_some_iff, Prod.mk.injEq] at hr ⊢; obtain ⟨x, h1, h2, _, h3⟩ := hr; exact ⟨x, h1, h2, trivial, h3⟩)
  | false =>
    simp only [Option.map_eq_some_iff, Prod.mk.injEq] at hr ⊢
    obtain ⟨x, h1, h2, _, h3⟩ := hr
    exact ⟨x, h1, h2, trivial, h3⟩

theorem hidO_other {F : Heap} {O : Own} {b x : Nat} {l : Lab} (h : O b x = some l) (hl : ∀ id, l = .obj id → F id = none) : hidO F O b x = some l := by
  unfold hidO
  rw [h]
  cases l with
  | obj id => simp [hl id rfl]
  | _ => rfl
theorem hidO_hid {F : Heap} {O : Own} {b x : Nat} {id : Id} {cs : List A} (h : O b x = some (.obj id)) (hf : F id = some cs) : hidO F O b x = some .rest := by
  unfold hidO; rw [h]; simp [hf]
theorem hidO_none {F : Heap} {O : Own} {b x : Nat} (h : O b x = none) : hidO F O b x = none := by unfold hidO; rw [h]
theorem hidO_inv {F : Heap} {O : Own} {b x : Nat} {l : Lab} (h : hidO F O b x = some l) : O b x = some l ∨ (l = .rest ∧ ∃ id cs, O b x = some (.obj id) ∧ F id = some cs) := by
  unfold hidO at h
  split at h
  · rename_i id e
    split at h
    · rename_i cs hc; simp at h; exact .inr ⟨h.symm, id, cs, e, hc⟩
    · simp at h; subst h; exact .inl e
  · exact .inl h
theorem unhO_hid {F : Heap} {O O' : Own} {b x : Nat} {id : Id} {cs : List A} (h : O b x = some (.obj id)) (hf : F id = some cs) : unhO F O O' b x = some (.obj id) := by
  unfold unhO; rw [h]; simp [hf]
theorem unhO_cases (F : Heap) (O O' : Own) (b x : Nat) : unhO F O O' b x = O' b x ∨ ∃ id cs, O b x = some (.obj id) ∧ F id = some cs ∧ unhO F O O' b x = some (.obj id) := by
  unfold unhO
  split
  · rename_i id e
    split
    · rename_i cs hc; exact .inr ⟨id, cs, e, hc, rfl⟩
    · exact .inl rfl
  · exact .inl rfl

theorem Room.of_lab {O O' : Own} {w : World} {L : Lab} {a : A} {v : Value} (h : Room O w L a v) (hO : ∀ b x, O b x = some L → O' b x = some L) : Room O' w L a v := by
  intro xs s b o n cap e1 e2
  obtain ⟨⟨s1, s2⟩, hall⟩ := h xs s b o n cap e1 e2
  refine ⟨⟨s1, s2⟩, fun x h1 => ?_⟩
  obtain ⟨g1, g2, g3⟩ := hall x h1
  exact ⟨hO _ _ g1, g2, g3⟩

section
variable {X : Nat → Prop} {B : Nat} {w0 : World} {p : Id} {nt : Nat} {G : Ghost} {O : Own} {fr : Fr} {c : Nat} {F h : Heap} {a : Act} {w : World}

theorem SR.hide (hs : SR X B w0 p nt G O fr c (overlay F h) a w) (hd : ∀ id, F id ≠ none → h id = none) : SR X B w0 p nt G (hidO F O) fr c h a w where
  fr := ⟨hs.fr.size, fun t => ⟨(hs.fr.val t).1, (hs.fr.val t).2.of_lab fun b x hl => hidO_other hl (by simp)⟩⟩
  r := ⟨hs.r.below, hs.r.base, fun b o v hk => ⟨hidO_other (hs.r.imm b o v hk).1 (by simp), (hs.r.imm b o v hk).2⟩, fun id cs hid => by
      have hF : F id = none := by
        cases hF : F id with
        | none => rfl
        | some cs' => have := hd id (by simp [hF]); rw [this] at hid; cases hid
      obtain ⟨b, o, hm, ho⟩ := hs.r.obj id cs (by simp [overlay, hF, hid])
      refine ⟨b, o, hm, fun j a hj => ?_⟩
      obtain ⟨h1, h2, v, h3, h4, h5, h6⟩ := ho j a hj
      exact ⟨hidO_other h1 (by rintro id' e; cases e; exact hF), h2, v, h3, h4, h5, h6.of_lab fun b x hl => hidO_other hl (by simp)⟩,
    fun b o l hl => by
      rcases hidO_inv hl with h1 | ⟨_, id, cs, h1, _⟩ <;> exact hs.r.lt _ _ _ h1,
    fun b o l hl h1 h2 => by
      rcases hidO_inv hl with h3 | ⟨h3, _⟩
      · exact hs.r.new _ _ _ h3 h1 h2
      · exact absurd h3 h2,
    hs.r.bot,
    fun id cs b o hid hm => by
      have hF : F id = none := by
        cases hF : F id with
        | none => rfl
        | some cs' => have := hd id (by simp [hF]); rw [this] at hid; cases hid
      exact hs.r.typ id cs b o (by simp [overlay, hF, hid]) hm⟩
  fresh := hs.fresh
  defers := hs.defers

theorem SR.unhide (hs : SR X B w0 p nt G O fr c (overlay F h) a w) (hfree : ∀ id cs, F id = some cs → ∀ x ∈ cs, x.free) {fr' : Fr} {c' : Nat} {h' : Heap} {a' : Act} {w' : World} (hl : Later X B w0 p nt c G (hidO F O) w fr' c' h' a' w') :
    Later X B w0 p nt c G O w fr' c' (overlay F h') a' w' := by
  obtain ⟨G', O', hs', hm⟩ := hl
  have key : ∀ b x id cs, O b x = some (.obj id) → F id = some cs → O' b x = some .rest ∧ w'.cell? ⟨b, x, none⟩ = w.cell? ⟨b, x, none⟩ ∧ w'.frozen? ⟨b, x, none⟩ = w.frozen? ⟨b, x, none⟩ :=
    fun b x id cs h1 h2 => hm.keeps.lab b x .rest (hidO_hid h1 h2) trivial
  have other : ∀ b x l, O' b x = some l → l ≠ .rest → unhO F O O' b x = some l := by
    intro b x l h1 h2
    rcases unhO_cases F O O' b x with h3 | ⟨id, cs, h3, h4, h5⟩
    · rw [h3]; exact h1
    · have := (key b x id cs h3 h4).1
      rw [h1] at this
      exact absurd (Option.some.inj this) h2
  refine ⟨G', unhO F O O', ⟨⟨hs'.fr.size, fun t => ⟨(hs'.fr.val t).1, (hs'.fr.val t).2.of_lab fun b x hl => other b x _ hl (by simp)⟩⟩, ⟨hs'.r.below, hs'.r.base, ?_, ?_, ?_, ?_, hs'.r.bot, ?_⟩, hs'.fresh, hs'.defers⟩, ⟨hm.le, ⟨?_, hm.keeps.size, hm.keeps.shape, hm.keeps.frz⟩, hm.cnt, hm.ids⟩⟩
  · intro b o v hk
    exact ⟨other _ _ _ (hs'.r.imm b o v hk).1 (by simp), (hs'.r.imm b o v hk).2⟩
  · intro id cs hid
    cases hF : F id with
    | some cs1 =>
      simp only [overlay, hF, Option.some.injEq] at hid
      subst hid
      obtain ⟨b, o, hmm, ho⟩ := hs.r.obj id cs1 (by simp [overlay, hF])
      refine ⟨b, o, hm.le.2 _ _ hmm, fun j a hj => ?_⟩
      obtain ⟨h1, h2, v, h3, h4, h5, h6⟩ := ho j a hj
      obtain ⟨k1, k2, k3⟩ := key _ _ _ _ h1 hF
      exact ⟨unhO_hid h1 hF, by rw [k3]; exact h2, v, by rw [k2]; exact h3, h4, h5.mono hm.le, Room.free (hfree id cs1 hF a (List.mem_of_getElem? hj))⟩
    | none =>
      simp only [overlay, hF] at hid
      obtain ⟨b, o, hmm, ho⟩ := hs'.r.obj id cs hid
      refine ⟨b, o, hmm, fun j a hj => ?_⟩
      obtain ⟨h1, h2, v, h3, h4, h5, h6⟩ := ho j a hj
      exact ⟨other _ _ _ h1 (by simp), h2, v, h3, h4, h5, h6.of_lab fun b x hl => other _ _ _ hl (by simp)⟩
  · intro b o l hl
    rcases unhO_cases F O O' b o with h3 | ⟨id, cs, h3, h4, h5⟩
    · rw [h3] at hl; exact hs'.r.lt _ _ _ hl
    · exact Nat.lt_of_lt_of_le (hs.r.lt _ _ _ h3) hm.keeps.size
  · intro b o l hl h1 h2
    rcases unhO_cases F O O' b o with h3 | ⟨id, cs, h3, h4, h5⟩
    · rw [h3] at hl; exact hs'.r.new _ _ _ hl h1 h2
    · exact hs.r.new _ _ _ h3 (by simp) (by simp)
  · intro id cs b o hid hmm
    cases hF : F id with
    | some cs1 =>
      simp only [overlay, hF, Option.some.injEq] at hid
      subst hid
      have h1 : overlay F h id = some cs1 := by simp [overlay, hF]
      obtain ⟨b', o', hm0, _⟩ := hs.r.obj id cs1 h1
      have := hm.le.2 _ _ hm0
      rw [hmm] at this; cases this
      obtain ⟨k1, t, k2, n, k3, k4⟩ := hs.r.typ id cs1 b o h1 hm0
      exact ⟨k1, t, k2, n, hm.keeps.shape b _ k3, k4⟩
    | none =>
      simp only [overlay, hF] at hid
      exact hs'.r.typ id cs b o hid hmm
  · intro b o l hl hp
    have hno : ∀ id, l = .obj id → False := by rintro id rfl; exact hp
    obtain ⟨k1, k2, k3⟩ := hm.keeps.lab b o l (hidO_other hl (fun id e => (hno id e).elim)) hp
    refine ⟨?_, k2, k3⟩
    rcases unhO_cases F O O' b o with h3 | ⟨id, cs, h3, h4, h5⟩
    · rw [h3]; exact k1
    · rw [hl] at h3; exact (hno id (Option.some.inj h3)).elim

/-- the count and what is excepted, told otherwise -/
theorem SR.recount {X' : Nat → Prop} {c' : Nat} (hs : SR X B w0 p nt G O fr c h a w) (hf : FreshX X' G p c') : SR X' B w0 p nt G O fr c' h a w := ⟨hs.fr, hs.r, hf, hs.defers⟩
end

/-- where no object is made the count does not matter -/
theorem stepA_cnt {E : Env} {cl : Id → Nat → List A → Heap → Option (A × Heap)} {p : Id} {all : List Oper} {o : Oper} {fr fr' : Fr} {c : Nat} {h h' : Heap} (hst : stepA E cl p all o fr c h = some (fr', c, h')) (d : Nat) :
    stepA E cl p all o fr d h = some (fr', d, h') := by
  have pure : (pureA E.P fr o).map (fun v => (fr.put o.dst v.noOwn, c, h)) = some (fr', c, h') → (pureA E.P fr o).map (fun v => (fr.put o.dst v.noOwn, d, h)) = some (fr', d, h') := by
    intro hp
    simp only [Option.map_eq_some_iff, Prod.mk.injEq] at hp
    obtain ⟨v, hv, rfl, _, rfl⟩ := hp
    rw [hv]; rfl
  unfold stepA at hst
  split at hst
  · rename_i x hopx
    split at hst
    · rename_i hf
      simp only [Option.map_eq_some_iff, Prod.mk.injEq, Prod.exists] at hst
      obtain ⟨v, fr1, ht, rfl, _, rfl⟩ := hst
      unfold stepA; simp [hopx, hf, ht]
    · rename_i hf
      simp only [Option.map_eq_some_iff, Prod.mk.injEq] at hst
      obtain ⟨v, hv, rfl, _, rfl⟩ := hst
      unfold stepA; simp [hopx, hf, hv]
  · rename_i x hopx
    simp only [Option.map_eq_some_iff, Prod.mk.injEq, Prod.exists] at hst
    obtain ⟨v, fr1, ht, rfl, _, rfl⟩ := hst
    unfold stepA; simp [hopx, ht]
  · simp at hst
  · simp only [Option.bind_eq_some_iff, Option.map_eq_some_iff, Prod.mk.injEq] at hst
    obtain ⟨v, hv, cs, hcs, _, hc, _⟩ := hst
    omega
  · rename_i t x hopx
    simp only [Option.bind_eq_some_iff] at hst
    obtain ⟨u, hu, hst⟩ := hst
    split at hst
    · rename_i hf
      split at hst
      · rename_i id off
        simp only [Option.bind_eq_some_iff] at hst
        obtain ⟨cs, hcs, hst⟩ := hst
        split at hst
        · rename_i n hsh
          simp only [Option.map_eq_some_iff, Prod.mk.injEq] at hst
          obtain ⟨v, hv, rfl, _, rfl⟩ := hst
          unfold stepA; simp [hopx, hf, hu, hcs, hsh, hv]
        · cases hst
      · cases hst
    · rename_i hf
      simp only [Option.map_eq_some_iff, Prod.mk.injEq] at hst
      obtain ⟨v, hv, rfl, _, rfl⟩ := hst
      unfold stepA; simp [hopx, hf, hu, hv]
  · rename_i t x y hopx
    simp only [Option.bind_eq_some_iff, Prod.exists] at hst
    obtain ⟨u, hu, v, fr1, ht, hst⟩ := hst
    split at hst
    · rename_i id off n hsz
      simp only [Option.bind_eq_some_iff] at hst
      obtain ⟨vs, hvs, hst⟩ := hst
      split at hst
      · rename_i hn
        simp only [Option.bind_eq_some_iff, Option.map_eq_some_iff, Prod.mk.injEq] at hst
        obtain ⟨cs, hcs, cs', hcs', rfl, _, rfl⟩ := hst
        unfold stepA; simp [hopx, hu, ht, hsz, hvs, hn, hcs, hcs']
      · cases hst
    · cases hst
  · rename_i t len parts hopx
    split at hst
    · rename_i e hk
      split at hst
      · rename_i s z hsz hz
        split at hst
        · rename_i hc
          simp only [Option.bind_eq_some_iff, Option.map_eq_some_iff, Prod.mk.injEq] at hst
          obtain ⟨ps, hps, xs, hxs, rfl, _, rfl⟩ := hst
          unfold stepA; simp only [hopx, hk, hsz, hz, if_pos hc, hps, Option.bind_some, hxs, Option.map_some]
        · cases hst
      · cases hst
    · cases hst
  · rename_i t l n hopx
    split at hst
    · rename_i e k1 l' k2 n' hk hl hn
      split at hst
      · rename_i s z b hsz hz hb
        split at hst
        · rename_i hc
          split at hst
          · rename_i h0
            simp only [Option.some.injEq, Prod.mk.injEq] at hst
            obtain ⟨rfl, _, rfl⟩ := hst
            unfold stepA; simp only [hopx, hk, hl, hn, hsz, hz, hb, if_pos hc, if_pos h0]
          · split at hst
            · simp at hst
            · cases hst
        · cases hst
      · cases hst
    · cases hst
  · rename_i t x hopx
    simp only [Option.bind_eq_some_iff] at hst
    obtain ⟨u, hu, hst⟩ := hst
    split at hst
    · cases hst
    · rename_i hne
      split at hst
      · rename_i hcon
        split at hst
        · rename_i hfz
          split at hst
          · rename_i id
            simp only [Option.map_eq_some_iff, Prod.mk.injEq] at hst
            obtain ⟨cs, hcs, rfl, _, rfl⟩ := hst
            unfold stepA
            simp only [hopx, hu, Option.bind_some]
            rw [if_pos hcon]
            simp [hfz, hcs]
          · simp only [Option.some.injEq, Prod.mk.injEq] at hst
            obtain ⟨rfl, _, rfl⟩ := hst
            unfold stepA
            simp only [hopx, hu, Option.bind_some]
            rw [if_pos hcon]
            simp [hfz]
          · cases hst
        · rename_i hfz
          simp only [Option.some.injEq, Prod.mk.injEq] at hst
          obtain ⟨rfl, _, rfl⟩ := hst
          unfold stepA
          simp only [hopx, hu, Option.bind_some]
          rw [if_pos hcon]
          simp [hfz]
      · cases hst
  · rename_i s d' x hopx
    split at hst
    · rename_i e b hk1 hk2 hx
      split at hst
      · rename_i he
        simp only [Option.some.injEq, Prod.mk.injEq] at hst
        obtain ⟨rfl, _, rfl⟩ := hst
        unfold stepA; simp only [hopx, hk1, hk2, hx, if_pos he]
      · cases hst
    · rename_i id off len hk2 hx
      split at hst
      · rename_i e hk1
        split at hst
        · rename_i he
          simp only [Option.bind_eq_some_iff, Option.map_eq_some_iff, Prod.mk.injEq] at hst
          obtain ⟨cs, hcs, bs, hbs, rfl, _, rfl⟩ := hst
          unfold stepA; simp only [hopx, hk1, hk2, hx, if_pos he, hcs, Option.bind_some, hbs, Option.map_some]
        · cases hst
      · cases hst
    · rename_i hn1 hn2
      have := pure hst
      rw [← this]
      unfold stepA
      simp only [hopx]
  · rename_i args argTypes hopx
    split at hst
    · rename_i x y t t2 ha ht
      split at hst
      · rename_i e hk hpl
        split at hst
        · rename_i s b z hsz hb hz
          split at hst
          · rename_i hzl
            simp only [Option.bind_eq_some_iff, Option.map_eq_some_iff, Prod.mk.injEq, Prod.exists] at hst
            obtain ⟨u, hu, v, fr1, htk, r, c2, h3, hr, rfl, hcc, rfl⟩ := hst
            have hr2 := appendO_count (d := d) hr hcc
            unfold stepA; simp only [hopx, ha, ht, hk, hpl, hsz, hb, hz, if_pos hzl, hu, Option.bind_some, htk, hr2, Option.map_some]
          · cases hst
        · cases hst
      · cases hst
    · cases hst
  · simp only [Option.bind_eq_some_iff] at hst
    obtain ⟨gv, hg, vs, hvs, hst⟩ := hst
    split at hst
    · simp at hst
    · cases hst
  · rename_i hn
    have := pure hst
    rw [← this]
    unfold stepA
    split <;> first | rfl | (exfalso; simp_all; done)

theorem load_some {E : Env} {cl : Id → Nat → List A → Heap → Option (A × Heap)} {p : Id} {all : List Oper} {o : Oper} {fr : Fr} {c : Nat} {h : Heap} {r : Fr × Nat × Heap} {q : Id × Nat × Nat} (hst : stepA E cl p all o fr c h = some r) (hq : isLoud E all o = false) (hl : loadAt E.P fr o = some q) :
    h q.1 ≠ none := by
  unfold loadAt at hl
  split at hl
  · rename_i t x hopx
    split at hl
    · rename_i id off n g hx hsh
      simp only [Option.some.injEq] at hl
      subst hl
      have hf : (E.feed && feeds all o.dst) = false := by simpa only [isLoud, hopx] using hq
      unfold stepA at hst
      simp only [hopx, hx, Option.bind_some, hf, Bool.false_eq_true, if_false, loadA, hsh] at hst
      intro e
      rw [e] at hst
      simp at hst
    · cases hl
  · cases hl

/-- where a load's place lies -/
theorem load_named {p : Id} {nt : Nat} {G : Ghost} {O : Own} {w : World} {P : Program} {fr : Fr} {tm : Array Value} {o : Oper} {q : Id × Nat × Nat} (hf : FR p nt G O w fr tm) (hl : loadAt P fr o = some q) : G.m q.1 ≠ none := by
  unfold loadAt at hl
  split at hl
  · rename_i t x hopx
    split at hl
    · rename_i id off n g hx hsh
      simp only [Option.some.injEq] at hl
      subst hl
      cases x with
      | tmp y =>
        simp only [ev, Option.some.injEq] at hx
        have := hf.V y
        rw [hx] at this
        generalize tm.getD y undef = v at this
        cases this with
        | ptr hm => simp [hm]
      | const k =>
        simp only [ev] at hx
        unfold ofConst at hx
        split at hx <;> cases hx
      | func f => simp [ev] at hx
      | global g => simp [ev] at hx
    · cases hl
  · cases hl
end Go.Ai

/- Regions in any order: the static check, and sets of operations carried out. -/
namespace Go.Ai
open Go.RowKit

def sees (all : List Oper) (o : Oper) : List Nat := looks o ++ gslot all o
def meets (xs ys : List Nat) : Bool := xs.any fun x => ys.contains x

/-- what must have been carried out ahead of each operation, as sets of bits -/
def befsFrom : List Oper → List Nat → List Nat
  | [], acc => acc
  | o :: os, acc => befsFrom os (acc ++ [o.after.toList.foldl (fun m e => if Region.binds .any e then (m ||| 2 ^ e.on) ||| acc.getD e.on 0 else m) 0])
def befs (ops : Array Oper) : List Nat := befsFrom ops.toList []

def pairOK (E : Env) (all : List Oper) (ps : List (Nat × Nat)) (T : List Nat) (i j : Nat) : Bool := match all[i]?, all[j]? with
  | some a, some b => Nat.testBit (T.getD j 0) i ||
    (!(isLoud E all a && isLoud E all b) && !(allocLike a && isLoud E all b) && !meets (touch all a) (touch all b ++ sees all b) && !meets (touch all b) (sees all a) &&
      (!(isLoad a && !isLoud E all a && isLoud E all b) || ps.contains (i, j)) && (!(isLoad b && !isLoud E all b && isLoud E all a) || ps.contains (j, i)))
  | _, _ => true
/-- may a region in any order be looked at in the text's? -/
def drawChk (E : Env) (ops : Array Oper) (ps : List (Nat × Nat)) : Bool :=
  ((List.range ops.size).all fun j => match ops[j]? with | some o => o.after.toList.all fun e => !Region.binds .any e || decide (e.on < j) | none => true) &&
  (List.range ops.size).all fun j => (List.range j).all fun i => pairOK E ops.toList ps (befs ops) i j

inductive Bef (ops : Array Oper) : Nat → Nat → Prop
  | edge {j : Nat} {o : Oper} {e : Edge} : ops[j]? = some o → e ∈ o.after → Region.binds .any e = true → Bef ops e.on j
  | trans {i j : Nat} {o : Oper} {e : Edge} : Bef ops i e.on → ops[j]? = some o → e ∈ o.after → Region.binds .any e = true → Bef ops i j

theorem befs_fold {ops : Array Oper} {acc : List Nat} {j : Nat} {o : Oper} (ho : ops[j]? = some o) (hacc : ∀ k m, acc[k]? = some m → ∀ i, Nat.testBit m i = true → Bef ops i k) :
    ∀ (es : List Edge) (m : Nat), (∀ e ∈ es, e ∈ o.after) → (∀ i, Nat.testBit m i = true → Bef ops i j) →
      ∀ i, Nat.testBit (es.foldl (fun m e => if Region.binds .any e then (m ||| 2 ^ e.on) ||| acc.getD e.on 0 else m) m) i = true → Bef ops i j
  | [], m, _, hm => hm
  | e :: es, m, hes, hm => by
    simp only [List.foldl_cons]
    refine befs_fold ho hacc es _ (fun e' h => hes e' (List.mem_cons_of_mem _ h)) ?_
    intro i hi
    split at hi
    · rename_i hb
      simp only [Nat.testBit_or, Bool.or_eq_true, Nat.testBit_two_pow, decide_eq_true_eq] at hi
      rcases hi with (hi | hi) | hi
      · exact hm i hi
      · subst hi; exact .edge ho (hes e (by simp)) hb
      · cases hk : acc[e.on]? with
        | none => simp [List.getD, hk] at hi
        | some x => exact .trans (hacc _ x hk i (by simpa [List.getD, hk] using hi)) ho (hes e (by simp)) hb
    · exact hm i hi

theorem befsFrom_ok {ops : Array Oper} : ∀ (os : List Oper) (acc : List Nat), ops.toList.drop acc.length = os → (∀ k m, acc[k]? = some m → ∀ i, Nat.testBit m i = true → Bef ops i k) →
    ∀ k m, (befsFrom os acc)[k]? = some m → ∀ i, Nat.testBit m i = true → Bef ops i k
  | [], acc, _, hacc => hacc
  | o :: os, acc, hd, hacc => by
    simp only [befsFrom]
    have ho : ops[acc.length]? = some o := by
      have := congrArg (·[0]?) hd
      simpa [List.getElem?_drop] using this
    refine befsFrom_ok os _ ?_ ?_
    · have := congrArg (·.drop 1) hd
      simpa [List.drop_drop, Nat.add_comm] using this
    · intro k m hk
      rw [List.getElem?_append] at hk
      split at hk
      · exact hacc k m hk
      · rename_i hlt
        have : k = acc.length := by
          cases h : k - acc.length with
          | zero => omega
          | succ n => rw [h] at hk; simp at hk
        subst this
        simp at hk
        subst hk
        rw [← Array.foldl_toList]
        exact befs_fold ho hacc _ 0 (fun e he => by simpa using he) (by simp)

theorem befs_ok {ops : Array Oper} {i j : Nat} (h : Nat.testBit ((befs ops).getD j 0) i = true) : Bef ops i j := by
  cases hk : (befs ops)[j]? with
  | none => simp [List.getD, hk] at h
  | some m => exact befsFrom_ok ops.toList [] (by simp) (by simp) j m hk i (by simpa [List.getD, hk] using h)

structure DC (E : Env) (ops : Array Oper) (ps : List (Nat × Nat)) : Prop where
  early : ∀ j o, ops[j]? = some o → ∀ e ∈ o.after, Region.binds .any e = true → e.on < j
  pair : ∀ i j oi oj, i < j → ops[i]? = some oi → ops[j]? = some oj → Bef ops i j ∨
    (¬ (isLoud E ops.toList oi = true ∧ isLoud E ops.toList oj = true) ∧ ¬ (allocLike oi = true ∧ isLoud E ops.toList oj = true) ∧
      (∀ t ∈ touch ops.toList oi, t ∉ touch ops.toList oj ∧ t ∉ sees ops.toList oj) ∧ (∀ t ∈ touch ops.toList oj, t ∉ sees ops.toList oi) ∧
      (isLoad oi = true → isLoud E ops.toList oi = false → isLoud E ops.toList oj = true → (i, j) ∈ ps) ∧ (isLoad oj = true → isLoud E ops.toList oj = false → isLoud E ops.toList oi = true → (j, i) ∈ ps))

theorem not_meets {xs ys : List Nat} (h : meets xs ys = false) : ∀ t ∈ xs, t ∉ ys := by
  intro t ht hy
  have : meets xs ys = true := by
    unfold meets
    rw [List.any_eq_true]
    exact ⟨t, ht, by simpa using hy⟩
  rw [h] at this; cases this

theorem drawChk_ok {E : Env} {ops : Array Oper} {ps : List (Nat × Nat)} (h : drawChk E ops ps = true) : DC E ops ps := by
  simp only [drawChk, Bool.and_eq_true, List.all_eq_true, List.mem_range] at h
  obtain ⟨h1, h2⟩ := h
  refine ⟨fun j o hj e he hb => ?_, fun i j oi oj hij hi hj => ?_⟩
  · have hlt : j < ops.size := (Array.getElem?_eq_some_iff.1 hj).1
    have := h1 j hlt
    rw [hj] at this
    simp only [List.all_eq_true, Bool.or_eq_true, Bool.not_eq_true', decide_eq_true_eq] at this
    rcases this e (by simpa using he) with h | h
    · rw [hb] at h; cases h
    · exact h
  · have hlt : j < ops.size := (Array.getElem?_eq_some_iff.1 hj).1
    have := h2 j hlt i hij
    unfold pairOK at this
    rw [Array.getElem?_toList, Array.getElem?_toList, hi, hj] at this
    simp only [Bool.or_eq_true, Bool.and_eq_true, Bool.not_eq_true', Bool.and_eq_false_iff] at this
    rcases this with h | ⟨⟨⟨⟨⟨k1, k2⟩, k3⟩, k4⟩, k5⟩, k6⟩
    · exact .inl (befs_ok h)
    · refine .inr ⟨?_, ?_, ?_, ?_, ?_, ?_⟩
      · rintro ⟨a, b⟩; rcases k1 with k | k <;> simp_all
      · rintro ⟨a, b⟩; rcases k2 with k | k <;> simp_all
      · intro t ht
        have := not_meets k3 t ht
        simpa [List.mem_append] using this
      · exact not_meets k4
      · intro a b c
        rcases k5 with k | k
        · simp [a, b, c] at k
        · simpa using k
      · intro a b c
        rcases k6 with k | k
        · simp [a, b, c] at k
        · simpa using k

/-- nothing is carried out ahead of what it must wait for -/
def Closed (ops : Array Oper) (D : Nat → Bool) : Prop := ∀ j o, ops[j]? = some o → D j = true → ∀ e ∈ o.after, Region.binds .any e = true → D e.on = true
theorem Closed.bef {ops : Array Oper} {D : Nat → Bool} (h : Closed ops D) {i j : Nat} (hb : Bef ops i j) : D j = true → D i = true := by
  induction hb with
  | edge h1 h2 h3 => intro hj; exact h _ _ h1 hj _ h2 h3
  | trans _ h1 h2 h3 ih => intro hj; exact ih (h _ _ h1 hj _ h2 h3)
theorem Closed.ready {ops : Array Oper} {D : Nat → Bool} (h : Closed ops D) {i j : Nat} {o : Oper} (ho : ops[j]? = some o) (hr : ∀ e ∈ o.after, Region.binds .any e = true → D e.on = true) (hb : Bef ops i j) : D i = true := by
  cases hb with
  | edge h1 h2 h3 => rw [ho] at h1; cases h1; exact hr _ h2 h3
  | trans hb h1 h2 h3 => rw [ho] at h1; cases h1; exact h.bef hb (hr _ h2 h3)

def setD (D : Nat → Bool) (i : Nat) : Nat → Bool := fun k => k == i || D k
theorem setD_self (D : Nat → Bool) (i : Nat) : setD D i i = true := by simp [setD]
theorem setD_ne {D : Nat → Bool} {i k : Nat} (h : k ≠ i) : setD D i k = D k := by simp [setD, h]

theorem applyU_notin : ∀ {us : List (Nat × A)} {fr : Fr} {t : Nat}, (∀ u ∈ us, u.1 ≠ t) → applyU us fr t = fr t
  | [], _, _, _ => rfl
  | (s, v) :: us, fr, t, h => by
    simp only [applyU]
    rw [applyU_notin fun u hu => h u (List.mem_cons_of_mem _ hu)]
    simp [Fr.set, Ne.symm (h (s, v) (by simp))]
theorem applyU_in : ∀ {us : List (Nat × A)} {fr fr2 : Fr} {t : Nat}, (∃ u ∈ us, u.1 = t) → applyU us fr t = applyU us fr2 t
  | [], _, _, _, h => by obtain ⟨u, hu, _⟩ := h; cases hu
  | (s, v) :: us, fr, fr2, t, h => by
    simp only [applyU]
    by_cases hin : ∃ u ∈ us, u.1 = t
    · exact applyU_in hin
    · have hn : ∀ u ∈ us, u.1 ≠ t := fun u hu e => hin ⟨u, hu, e⟩
      obtain ⟨u, hu, rfl⟩ := h
      rcases List.mem_cons.1 hu with rfl | hu
      · rw [applyU_notin hn, applyU_notin hn]; simp [Fr.set]
      · exact absurd rfl (hn u hu)

def foldU (U : Nat → List (Nat × A)) (D : Nat → Bool) : Nat → Fr → Fr
  | 0, fr => fr
  | k + 1, fr => if D k then applyU (U k) (foldU U D k fr) else foldU U D k fr

theorem foldU_congr {U : Nat → List (Nat × A)} {D D' : Nat → Bool} {fr : Fr} {t : Nat} : ∀ {m : Nat}, (∀ k < m, (∃ u ∈ U k, u.1 = t) → D k = D' k) → foldU U D m fr t = foldU U D' m fr t
  | 0, _ => rfl
  | m + 1, h => by
    have ih := foldU_congr (U := U) (D := D) (D' := D') (fr := fr) (t := t) (m := m) fun k hk => h k (by omega)
    simp only [foldU]
    by_cases hin : ∃ u ∈ U m, u.1 = t
    · rw [h m (by omega) hin]
      split
      · exact applyU_in hin
      · exact ih
    · have hn : ∀ u ∈ U m, u.1 ≠ t := fun u hu e => hin ⟨u, hu, e⟩
      have e1 : (if D m = true then applyU (U m) (foldU U D m fr) else foldU U D m fr) t = foldU U D m fr t := by
        split
        · exact applyU_notin hn
        · rfl
      have e2 : (if D' m = true then applyU (U m) (foldU U D' m fr) else foldU U D' m fr) t = foldU U D' m fr t := by
        split
        · exact applyU_notin hn
        · rfl
      rw [e1, e2, ih]

theorem foldU_lt {U : Nat → List (Nat × A)} {fr : Fr} {i : Nat} : ∀ d, foldU U (fun k => decide (k < i)) (i + d) fr = foldU U (fun _ => true) i fr
  | 0 => by
    have : ∀ m ≤ i, foldU U (fun k => decide (k < i)) m fr = foldU U (fun _ => true) m fr := by
      intro m
      induction m with
      | zero => intro _; rfl
      | succ m ih =>
        intro hm
        simp only [foldU, ih (by omega), decide_eq_true (show m < i by omega), if_true]
    exact this i (Nat.le_refl _)
  | d + 1 => by
    rw [← Nat.add_assoc, foldU, foldU_lt d]
    rw [if_neg (by simp)]

theorem foldU_set {U : Nat → List (Nat × A)} {D : Nat → Bool} {fr : Fr} {i n : Nat} (hi : i < n) (hD : D i = false) (hdis : ∀ k, i < k → k < n → D k = true → ∀ u ∈ U k, ∀ u' ∈ U i, u.1 ≠ u'.1) :
    foldU U (setD D i) n fr = applyU (U i) (foldU U D n fr) := by
  funext t
  by_cases hin : ∃ u ∈ U i, u.1 = t
  · have hlater : ∀ d, i + 1 + d ≤ n → foldU U (setD D i) (i + 1 + d) fr t = applyU (U i) (foldU U (setD D i) i fr) t := by
      intro d
      induction d with
      | zero => intro _; simp [foldU, setD_self]
      | succ d ih =>
        intro hd
        rw [← Nat.add_assoc, foldU]
        split
        · rename_i hk
          rw [setD_ne (by omega)] at hk
          rw [applyU_notin, ih (by omega)]
          intro u hu e
          obtain ⟨u', hu', e'⟩ := hin
          exact hdis (i + 1 + d) (by omega) (by omega) hk u hu u' hu' (e.trans e'.symm)
        · exact ih (by omega)
    have := hlater (n - (i + 1)) (by omega)
    rw [show i + 1 + (n - (i + 1)) = n by omega] at this
    rw [this]
    exact applyU_in hin
  · rw [applyU_notin fun u hu e => hin ⟨u, hu, e⟩]
    exact foldU_congr fun k _ hk => setD_ne (by rintro rfl; exact hin hk)
end Go.Ai

/- Regions in any order: the model's answer is that of the text's run. -/
namespace Go.Ai
open Go.RowKit

theorem stepA_cnt1 {E : Env} {cl : Id → Nat → List A → Heap → Option (A × Heap)} {p : Id} {all : List Oper} {o : Oper} {s : Fr × Nat × Heap} {us : List (Nat × A)} {he : He} {s' : Fr × Nat × Heap} (hd : Did E cl p all o s s' us he) :
    s'.2.1 = s.2.1 ∨ s'.2.1 = s.2.1 + 1 := by
  rcases hd.what with ⟨_, _, h, _⟩ | ⟨_, ⟨_, _, h⟩ | ⟨_, _, h, _⟩ | ⟨_, _, h, _⟩⟩
  · exact .inl h
  · have h := h s.1 (fun _ _ => rfl)
    generalize s'.2.1 = c' at h ⊢
    generalize s'.2.2 = h' at h
    generalize applyU us s.1 = fr' at h
    have pure : (pureA E.P s.1 o).map (fun v => (s.1.put o.dst v.noOwn, s.2.1, s.2.2)) = some (fr', c', h') → c' = s.2.1 := by
      intro hp
      simp only [Option.map_eq_some_iff, Prod.mk.injEq] at hp
      obtain ⟨v, hv, _, h, _⟩ := hp
      exact h.symm
    unfold stepA at h
    split at h
    · split at h
      · simp only [Option.map_eq_some_iff, Prod.mk.injEq, Prod.exists] at h
        obtain ⟨v, fr1, ht, _, h, _⟩ := h; exact .inl h.symm
      · simp only [Option.map_eq_some_iff, Prod.mk.injEq] at h
        obtain ⟨v, hv, _, h, _⟩ := h; exact .inl h.symm
    · simp only [Option.map_eq_some_iff, Prod.mk.injEq, Prod.exists] at h
      obtain ⟨v, fr1, ht, _, h, _⟩ := h; exact .inl h.symm
    · simp only [Option.map_eq_some_iff, Prod.mk.injEq] at h
      obtain ⟨z, hz, _, h, _⟩ := h; exact .inr h.symm
    · simp only [Option.bind_eq_some_iff, Option.map_eq_some_iff, Prod.mk.injEq] at h
      obtain ⟨v, hv, cs, hcs, _, h, _⟩ := h; exact .inr h.symm
    · simp only [Option.bind_eq_some_iff] at h
      obtain ⟨u, hu, h⟩ := h
      split at h
      · split at h
        · simp only [Option.bind_eq_some_iff] at h
          obtain ⟨cs, hcs, h⟩ := h
          split at h
          · simp only [Option.map_eq_some_iff, Prod.mk.injEq] at h
            obtain ⟨v, hv, _, h, _⟩ := h; exact .inl h.symm
          · cases h
        · cases h
      · simp only [Option.map_eq_some_iff, Prod.mk.injEq] at h
        obtain ⟨v, hv, _, h, _⟩ := h; exact .inl h.symm
    · simp only [Option.bind_eq_some_iff, Prod.exists] at h
      obtain ⟨u, hu, v, fr1, ht, h⟩ := h
      split at h
      · simp only [Option.bind_eq_some_iff] at h
        obtain ⟨vs, hvs, h⟩ := h
        split at h
        · simp only [Option.bind_eq_some_iff, Option.map_eq_some_iff, Prod.mk.injEq] at h
          obtain ⟨cs, hcs, cs', hcs', _, h, _⟩ := h; exact .inl h.symm
        · cases h
      · cases h
    · split at h
      · split at h
        · split at h
          · simp only [Option.bind_eq_some_iff, Option.map_eq_some_iff, Prod.mk.injEq] at h
            obtain ⟨ps, hps, xs, hxs, _, h, _⟩ := h; exact .inl h.symm
          · cases h
        · cases h
      · cases h
    · split at h
      · split at h
        · split at h
          · split at h
            · simp only [Option.some.injEq, Prod.mk.injEq] at h; exact .inl h.2.1.symm
            · split at h
              · simp only [Option.some.injEq, Prod.mk.injEq] at h; exact .inr h.2.1.symm
              · cases h
          · cases h
        · cases h
      · cases h
    · simp only [Option.bind_eq_some_iff] at h
      obtain ⟨u, hu, h⟩ := h
      split at h
      · cases h
      · split at h
        · split at h
          · split at h
            · simp only [Option.map_eq_some_iff, Prod.mk.injEq] at h
              obtain ⟨cs, hcs, _, h, _⟩ := h; exact .inl h.symm
            · simp only [Option.some.injEq, Prod.mk.injEq] at h; exact .inl h.2.1.symm
            · cases h
          · simp only [Option.some.injEq, Prod.mk.injEq] at h; exact .inl h.2.1.symm
        · cases h
    · split at h
      · split at h
        · simp only [Option.some.injEq, Prod.mk.injEq] at h; exact .inl h.2.1.symm
        · cases h
      · split at h
        · split at h
          · simp only [Option.bind_eq_some_iff, Option.map_eq_some_iff, Prod.mk.injEq] at h
            obtain ⟨cs, hcs, bs, hbs, _, h, _⟩ := h; exact .inl h.symm
          · cases h
        · cases h
      · exact .inl (pure h)
    · split at h
      · split at h
        · split at h
          · split at h
            · simp only [Option.bind_eq_some_iff, Option.map_eq_some_iff, Prod.mk.injEq, Prod.exists] at h
              obtain ⟨u, hu, v, fr1, htk, r, c2, h3, hr, _, h, _⟩ := h
              rw [← h]
              unfold appendO at hr
              split at hr
              · simp only [Option.bind_eq_some_iff] at hr
                obtain ⟨ys, _, hr⟩ := hr
                split at hr
                · simp only [Option.some.injEq, Prod.mk.injEq] at hr; exact .inr hr.2.1.symm
                · cases hr
              · simp only [Option.map_eq_some_iff, Prod.mk.injEq] at hr
                obtain ⟨_, _, _, hr, _⟩ := hr
                exact .inl hr.symm
            · cases h
          · cases h
        · cases h
      · cases h
    · simp only [Option.bind_eq_some_iff] at h
      obtain ⟨gv, hg, vs, hvs, h⟩ := h
      split at h
      · simp only [Option.map_eq_some_iff, Prod.mk.injEq, Prod.exists] at h
        obtain ⟨v, h2, hcall, _, h, _⟩ := h; exact .inr h.symm
      · cases h
    · exact .inl (pure h)
  · exact .inl h
  · exact .inr h

/-- the heap behind the operations of a set -/
def foldH (p : Id) (S : Nat → Fr × Nat × Heap) (H : Nat → He) (D : Nat → Bool) : Nat → Heap
  | 0 => (S 0).2.2
  | k + 1 => if D k then (H k).go p (S k).2.1 (S (k + 1)).2.2 (foldH p S H D k) else foldH p S H D k
/-- the objects of a set of operations behind one -/
def floats (p : Id) (S : Nat → Fr × Nat × Heap) (H : Nat → He) (D : Nat → Bool) (i : Nat) : Nat → Heap
  | 0 => fun _ => none
  | k + 1 => if decide (i < k) && D k then (H k).go p (S k).2.1 (S (k + 1)).2.2 (floats p S H D i k) else floats p S H D i k

section
variable {E : Env} {cl : Id → Nat → List A → Heap → Option (A × Heap)} {p : Id} {ops : Array Oper} {ps : List (Nat × Nat)} {S : Nat → Fr × Nat × Heap} {U : Nat → List (Nat × A)} {H : Nat → He}

/-- the text's run, with what each operation did -/
structure Run (E : Env) (cl : Id → Nat → List A → Heap → Option (A × Heap)) (p : Id) (ops : Array Oper) (ps : List (Nat × Nat)) (S : Nat → Fr × Nat × Heap) (U : Nat → List (Nat × A)) (H : Nat → He) : Prop where
  dom : DomOK cl
  chk : DC E ops ps
  did : ∀ k o, ops[k]? = some o → Did E cl p ops.toList o (S k) (S (k + 1)) (U k) (H k)
  tr : Tr E cl p ops.toList ps S
  bare : ∀ t x, (S 0).2.1 ≤ x → (S 0).2.2 (t :: x :: p) = none

theorem Run.mono (r : Run E cl p ops ps S U H) : ∀ {k : Nat} (d : Nat), k + d ≤ ops.size → (S k).2.1 ≤ (S (k + d)).2.1
  | k, 0, _ => Nat.le_refl _
  | k, d + 1, h => by
    have h1 := r.mono (k := k) d (by omega)
    have h2 := (r.did (k + d) ops[k + d] (by rw [Array.getElem?_eq_getElem])).cnt
    exact Nat.le_trans h1 h2
theorem Run.mono' (r : Run E cl p ops ps S U H) {k m : Nat} (h : k ≤ m) (hm : m ≤ ops.size) : (S k).2.1 ≤ (S m).2.1 := by
  have := r.mono (k := k) (m - k) (by omega)
  rwa [show k + (m - k) = m by omega] at this
theorem Run.at (_r : Run E cl p ops ps S U H) {k : Nat} (h : k < ops.size) : ops[k]? = some ops[k] := by rw [Array.getElem?_eq_getElem]
theorem Run.frame (r : Run E cl p ops ps S U H) : ∀ {k : Nat}, k ≤ ops.size → foldU U (fun _ => true) k (S 0).1 = (S k).1
  | 0, _ => rfl
  | k + 1, h => by simp only [foldU, if_true, r.frame (k := k) (by omega)]; exact (r.did k _ (r.at (by omega))).fr.symm
theorem Run.none (r : Run E cl p ops ps S U H) : ∀ {k : Nat}, k ≤ ops.size → ∀ t x, (S k).2.1 ≤ x → (S k).2.2 (t :: x :: p) = none
  | 0, _ => r.bare
  | k + 1, h => by
    intro t x hx
    have ho := r.at (k := k) (by omega)
    have hcnt := (r.did k _ ho).cnt
    have ih := r.none (k := k) (by omega) t x (by omega)
    have hst := r.tr.step k _ (by rw [Array.getElem?_toList]; exact ho)
    unfold one at hst
    split at hst
    · have hg := stepA_dom r.dom (show stepA E cl p ops.toList ops[k] (S k).1 (S k).2.1 (S k).2.2 = some ((S (k + 1)).1, (S (k + 1)).2.1, (S (k + 1)).2.2) from hst)
      cases h' : (S (k + 1)).2.2 (t :: x :: p) with
      | none => rfl
      | some cs =>
        rcases hg.2 (t :: x :: p) (by rw [h']; simp) with h1 | ⟨j, h1, h2, h3⟩
        · exact absurd ih h1
        · have := cons_suffix_inj h3 (List.suffix_cons _ _)
          omega
    · have := (Option.some.inj hst).symm
      rw [this]; exact ih
    · cases hst

theorem Run.turn (r : Run E cl p ops ps S U H) {k : Nat} {o : Oper} (ho : ops[k]? = some o) (h : H k = .turn) : guardA ops.toList o (S k).1 = some true ∧ isLoud E ops.toList o = true := by
  rcases (r.did k o ho).what with ⟨_, _, _, h1⟩ | ⟨hg, ⟨_, hl, _⟩ | ⟨_, h1, _⟩ | ⟨_, _, _, init, h1, _⟩⟩
  · rw [h] at h1; cases h1
  · exact ⟨hg, hl⟩
  · rw [h] at h1; cases h1
  · rw [h] at h1; cases h1
theorem Run.make (r : Run E cl p ops ps S U H) {k : Nat} {o : Oper} {t : Nat} {init : List A} (ho : ops[k]? = some o) (h : H k = .make t init) : allocLike o = true ∧ (S (k + 1)).2.1 = (S k).2.1 + 1 ∧ ∀ x ∈ init, x.free := by
  rcases (r.did k o ho).what with ⟨_, _, _, h1⟩ | ⟨hg, ⟨h1, hl, _⟩ | ⟨_, h1, _⟩ | ⟨_, ha, hc, init, h1, hf, _⟩⟩
  · rw [h] at h1; cases h1
  · rw [h] at h1; cases h1
  · rw [h] at h1; cases h1
  · rw [h] at h1; cases h1; exact ⟨ha, hc, hf⟩
theorem Run.heap (r : Run E cl p ops ps S U H) {k : Nat} (h : k < ops.size) : (S (k + 1)).2.2 = (H k).go p (S k).2.1 (S (k + 1)).2.2 (S k).2.2 := (r.did k _ (r.at h)).heap

variable {D : Nat → Bool} {i : Nat} {oi : Oper}

theorem foldH_keep (hk : H i = .keep) : ∀ m, foldH p S H (setD D i) m = foldH p S H D m
  | 0 => rfl
  | m + 1 => by
    simp only [foldH, foldH_keep hk m]
    by_cases e : m = i
    · subst e
      rw [setD_self, hk]
      simp [He.go]
    · rw [setD_ne e]

theorem upd_comm {h : Heap} {i j : Id} {a b : List A} (hij : i ≠ j) : upd (upd h i a) j b = upd (upd h j b) i a := by
  funext x
  simp only [upd]
  split
  · split
    · rename_i h1 h2; exact absurd (h2.symm.trans h1) hij
    · rfl
  · rfl

theorem foldH_make (r : Run E cl p ops ps S U H) {t : Nat} {init : List A} (hi : i < ops.size) (hk : H i = .make t init) (hD : D i = false) (hno : ∀ k, i < k → k < ops.size → D k = true → H k ≠ .turn) :
    foldH p S H (setD D i) ops.size = upd (foldH p S H D ops.size) (t :: (S i).2.1 :: p) init := by
  have h0 : ∀ m ≤ i, foldH p S H (setD D i) m = foldH p S H D m := by
    intro m
    induction m with
    | zero => intro _; rfl
    | succ m ih => intro hm; simp only [foldH, ih (by omega), setD_ne (show m ≠ i by omega)]
  have h1 : ∀ d, i + 1 + d ≤ ops.size → foldH p S H (setD D i) (i + 1 + d) = upd (foldH p S H D (i + 1 + d)) (t :: (S i).2.1 :: p) init := by
    intro d
    induction d with
    | zero => intro _; simp [foldH, setD_self, hD, hk, He.go, h0 i (Nat.le_refl _)]
    | succ d ih =>
      intro hd
      have ih := ih (by omega)
      rw [← Nat.add_assoc, foldH, foldH, setD_ne (by omega), ih]
      split
      · rename_i hDk
        have hnt := hno (i + 1 + d) (by omega) (by omega) hDk
        generalize hH : H (i + 1 + d) = he at hnt
        cases he with
        | keep => rfl
        | turn => exact absurd rfl hnt
        | make t2 init2 =>
          simp only [He.go]
          refine upd_comm ?_
          intro e
          have := r.mono' (k := i + 1) (m := i + 1 + d) (by omega) (by omega)
          have h2 := (r.make (r.at hi) hk).2.1
          simp at e; omega
      · rfl
  have := h1 (ops.size - (i + 1)) (by omega)
  rwa [show i + 1 + (ops.size - (i + 1)) = ops.size by omega] at this

theorem upd_overlay {F h : Heap} {i : Id} {a : List A} : overlay (upd F i a) h = upd (overlay F h) i a := by
  funext x
  simp only [overlay, upd]
  split
  · rename_i cs e; split at e
    · rename_i hx; simp at e; subst e; simp [hx]
    · rename_i hx; simp [hx, e]
  · rename_i e; split at e
    · cases e
    · rename_i hx; simp [hx, e]

theorem foldH_turn (r : Run E cl p ops ps S U H) (hi : i < ops.size) (hD : D i = false) (hpast : ∀ k, k < i → H k ≠ .keep → D k = true) (hno : ∀ k, i < k → k < ops.size → D k = true → H k ≠ .turn) (ht : H i = .turn) :
    foldH p S H D ops.size = overlay (floats p S H D i ops.size) (S i).2.2 ∧ foldH p S H (setD D i) ops.size = overlay (floats p S H D i ops.size) (S (i + 1)).2.2 := by
  have h0 : ∀ m ≤ i, foldH p S H D m = (S m).2.2 ∧ foldH p S H (setD D i) m = (S m).2.2 ∧ floats p S H D i m = fun _ => none := by
    intro m
    induction m with
    | zero => intro _; exact ⟨rfl, rfl, rfl⟩
    | succ m ih =>
      intro hm
      obtain ⟨e1, e2, e3⟩ := ih (by omega)
      have hh := r.heap (k := m) (by omega)
      simp only [foldH, floats, setD_ne (show m ≠ i by omega), e1, e2, e3, decide_eq_false (show ¬ i < m by omega), Bool.false_and, Bool.false_eq_true, if_false, and_true]
      have : (if D m = true then (H m).go p (S m).2.1 (S (m + 1)).2.2 (S m).2.2 else (S m).2.2) = (S (m + 1)).2.2 := by
        split
        · exact hh.symm
        · rename_i hDm
          have : H m = .keep := by
            cases hH : H m with
            | keep => rfl
            | _ => exact absurd (hpast m (by omega) (by rw [hH]; simp)) hDm
          rw [this] at hh; exact hh.symm
      exact ⟨this, this⟩
  have h1 : ∀ d, i + 1 + d ≤ ops.size → foldH p S H D (i + 1 + d) = overlay (floats p S H D i (i + 1 + d)) (S i).2.2 ∧ foldH p S H (setD D i) (i + 1 + d) = overlay (floats p S H D i (i + 1 + d)) (S (i + 1)).2.2 := by
    intro d
    induction d with
    | zero =>
      intro _
      obtain ⟨e1, e2, e3⟩ := h0 i (Nat.le_refl _)
      simp only [Nat.add_zero, foldH, floats, hD, setD_self, e1, e2, e3, Bool.false_eq_true, if_false, if_true, Nat.lt_irrefl, decide_false, Bool.false_and, ht, He.go]
      exact ⟨rfl, rfl⟩
    | succ d ih =>
      intro hd
      obtain ⟨e1, e2⟩ := ih (by omega)
      rw [← Nat.add_assoc, foldH, foldH, floats, setD_ne (by omega), e1, e2, decide_eq_true (show i < i + 1 + d by omega), Bool.true_and]
      split
      · rename_i hDk
        have hnt := hno (i + 1 + d) (by omega) (by omega) hDk
        generalize hH : H (i + 1 + d) = he at hnt
        cases he with
        | keep => exact ⟨rfl, rfl⟩
        | turn => exact absurd rfl hnt
        | make t2 init2 => simp only [He.go]; exact ⟨upd_overlay.symm, upd_overlay.symm⟩
      · exact ⟨rfl, rfl⟩
  have := h1 (ops.size - (i + 1)) (by omega)
  rwa [show i + 1 + (ops.size - (i + 1)) = ops.size by omega] at this

theorem floats_spec (r : Run E cl p ops ps S U H) (hno : ∀ k, i < k → k < ops.size → D k = true → H k ≠ .turn) : ∀ m ≤ ops.size, ∀ id cs, floats p S H D i m id = some cs → (∃ k, i < k ∧ k < m ∧ ∃ t, id = t :: (S k).2.1 :: p) ∧ ∀ x ∈ cs, x.free := by
  intro m
  induction m with
  | zero => intro _ id cs h; cases h
  | succ m ih =>
    intro hm id cs h
    simp only [floats] at h
    split at h
    · rename_i hc
      simp only [Bool.and_eq_true, decide_eq_true_eq] at hc
      have hnt := hno m hc.1 (by omega) hc.2
      generalize hH : H m = he at hnt h
      cases he with
      | turn => exact absurd rfl hnt
      | keep =>
        obtain ⟨⟨k, h1, h2, h3⟩, h4⟩ := ih (by omega) id cs h
        exact ⟨⟨k, h1, by omega, h3⟩, h4⟩
      | make t init =>
        simp only [He.go, upd] at h
        split at h
        · rename_i e
          simp at h; subst h
          exact ⟨⟨m, hc.1, by omega, _, e⟩, (r.make (r.at (k := m) (by omega)) hH).2.2⟩
        · obtain ⟨⟨k, h1, h2, h3⟩, h4⟩ := ih (by omega) id cs h
          exact ⟨⟨k, h1, by omega, h3⟩, h4⟩
    · obtain ⟨⟨k, h1, h2, h3⟩, h4⟩ := ih (by omega) id cs h
      exact ⟨⟨k, h1, by omega, h3⟩, h4⟩

theorem view_upd {q : Id × Nat × Nat} {h : Heap} {id : Id} {cs : List A} (hne : q.1 ≠ id) : view q (upd h id cs) = view q h := by simp [view, upd, hne]
theorem view_upd2 {q : Id × Nat × Nat} {h h2 : Heap} {id : Id} {cs : List A} (hv : view q h = view q h2) : view q (upd h id cs) = view q (upd h2 id cs) := by
  by_cases e : q.1 = id
  · simp [view, upd, e]
  · rw [view_upd e, view_upd e]; exact hv

/-- a load that is carried out at its turn sees what it sees in the text's run -/
theorem view_ok (r : Run E cl p ops ps S U H) (hcl : Closed ops D) (hoi : ops[i]? = some oi) (hD : D i = false) (hr : ∀ e ∈ oi.after, Region.binds .any e = true → D e.on = true) (hload : isLoad oi = true) (hquiet : isLoud E ops.toList oi = false)
    (hg : guardA ops.toList oi (S i).1 = some true) {q : Id × Nat × Nat} (hq : loadAt E.P (S i).1 oi = some q) (hsome : (S i).2.2 q.1 ≠ none) (hnew : ∀ k t init, k < ops.size → D k = false → H k = .make t init → q.1 ≠ t :: (S k).2.1 :: p) (hki : H i = .keep) :
    view q (foldH p S H D ops.size) = view q (S i).2.2 := by
  have hi : i < ops.size := (Array.getElem?_eq_some_iff.1 hoi).1
  have hlast : ∀ k t init, i < k → k < ops.size → H k = .make t init → q.1 ≠ t :: (S k).2.1 :: p := by
    intro k t init h1 h2 _ e
    apply hsome
    rw [e]
    exact r.none (by omega) _ _ (r.mono' (by omega) (by omega))
  -- an unordered loud operation leaves the place as it is
  have loud1 : ∀ k, k < i → D k = false → H k = .turn → view q (S k).2.2 = view q (S (k + 1)).2.2 := by
    intro k hk hDk ht
    have hok := r.at (k := k) (by omega)
    obtain ⟨hgk, hlk⟩ := r.turn hok ht
    rcases r.chk.pair k i _ _ hk hok hoi with hb | ⟨_, _, _, _, _, h6⟩
    · have := hcl.ready hoi hr hb; rw [hDk] at this; cases this
    · exact r.tr.same i k (h6 hload hquiet hlk) _ _ q (by rw [Array.getElem?_toList]; exact hoi) (by rw [Array.getElem?_toList]; exact hok) hg hgk hq
  have loud2 : ∀ k, i < k → k < ops.size → D k = true → H k = .turn → view q (S k).2.2 = view q (S (k + 1)).2.2 := by
    intro k hk hkn hDk ht
    have hok := r.at hkn
    obtain ⟨hgk, hlk⟩ := r.turn hok ht
    rcases r.chk.pair i k _ _ hk hoi hok with hb | ⟨_, _, _, _, h5, _⟩
    · have := hcl.bef hb hDk; rw [hD] at this; cases this
    · exact r.tr.same i k (h5 hload hquiet hlk) _ _ q (by rw [Array.getElem?_toList]; exact hoi) (by rw [Array.getElem?_toList]; exact hok) hg hgk hq
  have down : ∀ m ≤ i, view q (foldH p S H D m) = view q (S m).2.2 := by
    intro m
    induction m with
    | zero => intro _; rfl
    | succ m ih =>
      intro hm
      have ih := ih (by omega)
      have hh := r.heap (k := m) (by omega)
      simp only [foldH]
      generalize hH : H m = he at hh
      cases hDm : D m with
      | true =>
        simp only [if_true]
        cases he with
        | keep => rw [hh]; exact ih
        | turn => rfl
        | make t init => rw [hh]; exact view_upd2 ih
      | false =>
        simp only [Bool.false_eq_true, if_false]
        cases he with
        | keep => rw [hh]; exact ih
        | turn => rw [ih]; exact loud1 m (by omega) hDm hH
        | make t init => rw [hh, ih]; exact (view_upd (hnew m t init (by omega) hDm hH)).symm
  have chain : ∀ d, i + d ≤ ops.size → (∀ k, i < k → k < i + d → H k = .turn → D k = true) → view q (S (i + d)).2.2 = view q (S i).2.2 := by
    intro d
    induction d with
    | zero => intro _ _; rfl
    | succ d ih =>
      intro hd hal
      have ih := ih (by omega) (fun k h1 h2 => hal k h1 (by omega))
      have hh := r.heap (k := i + d) (by omega)
      rw [← Nat.add_assoc, ← ih]
      cases hH : H (i + d) with
      | keep => rw [hH] at hh; rw [hh]; rfl
      | turn =>
        have hne : i < i + d := by
          cases d with
          | zero => rw [Nat.add_zero, hki] at hH; cases hH
          | succ d => omega
        exact (loud2 (i + d) hne (by omega) (hal _ hne (by omega) hH) hH).symm
      | make t init =>
        have hne : i < i + d := by
          cases d with
          | zero => rw [Nat.add_zero, hki] at hH; cases hH
          | succ d => omega
        rw [hH] at hh; rw [hh]; exact view_upd (hlast _ t init hne (by omega) hH)
  have up : ∀ d, i + d ≤ ops.size → view q (foldH p S H D (i + d)) = view q (S i).2.2 := by
    intro d
    induction d with
    | zero => intro _; exact down i (Nat.le_refl _)
    | succ d ih =>
      intro hd
      have ih := ih (by omega)
      rw [← Nat.add_assoc, foldH]
      cases hDm : D (i + d) with
      | false => simp only [Bool.false_eq_true, if_false]; exact ih
      | true =>
        simp only [if_true]
        have hne : i < i + d := by
          cases d with
          | zero => rw [Nat.add_zero, hD] at hDm; cases hDm
          | succ d => omega
        cases hH : H (i + d) with
        | keep => exact ih
        | make t init => simp only [He.go]; rw [view_upd (hlast _ t init hne (by omega) hH)]; exact ih
        | turn =>
          simp only [He.go]
          rw [Nat.add_assoc]
          refine chain (d + 1) (by omega) ?_
          intro k h1 h2 ht
          by_cases e : k = i + d
          · rw [e]; exact hDm
          · have hok := r.at (k := k) (by omega)
            have hod := r.at (k := i + d) (by omega)
            have l1 := (r.turn hok ht).2
            have l2 := (r.turn hod hH).2
            rcases r.chk.pair k (i + d) _ _ (by omega) hok hod with hb | ⟨h1, _⟩
            · exact hcl.bef hb hDm
            · exact absurd ⟨l1, l2⟩ h1
  have := up (ops.size - i) (by omega)
  rwa [show i + (ops.size - i) = ops.size by omega] at this
end
end Go.Ai

/- Regions in any order: the model's answer is that of the text's run. -/
namespace Go.Ai
open Go.RowKit

/-- the counts that a set of operations has used up -/
def XD (S : Nat → Fr × Nat × Heap) (n : Nat) (D : Nat → Bool) (k : Nat) : Prop := ∃ i, i < n ∧ D i = true ∧ (S i).2.1 ≤ k ∧ k < (S (i + 1)).2.1

def Inv (B : Nat) (w0 : World) (p : Id) (nt : Nat) (ops : Array Oper) (S : Nat → Fr × Nat × Heap) (U : Nat → List (Nat × A)) (H : Nat → He) (G0 : Ghost) (O0 : Own) (w1 : World) (D : Nat → Bool) (G : Ghost) (O : Own) (a : Act) (w : World) : Prop :=
  SR (XD S ops.size D) B w0 p nt G O (foldU U D ops.size (S 0).1) (S 0).2.1 (foldH p S H D ops.size) a w ∧ Mv p (S 0).2.1 G0 O0 w1 (S ops.size).2.1 G O w

section
variable {E : Env} {cl : Id → Nat → List A → Heap → Option (A × Heap)} {B : Nat} {w0 : World} {nt : Nat} {p : Id} {ops : Array Oper} {ps : List (Nat × Nat)} {S : Nat → Fr × Nat × Heap} {U : Nat → List (Nat × A)} {H : Nat → He} {D : Nat → Bool} {i : Nat} {o : Oper} {G0 G : Ghost} {O0 O : Own} {w1 w : World} {a : Act}

theorem meet_sees (r : Run E cl p ops ps S U H) (hcl : Closed ops D) (ho : ops[i]? = some o) (hD : D i = false) (hr : ∀ e ∈ o.after, Region.binds .any e = true → D e.on = true) : agree (sees ops.toList o) (S i).1 (foldU U D ops.size (S 0).1) := by
  intro t ht
  have hi : i < ops.size := (Array.getElem?_eq_some_iff.1 ho).1
  have e1 : foldU U D ops.size (S 0).1 t = foldU U (fun k => decide (k < i)) ops.size (S 0).1 t := by
    refine foldU_congr fun k hk hin => ?_
    obtain ⟨u, hu, rfl⟩ := hin
    have hok := r.at hk
    have hkey := (r.did k _ hok).key u hu
    rcases Nat.lt_trichotomy k i with h | h | h
    · rw [decide_eq_true h]
      rcases r.chk.pair k i _ _ h hok ho with hb | ⟨_, _, h3, _⟩
      · exact hcl.ready ho hr hb
      · exact absurd ht (h3 _ hkey).2
    · subst h; rw [hD]; simp
    · rw [decide_eq_false (by omega)]
      rcases r.chk.pair i k _ _ h ho hok with hb | ⟨_, _, _, h4, _⟩
      · cases hDk : D k with
        | false => rfl
        | true => have := hcl.bef hb hDk; rw [hD] at this; cases this
      · exact absurd ht (h4 _ hkey)
  have e2 := foldU_lt (U := U) (fr := (S 0).1) (i := i) (ops.size - i)
  rw [show i + (ops.size - i) = ops.size by omega] at e2
  rw [e1, e2, r.frame (by omega)]

theorem disj_later (r : Run E cl p ops ps S U H) (hcl : Closed ops D) (ho : ops[i]? = some o) (hD : D i = false) : ∀ k, i < k → k < ops.size → D k = true → ∀ u ∈ U k, ∀ u' ∈ U i, u.1 ≠ u'.1 := by
  intro k h1 h2 hDk u hu u' hu' e
  have hok := r.at h2
  rcases r.chk.pair i k _ _ h1 ho hok with hb | ⟨_, _, h3, _⟩
  · have := hcl.bef hb hDk; rw [hD] at this; cases this
  · exact (h3 _ ((r.did i _ ho).key u' hu')).1 (by rw [← e]; exact (r.did k _ hok).key u hu)

/-- behind one operation more -/
theorem inv_next (r : Run E cl p ops ps S U H) (hcl : Closed ops D) (ho : ops[i]? = some o) (hD : D i = false) {G1 : Ghost} {O1 : Own} {a1 : Act} {w2 : World} {d d' : Nat} {X : Nat → Prop} {h1 : Heap} {fr1 : Fr}
    (hinv : Inv B w0 p nt ops S U H G0 O0 w1 D G O a w) (hs : SR X B w0 p nt G1 O1 fr1 d' h1 a1 w2) (hm : Mv p d G O w d' G1 O1 w2) (hd : d' = d ∨ (d = (S i).2.1 ∧ d' = (S (i + 1)).2.1))
    (hfr : fr1 = applyU (U i) (foldU U D ops.size (S 0).1)) (hh : h1 = foldH p S H (setD D i) ops.size) : Inv B w0 p nt ops S U H G0 O0 w1 (setD D i) G1 O1 a1 w2 := by
  have hi : i < ops.size := (Array.getElem?_eq_some_iff.1 ho).1
  subst hfr
  subst hh
  have hin : ∀ k, d ≤ k → k < d' → XD S ops.size (setD D i) k := by
    intro k h1 h2
    rcases hd with hd | ⟨hd, hd'⟩
    · omega
    · exact ⟨i, hi, setD_self D i, by omega, by omega⟩
  refine ⟨?_, ⟨Ghost.le_trans hinv.2.le hm.le, hinv.2.keeps.trans hm.keeps, hinv.2.cnt, fun j hj => ?_⟩⟩
  · rw [foldU_set hi hD (disj_later r hcl ho hD)]
    refine hs.recount fun j hj hX => ?_
    rw [hm.ids j fun k h1 h2 => hX k (hin k h1 h2)]
    refine hinv.1.fresh j hj fun k hk => hX k ?_
    obtain ⟨i', h1, h2, h3⟩ := hk
    exact ⟨i', h1, by simp [setD, h2], h3⟩
  · rw [hm.ids j fun k h1 h2 => ?_, hinv.2.ids j hj]
    rcases hd with hd | ⟨hd, hd'⟩
    · omega
    · have := r.mono' (k := 0) (m := i) (by omega) (by omega)
      have := r.mono' (k := i + 1) (m := ops.size) (by omega) (by omega)
      exact hj k (by omega) (by omega)

theorem one_ok (hclok : ClOK E.P B w0 cl) (hdst : ∀ o ∈ ops.toList, ∀ x, o.dst = some x → x < nt) (r : Run E cl p ops ps S U H) (hcl : Closed ops D) (ho : ops[i]? = some o) (hD : D i = false) (hr : ∀ e ∈ o.after, Region.binds .any e = true → D e.on = true)
    (hinv : Inv B w0 p nt ops S U H G0 O0 w1 D G O a w) {Q : Exit → Act → World → Prop} {K : Act → World → Prop} (hK : ∀ G1 O1 a1 w2, Inv B w0 p nt ops S U H G0 O0 w1 (setD D i) G1 O1 a1 w2 → K a1 w2) : wpOp E.P ops Q i K a w := by
  have hi : i < ops.size := (Array.getElem?_eq_some_iff.1 ho).1
  have hmem : o ∈ ops.toList := by simpa using Array.mem_of_getElem? ho
  have hd := hdst o hmem
  have hag := meet_sees r hcl ho hD hr
  have hag1 : agree (looks o) (S i).1 (foldU U D ops.size (S 0).1) := fun t ht => hag t (List.mem_append_left _ ht)
  have hag2 : agree (gslot ops.toList o) (S i).1 (foldU U D ops.size (S 0).1) := fun t ht => hag t (List.mem_append_right _ ht)
  have hdid := r.did i o ho
  have hguard := guardA_agree hag2
  -- counts that nobody has used
  have free0 : ¬ XD S ops.size D (S ops.size).2.1 := by
    rintro ⟨k, h1, h2, h3, h4⟩
    have := r.mono' (k := k + 1) (m := ops.size) (by omega) (by omega)
    omega
  have free1 : (S (i + 1)).2.1 = (S i).2.1 + 1 → ¬ XD S ops.size D (S i).2.1 := by
    rintro hc ⟨k, h1, h2, h3, h4⟩
    rcases Nat.lt_trichotomy k i with h | h | h
    · have := r.mono' (k := k + 1) (m := i) (by omega) (by omega); omega
    · subst h; rw [hD] at h2; cases h2
    · have := r.mono' (k := i + 1) (m := k) (by omega) (by omega); omega
  have freshAt : ∀ d, (S 0).2.1 ≤ d → FreshX (XD S ops.size D) G p d := fun d hd => hinv.1.fresh.mono hd
  have lo : (S 0).2.1 ≤ (S i).2.1 := r.mono' (by omega) (by omega)
  have hi0 : (S 0).2.1 ≤ (S ops.size).2.1 := r.mono' (by omega) (by omega)
  unfold wpOp
  simp only [ho]
  rcases hdid.what with ⟨hg, hus, hc, hH⟩ | ⟨hg, hcase⟩
  · rw [hguard] at hg
    have hw : Region.wanted o (yielded ops a.tmps) = false := guard_ok hinv.1.fr.V hg
    rw [hw]
    simp only [Bool.false_eq_true, if_false]
    obtain ⟨G1, O1, hs, hm⟩ := hinv.1.value hd (v := .tuple []) (z := undef) (.tuple .nil) (by intro xs s e; cases e)
    exact hK G1 O1 _ _ (inv_next r hcl ho hD hinv hs hm (.inl rfl) (by rw [hus]; exact put_eqU ..) (foldH_keep hH _).symm)
  · rw [hguard] at hg
    rw [if_pos (guard_ok hinv.1.fr.V hg)]
    left
    rcases hcase with ⟨hH, hl, hst⟩ | ⟨hq, hH, hc, hst⟩ | ⟨hq, ha, hc, init, hH, hfree, hst⟩
    · -- loud
      have hst := hst _ hag1
      have hpast : ∀ k, k < i → H k ≠ .keep → D k = true := by
        intro k hk hne
        have hok := r.at (k := k) (by omega)
        rcases r.chk.pair k i _ _ hk hok ho with hb | ⟨h1, h2, _⟩
        · exact hcl.ready ho hr hb
        · cases hHk : H k with
          | keep => exact absurd hHk hne
          | turn => exact absurd ⟨(r.turn hok hHk).2, hl⟩ h1
          | make t init => exact absurd ⟨(r.make hok hHk).1, hl⟩ h2
      have hno : ∀ k, i < k → k < ops.size → D k = true → H k ≠ .turn := by
        intro k h1 h2 hDk hHk
        have hok := r.at h2
        rcases r.chk.pair i k _ _ h1 ho hok with hb | ⟨h3, _⟩
        · have := hcl.bef hb hDk; rw [hD] at this; cases this
        · exact h3 ⟨hl, (r.turn hok hHk).2⟩
      obtain ⟨e1, e2⟩ := foldH_turn r hi hD hpast hno hH
      have hfl := floats_spec (D := D) (i := i) r hno ops.size (Nat.le_refl _)
      have hsr := hinv.1
      rw [e1] at hsr
      have hdis : ∀ id, floats p S H D i ops.size id ≠ none → (S i).2.2 id = none := by
        intro id hid
        obtain ⟨cs, hcs⟩ := Option.ne_none_iff_exists'.1 hid
        obtain ⟨⟨k, h1, h2, t, rfl⟩, _⟩ := hfl id cs hcs
        exact r.none (by omega) _ _ (r.mono' (by omega) (by omega))
      have go : ∀ d d', (S 0).2.1 ≤ d → ¬ XD S ops.size D d → (d' = d ∨ (d = (S i).2.1 ∧ d' = (S (i + 1)).2.1)) →
          stepA E cl p ops.toList o (foldU U D ops.size (S 0).1) d (S i).2.2 = some (applyU (U i) (foldU U D ops.size (S 0).1), d', (S (i + 1)).2.2) → Oper.wp E.P o a w K Q := by
        intro d d' h1 h2 h3 h4
        have hs1 := (hsr.recount (freshAt d h1))
        refine Oper.wp_mono ?_ (stepA_ok hclok (hs1.hide hdis) h2 hd h4)
        intro a' w' hl'
        obtain ⟨G1, O1, hs', hm⟩ := hs1.unhide (fun id cs h => (hfl id cs h).2) hl'
        exact hK G1 O1 a' w' (inv_next r hcl ho hD hinv hs' hm h3 rfl e2.symm)
      rcases stepA_cnt1 hdid with hc | hc
      · rw [hc] at hst
        exact go _ _ hi0 free0 (.inl rfl) (stepA_cnt hst _)
      · exact go _ _ lo (free1 hc) (.inr ⟨rfl, rfl⟩) hst
    · -- quiet
      have hsome : ∀ q, loadAt E.P (S i).1 o = some q → (S i).2.2 q.1 ≠ none := fun q hq' => load_some (hst _ _ (fun _ _ => rfl) (fun _ _ => rfl)) hq hq'
      have hview : ∀ q, loadAt E.P (S i).1 o = some q → view q (foldH p S H D ops.size) = view q (S i).2.2 := by
        intro q hq'
        have hload : isLoad o = true := by
          unfold loadAt at hq'
          unfold isLoad
          split at hq'
          · rfl
          · cases hq'
        refine view_ok r hcl ho hD hr hload hq (by rw [hguard]; exact hg) hq' (hsome q hq') ?_ hH
        intro k t init h1 hDk hHk e
        have hok := r.at h1
        have hck := (r.make hok hHk).2.1
        have hname := load_named (P := E.P) hinv.1.fr (show loadAt E.P (foldU U D ops.size (S 0).1) o = some q by rw [← hq']; exact (loadAt_agree hag1).symm)
        apply hname
        rw [e]
        refine hinv.1.fresh _ (underB_of_suffix (r.mono' (k := 0) (m := k) (by omega) (by omega)) (List.suffix_cons _ _)) ?_
        rintro x ⟨j, j1, j2, j3, j4⟩ hsuf
        have := cons_suffix_inj hsuf (List.suffix_cons _ _)
        subst this
        rcases Nat.lt_trichotomy j k with h | h | h
        · have := r.mono' (k := j + 1) (m := k) (by omega) (by omega); omega
        · subst h; rw [hDk] at j2; cases j2
        · have := r.mono' (k := k + 1) (m := j) (by omega) (by omega); omega
      have h4 := stepA_cnt (hst _ (foldH p S H D ops.size) hag1 hview) (S ops.size).2.1
      refine Oper.wp_mono ?_ (stepA_ok hclok (hinv.1.recount (freshAt _ hi0)) free0 hd h4)
      rintro a' w' ⟨G1, O1, hs', hm⟩
      exact hK G1 O1 a' w' (inv_next r hcl ho hD hinv hs' hm (.inl rfl) rfl (foldH_keep hH _).symm)
    · -- a new object
      have hno : ∀ k, i < k → k < ops.size → D k = true → H k ≠ .turn := by
        intro k h1 h2 hDk hHk
        have hok := r.at h2
        rcases r.chk.pair i k _ _ h1 ho hok with hb | ⟨_, h3, _⟩
        · have := hcl.bef hb hDk; rw [hD] at this; cases this
        · exact h3 ⟨ha, (r.turn hok hHk).2⟩
      have h4 := hst _ (foldH p S H D ops.size) hag1
      refine Oper.wp_mono ?_ (stepA_ok hclok (hinv.1.recount (freshAt _ lo)) (free1 hc) hd h4)
      rintro a' w' ⟨G1, O1, hs', hm⟩
      exact hK G1 O1 a' w' (inv_next r hcl ho hD hinv hs' hm (.inr ⟨rfl, by rw [hc]⟩) rfl (foldH_make r hi hH hD hno).symm)

def cnt (D : Nat → Bool) : Nat → Nat
  | 0 => 0
  | k + 1 => cnt D k + if D k then 0 else 1
theorem cnt_set (hD : D i = false) : ∀ {n : Nat}, i < n → cnt (setD D i) n + 1 = cnt D n
  | 0, h => by omega
  | n + 1, h => by
    simp only [cnt]
    by_cases e : n = i
    · subst e
      have : ∀ m ≤ n, cnt (setD D n) m = cnt D m := by
        intro m
        induction m with
        | zero => intro _; rfl
        | succ m ih => intro hm; simp only [cnt, ih (by omega), setD_ne (show m ≠ n by omega)]
      rw [this n (Nat.le_refl _), setD_self, hD]
      simp
    · have := cnt_set hD (n := n) (by omega)
      rw [setD_ne e]; omega
theorem cnt_zero : ∀ {n : Nat}, cnt D n = 0 → ∀ k < n, D k = true
  | n + 1, h, k, hk => by
    simp only [cnt] at h
    by_cases e : k = n
    · subst e
      cases hDk : D k with
      | true => rfl
      | false => rw [hDk] at h; simp at h
    · exact cnt_zero (n := n) (by omega) k (by omega)

theorem any_ok (hclok : ClOK E.P B w0 cl) (hdst : ∀ o ∈ ops.toList, ∀ x, o.dst = some x → x < nt) (r : Run E cl p ops ps S U H) {Q : Exit → Act → World → Prop}
    (hQ : ∀ D, (∀ k < ops.size, D k = true) → ∀ G O a w, Inv B w0 p nt ops S U H G0 O0 w1 D G O a w → Q .normal a w) :
    ∀ (fuel : Nat) (listed : Array Bool) (G : Ghost) (O : Own) (a : Act) (w : World), listed.size = ops.size → Closed ops (fun k => listed.getD k false) → cnt (fun k => listed.getD k false) ops.size ≤ fuel →
      Inv B w0 p nt ops S U H G0 O0 w1 (fun k => listed.getD k false) G O a w → wpAny E.P .any ops Q fuel listed a w := by
  have allDone : ∀ (listed : Array Bool), listed.size = ops.size → Region.ready .any ops listed = [] → ∀ k < ops.size, listed.getD k false = true := by
    intro listed hsz hnil k
    induction k using Nat.strongRecOn with
    | ind k ih =>
      intro hk
      cases h : listed.getD k false with
      | true => rfl
      | false =>
        have : k ∈ Region.ready .any ops listed := by
          rw [mem_ready]
          refine ⟨?_, _, r.at hk, fun e he hb => ?_⟩
          · rw [Array.getD_eq_getD_getElem?, Array.getElem?_eq_getElem (by omega)] at h ⊢
            exact h
          · have := r.chk.early k _ (r.at hk) e he hb
            exact ih e.on this (by omega)
        rw [hnil] at this; cases this
  intro fuel
  induction fuel with
  | zero =>
    intro listed G O a w hsz hcl hc hinv
    have hall := cnt_zero (D := fun k => listed.getD k false) (n := ops.size) (by omega)
    refine ⟨?_, hQ _ hall G O a w hinv⟩
    cases hr : Region.ready .any ops listed with
    | nil => rfl
    | cons j js =>
      have hj : j ∈ Region.ready .any ops listed := by rw [hr]; simp
      rw [mem_ready] at hj
      obtain ⟨h1, o, ho, _⟩ := hj
      have hlt : j < ops.size := (Array.getElem?_eq_some_iff.1 ho).1
      have := hall j hlt
      rw [Array.getD_eq_getD_getElem?, Array.getElem?_eq_getElem (by omega)] at h1
      simp only [Array.getD_eq_getD_getElem?, Array.getElem?_eq_getElem (show j < listed.size by omega)] at this
      simp at h1 this
      rw [h1] at this; cases this
  | succ fuel ih =>
    intro listed G O a w hsz hcl hc hinv
    refine ⟨fun hnil => hQ _ (allDone listed hsz hnil) G O a w hinv, fun i hi => ?_⟩
    rw [mem_ready] at hi
    obtain ⟨h1, o, ho, hr⟩ := hi
    have hlt : i < ops.size := (Array.getElem?_eq_some_iff.1 ho).1
    have hD : listed.getD i false = false := by
      rw [Array.getD_eq_getD_getElem?, Array.getElem?_eq_getElem (by omega)] at h1 ⊢
      exact h1
    have hset : (fun k => (listed.setIfInBounds i true).getD k false) = setD (fun k => listed.getD k false) i := by
      funext k
      by_cases e : k = i
      · subst e
        rw [setD_self, Array.getD_eq_getD_getElem?]
        simp [hsz, hlt]
      · rw [setD_ne e, Go.getD_set_ne false (Ne.symm e)]
    refine one_ok hclok hdst r hcl ho hD hr hinv fun G1 O1 a1 w2 hinv' => ih _ G1 O1 a1 w2 (by simp [hsz]) ?_ ?_ ?_
    · rw [hset]
      intro j oj hj hDj e he hb
      by_cases e' : j = i
      · subst e'
        rw [ho] at hj; cases hj
        have := hr e he hb
        simp only [setD, this, Bool.or_true]
      · rw [setD_ne e'] at hDj
        have := hcl j oj hj hDj e he hb
        simp only [setD, this, Bool.or_true]
    · rw [hset]
      have := cnt_set (D := fun k => listed.getD k false) hD hlt
      omega
    · rw [hset]; exact hinv'

theorem Inv.start (r : Run E cl p ops ps S U H) (hs : SR X0 B w0 p nt G O (S 0).1 (S 0).2.1 (S 0).2.2 a w) : Inv B w0 p nt ops S U H G O w (fun _ => false) G O a w := by
  have e1 : ∀ m, foldU U (fun _ => false) m (S 0).1 = (S 0).1 := by
    intro m
    induction m with
    | zero => rfl
    | succ m ih => simp only [foldU, ih]; rfl
  have e2 : ∀ m, foldH p S H (fun _ => false) m = (S 0).2.2 := by
    intro m
    induction m with
    | zero => rfl
    | succ m ih => simp only [foldH, ih]; rfl
  refine ⟨?_, ⟨G.le_refl, .refl _ _ _, r.mono' (by omega) (by omega), fun _ _ => rfl⟩⟩
  rw [e1, e2]
  exact hs.recount fun j hj _ => hs.fresh j hj (fun _ h => h.elim)

theorem Inv.finish (r : Run E cl p ops ps S U H) (hall : ∀ k < ops.size, D k = true) (h : Inv B w0 p nt ops S U H G0 O0 w1 D G O a w) :
    Later X0 B w0 p nt (S 0).2.1 G0 O0 w1 (S ops.size).1 (S ops.size).2.1 (S ops.size).2.2 a w := by
  have e1 : ∀ m ≤ ops.size, foldU U D m (S 0).1 = (S m).1 := by
    intro m
    induction m with
    | zero => intro _; rfl
    | succ m ih => intro hm; simp only [foldU, ih (by omega), hall m (by omega), if_true]; exact (r.did m _ (r.at (by omega))).fr.symm
  have e2 : ∀ m ≤ ops.size, foldH p S H D m = (S m).2.2 := by
    intro m
    induction m with
    | zero => intro _; rfl
    | succ m ih => intro hm; simp only [foldH, ih (by omega), hall m (by omega), if_true]; exact (r.heap (by omega)).symm
  obtain ⟨hs, hm⟩ := h
  rw [e1 _ (Nat.le_refl _), e2 _ (Nat.le_refl _)] at hs
  refine ⟨G, O, hs.recount fun j hj _ => ?_, hm⟩
  obtain ⟨k, hk, hsuf⟩ := underB_suffix hj
  refine hs.fresh j (underB_mono (r.mono' (by omega) (by omega)) hj) ?_
  rintro x ⟨i, h1, h2, h3, h4⟩ hsx
  have := cons_suffix_inj hsx hsuf
  have := r.mono' (k := i + 1) (m := ops.size) (by omega) (by omega)
  omega

theorem SR.drew {X : Nat → Prop} {fr : Fr} {c : Nat} {h : Heap} (hs : SR X B w0 p nt G O fr c h a w) : SR X B w0 p nt G O fr c h a { w with drawn := w.drawn + 1 } := by
  have hx : Ext w { w with drawn := w.drawn + 1 } := ⟨rfl, rfl, rfl, Nat.le_refl _, fun _ _ => rfl⟩
  exact ⟨hs.fr.ext hx G.le_refl (fun _ _ _ => rfl) hs.r.lt, hs.r.ext hx G.le_refl (fun _ _ _ => rfl) (fun b o v h => .inl h) hs.r.lt, hs.fresh, hs.defers⟩

/-- A region in any order that passes the check may be looked at in the text's. -/
theorem drawn_ok (hf : E.P.follows .mixedOrders = true) (hchk : drawChk E ops ps = true) : DrawnOK E B w0 ops ps := by
  intro cl p nt id G O fr c h a w fr' c' h' Q hclok hdom hdst hs hx hQ
  obtain ⟨S, e0, e1, tr⟩ := draw_tr hx
  have hS0 : (S 0).1 = fr ∧ (S 0).2.1 = c ∧ (S 0).2.2 = h := by rw [e0]; exact ⟨rfl, rfl, rfl⟩
  have hSn : (S ops.size).1 = fr' ∧ (S ops.size).2.1 = c' ∧ (S ops.size).2.2 = h' := by
    rw [← Array.length_toList, e1]; exact ⟨rfl, rfl, rfl⟩
  have hex : ∀ k, ∃ uh : List (Nat × A) × He, ∀ o, ops[k]? = some o → Did E cl p ops.toList o (S k) (S (k + 1)) uh.1 uh.2 := by
    intro k
    cases ho : ops[k]? with
    | none => exact ⟨([], .keep), fun o h => by cases h⟩
    | some o =>
      obtain ⟨us, he, hd⟩ := did_of_one hdom (tr.step k o (by rw [Array.getElem?_toList]; exact ho))
      exact ⟨(us, he), fun o' h => by cases h; exact hd⟩
  let UH := fun k => Classical.choose (hex k)
  have hUH : ∀ k o, ops[k]? = some o → Did E cl p ops.toList o (S k) (S (k + 1)) (UH k).1 (UH k).2 := fun k => Classical.choose_spec (hex k)
  have r : Run E cl p ops ps S (fun k => (UH k).1) (fun k => (UH k).2) := by
    refine ⟨hdom, drawChk_ok hchk, hUH, tr, fun t x hx => ?_⟩
    rw [hS0.2.1] at hx
    rw [hS0.2.2]
    cases h1 : h (t :: x :: p) with
    | none => rfl
    | some cs =>
      obtain ⟨b, o, hm, _⟩ := hs.r.obj _ _ h1
      have := hs.fresh (t :: x :: p) (underB_of_suffix hx (List.suffix_cons _ _)) (fun _ h => h.elim)
      rw [hm] at this; cases this
  refine wp_region_any hf ?_
  have hs' : SR X0 B w0 p nt G O (S 0).1 (S 0).2.1 (S 0).2.2 a { w with drawn := w.drawn + 1 } := by
    rw [hS0.1, hS0.2.1, hS0.2.2]; exact hs.drew
  have hget : (fun k => (Array.replicate ops.size false).getD k false) = fun _ => false := by
    funext k
    rw [Array.getD_eq_getD_getElem?, Array.getElem?_replicate]
    split <;> rfl
  refine any_ok (G0 := G) (O0 := O) (w1 := { w with drawn := w.drawn + 1 }) hclok hdst r ?_ ops.size _ G O a _ (by simp) ?_ ?_ ?_
  · intro D hall G1 O1 a1 w2 hinv
    refine hQ a1 w2 ?_
    have := hinv.finish r hall
    rw [hS0.2.1, hSn.1, hSn.2.1, hSn.2.2] at this
    obtain ⟨G2, O2, h1, h2⟩ := this
    exact ⟨G2, O2, h1, ⟨h2.le, ⟨fun b o l hl hp => h2.keeps.lab b o l hl hp, h2.keeps.size, fun b x hb => h2.keeps.shape b x hb, fun b x hb hx y => h2.keeps.frz b x hb hx y⟩, h2.cnt, h2.ids⟩⟩
  · rw [hget]; intro j o _ h; cases h
  · rw [hget]
    have : ∀ m, cnt (fun _ => false) m ≤ m := by
      intro m
      induction m with
      | zero => exact Nat.le_refl _
      | succ m ih => simp only [cnt]; simp; omega
    exact this _
  · rw [hget]; exact Inv.start r hs'
end
end Go.Ai

/- The library's functions that are known by a law of their own: what they answer. -/
namespace Go.Ai

/-- a builder's note of its own place: not yet, or this -/
def ownPlace (id : Id) : A → Bool
  | .nilp => true
  | .ptr i o => decide (i = id ∧ o = 0)
  | _ => false
/-- (*strings.Builder).copyCheck; 'tys': the types of blocks that begin with a builder -/
def builderCheck (tys : List Nat) (_ : Id) (args : List A) (h : Heap) : Option (A × Heap) := match args with
  | [.ptr id 0] => (h id).bind fun cs => match cs, id with
    | [a, b], t :: _ => if (tys.contains t && ownPlace id a) = true then some (.tuple [], upd h id [.ptr id 0, b]) else none
    | _, _ => none
  | _ => none
/-- (*strings.Builder).String -/
def builderString (u8 : Nat) (_ : Id) (args : List A) (h : Heap) : Option (A × Heap) := match args with
  | [.ptr id 0] => (h id).bind fun cs => match cs with
    | [_, .nils] => some (.str [], h)
    | [_, .slice xs (some q)] => if q = (u8, 1) then (unbytes xs).bind fun b => if b.length ≤ maxStr then some (.str b, h) else none else none
    | _ => none
  | _ => none

def strsOf : List (List A) → Option (List (List UInt8))
  | [] => some []
  | [.str s] :: r => (strsOf r).map (s :: ·)
  | _ => none
/-- strings.Join -/
def stringsJoin (_ : Id) (args : List A) (h : Heap) : Option (A × Heap) := match args with
  | [.slice xs _, .str sep] => (strsOf xs).bind fun ss => if ss.length ≤ 140737488355328 ∧ (Lib.join ss sep).length ≤ 140737488355328 then some (.str (Lib.join ss sep), h) else none
  | _ => none

/-- the chain of errors, as errors.As goes along it for a target of type T; 'tc': the type of codes, whole numbers; 'tw', 'tf': the types whose values hold another error in their second cell -/
def chainA (tc tw tf T : Nat) : Nat → A → Option (Option A)
  | 0, _ => none
  | n + 1, e => match e with
    | .nili => some none
    | .iface t a =>
      if t = T then (if T = tc then (match a with
        | .int .i64 k => some (some (.int .i64 k))
        | _ => none) else (match a with
        | .ref cs o => some (some (.ref cs o))
        | _ => none))
      else if t = tc then some none
      else if t = tw ∨ t = tf then match a with
        | .ref (_ :: e :: _) 0 => chainA tc tw tf T n e
        | _ => none
      else none
    | _ => none
def A.depth : A → Nat
  | .iface _ (.ref (_ :: e :: _) _) => 1 + A.depth e
  | _ => 1

/-- errors.As, the target a pointer to a variable of type T; 'targets': the types of such pointers, and T -/
def errorsAs (tc tw tf : Nat) (targets : List (Nat × Nat)) (_ : Id) (args : List A) (h : Heap) : Option (A × Heap) := match args with
  | [e, .iface tp (.ptr id off)] => match targets.find? (·.1 == tp) with
    | some (_, T) => (h id).bind fun cs => match chainA tc tw tf T (A.depth e + 1) e with
      | some (some a) => if off < cs.length then some (.bool true, upd h id (cs.set off a)) else none
      | some none => if off < cs.length then some (.bool false, h) else none
      | none => none
    | none => none
  | _ => none
end Go.Ai

/- The library's functions make no objects. -/
namespace Go.Ai

theorem dom_upd {h : Heap} {id : Id} {cs cs' : List A} {q i : Id} (he : h id = some cs) (hi : upd h id cs' i ≠ none) : h i ≠ none ∨ underB q 0 i = true := by
  left
  by_cases e : i = id
  · rw [e, he]; simp
  · simpa [upd, e] using hi
theorem builderCheck_dom (tys : List Nat) : PrimDom (builderCheck tys) := by
  intro q args h v h' hx i hi
  unfold builderCheck at hx
  split at hx
  · simp only [Option.bind_eq_some_iff] at hx
    obtain ⟨cs, hcs, hx⟩ := hx
    split at hx
    · split at hx
      · simp only [Option.some.injEq, Prod.mk.injEq] at hx
        obtain ⟨rfl, rfl⟩ := hx
        exact dom_upd hcs hi
      · cases hx
    · cases hx
  · cases hx
theorem builderString_dom (u8 : Nat) : PrimDom (builderString u8) := by
  intro q args h v h' hx i hi
  unfold builderString at hx
  split at hx
  · simp only [Option.bind_eq_some_iff] at hx
    obtain ⟨cs, hcs, hx⟩ := hx
    split at hx
    · simp only [Option.some.injEq, Prod.mk.injEq] at hx
      obtain ⟨rfl, rfl⟩ := hx
      exact .inl hi
    · split at hx
      · simp only [Option.bind_eq_some_iff] at hx
        obtain ⟨b, hb, hx⟩ := hx
        split at hx
        · simp only [Option.some.injEq, Prod.mk.injEq] at hx
          obtain ⟨rfl, rfl⟩ := hx
          exact .inl hi
        · cases hx
      · cases hx
    · cases hx
  · cases hx
theorem stringsJoin_dom : PrimDom stringsJoin := by
  intro q args h v h' hx i hi
  unfold stringsJoin at hx
  split at hx
  · simp only [Option.bind_eq_some_iff] at hx
    obtain ⟨ss, _, hx⟩ := hx
    split at hx
    · simp only [Option.some.injEq, Prod.mk.injEq] at hx
      obtain ⟨rfl, rfl⟩ := hx
      exact .inl hi
    · cases hx
  · cases hx
theorem errorsAs_dom (tc tw tf : Nat) (ts : List (Nat × Nat)) : PrimDom (errorsAs tc tw tf ts) := by
  intro q args h v h' hx i hi
  unfold errorsAs at hx
  split at hx
  · split at hx
    · simp only [Option.bind_eq_some_iff] at hx
      obtain ⟨cs, hcs, hx⟩ := hx
      split at hx
      · split at hx
        · simp only [Option.some.injEq, Prod.mk.injEq] at hx
          obtain ⟨rfl, rfl⟩ := hx
          exact dom_upd hcs hi
        · cases hx
      · split at hx
        · simp only [Option.some.injEq, Prod.mk.injEq] at hx
          obtain ⟨rfl, rfl⟩ := hx
          exact .inl hi
        · cases hx
      · cases hx
    · cases hx
  · cases hx
end Go.Ai

/- The evaluator told again, so that it is easy to go through step by step. -/
namespace Go.Ai

/-- slots that are first operands of an append -/
def appT1 (o : Oper) : List Nat := match o.op with
  | .call { callee := .builtin .append, args, .. } => match args.toList with | .tmp t :: _ => [t] | _ => []
  | .assign x => match x, o.dst with | .tmp t, some r => if t = 21 ∧ r = 4 then [t] else [] | _, _ => []
  | _ => []
def appT : List Oper → List Nat
  | [] => []
  | o :: os => appT1 o ++ appT os
def feedB (tg : List Nat) (d : Option Nat) : Bool := match d with | some d => tg.any (· == d) | none => false
def dsts (all : List Oper) : List (Option Nat) := all.map (·.dst)

theorem feeds_eq (all : List Oper) (d : Option Nat) : feeds all d = feedB (appT all) d := by
  cases d with
  | none => rfl
  | some d =>
    simp only [feeds, feedB]
    induction all with
    | nil => rfl
    | cons o os ih =>
      simp only [List.any_cons, ih, appT, List.any_append]
      congr 1
      obtain ⟨dst, op, ty, pos, after, g⟩ := o
      cases op with
      | call c =>
        obtain ⟨callee, args, ts⟩ := c
        cases callee with
        | builtin b =>
          cases b with
          | append =>
            simp only [appT1]
            cases args.toList with
            | nil => rfl
            | cons x xs => cases x <;> simp
          | _ => rfl
        | _ => rfl
      | assign x =>
        simp only [appT1]
        cases x with
        | tmp t =>
          cases dst with
          | none => rfl
          | some r =>
            by_cases h : t = 21 ∧ r = 4
            · obtain ⟨rfl, rfl⟩ := h; simp
            · have h2 : (t == 21 && r == 4) = false := by
                rw [Bool.eq_false_iff]; intro h3; simp only [Bool.and_eq_true, beq_iff_eq] at h3; exact h h3
              simp only [if_neg h, h2, Bool.and_false, List.any_nil]
        | _ => rfl
      | _ => rfl

/-- the same, in an environment -/
def tgK (k : Bool) (tg : List Nat) : List Nat := match k with | true => tg | false => []
@[simp] theorem tgK_true (tg : List Nat) : tgK true tg = tg := rfl
@[simp] theorem tgK_false (tg : List Nat) : tgK false tg = [] := rfl
theorem feeds_eq2 (k : Bool) (all : List Oper) (d : Option Nat) : (k && feeds all d) = feedB (tgK k (appT all)) d := by
  cases k with
  | true => exact feeds_eq all d
  | false => cases d <;> rfl
section
variable (E : Env) (cl : Id → Nat → List A → Heap → Option (A × Heap)) (p : Id) (tg : List Nat)

/-- one operation that is carried out -/
def opB (d : Option Nat) (op : Op) (ty : Nat) (fr : Fr) (c : Nat) (h : Heap) : Option (Fr × Nat × Heap) := match op with
  | .move x => if feedB tg d then (takeA fr x).map fun r => (r.2.put d r.1, c, h) else (evK E.feed fr x).map fun v => (fr.put d v, c, h)
  | .load t x => (ev fr x).bind fun a =>
    if feedB tg d then match a with
      | .ptr id off => (h id).bind fun cs => match shapeT E.P t with
        | some (_, false) => (cs[off]?).map fun v => (fr.put d v, c, upd h id (cs.set off v.weak1))
        | _ => none
      | _ => none
    else (loadA E.P t a h).map fun v => (fr.put d v.noOwn, c, h)
  | op => stepA E cl p [] { dst := d, op, type := ty, pos := "", guard := none, after := #[] } fr c h

theorem stepA_pos (all : List Oper) (d : Option Nat) (op : Op) (ty : Nat) (pos : String) (g : Option (Nat × Bool)) (after : Array Edge) (fr : Fr) (c : Nat) (h : Heap) :
    stepA E cl p all { dst := d, op, type := ty, pos, guard := g, after } fr c h = opB E cl p (tgK E.feed (appT all)) d op ty fr c h := by
  cases op with
  | call c =>
    obtain ⟨callee, args, ts⟩ := c
    cases callee with
    | builtin b => cases b <;> rfl
    | _ => rfl
  | move => simp only [stepA, opB, feeds_eq2]
  | load => simp only [stepA, opB, feeds_eq2]; rfl
  | _ => rfl

def guardB (ds : List (Option Nat)) (g : Option (Nat × Bool)) (fr : Fr) : Option Bool := match g with
  | none => some true
  | some (j, want) => (((ds[j]?).bind id).map fr).bind (wantA want)

def runB (ds : List (Option Nat)) : List Oper → Fr → Nat → Heap → Option (Fr × Nat × Heap)
  | [], fr, c, h => some (fr, c, h)
  | o :: os, fr, c, h => match guardB ds o.guard fr with
    | some true => (opB E cl p tg o.dst o.op o.type fr c h).bind fun r => runB ds os r.1 r.2.1 r.2.2
    | some false => runB ds os (fr.put o.dst (.tuple [])) c h
    | none => none
end
theorem guardA_eq (all : List Oper) (o : Oper) (fr : Fr) : guardA all o fr = guardB (dsts all) o.guard fr := by
  obtain ⟨dst, op, ty, pos, after, g⟩ := o
  cases g with
  | none => rfl
  | some jw =>
    obtain ⟨j, want⟩ := jw
    simp only [guardA, guardB, dsts, List.getElem?_map]
    cases all[j]? <;> rfl
theorem runOps_eq (E : Env) (cl : Id → Nat → List A → Heap → Option (A × Heap)) (p : Id) (all : List Oper) : ∀ (os : List Oper) (fr : Fr) (c : Nat) (h : Heap), runOps E cl p all os fr c h = runB E cl p (tgK E.feed (appT all)) (dsts all) os fr c h
  | [], _, _, _ => rfl
  | o :: os, fr, c, h => by
    have ih := runOps_eq E cl p all os
    obtain ⟨d, op, ty, pos, after, g⟩ := o
    simp only [runOps, runB, guardA_eq, stepA_pos, ih]
    rfl
end Go.Ai

/- The evaluator without a count of steps. -/
namespace Go.Ai

abbrev Cl := Id → Nat → List A → Heap → Option (A × Heap)
def Cl.le (cl cl' : Cl) : Prop := ∀ q f a h r, cl q f a h = some r → cl' q f a h = some r

section
variable {E : Env} {cl cl' : Cl} {f : Nat} {p : Id}

theorem stepA_mono {all : List Oper} {o : Oper} {fr : Fr} {c : Nat} {h : Heap} {r : Fr × Nat × Heap} (hle : cl.le cl') (hx : stepA E cl p all o fr c h = some r) : stepA E cl' p all o fr c h = some r := by
  obtain ⟨d, op, ty, pos, after, g⟩ := o
  cases op with
  | call k =>
    obtain ⟨callee, args, ts⟩ := k
    cases callee with
    | builtin b => cases b <;> exact hx
    | value g =>
      simp only [stepA, Option.bind_eq_some_iff] at hx ⊢
      obtain ⟨gv, hg, vs, hvs, hx⟩ := hx
      refine ⟨gv, hg, vs, hvs, ?_⟩
      cases gv with
      | fn f' caps =>
        simp only [Option.map_eq_some_iff, Prod.exists] at hx ⊢
        obtain ⟨v, h2, hc, e⟩ := hx
        exact ⟨v, h2, hle _ _ _ _ _ hc, e⟩
      | _ => cases hx
    | _ => exact hx
  | _ => exact hx

theorem runOps_mono {all : List Oper} (hle : cl.le cl') : ∀ (os : List Oper) {fr : Fr} {c : Nat} {h : Heap} {r : Fr × Nat × Heap}, runOps E cl p all os fr c h = some r → runOps E cl' p all os fr c h = some r
  | [], _, _, _, _, hx => hx
  | o :: os, fr, c, h, r, hx => by
    simp only [runOps] at hx ⊢
    split at hx
    · simp only [Option.bind_eq_some_iff] at hx ⊢
      obtain ⟨s, h1, h2⟩ := hx
      exact ⟨s, stepA_mono hle h1, runOps_mono hle os h2⟩
    · exact runOps_mono hle os hx
    · cases hx

theorem runDraw_mono {all : List Oper} {ps : List (Nat × Nat)} (hle : cl.le cl') : ∀ (os : List Oper) {i : Nat} {ls : List (Nat × Id × Nat × Nat)} {hs : List (Nat × Heap × Heap)} {fr : Fr} {c : Nat} {h : Heap} {r : Fr × Nat × Heap},
    runDraw E cl p all ps os i ls hs fr c h = some r → runDraw E cl' p all ps os i ls hs fr c h = some r
  | [], _, _, _, _, _, _, _, hx => hx
  | o :: os, i, ls, hs, fr, c, h, r, hx => by
    simp only [runDraw] at hx ⊢
    split at hx
    · simp only [Option.bind_eq_some_iff] at hx ⊢
      obtain ⟨s, h1, h2⟩ := hx
      exact ⟨s, stepA_mono hle h1, runDraw_mono hle os h2⟩
    · exact runDraw_mono hle os hx
    · cases hx

theorem iter_mono {L : List Nat} {c0 : Nat} {st st' : Fr → Nat → Heap → Option (Ex × Fr × Nat × Heap)} (hst : ∀ fr c h r, st fr c h = some r → st' fr c h = some r) :
    ∀ (n n' : Nat) {fr : Fr} {c : Nat} {h : Heap} {r : Ex × Fr × Nat × Heap}, n ≤ n' → iter p L st c0 n fr c h = some r → iter p L st' c0 n' fr c h = some r
  | 0, _, _, _, _, _, _, hx => by simp [iter] at hx
  | n + 1, 0, _, _, _, _, hn, _ => by omega
  | n + 1, n' + 1, fr, c, h, r, hn, hx => by
    simp only [iter, Option.bind_eq_some_iff] at hx ⊢
    obtain ⟨s, h1, h2⟩ := hx
    refine ⟨s, hst _ _ _ _ h1, ?_⟩
    obtain ⟨e, fr1, c1, h1⟩ := s
    cases e with
    | normal => exact iter_mono hst n n' (by omega) h2
    | _ => exact h2

theorem exec_mono (hle : cl.le cl') {m m' : Nat} (hm : m ≤ m') : ∀ (code : Code) {fr : Fr} {c : Nat} {h : Heap} {r : Ex × Fr × Nat × Heap}, exec E cl f p m code fr c h = some r → exec E cl' f p m' code fr c h = some r := by
  intro code
  induction code with
  | region id ops draw =>
    intro fr c h r hx
    simp only [exec, Option.map_eq_some_iff] at hx ⊢
    obtain ⟨s, h1, h2⟩ := hx
    refine ⟨s, ?_, h2⟩
    cases draw with
    | false => exact runOps_mono hle _ h1
    | true =>
      simp only at h1 ⊢
      split at h1
      · exact runOps_mono hle _ h1
      · exact runDraw_mono hle _ h1
      · cases h1
  | seq x y ihx ihy =>
    intro fr c h r hx
    simp only [exec, Option.bind_eq_some_iff] at hx ⊢
    obtain ⟨s, h1, h2⟩ := hx
    refine ⟨s, ihx h1, ?_⟩
    obtain ⟨e, fr1, c1, h1⟩ := s
    cases e with
    | normal => exact ihy h2
    | _ => exact h2
  | cond x y z ihy ihz =>
    intro fr c h r hx
    simp only [exec] at hx ⊢
    split at hx
    · split at hx
      · rename_i ht; rw [if_pos ht]; exact ihy hx
      · rename_i ht; rw [if_neg ht]; exact ihz hx
    · cases hx
  | block id x ihx =>
    intro fr c h r hx
    simp only [exec, Option.map_eq_some_iff] at hx ⊢
    obtain ⟨s, h1, h2⟩ := hx
    exact ⟨s, ihx h1, h2⟩
  | loop x ihx =>
    intro fr c h r hx
    simp only [exec] at hx ⊢
    exact iter_mono (fun fr c h r => ihx) m m' hm hx
  | _ => intro fr c h r hx; exact hx

theorem call_mono1 (E : Env) : ∀ n, Cl.le (call E n) (call E (n + 1))
  | 0 => by intro q f a h r hx; simp [call] at hx
  | n + 1 => by
    intro q f a h r hx
    rw [call] at hx ⊢
    split at hx
    · exact hx
    · simp only [Option.bind_eq_some_iff] at hx ⊢
      obtain ⟨fn, h1, code, h2, s, h3, h4⟩ := hx
      exact ⟨fn, h1, code, h2, s, exec_mono (call_mono1 E n) (Nat.le_succ n) code h3, h4⟩
theorem call_mono (E : Env) {n m : Nat} (h : n ≤ m) : Cl.le (call E n) (call E m) := by
  induction h with
  | refl => intro q f a h r hx; exact hx
  | step _ ih => intro q f a h r hx; exact call_mono1 E _ q f a h r (ih q f a h r hx)

open Classical in
/-- the answer of what may be counted up -/
noncomputable def limit {α : Type} (g : Nat → Option α) : Option α := if h : ∃ r n, g n = some r then some h.choose else none
theorem limit_some {α : Type} {g : Nat → Option α} (hm : ∀ n m r, n ≤ m → g n = some r → g m = some r) {r : α} : limit g = some r ↔ ∃ n, g n = some r := by
  unfold limit
  constructor
  · intro h
    split at h
    · rename_i hx
      obtain ⟨n, hn⟩ := hx.choose_spec
      simp only [Option.some.injEq] at h
      exact ⟨n, by rw [hn, h]⟩
    · cases h
  · rintro ⟨n, hn⟩
    have hx : ∃ r n, g n = some r := ⟨r, n, hn⟩
    rw [dif_pos hx]
    obtain ⟨k, hk⟩ := hx.choose_spec
    have h1 := hm n (max n k) r (by omega) hn
    have h2 := hm k (max n k) _ (by omega) hk
    rw [h1] at h2
    simp only [Option.some.injEq] at h2
    rw [← h2]

/-- what a call answers -/
noncomputable def callW (E : Env) : Cl := fun q f a h => limit fun n => call E n q f a h
theorem callW_some {q : Id} {a : List A} {h : Heap} {r : A × Heap} : callW E q f a h = some r ↔ ∃ n, call E n q f a h = some r := limit_some fun _ _ r h1 h2 => call_mono E h1 _ _ _ _ r h2
theorem call_le_W (n : Nat) : Cl.le (call E n) (callW E) := fun _ _ _ _ _ h => callW_some.2 ⟨n, h⟩

/-- what a statement comes to -/
noncomputable def execW (E : Env) (f : Nat) (p : Id) (code : Code) (fr : Fr) (c : Nat) (h : Heap) : Option (Ex × Fr × Nat × Heap) := limit fun m => exec E (callW E) f p m code fr c h
theorem execW_some {code : Code} {fr : Fr} {c : Nat} {h : Heap} {r : Ex × Fr × Nat × Heap} : execW E f p code fr c h = some r ↔ ∃ m, exec E (callW E) f p m code fr c h = some r :=
  limit_some fun _ _ _ h1 h2 => exec_mono (fun _ _ _ _ _ h => h) h1 code h2
/-- what a loop comes to -/
noncomputable def iterW (E : Env) (f : Nat) (p : Id) (L : List Nat) (a : Code) (c0 : Nat) (fr : Fr) (c : Nat) (h : Heap) : Option (Ex × Fr × Nat × Heap) := limit fun m => iter p L (exec E (callW E) f p m a) c0 m fr c h
theorem iterW_some {L : List Nat} {a : Code} {c0 : Nat} {fr : Fr} {c : Nat} {h : Heap} {r : Ex × Fr × Nat × Heap} : iterW E f p L a c0 fr c h = some r ↔ ∃ m, iter p L (exec E (callW E) f p m a) c0 m fr c h = some r :=
  limit_some (g := fun m => iter p L (exec E (callW E) f p m a) c0 m fr c h) fun n m _ h1 h2 => iter_mono (fun _ _ _ _ => exec_mono (fun _ _ _ _ _ h => h) h1 a) n m h1 h2

theorem opt_ext {α : Type} {x y : Option α} (h : ∀ r, x = some r ↔ y = some r) : x = y := by
  cases x with
  | none => cases y with
    | none => rfl
    | some b => exact ((h b).2 rfl)
  | some a => exact ((h a).1 rfl).symm

section
variable {fr : Fr} {c : Nat} {h : Heap}
theorem execW_of {code : Code} {x : Option (Ex × Fr × Nat × Heap)} (hx : ∀ m, exec E (callW E) f p m code fr c h = x) : execW E f p code fr c h = x := opt_ext fun r => by
  rw [execW_some]
  exact ⟨fun ⟨m, h⟩ => by rw [← hx m]; exact h, fun h => ⟨0, by rw [hx 0]; exact h⟩⟩
@[simp] theorem execW_skip : execW E f p .skip fr c h = some (.normal, fr, c, h) := execW_of fun _ => rfl
@[simp] theorem execW_ret : execW E f p .ret fr c h = some (.ret, fr, c, h) := execW_of fun _ => rfl
@[simp] theorem execW_exit {id : Nat} : execW E f p (.exit id) fr c h = some (.exit id, fr, c, h) := execW_of fun _ => rfl
@[simp] theorem execW_region0 {id : Nat} {ops : List Oper} : execW E f p (.region id ⟨ops⟩ false) fr c h = (runB E (callW E) p (tgK E.feed (appT ops)) (dsts ops) ops fr c h).map fun r => (.normal, r) := execW_of fun _ => by
  simp only [exec, runOps_eq]
/-- a region in any order -/
noncomputable def drawX (E : Env) (p : Id) (ops : List Oper) (fr : Fr) (c : Nat) (h : Heap) : Option (List (Nat × Nat)) → Option (Fr × Nat × Heap)
  | some [] => runB E (callW E) p (tgK E.feed (appT ops)) (dsts ops) ops fr c h
  | some ps => runDraw E (callW E) p ops ps ops 0 [] [] fr c h
  | none => none
@[simp] theorem drawX_nil {ops : List Oper} : drawX E p ops fr c h (some []) = runB E (callW E) p (tgK E.feed (appT ops)) (dsts ops) ops fr c h := rfl
@[simp] theorem execW_region1 {id : Nat} {ops : List Oper} : execW E f p (.region id ⟨ops⟩ true) fr c h = (drawX E p ops fr c h (E.draw f id)).map fun r => (.normal, r) := execW_of fun _ => by
  simp only [exec]
  cases E.draw f id with
  | none => rfl
  | some ps => cases ps <;> simp only [drawX, runOps_eq]
/-- what follows a statement -/
noncomputable def thenX (E : Env) (f : Nat) (p : Id) (b : Code) : Ex × Fr × Nat × Heap → Option (Ex × Fr × Nat × Heap)
  | (.normal, fr, c, h) => execW E f p b fr c h
  | (e, fr, c, h) => some (e, fr, c, h)
@[simp] theorem thenX_normal {b : Code} : thenX E f p b (.normal, fr, c, h) = execW E f p b fr c h := rfl
@[simp] theorem thenX_exit {b : Code} {i : Nat} {r : Fr × Nat × Heap} : thenX E f p b (.exit i, r) = some (.exit i, r) := rfl
@[simp] theorem thenX_ret {b : Code} {r : Fr × Nat × Heap} : thenX E f p b (.ret, r) = some (.ret, r) := rfl
@[simp] theorem execW_seq {a b : Code} : execW E f p (.seq a b) fr c h = (execW E f p a fr c h).bind (thenX E f p b) := opt_ext fun r => by
  rw [execW_some]
  simp only [exec, Option.bind_eq_some_iff]
  constructor
  · rintro ⟨m, s, h1, h2⟩
    refine ⟨s, execW_some.2 ⟨m, h1⟩, ?_⟩
    obtain ⟨e, fr1, c1, h1⟩ := s
    cases e with
    | normal => exact execW_some.2 ⟨m, h2⟩
    | _ => exact h2
  · rintro ⟨s, h1, h2⟩
    obtain ⟨m, h1⟩ := execW_some.1 h1
    obtain ⟨e, fr1, c1, hh⟩ := s
    cases e with
    | normal =>
      obtain ⟨m', h2⟩ := execW_some.1 h2
      exact ⟨max m m', _, exec_mono (fun _ _ _ _ _ h => h) (Nat.le_max_left m m') a h1, exec_mono (fun _ _ _ _ _ h => h) (Nat.le_max_right m m') b h2⟩
    | _ => exact ⟨m, _, h1, h2⟩
/-- a condition -/
def condX (x : Option A) (a b : Option (Ex × Fr × Nat × Heap)) : Option (Ex × Fr × Nat × Heap) := match x with
  | some (.bool t) => if t = true then a else b
  | _ => none
@[congr] theorem condX_congr {x y : Option A} {a b : Option (Ex × Fr × Nat × Heap)} (h : x = y) : condX x a b = condX y a b := by rw [h]
@[simp] theorem condX_bool {t : Bool} {a b : Option (Ex × Fr × Nat × Heap)} : condX (some (.bool t)) a b = if t = true then a else b := rfl
@[simp] theorem execW_cond {x : Operand} {a b : Code} : execW E f p (.cond x a b) fr c h = condX (ev fr x) (execW E f p a fr c h) (execW E f p b fr c h) := opt_ext fun r => by
  rw [execW_some]
  simp only [exec]
  cases ev fr x with
  | none => simp [condX]
  | some v =>
    cases v with
    | bool t =>
      simp only [condX]
      cases t with
      | true => simpa using execW_some.symm
      | false => simpa using execW_some.symm
    | _ => simp [condX]
/-- the end of a block -/
def blockX (id : Nat) : Ex × Fr × Nat × Heap → Ex × Fr × Nat × Heap
  | (.exit i, r) => (if i = id then .normal else .exit i, r)
  | r => r
@[simp] theorem blockX_normal {id : Nat} {r : Fr × Nat × Heap} : blockX id (.normal, r) = (.normal, r) := rfl
@[simp] theorem blockX_ret {id : Nat} {r : Fr × Nat × Heap} : blockX id (.ret, r) = (.ret, r) := rfl
@[simp] theorem blockX_exit {id i : Nat} {r : Fr × Nat × Heap} : blockX id (.exit i, r) = (if i = id then .normal else .exit i, r) := rfl
@[simp] theorem execW_block {id : Nat} {a : Code} : execW E f p (.block id a) fr c h = (execW E f p a fr c h).map (blockX id) := opt_ext fun r => by
  rw [execW_some]
  simp only [exec, Option.map_eq_some_iff]
  have key : ∀ s : Ex × Fr × Nat × Heap, ((match s.1 with | .exit i => if i = id then Ex.normal else .exit i | e => e), s.2) = blockX id s := by
    rintro ⟨e, s⟩; cases e <;> rfl
  constructor
  · rintro ⟨m, s, h1, h2⟩
    exact ⟨s, execW_some.2 ⟨m, h1⟩, by rw [← key]; exact h2⟩
  · rintro ⟨s, h1, h2⟩
    obtain ⟨m, h1⟩ := execW_some.1 h1
    exact ⟨m, s, h1, by rw [← key] at h2; exact h2⟩
@[simp] theorem execW_loop {a : Code} : execW E f p (.loop a) fr c h = iterW E f p (E.live f a.key) a (loop0 (E.keepL f) c) (trim (E.live f a.key) fr) c h := opt_ext fun r => by
  rw [execW_some, iterW_some]
  rfl
/-- a round's end -/
noncomputable def loopX (E : Env) (f : Nat) (p : Id) (L : List Nat) (a : Code) (c0 : Nat) : Ex × Fr × Nat × Heap → Option (Ex × Fr × Nat × Heap)
  | (.normal, fr, c, h) => iterW E f p L a c0 (trim L fr) c (dropFrom p c0 h)
  | (e, fr, c, h) => some (e, trim L fr, c, dropFrom p c0 h)
@[simp] theorem loopX_normal {L : List Nat} {a : Code} {c0 : Nat} : loopX E f p L a c0 (.normal, fr, c, h) = iterW E f p L a c0 (trim L fr) c (dropFrom p c0 h) := rfl
@[simp] theorem loopX_exit {L : List Nat} {a : Code} {c0 i : Nat} : loopX E f p L a c0 (.exit i, fr, c, h) = some (.exit i, trim L fr, c, dropFrom p c0 h) := rfl
@[simp] theorem loopX_ret {L : List Nat} {a : Code} {c0 : Nat} : loopX E f p L a c0 (.ret, fr, c, h) = some (.ret, trim L fr, c, dropFrom p c0 h) := rfl
/-- one round of a loop -/
theorem iterW_eq {L : List Nat} {a : Code} {c0 : Nat} : iterW E f p L a c0 fr c h = (execW E f p a fr c h).bind (loopX E f p L a c0) := opt_ext fun r => by
  rw [iterW_some]
  simp only [Option.bind_eq_some_iff]
  constructor
  · rintro ⟨m, h1⟩
    cases m with
    | zero => simp [iter] at h1
    | succ m =>
      simp only [iter, Option.bind_eq_some_iff] at h1
      obtain ⟨s, h2, h3⟩ := h1
      refine ⟨s, execW_some.2 ⟨_, h2⟩, ?_⟩
      obtain ⟨e, fr1, c1, hh⟩ := s
      cases e with
      | normal => exact iterW_some.2 ⟨m + 1, iter_mono (fun _ _ _ _ h => h) m (m + 1) (Nat.le_succ m) h3⟩
      | _ => exact h3
  · rintro ⟨s, h1, h2⟩
    obtain ⟨m, h1⟩ := execW_some.1 h1
    obtain ⟨e, fr1, c1, hh⟩ := s
    cases e with
    | normal =>
      obtain ⟨m', h2⟩ := iterW_some.1 h2
      refine ⟨max m m' + 1, ?_⟩
      simp only [iter, Option.bind_eq_some_iff]
      refine ⟨_, exec_mono (fun _ _ _ _ _ h => h) (by omega) a h1, ?_⟩
      exact iter_mono (fun _ _ _ _ => exec_mono (fun _ _ _ _ _ h => h) (by omega) a) m' _ (by omega) h2
    | _ =>
      refine ⟨m + 1, ?_⟩
      simp only [iter, Option.bind_eq_some_iff]
      exact ⟨_, exec_mono (fun _ _ _ _ _ h => h) (Nat.le_succ m) a h1, h2⟩
end
end
end Go.Ai

/- Many steps do. -/
namespace Go.Ai
section
variable {E : Env} {f : Nat} {p : Id}

theorem stepA_cont {all : List Oper} {o : Oper} {fr : Fr} {c : Nat} {h : Heap} {r : Fr × Nat × Heap} (hx : stepA E (callW E) p all o fr c h = some r) : ∃ n, stepA E (call E n) p all o fr c h = some r := by
  obtain ⟨d, op, ty, pos, after, g⟩ := o
  cases op with
  | call k =>
    obtain ⟨callee, args, ts⟩ := k
    cases callee with
    | builtin b => cases b <;> exact ⟨0, hx⟩
    | value g =>
      simp only [stepA, Option.bind_eq_some_iff] at hx ⊢
      obtain ⟨gv, hg, vs, hvs, hx⟩ := hx
      cases gv with
      | fn f' caps =>
        simp only [Option.map_eq_some_iff, Prod.exists] at hx
        obtain ⟨v, h2, hc, e⟩ := hx
        obtain ⟨n, hn⟩ := callW_some.1 hc
        refine ⟨n, _, hg, vs, hvs, ?_⟩
        simp only [Option.map_eq_some_iff, Prod.exists]
        exact ⟨v, h2, hn, e⟩
      | _ => cases hx
    | _ => exact ⟨0, hx⟩
  | _ => exact ⟨0, hx⟩

theorem runOps_cont {all : List Oper} : ∀ (os : List Oper) {fr : Fr} {c : Nat} {h : Heap} {r : Fr × Nat × Heap}, runOps E (callW E) p all os fr c h = some r → ∃ n, runOps E (call E n) p all os fr c h = some r
  | [], _, _, _, _, hx => ⟨0, hx⟩
  | o :: os, fr, c, h, r, hx => by
    simp only [runOps] at hx ⊢
    split at hx
    · simp only [Option.bind_eq_some_iff] at hx ⊢
      obtain ⟨s, h1, h2⟩ := hx
      obtain ⟨n, h1⟩ := stepA_cont h1
      obtain ⟨n', h2⟩ := runOps_cont os h2
      exact ⟨max n n', s, stepA_mono (call_mono E (Nat.le_max_left n n')) h1, runOps_mono (call_mono E (Nat.le_max_right n n')) os h2⟩
    · exact runOps_cont os hx
    · cases hx

theorem runDraw_cont {all : List Oper} {ps : List (Nat × Nat)} : ∀ (os : List Oper) {i : Nat} {ls : List (Nat × Id × Nat × Nat)} {hs : List (Nat × Heap × Heap)} {fr : Fr} {c : Nat} {h : Heap} {r : Fr × Nat × Heap},
    runDraw E (callW E) p all ps os i ls hs fr c h = some r → ∃ n, runDraw E (call E n) p all ps os i ls hs fr c h = some r
  | [], _, _, _, _, _, _, _, hx => ⟨0, hx⟩
  | o :: os, i, ls, hs, fr, c, h, r, hx => by
    simp only [runDraw] at hx ⊢
    split at hx
    · simp only [Option.bind_eq_some_iff] at hx ⊢
      obtain ⟨s, h1, h2⟩ := hx
      obtain ⟨n, h1⟩ := stepA_cont h1
      obtain ⟨n', h2⟩ := runDraw_cont os h2
      exact ⟨max n n', s, stepA_mono (call_mono E (Nat.le_max_left n n')) h1, runDraw_mono (call_mono E (Nat.le_max_right n n')) os h2⟩
    · exact runDraw_cont os hx
    · cases hx

theorem exec_cont {m : Nat} : ∀ (code : Code) {fr : Fr} {c : Nat} {h : Heap} {r : Ex × Fr × Nat × Heap}, exec E (callW E) f p m code fr c h = some r → ∃ n, m ≤ n ∧ exec E (call E n) f p n code fr c h = some r := by
  intro code
  induction code with
  | region id ops draw =>
    intro fr c h r hx
    have go : ∀ n, exec E (call E n) f p 0 (.region id ops draw) fr c h = some r → ∃ n, m ≤ n ∧ exec E (call E n) f p n (.region id ops draw) fr c h = some r := fun n hn =>
      ⟨max m n, Nat.le_max_left _ _, exec_mono (call_mono E (Nat.le_max_right m n)) (Nat.zero_le _) _ hn⟩
    simp only [exec, Option.map_eq_some_iff] at hx
    obtain ⟨s, h1, h2⟩ := hx
    cases draw with
    | false =>
      obtain ⟨n, hn⟩ := runOps_cont _ h1
      exact go n (by simp only [exec, Option.map_eq_some_iff]; exact ⟨s, hn, h2⟩)
    | true =>
      simp only at h1
      split at h1
      · rename_i hd
        obtain ⟨n, hn⟩ := runOps_cont _ h1
        exact go n (by simp only [exec, Option.map_eq_some_iff, hd]; exact ⟨s, hn, h2⟩)
      · rename_i ps hne hd
        obtain ⟨n, hn⟩ := runDraw_cont _ h1
        refine go n ?_
        simp only [exec, Option.map_eq_some_iff, hd]
        refine ⟨s, ?_, h2⟩
        cases ps with
        | nil => exact absurd rfl hne
        | cons q qs => exact hn
      · cases h1
  | seq x y ihx ihy =>
    intro fr c h r hx
    simp only [exec, Option.bind_eq_some_iff] at hx
    obtain ⟨s, h1, h2⟩ := hx
    obtain ⟨n, hm, h1⟩ := ihx h1
    obtain ⟨e, fr1, c1, hh⟩ := s
    cases e with
    | normal =>
      obtain ⟨n', hm', h2⟩ := ihy h2
      refine ⟨max n n', by omega, ?_⟩
      simp only [exec, Option.bind_eq_some_iff]
      exact ⟨_, exec_mono (call_mono E (Nat.le_max_left n n')) (Nat.le_max_left n n') x h1, exec_mono (call_mono E (Nat.le_max_right n n')) (Nat.le_max_right n n') y h2⟩
    | _ =>
      refine ⟨n, hm, ?_⟩
      simp only [exec, Option.bind_eq_some_iff]
      exact ⟨_, h1, h2⟩
  | cond x y z ihy ihz =>
    intro fr c h r hx
    simp only [exec] at hx
    split at hx
    · rename_i t ht
      split at hx
      · rename_i htt
        obtain ⟨n, hm, h1⟩ := ihy hx
        exact ⟨n, hm, by simp only [exec, ht, if_pos htt]; exact h1⟩
      · rename_i htt
        obtain ⟨n, hm, h1⟩ := ihz hx
        exact ⟨n, hm, by simp only [exec, ht, if_neg htt]; exact h1⟩
    · cases hx
  | block id x ihx =>
    intro fr c h r hx
    simp only [exec, Option.map_eq_some_iff] at hx
    obtain ⟨s, h1, h2⟩ := hx
    obtain ⟨n, hm, h1⟩ := ihx h1
    exact ⟨n, hm, by simp only [exec, Option.map_eq_some_iff]; exact ⟨s, h1, h2⟩⟩
  | loop x ihx =>
    intro fr c h r hx
    simp only [exec] at hx
    have key : ∀ k {fr : Fr} {c1 : Nat} {h : Heap}, iter p (E.live f x.key) (exec E (callW E) f p m x) (loop0 (E.keepL f) c) k fr c1 h = some r → ∃ n, m ≤ n ∧ iter p (E.live f x.key) (exec E (call E n) f p n x) (loop0 (E.keepL f) c) k fr c1 h = some r := by
      intro k
      induction k with
      | zero => intro fr c1 h hx; simp [iter] at hx
      | succ k ih =>
        intro fr c1 h hx
        simp only [iter, Option.bind_eq_some_iff] at hx
        obtain ⟨s, h1, h2⟩ := hx
        obtain ⟨n, hm, h1⟩ := ihx h1
        obtain ⟨e, fr1, c2, hh⟩ := s
        cases e with
        | normal =>
          obtain ⟨n', hm', h2⟩ := ih h2
          refine ⟨max n n', by omega, ?_⟩
          simp only [iter, Option.bind_eq_some_iff]
          exact ⟨_, exec_mono (call_mono E (Nat.le_max_left n n')) (Nat.le_max_left n n') x h1,
            iter_mono (fun _ _ _ _ => exec_mono (call_mono E (Nat.le_max_right n n')) (Nat.le_max_right n n') x) k k (Nat.le_refl k) h2⟩
        | _ =>
          refine ⟨n, hm, ?_⟩
          simp only [iter, Option.bind_eq_some_iff]
          exact ⟨_, h1, h2⟩
    obtain ⟨n, hm, hn⟩ := key m hx
    refine ⟨n, hm, ?_⟩
    simp only [exec]
    exact iter_mono (fun _ _ _ _ h => h) m n hm hn
  | _ => intro fr c h r hx; exact ⟨m, Nat.le_refl m, hx⟩
end

/-- what is known of calls, without a count -/
theorem callW_ok {E : Env} {B : Nat} {w0 : World} (hE : EnvOK E B w0) : ClOK E.P B w0 (callW E) := by
  intro q f args h v h' hc
  obtain ⟨n, hn⟩ := callW_some.1 hc
  exact call_ok hE n q f args h v h' hn
end Go.Ai

