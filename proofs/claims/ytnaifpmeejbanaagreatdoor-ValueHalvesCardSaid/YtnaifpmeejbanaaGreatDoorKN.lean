/- Part KN of the proof that a law of this program answers yes at every input: no conditions beyond the given statement. -/
import Derived.Test.YtnaifpmeejbanaaGreatDoorKM
set_option linter.unusedSimpArgs false
set_option linter.unusedVariables false
set_option linter.all false
/- Laws of chapter 8: what is told in several records. -/
namespace Go.Ai
theorem raws2 (a b : Rec) : rawsR [a, b] = a.raw ++ b.raw := by simp
theorem raws3 (a b c : Rec) : rawsR [a, b, c] = a.raw ++ (b.raw ++ c.raw) := by simp
theorem readV_of {ks : List Rec} {d : Int} (hd : 0 ≤ d) (hk : ∀ r ∈ ks, RecOK d r ∧ takesV r.num r.kind = true) : readE (rawsR ks) d takesV = ⟨none, [], ks⟩ := by
  have := readE_of (t := takesV) hd hk restE_nil
  rwa [List.append_nil] at this
/-- of several kinds told the last one counts -/
theorem last_x {s t : List UInt8} {n : Nat} (hs : s.length ≤ 1000) (ht : t.length ≤ 1000) (hn : n < 18446744073709551616) :
    (textOk s = true → readV (bytesB 1 s ++ (numB 3 n ++ bytesB 7 t)) 0 = (.mk 7 t false 0 [] [] [] [], none)) ∧ (textOk s = false → ∃ e, (readV (bytesB 1 s ++ (numB 3 n ++ bytesB 7 t)) 0).2 = some e) := by
  have hr := readV_of (d := 0) (ks := [bytesR 1 s, numR 3 n, bytesR 7 t]) (by omega) (by
    intro r hr
    simp only [List.mem_cons, List.not_mem_nil, or_false] at hr
    rcases hr with rfl | rfl | rfl
    · exact ⟨bytesR_ok (by omega) (by omega) (by omega), rfl⟩
    · exact ⟨numR_ok (by omega) (by omega) hn, rfl⟩
    · exact ⟨bytesR_ok (by omega) (by omega) (by omega), rfl⟩)
  rw [raws3] at hr
  change readE (bytesB 1 s ++ (numB 3 n ++ bytesB 7 t)) 0 takesV = _ at hr
  have ck := fun en => checkO_none en 1 [bytesR 1 s, numR 3 n, bytesR 7 t]
  have tx : txts 1 [bytesR 1 s, numR 3 n, bytesR 7 t] = textOk s := by simp [txts, bytesR, numR]
  have ho : oneR [1, 2, 3, 4, 5, 6, 7] [bytesR 1 s, numR 3 n, bytesR 7 t] = ⟨7, 0, t, [t]⟩ := by simp [oneR, stepOne, bytesR, numR]
  rw [readV, if_neg (by omega), hr]
  dsimp only
  rw [ho]
  refine ⟨fun h => ?_, fun h => ?_⟩
  · have c : ∀ en, checkO en 1 none [bytesR 1 s, numR 3 n, bytesR 7 t] = none := fun en => by
      have := ck en; rw [tx, h] at this; simpa using this
    simp [c, orNone]
  · have c : ∃ e, checkO (bytesB 1 s ++ (numB 3 n ++ bytesB 7 t)).length 1 none [bytesR 1 s, numR 3 n, bytesR 7 t] = some e := by
      have := ck (bytesB 1 s ++ (numB 3 n ++ bytesB 7 t)).length
      rw [tx, h] at this
      cases hc : checkO (bytesB 1 s ++ (numB 3 n ++ bytesB 7 t)).length 1 none [bytesR 1 s, numR 3 n, bytesR 7 t] with
      | none => rw [hc] at this; cases this
      | some e => exact ⟨e, rfl⟩
    obtain ⟨e, c⟩ := c
    rw [c]
    exact ⟨e, by simp [orNone]⟩
theorem last_y {s t : List UInt8} (hs : s.length ≤ 1000) (ht : t.length ≤ 1000) :
    (textOk s = true → readV (bytesB 7 t ++ bytesB 1 s) 0 = (.mk 1 s false 0 [] [] [] [], none)) ∧ (textOk s = false → ∃ e, (readV (bytesB 7 t ++ bytesB 1 s) 0).2 = some e) := by
  have hr := readV_of (d := 0) (ks := [bytesR 7 t, bytesR 1 s]) (by omega) (by
    intro r hr
    simp only [List.mem_cons, List.not_mem_nil, or_false] at hr
    rcases hr with rfl | rfl
    · exact ⟨bytesR_ok (by omega) (by omega) (by omega), rfl⟩
    · exact ⟨bytesR_ok (by omega) (by omega) (by omega), rfl⟩)
  rw [raws2] at hr
  change readE (bytesB 7 t ++ bytesB 1 s) 0 takesV = _ at hr
  have ck := fun en => checkO_none en 1 [bytesR 7 t, bytesR 1 s]
  have tx : txts 1 [bytesR 7 t, bytesR 1 s] = textOk s := by simp [txts, bytesR]
  have ho : oneR [1, 2, 3, 4, 5, 6, 7] [bytesR 7 t, bytesR 1 s] = ⟨1, 0, s, [s]⟩ := by simp [oneR, stepOne, bytesR]
  rw [readV, if_neg (by omega), hr]
  dsimp only
  rw [ho]
  refine ⟨fun h => ?_, fun h => ?_⟩
  · have c : ∀ en, checkO en 1 none [bytesR 7 t, bytesR 1 s] = none := fun en => by
      have := ck en; rw [tx, h] at this; simpa using this
    simp only [c]
    simp [orNone]
  · have c : ∃ e, checkO (bytesB 7 t ++ bytesB 1 s).length 1 none [bytesR 7 t, bytesR 1 s] = some e := by
      have := ck (bytesB 7 t ++ bytesB 1 s).length
      rw [tx, h] at this
      cases hc : checkO (bytesB 7 t ++ bytesB 1 s).length 1 none [bytesR 7 t, bytesR 1 s] with
      | none => rw [hc] at this; cases this
      | some e => exact ⟨e, rfl⟩
    obtain ⟨e, c⟩ := c
    rw [c]
    exact ⟨e, by simp [orNone]⟩
def num3 (n : Nat) : Val := .mk 3 [] false n [] [] [] []
theorem num3_w (n : Nat) : writeV (num3 n) = numB 3 n := by rw [num3, writeV]; simp
theorem num3_r {n : Nat} (hn : n < 18446744073709551616) : readV (numB 3 n) 0 = (num3 n, none) := by
  have hm : mayV (num3 n) 0 = true := by rw [num3, mayV]; simp [bareV, restE_nil]
  have hw : (num3 n).wf := by simp [num3, Val.wf, Val.wfs, KV.wfs, maxStr, hn]
  have hl := numB_le (num := 3) (by omega) hn
  have := readV_writeV hm (by rw [num3_w]; omega) hw
  rwa [num3_w] at this
/-- a list told in two records is one list -/
theorem last_z {n : Nat} (hn : n < 18446744073709551616) : readV (bytesB 5 (bytesB 1 (numB 3 n)) ++ bytesB 5 (bytesB 1 (numB 3 n) ++ bytesB 1 (numB 3 n))) 2 = (.mk 5 [] false 0 [num3 n, num3 n, num3 n] [] [] [], none) := by
  have hl := numB_le (num := 3) (by omega) hn
  have h1 := bytesB_le (num := 1) (by omega) (s := numB 3 n) (by omega)
  have hr := readV_of (d := 2) (ks := [bytesR 5 (bytesB 1 (numB 3 n)), bytesR 5 (bytesB 1 (numB 3 n) ++ bytesB 1 (numB 3 n))]) (by omega) (by
    intro r hr
    simp only [List.mem_cons, List.not_mem_nil, or_false] at hr
    rcases hr with rfl | rfl
    · exact ⟨bytesR_ok (by omega) (by omega) (by omega), rfl⟩
    · exact ⟨bytesR_ok (by omega) (by omega) (by rw [List.length_append]; omega), rfl⟩)
  rw [raws2] at hr
  change readE (bytesB 5 (bytesB 1 (numB 3 n)) ++ bytesB 5 (bytesB 1 (numB 3 n) ++ bytesB 1 (numB 3 n))) 2 takesV = _ at hr
  have ho : oneR [1, 2, 3, 4, 5, 6, 7] [bytesR 5 (bytesB 1 (numB 3 n)), bytesR 5 (bytesB 1 (numB 3 n) ++ bytesB 1 (numB 3 n))] = ⟨5, 0, bytesB 1 (numB 3 n) ++ bytesB 1 (numB 3 n), [bytesB 1 (numB 3 n), bytesB 1 (numB 3 n) ++ bytesB 1 (numB 3 n)]⟩ := by simp [oneR, stepOne, bytesR]
  have c : ∀ en, checkO en 1 none [bytesR 5 (bytesB 1 (numB 3 n)), bytesR 5 (bytesB 1 (numB 3 n) ++ bytesB 1 (numB 3 n))] = none := fun en => by simp [checkO, bytesR]
  have es := someR_ok (rd := fun t => readV t (2 - 2)) (wr := writeV) (l := [num3 n, num3 n, num3 n]) (i := []) (d := 2 - 1) (by omega) (by simp only [List.mem_cons, List.not_mem_nil, or_false, or_self, forall_eq]; rw [num3_w]; exact num3_r hn) (by simp only [List.mem_cons, List.not_mem_nil, or_false, or_self, forall_eq]; rw [num3_w]; omega) restE_nil
  simp only [List.map_cons, List.map_nil, num3_w, List.append_nil, raws3] at es
  change someR (fun t => readV t (2 - 2)) (bytesB 1 (numB 3 n) ++ (bytesB 1 (numB 3 n) ++ bytesB 1 (numB 3 n))) (2 - 1) = _ at es
  rw [readV, if_neg (by omega), hr]
  dsimp only
  rw [ho, c]
  simp only [show (2 : Int) - 2 = 0 from rfl, show (2 : Int) - 1 = 1 from rfl] at es
  simp [es, failO, orNone]
theorem last_w {n : Nat} (hn : n < 18446744073709551616) : readV (bytesB 5 (bytesB 1 (numB 3 n)) ++ (numB 2 1 ++ bytesB 5 (bytesB 1 (numB 3 n)))) 2 = (.mk 5 [] false 0 [num3 n] [] [] [], none) := by
  have hl := numB_le (num := 3) (by omega) hn
  have h1 := bytesB_le (num := 1) (by omega) (s := numB 3 n) (by omega)
  have hr := readV_of (d := 2) (ks := [bytesR 5 (bytesB 1 (numB 3 n)), numR 2 1, bytesR 5 (bytesB 1 (numB 3 n))]) (by omega) (by
    intro r hr
    simp only [List.mem_cons, List.not_mem_nil, or_false] at hr
    rcases hr with rfl | rfl | rfl
    · exact ⟨bytesR_ok (by omega) (by omega) (by omega), rfl⟩
    · exact ⟨numR_ok (by omega) (by omega) (by omega), rfl⟩
    · exact ⟨bytesR_ok (by omega) (by omega) (by omega), rfl⟩)
  rw [raws3] at hr
  change readE (bytesB 5 (bytesB 1 (numB 3 n)) ++ (numB 2 1 ++ bytesB 5 (bytesB 1 (numB 3 n)))) 2 takesV = _ at hr
  have ho : oneR [1, 2, 3, 4, 5, 6, 7] [bytesR 5 (bytesB 1 (numB 3 n)), numR 2 1, bytesR 5 (bytesB 1 (numB 3 n))] = ⟨5, 0, bytesB 1 (numB 3 n), [bytesB 1 (numB 3 n)]⟩ := by simp [oneR, stepOne, bytesR, numR]
  have c : ∀ en, checkO en 1 none [bytesR 5 (bytesB 1 (numB 3 n)), numR 2 1, bytesR 5 (bytesB 1 (numB 3 n))] = none := fun en => by simp [checkO, bytesR, numR]
  have es := someR_ok (rd := fun t => readV t (2 - 2)) (wr := writeV) (l := [num3 n]) (i := []) (d := 2 - 1) (by omega) (by simp only [List.mem_singleton, forall_eq]; rw [num3_w]; exact num3_r hn) (by simp only [List.mem_singleton, forall_eq]; rw [num3_w]; omega) restE_nil
  simp only [List.map_cons, List.map_nil, num3_w, List.append_nil] at es
  have e1 : rawsR [bytesR 1 (numB 3 n)] = bytesB 1 (numB 3 n) := by simp [bytesR]
  rw [e1] at es
  rw [readV, if_neg (by omega), hr]
  dsimp only
  rw [ho, c]
  simp only [show (2 : Int) - 2 = 0 from rfl, show (2 : Int) - 1 = 1 from rfl] at es
  simp [es, failO, orNone]
/-- a message told in two records, cut anywhere, is the whole one -/
theorem halves {key u a b : List UInt8} {v : Val} {d : Int} (hd : 0 ≤ d) (hk : textOk key = true) (hkl : key.length < 18446744073709551616) (hu : restE takesK u d = true) (hv : mayV v (d - 1) = true) (hvw : v.wf) (hab : a ++ b = writeV v) (hl : (writeV v).length < 18446744073709551616) :
    readK (bytesB 2 a ++ (bytesB 1 key ++ (bytesB 2 b ++ u))) d = (.mk key true v u, none) := by
  have hlen : a.length + b.length = (writeV v).length := by rw [← hab, List.length_append]
  have hr := readE_of (t := takesK) hd (ks := [bytesR 2 a, bytesR 1 key, bytesR 2 b]) (u := u) (by
    intro r hr
    simp only [List.mem_cons, List.not_mem_nil, or_false] at hr
    rcases hr with rfl | rfl | rfl
    · exact ⟨bytesR_ok (by omega) (by omega) (by omega), rfl⟩
    · exact ⟨bytesR_ok (by omega) (by omega) hkl, rfl⟩
    · exact ⟨bytesR_ok (by omega) (by omega) (by omega), rfl⟩) hu
  rw [raws3, List.append_assoc, List.append_assoc] at hr
  change readE (bytesB 2 a ++ (bytesB 1 key ++ (bytesB 2 b ++ u))) d takesK = _ at hr
  have c : ∀ en, checkO en 1 none [bytesR 2 a, bytesR 1 key, bytesR 2 b] = none := fun en => by
    have := checkO_none en 1 [bytesR 2 a, bytesR 1 key, bytesR 2 b]
    have tx : txts 1 [bytesR 2 a, bytesR 1 key, bytesR 2 b] = true := by simp [txts, bytesR, hk]
    rw [tx] at this
    simpa using this
  have hj : joinR 2 [bytesR 2 a, bytesR 1 key, bytesR 2 b] = writeV v := by rw [← hab]; simp [joinR, bytesR]
  have hla : (lastR 1 [bytesR 2 a, bytesR 1 key, bytesR 2 b]).s = key := by simp [lastR, bytesR]
  rw [readK, if_neg (by omega), hr]
  dsimp only
  rw [c, hj, hla, readV_writeV hv hl hvw]
  simp [bytesR, failO, orNone]
end Go.Ai

