/- The document's sieve, in pure: what is gone through each time is what the program keeps. -/
import Derived.Test.YthbgjaboghnpjaaR1
namespace Go.Proofs.Ythbgjaboghnpjaa.R
open Go.RowKit Go.Proofs.Ythbgjaboghnpjaa.Q Go.Proofs.Ythbgjaboghnpjaa.Pure Go.Proofs.YthbgjaboghnpjaaW.PrintWords Go.Proofs.YthbgjaboghnpjaaW.PrintLast Go.Proofs.YthbgjaboghnpjaaW.PrintMore
set_option linter.unusedVariables false
set_option linter.unusedSimpArgs false
/-- Rows ahead of the i-th cell's in which something was taken; was something taken in its row, ahead of it. -/
def rowSt (L : List S29) (T : List Bool) : Nat → Int × Bool
  | 0 => (0, false)
  | i + 1 => if (rd_T29 L (i : Int)).f0.toList = (rd_T29 L ((i + 1 : Nat) : Int)).f0.toList then ((rowSt L T i).1, (rowSt L T i).2 || T.getD i false)
    else (if ((rowSt L T i).2 || T.getD i false) = true then (rowSt L T i).1 + 1 else (rowSt L T i).1, false)
/-- Taken in c's column, of the cells right ahead of the i-th. -/
def runN (c : S29) (L : List S29) (T : List Bool) : Nat → Int
  | 0 => 0
  | i + 1 => if (rd_T29 L (i : Int)).f0.toList = c.f0.toList ∧ (rd_T29 L (i : Int)).f1.toList = c.f1.toList ∧ (rd_T29 L (i : Int)).f2.toList = c.f2.toList then (if T.getD i false = true then runN c L T i + 1 else runN c L T i) else 0
theorem rd_app (L : List S29) (c : S29) (i : Nat) (h : i < L.length) : rd_T29 (L ++ [c]) (i : Int) = rd_T29 L (i : Int) := by
  unfold rd_T29
  rw [Int.toNat_natCast, List.getD_eq_getElem?_getD, List.getD_eq_getElem?_getD, List.getElem?_append_left h]
theorem rd_end (L : List S29) (c : S29) : rd_T29 (L ++ [c]) (L.length : Int) = c := by
  unfold rd_T29
  rw [Int.toNat_natCast, List.getD_eq_getElem?_getD, List.getElem?_append_right (Nat.le_refl _)]
  simp
theorem tk_app (T : List Bool) (t : Bool) (i : Nat) (h : i < T.length) : (T ++ [t]).getD i false = T.getD i false := by
  rw [List.getD_eq_getElem?_getD, List.getD_eq_getElem?_getD, List.getElem?_append_left h]
theorem tk_end (T : List Bool) (t : Bool) (n : Nat) (h : T.length = n) : (T ++ [t]).getD n false = t := by
  subst h
  rw [List.getD_eq_getElem?_getD, List.getElem?_append_right (Nat.le_refl _)]
  simp
theorem rowSt_app (L : List S29) (T : List Bool) (c : S29) (t : Bool) (hl : T.length = L.length) : ∀ i, i < L.length → rowSt (L ++ [c]) (T ++ [t]) i = rowSt L T i
  | 0, _ => rfl
  | i + 1, h => by
    unfold rowSt
    rw [rowSt_app L T c t hl i (by omega), rd_app L c i (by omega), rd_app L c (i + 1) h, tk_app T t i (by omega)]
theorem runN_app (x : S29) (L : List S29) (T : List Bool) (c : S29) (t : Bool) (hl : T.length = L.length) : ∀ i, i ≤ L.length → runN x (L ++ [c]) (T ++ [t]) i = runN x L T i
  | 0, _ => rfl
  | i + 1, h => by
    unfold runN
    rw [runN_app x L T c t hl i (by omega), rd_app L c i (by omega), tk_app T t i (by omega)]
theorem rowSt_le (L : List S29) (T : List Bool) : ∀ i : Nat, 0 ≤ (rowSt L T i).1 ∧ (rowSt L T i).1 ≤ i
  | 0 => ⟨Int.le_refl _, Int.le_refl _⟩
  | i + 1 => by
    have := rowSt_le L T i
    unfold rowSt
    split
    · simp only; omega
    · split <;> simp only <;> omega
theorem runN_le (c : S29) (L : List S29) (T : List Bool) : ∀ i : Nat, 0 ≤ runN c L T i ∧ runN c L T i ≤ i
  | 0 => ⟨Int.le_refl _, Int.le_refl _⟩
  | i + 1 => by
    have := runN_le c L T i
    unfold runN
    split
    · split <;> omega
    · omega
theorem runN_col (c d : S29) (L : List S29) (T : List Bool) (h0 : c.f0.toList = d.f0.toList) (h1 : c.f1.toList = d.f1.toList) (h2 : c.f2.toList = d.f2.toList) : ∀ i : Nat, runN c L T i = runN d L T i
  | 0 => rfl
  | i + 1 => by
    unfold runN
    rw [runN_col c d L T h0 h1 h2 i, h0, h1, h2]
/-- What the program keeps is what the document goes through. -/
structure Lk (s : Sv) (L : List S29) (T : List Bool) : Prop where
  len : T.length = L.length
  nil : L.length = 0 → s = sv0
  cons : ∀ m : Nat, L.length = m + 1 → s.some = true ∧ s.c = rd_T29 L (m : Int) ∧ s.n = runN (rd_T29 L (m : Int)) L T (m + 1) ∧ s.rows = (rowSt L T m).1 ∧ s.hit = ((rowSt L T m).2 || T.getD m false)
theorem Lk.start : Lk sv0 [] [] := ⟨rfl, fun _ => rfl, fun m h => by simp at h⟩
theorem Lk.turn {s : Sv} {L : List S29} {T : List Bool} (h : Lk s L T) (hl : L.length ≤ 1000) (c : S29) (t : Bool) :
    turnN s.c.f0 s.c.f1 s.c.f2 s.n c.f0 c.f1 c.f2 = runN c (L ++ [c]) (T ++ [t]) L.length ∧ turnRows s.c.f0 s.some s.rows s.hit c.f0 = (rowSt (L ++ [c]) (T ++ [t]) L.length).1 ∧ turnHit s.c.f0 s.some s.hit c.f0 = (rowSt (L ++ [c]) (T ++ [t]) L.length).2 := by
  rcases Nat.eq_zero_or_pos L.length with h0 | h0
  · obtain rfl := h.nil h0
    rw [h0]
    refine ⟨?_, ?_, ?_⟩
    · unfold turnN runN sv0
      split <;> rfl
    · unfold turnRows rowSt sv0
      rw [if_neg (by simp)]
    · unfold turnHit rowSt sv0
      rw [if_neg (by simp)]
  · obtain ⟨m, hm⟩ : ∃ m, L.length = m + 1 := ⟨L.length - 1, by omega⟩
    obtain ⟨h1, h2, h3, h4, h5⟩ := h.cons m hm
    have hr := rowSt_le L T m
    have e1 : rd_T29 (L ++ [c]) (m : Int) = s.c := by rw [rd_app L c m (by omega), h2]
    have e2 : rd_T29 (L ++ [c]) ((m + 1 : Nat) : Int) = c := by rw [← hm]; exact rd_end L c
    have e3 : (T ++ [t]).getD m false = T.getD m false := tk_app T t m (by have := h.len; omega)
    have e4 := rowSt_app L T c t h.len m (by omega)
    rw [hm]
    refine ⟨?_, ?_, ?_⟩
    · by_cases hc : c.f0.toList = s.c.f0.toList ∧ c.f1.toList = s.c.f1.toList ∧ c.f2.toList = s.c.f2.toList
      · unfold turnN
        rw [if_pos hc, h3, ← h2, runN_app c L T c t h.len (m + 1) (by omega)]
        exact runN_col _ _ L T hc.1.symm hc.2.1.symm hc.2.2.symm _
      · unfold turnN runN
        rw [if_neg hc, e1, if_neg (fun h => hc ⟨h.1.symm, h.2.1.symm, h.2.2.symm⟩)]
    · unfold turnRows rowSt
      rw [e1, e2, e3, e4, ← h5, ← h4, h1]
      by_cases hc : s.c.f0.toList = c.f0.toList
      · rw [if_neg (fun h => h.2.1 hc.symm), if_pos hc]
      · rw [if_neg hc]
        cases s.hit with
        | true => rw [if_pos ⟨rfl, fun h => hc h.symm, rfl⟩, if_pos rfl]; unfold wrap64; simp only; omega
        | false => rw [if_neg (fun h => by cases h.2.2), if_neg (by simp)]
    · unfold turnHit rowSt
      rw [e1, e2, e3, e4, ← h5, h1]
      by_cases hc : s.c.f0.toList = c.f0.toList
      · rw [if_neg (fun h => h.2 hc.symm), if_pos hc]
      · rw [if_pos ⟨rfl, fun h => hc h.symm⟩, if_neg hc]
section
variable (f0 : List ByteArray) (f1 f2 : ByteArray) (f3 f4 f5 f6 : Int)
/-- May nothing be taken any more, so many rows being told? -/
def doneB (f6 rows : Int) : Bool := !(decide (f6 = 0)) && decide (rows ≥ f6)
def okB (c : S29) (n rows : Int) : Bool := lets f0 f1 f2 f3 f4 f5 f6 c && ((decide (f5 = 0) || decide (n < f5)) && !(doneB f6 rows))
theorem Lk.take {s : Sv} {L : List S29} {T : List Bool} (h : Lk s L T) (hl : L.length ≤ 1000) (c : S29) (t : Bool) : svTake f0 f1 f2 f3 f4 f5 f6 s c = okB f0 f1 f2 f3 f4 f5 f6 c (runN c (L ++ [c]) (T ++ [t]) L.length) (rowSt (L ++ [c]) (T ++ [t]) L.length).1 := by
  obtain ⟨h1, h2, h3⟩ := h.turn hl c t
  unfold svTake Q.takeB okB doneB lets
  rw [h1, h2]
theorem Lk.next {s : Sv} {L : List S29} {T : List Bool} (h : Lk s L T) (hl : L.length ≤ 1000) (c : S29) : Lk (svNext f0 f1 f2 f3 f4 f5 f6 s c) (L ++ [c]) (T ++ [svTake f0 f1 f2 f3 f4 f5 f6 s c]) := by
  obtain ⟨h1, h2, h3⟩ := h.turn hl c (svTake f0 f1 f2 f3 f4 f5 f6 s c)
  refine ⟨by simp [h.len], fun h => by simp at h, fun m hm => ?_⟩
  obtain rfl : L.length = m := by simpa using hm
  have e1 := rd_end L c
  have e2 := tk_end T (svTake f0 f1 f2 f3 f4 f5 f6 s c) L.length h.len
  have hb := runN_le c (L ++ [c]) (T ++ [svTake f0 f1 f2 f3 f4 f5 f6 s c]) L.length
  have ht : Q.takeB f0 f1 f2 f3 f4 f5 f6 s.c.f0 s.c.f1 s.c.f2 s.c.f3 s.c.f4 s.c.f5.f0 s.c.f5.f1 s.c.f5.f2 s.some s.n s.rows s.hit c.f0 c.f1 c.f2 c.f3 c.f4 c.f5.f0 c.f5.f1 c.f5.f2 = svTake f0 f1 f2 f3 f4 f5 f6 s c := rfl
  rw [e1, e2]
  unfold svNext
  rw [ht]
  generalize svTake f0 f1 f2 f3 f4 f5 f6 s c = q at *
  refine ⟨rfl, rfl, ?_, h2, ?_⟩
  · show (if q = true then _ else _) = _
    rw [h1]
    conv => rhs; unfold runN
    rw [e1, e2, if_pos (show c.f0.toList = c.f0.toList ∧ c.f1.toList = c.f1.toList ∧ c.f2.toList = c.f2.toList from ⟨rfl, rfl, rfl⟩)]
    cases q with
    | true => rw [if_pos rfl, if_pos rfl]; unfold wrap64; omega
    | false => rw [if_neg (by simp), if_neg (by simp)]
  · show (q || _) = _
    rw [h3, Bool.or_comm]
end
end Go.Proofs.Ythbgjaboghnpjaa.R
