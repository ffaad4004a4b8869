/- The document's sieve in memory: between two calls. -/
import Derived.Test.YthbgjaboghnpjaaR1
import Derived.BigQuiet
import Derived.Laws.OwnMore

namespace Go.Proofs.Ythbgjaboghnpjaa.R
open Go.RowKit Go.Proofs.Ythbgjaboghnpjaa.Q Go.Proofs.Ythbgjaboghnpjaa.Pure Go.Proofs.YthbgjaboghnpjaaW.PrintWords Go.Proofs.YthbgjaboghnpjaaW.PrintLast Go.Proofs.YthbgjaboghnpjaaW.PrintMore
set_option linter.unusedVariables false
set_option linter.unusedSimpArgs false
/-- Rows ahead of the i-th cell's in which something was taken; was something taken in its row, ahead of it. -/
def rowSt (L : List S29) (T : List Bool) : Nat → Int × Bool
  | 0 => (0, false)
  | i + 1 => if (rd_T29 L (i : Int)).f0.toList = (rd_T29 L ((i + 1 : Nat) : Int)).f0.toList then ((rowSt L T i).1, (rowSt L T i).2 || T.getD i false)
    else (if ((rowSt L T i).2 || T.getD i false) = true then (rowSt L T i).1 + 1 else (rowSt L T i).1, false)
/-- Taken in c's column, of the cells right ahead of the i-th. -/
def runN (c : S29) (L : List S29) (T : List Bool) : Nat → Int
  | 0 => 0
  | i + 1 => if (rd_T29 L (i : Int)).f0.toList = c.f0.toList ∧ (rd_T29 L (i : Int)).f1.toList = c.f1.toList ∧ (rd_T29 L (i : Int)).f2.toList = c.f2.toList then (if T.getD i false = true then runN c L T i + 1 else runN c L T i) else 0
theorem rd_app (L : List S29) (c : S29) (i : Nat) (h : i < L.length) : rd_T29 (L ++ [c]) (i : Int) = rd_T29 L (i : Int) := by
  unfold rd_T29
  rw [Int.toNat_natCast, List.getD_eq_getElem?_getD, List.getD_eq_getElem?_getD, List.getElem?_append_left h]
theorem rd_end (L : List S29) (c : S29) : rd_T29 (L ++ [c]) (L.length : Int) = c := by
  unfold rd_T29
  rw [Int.toNat_natCast, List.getD_eq_getElem?_getD, List.getElem?_append_right (Nat.le_refl _)]
  simp
theorem tk_app (T : List Bool) (t : Bool) (i : Nat) (h : i < T.length) : (T ++ [t]).getD i false = T.getD i false := by
  rw [List.getD_eq_getElem?_getD, List.getD_eq_getElem?_getD, List.getElem?_append_left h]
theorem tk_end (T : List Bool) (t : Bool) (n : Nat) (h : T.length = n) : (T ++ [t]).getD n false = t := by
  subst h
  rw [List.getD_eq_getElem?_getD, List.getElem?_append_right (Nat.le_refl _)]
  simp
theorem rowSt_app (L : List S29) (T : List Bool) (c : S29) (t : Bool) (hl : T.length = L.length) : ∀ i, i < L.length → rowSt (L ++ [c]) (T ++ [t]) i = rowSt L T i
  | 0, _ => rfl
  | i + 1, h => by
    unfold rowSt
    rw [rowSt_app L T c t hl i (by omega), rd_app L c i (by omega), rd_app L c (i + 1) h, tk_app T t i (by omega)]
theorem runN_app (x : S29) (L : List S29) (T : List Bool) (c : S29) (t : Bool) (hl : T.length = L.length) : ∀ i, i ≤ L.length → runN x (L ++ [c]) (T ++ [t]) i = runN x L T i
  | 0, _ => rfl
  | i + 1, h => by
    unfold runN
    rw [runN_app x L T c t hl i (by omega), rd_app L c i (by omega), tk_app T t i (by omega)]
theorem rowSt_le (L : List S29) (T : List Bool) : ∀ i : Nat, 0 ≤ (rowSt L T i).1 ∧ (rowSt L T i).1 ≤ i
  | 0 => ⟨Int.le_refl _, Int.le_refl _⟩
  | i + 1 => by
    have := rowSt_le L T i
    unfold rowSt
    split
    · simp only; omega
    · split <;> simp only <;> omega
theorem runN_le (c : S29) (L : List S29) (T : List Bool) : ∀ i : Nat, 0 ≤ runN c L T i ∧ runN c L T i ≤ i
  | 0 => ⟨Int.le_refl _, Int.le_refl _⟩
  | i + 1 => by
    have := runN_le c L T i
    unfold runN
    split
    · split <;> omega
    · omega
theorem runN_col (c d : S29) (L : List S29) (T : List Bool) (h0 : c.f0.toList = d.f0.toList) (h1 : c.f1.toList = d.f1.toList) (h2 : c.f2.toList = d.f2.toList) : ∀ i : Nat, runN c L T i = runN d L T i
  | 0 => rfl
  | i + 1 => by
    unfold runN
    rw [runN_col c d L T h0 h1 h2 i, h0, h1, h2]
/-- What the program keeps is what the document goes through. -/
structure Lk (s : Sv) (L : List S29) (T : List Bool) : Prop where
  len : T.length = L.length
  nil : L.length = 0 → s = sv0
  cons : ∀ m : Nat, L.length = m + 1 → s.some = true ∧ s.c = rd_T29 L (m : Int) ∧ s.n = runN (rd_T29 L (m : Int)) L T (m + 1) ∧ s.rows = (rowSt L T m).1 ∧ s.hit = ((rowSt L T m).2 || T.getD m false)
theorem Lk.start : Lk sv0 [] [] := ⟨rfl, fun _ => rfl, fun m h => by simp at h⟩
theorem Lk.turn {s : Sv} {L : List S29} {T : List Bool} (h : Lk s L T) (hl : L.length ≤ 1000) (c : S29) (t : Bool) :
    turnN s.c.f0 s.c.f1 s.c.f2 s.n c.f0 c.f1 c.f2 = runN c (L ++ [c]) (T ++ [t]) L.length ∧ turnRows s.c.f0 s.some s.rows s.hit c.f0 = (rowSt (L ++ [c]) (T ++ [t]) L.length).1 ∧ turnHit s.c.f0 s.some s.hit c.f0 = (rowSt (L ++ [c]) (T ++ [t]) L.length).2 := by
  rcases Nat.eq_zero_or_pos L.length with h0 | h0
  · obtain rfl := h.nil h0
    rw [h0]
    refine ⟨?_, ?_, ?_⟩
    · unfold turnN runN sv0
      split <;> rfl
    · unfold turnRows rowSt sv0
      rw [if_neg (by simp)]
    · unfold turnHit rowSt sv0
      rw [if_neg (by simp)]
  · obtain ⟨m, hm⟩ : ∃ m, L.length = m + 1 := ⟨L.length - 1, by omega⟩
    obtain ⟨h1, h2, h3, h4, h5⟩ := h.cons m hm
    have hr := rowSt_le L T m
    have e1 : rd_T29 (L ++ [c]) (m : Int) = s.c := by rw [rd_app L c m (by omega), h2]
    have e2 : rd_T29 (L ++ [c]) ((m + 1 : Nat) : Int) = c := by rw [← hm]; exact rd_end L c
    have e3 : (T ++ [t]).getD m false = T.getD m false := tk_app T t m (by have := h.len; omega)
    have e4 := rowSt_app L T c t h.len m (by omega)
    rw [hm]
    refine ⟨?_, ?_, ?_⟩
    · by_cases hc : c.f0.toList = s.c.f0.toList ∧ c.f1.toList = s.c.f1.toList ∧ c.f2.toList = s.c.f2.toList
      · unfold turnN
        rw [if_pos hc, h3, ← h2, runN_app c L T c t h.len (m + 1) (by omega)]
        exact runN_col _ _ L T hc.1.symm hc.2.1.symm hc.2.2.symm _
      · unfold turnN runN
        rw [if_neg hc, e1, if_neg (fun h => hc ⟨h.1.symm, h.2.1.symm, h.2.2.symm⟩)]
    · unfold turnRows rowSt
      rw [e1, e2, e3, e4, ← h5, ← h4, h1]
      by_cases hc : s.c.f0.toList = c.f0.toList
      · rw [if_neg (fun h => h.2.1 hc.symm), if_pos hc]
      · rw [if_neg hc]
        cases s.hit with
        | true => rw [if_pos ⟨rfl, fun h => hc h.symm, rfl⟩, if_pos rfl]; unfold wrap64; simp only; omega
        | false => rw [if_neg (fun h => by cases h.2.2), if_neg (by simp)]
    · unfold turnHit rowSt
      rw [e1, e2, e3, e4, ← h5, h1]
      by_cases hc : s.c.f0.toList = c.f0.toList
      · rw [if_neg (fun h => h.2 hc.symm), if_pos hc]
      · rw [if_pos ⟨rfl, fun h => hc h.symm⟩, if_neg hc]
section
variable (f0 : List ByteArray) (f1 f2 : ByteArray) (f3 f4 f5 f6 : Int)
/-- May nothing be taken any more, so many rows being told? -/
def doneB (f6 rows : Int) : Bool := !(decide (f6 = 0)) && decide (rows ≥ f6)
def okB (c : S29) (n rows : Int) : Bool := lets f0 f1 f2 f3 f4 f5 f6 c && ((decide (f5 = 0) || decide (n < f5)) && !(doneB f6 rows))
theorem Lk.take {s : Sv} {L : List S29} {T : List Bool} (h : Lk s L T) (hl : L.length ≤ 1000) (c : S29) (t : Bool) : svTake f0 f1 f2 f3 f4 f5 f6 s c = okB f0 f1 f2 f3 f4 f5 f6 c (runN c (L ++ [c]) (T ++ [t]) L.length) (rowSt (L ++ [c]) (T ++ [t]) L.length).1 := by
  obtain ⟨h1, h2, h3⟩ := h.turn hl c t
  unfold svTake Q.takeB okB doneB lets
  rw [h1, h2]
theorem Lk.next {s : Sv} {L : List S29} {T : List Bool} (h : Lk s L T) (hl : L.length ≤ 1000) (c : S29) : Lk (svNext f0 f1 f2 f3 f4 f5 f6 s c) (L ++ [c]) (T ++ [svTake f0 f1 f2 f3 f4 f5 f6 s c]) := by
  obtain ⟨h1, h2, h3⟩ := h.turn hl c (svTake f0 f1 f2 f3 f4 f5 f6 s c)
  refine ⟨by simp [h.len], fun h => by simp at h, fun m hm => ?_⟩
  obtain rfl : L.length = m := by simpa using hm
  have e1 := rd_end L c
  have e2 := tk_end T (svTake f0 f1 f2 f3 f4 f5 f6 s c) L.length h.len
  have hb := runN_le c (L ++ [c]) (T ++ [svTake f0 f1 f2 f3 f4 f5 f6 s c]) L.length
  have ht : Q.takeB f0 f1 f2 f3 f4 f5 f6 s.c.f0 s.c.f1 s.c.f2 s.c.f3 s.c.f4 s.c.f5.f0 s.c.f5.f1 s.c.f5.f2 s.some s.n s.rows s.hit c.f0 c.f1 c.f2 c.f3 c.f4 c.f5.f0 c.f5.f1 c.f5.f2 = svTake f0 f1 f2 f3 f4 f5 f6 s c := rfl
  rw [e1, e2]
  unfold svNext
  rw [ht]
  generalize svTake f0 f1 f2 f3 f4 f5 f6 s c = q at *
  refine ⟨rfl, rfl, ?_, h2, ?_⟩
  · show (if q = true then _ else _) = _
    rw [h1]
    conv => rhs; unfold runN
    rw [e1, e2, if_pos (show c.f0.toList = c.f0.toList ∧ c.f1.toList = c.f1.toList ∧ c.f2.toList = c.f2.toList from ⟨rfl, rfl, rfl⟩)]
    cases q with
    | true => rw [if_pos rfl, if_pos rfl]; unfold wrap64; omega
    | false => rw [if_neg (by simp), if_neg (by simp)]
  · show (q || _) = _
    rw [h3, Bool.or_comm]
end
end Go.Proofs.Ythbgjaboghnpjaa.R

namespace Go.Proofs.Ythbgjaboghnpjaa.R
open Go.RowKit Go.Proofs.Ythbgjaboghnpjaa.Q Go.Proofs.Ythbgjaboghnpjaa.Pure Go.Proofs.YthbgjaboghnpjaaW.PrintWords Go.Proofs.YthbgjaboghnpjaaW.PrintLast Go.Proofs.YthbgjaboghnpjaaW.PrintMore
set_option linter.unusedVariables false
set_option linter.unusedSimpArgs false
/-- The document's sieve, as it is read. -/
structure Kr (W : World) (R : Nat) (A : Option Addr) (c : Nat) (f0 : List ByteArray) (f1 f2 : ByteArray) (f3 f4 f5 f6 : Int) (A7 : Option Addr) (c7 : Nat) (A8 : Option Addr) (c8 : Nat) (L : List S29) (T : List Bool) : Prop where
  box : W.heap[R]? = some (.cells #[.slice A f0.length c, .string f1, .string f2, .int .i64 f3, .int .i64 f4, .int .i64 f5, .int .i64 f6, .slice A7 L.length c7, .slice A8 T.length c8] 45 (0, 0))
  c7 : Kd.C k29 W A7 L.length L
  c8 : ∀ i, i < T.length → ∃ ad, A8 = some ad ∧ W.cell? (ad.add i) = some (.bool (T.getD i false))
  len : T.length = L.length
section
variable {W W' : World} {R : Nat} {A : Option Addr} {c : Nat} {f0 : List ByteArray} {f1 f2 : ByteArray} {f3 f4 f5 f6 : Int} {A7 : Option Addr} {c7 : Nat} {A8 : Option Addr} {c8 : Nat} {L : List S29} {T : List Bool}
theorem Kr.below (h : Kr W R A c f0 f1 f2 f3 f4 f5 f6 A7 c7 A8 c8 L T) (hb : Below W.heap.size W W') : Kr W' R A c f0 f1 f2 f3 f4 f5 f6 A7 c7 A8 c8 L T :=
  ⟨(hb.block _ (lt_of_block h.box)).trans h.box, Kd.C_below h.c7 hb, fun i hi => by obtain ⟨ad, e, hc⟩ := h.c8 i hi; exact ⟨ad, e, cellB hb hc⟩, h.len⟩
theorem Kr.drewN (h : Kr W R A c f0 f1 f2 f3 f4 f5 f6 A7 c7 A8 c8 L T) (n : Nat) : Kr (W.drewN n) R A c f0 f1 f2 f3 f4 f5 f6 A7 c7 A8 c8 L T := h.below (pw_below_drewN (Below.refl _ _) n)
theorem Kr.q0 (h : Kr W R A c f0 f1 f2 f3 f4 f5 f6 A7 c7 A8 c8 L T) : W.cell? ⟨R, 0, none⟩ = some (.slice A f0.length c) := by simp [World.cell?, h.box]
theorem Kr.q1 (h : Kr W R A c f0 f1 f2 f3 f4 f5 f6 A7 c7 A8 c8 L T) : W.cell? ⟨R, 1, none⟩ = some (.string f1) := by simp [World.cell?, h.box]
theorem Kr.q2 (h : Kr W R A c f0 f1 f2 f3 f4 f5 f6 A7 c7 A8 c8 L T) : W.cell? ⟨R, 2, none⟩ = some (.string f2) := by simp [World.cell?, h.box]
theorem Kr.q3 (h : Kr W R A c f0 f1 f2 f3 f4 f5 f6 A7 c7 A8 c8 L T) : W.cell? ⟨R, 3, none⟩ = some (.int .i64 f3) := by simp [World.cell?, h.box]
theorem Kr.q4 (h : Kr W R A c f0 f1 f2 f3 f4 f5 f6 A7 c7 A8 c8 L T) : W.cell? ⟨R, 4, none⟩ = some (.int .i64 f4) := by simp [World.cell?, h.box]
theorem Kr.q5 (h : Kr W R A c f0 f1 f2 f3 f4 f5 f6 A7 c7 A8 c8 L T) : W.cell? ⟨R, 5, none⟩ = some (.int .i64 f5) := by simp [World.cell?, h.box]
theorem Kr.q6 (h : Kr W R A c f0 f1 f2 f3 f4 f5 f6 A7 c7 A8 c8 L T) : W.cell? ⟨R, 6, none⟩ = some (.int .i64 f6) := by simp [World.cell?, h.box]
theorem Kr.q7 (h : Kr W R A c f0 f1 f2 f3 f4 f5 f6 A7 c7 A8 c8 L T) : W.cell? ⟨R, 7, none⟩ = some (.slice A7 L.length c7) := by simp [World.cell?, h.box]
theorem Kr.q8 (h : Kr W R A c f0 f1 f2 f3 f4 f5 f6 A7 c7 A8 c8 L T) : W.cell? ⟨R, 8, none⟩ = some (.slice A8 T.length c8) := by simp [World.cell?, h.box]
end
section
variable (w : World) (R : Nat) (A : Option Addr) (c : Nat) (f0 : List ByteArray) (f1 f2 : ByteArray) (f3 f4 f5 f6 : Int) (A7 : Option Addr) (c7 : Nat) (A8 : Option Addr) (c8 : Nat) (L : List S29) (T : List Bool)
set_option maxHeartbeats 2000000 in
theorem rRows (h : Kr w R A c f0 f1 f2 f3 f4 f5 f6 A7 c7 A8 c8 L T) (m : Nat) (hm : L.length = m + 1) (hl : m ≤ 1000) :
    Calls Try.prog 38 #[.pointer (some ⟨R, 0, none⟩)] w fun e w' => e = .returned (.int .i64 (rowSt L T m).1) ∧ Drawn0 w w' := by
  have HK := Lib.hid h
  have hz7 := h.q7
  have hz8 := h.q8
  have hlen := h.len
  clear h
  go_enter Try.func38, Try.ntmps38
  go_wp2_with fail
  go_loopg [3, 4, 5] m (fun gg v3 v4 v5 W => ∃ i : Nat, i ≤ m ∧ m - i ≤ gg ∧ v3 = .int .i64 (rowSt L T i).1 ∧ v4 = .bool (rowSt L T i).2 ∧ v5 = .int .i64 i ∧ Drawn0 w W)
  case atStart => exact ⟨0, by omega, by omega, rfl, rfl, rfl, Drawn0.refl _⟩
  case round =>
    obtain ⟨i, hi, hg, rfl, rfl, rfl, ⟨q, rfl⟩⟩ := hrel
    have hw : IntKind.i64.wrap ((i : Int) + 1) = ((i + 1 : Nat) : Int) := by rw [IntWalk.i64_in _ (by omega)]; omega
    by_cases hlt : i < m
    · have hi0 : (0 : Int) ≤ (i : Int) := by omega
      have hi1 : (i : Int) < (L.length : Int) := by omega
      have hi2 : (i : Int) < (T.length : Int) := by omega
      have hj0 : (0 : Int) ≤ ((i + 1 : Nat) : Int) := by omega
      have hj1 : ((i + 1 : Nat) : Int) < (L.length : Int) := by omega
      obtain ⟨ad, e, x0, _⟩ := at_T29 HK.out.c7 (i : Int) hi0 hi1
      obtain ⟨ad', e', y0, _⟩ := at_T29 HK.out.c7 ((i + 1 : Nat) : Int) hj0 hj1
      subst e
      obtain rfl : ad = ad' := by injection e'
      obtain ⟨ad8, e8, z0⟩ := HK.out.c8 i (by omega)
      subst e8
      rw [Int.toNat_natCast] at x0 y0
      have HR : Hid (rowSt L T (i + 1) = _) := rowSt.eq_2 L T i
      have hb := rowSt_le L T i
      generalize rd_T29 L (i : Int) = X at x0 HR
      generalize rd_T29 L ((i + 1 : Nat) : Int) = Y at y0 HR
      generalize T.getD i false = t at z0 HR
      have hw2 : IntKind.i64.wrap ((rowSt L T i).1 + 1) = (rowSt L T i).1 + 1 := IntWalk.i64_in _ (by omega)
      generalize rowSt L T i = p at HR hb hw2
      obtain ⟨n, h⟩ := p
      simp only at HR hw2 ⊢
      clear e' hb
      by_cases hs : X.f0.toList = Y.f0.toList
      · have hb : (X.f0.toList == Y.f0.toList) = true := by simp [hs]
        have HS := Lib.hid hs
        clear hs
        cases h with
        | true =>
          cases t with
          | true =>
            go_wp2_with fail
            go_quiet (fail)
            go_wp2_with fail
            go_roundg (m - (i + 1))
            case measure => omega
            case rel => exact ⟨i + 1, by omega, by omega, by rw [HR.out, if_pos HS.out]; try (first | rfl | (rw [hw2]; rfl) | rw [hw2]), by rw [HR.out, if_pos HS.out]; try rfl, by go_num, ⟨_, rfl⟩⟩
          | false =>
            go_wp2_with fail
            go_quiet (fail)
            go_wp2_with fail
            go_roundg (m - (i + 1))
            case measure => omega
            case rel => exact ⟨i + 1, by omega, by omega, by rw [HR.out, if_pos HS.out]; try (first | rfl | (rw [hw2]; rfl) | rw [hw2]), by rw [HR.out, if_pos HS.out]; try rfl, by go_num, ⟨_, rfl⟩⟩
        | false =>
          cases t with
          | true =>
            go_wp2_with fail
            go_quiet (fail)
            go_wp2_with fail
            go_roundg (m - (i + 1))
            case measure => omega
            case rel => exact ⟨i + 1, by omega, by omega, by rw [HR.out, if_pos HS.out]; try (first | rfl | (rw [hw2]; rfl) | rw [hw2]), by rw [HR.out, if_pos HS.out]; try rfl, by go_num, ⟨_, rfl⟩⟩
          | false =>
            go_wp2_with fail
            go_quiet (fail)
            go_wp2_with fail
            go_roundg (m - (i + 1))
            case measure => omega
            case rel => exact ⟨i + 1, by omega, by omega, by rw [HR.out, if_pos HS.out]; try (first | rfl | (rw [hw2]; rfl) | rw [hw2]), by rw [HR.out, if_pos HS.out]; try rfl, by go_num, ⟨_, rfl⟩⟩
      · have hb : (X.f0.toList == Y.f0.toList) = false := by simp [hs]
        have HS := Lib.hid hs
        clear hs
        cases h with
        | true =>
          cases t with
          | true =>
            go_wp2_with fail
            go_quiet (fail)
            go_wp2_with fail
            go_roundg (m - (i + 1))
            case measure => omega
            case rel => exact ⟨i + 1, by omega, by omega, by rw [HR.out, if_neg HS.out]; try (first | rfl | (rw [hw2]; rfl) | rw [hw2]), by rw [HR.out, if_neg HS.out]; try rfl, by go_num, ⟨_, rfl⟩⟩
          | false =>
            go_wp2_with fail
            go_quiet (fail)
            go_wp2_with fail
            go_roundg (m - (i + 1))
            case measure => omega
            case rel => exact ⟨i + 1, by omega, by omega, by rw [HR.out, if_neg HS.out]; try (first | rfl | (rw [hw2]; rfl) | rw [hw2]), by rw [HR.out, if_neg HS.out]; try rfl, by go_num, ⟨_, rfl⟩⟩
        | false =>
          cases t with
          | true =>
            go_wp2_with fail
            go_quiet (fail)
            go_wp2_with fail
            go_roundg (m - (i + 1))
            case measure => omega
            case rel => exact ⟨i + 1, by omega, by omega, by rw [HR.out, if_neg HS.out]; try (first | rfl | (rw [hw2]; rfl) | rw [hw2]), by rw [HR.out, if_neg HS.out]; try rfl, by go_num, ⟨_, rfl⟩⟩
          | false =>
            go_wp2_with fail
            go_quiet (fail)
            go_wp2_with fail
            go_roundg (m - (i + 1))
            case measure => omega
            case rel => exact ⟨i + 1, by omega, by omega, by rw [HR.out, if_neg HS.out]; try (first | rfl | (rw [hw2]; rfl) | rw [hw2]), by rw [HR.out, if_neg HS.out]; try rfl, by go_num, ⟨_, rfl⟩⟩
    · have : i = m := by omega
      subst this
      have hn : ¬ ((i + 1 : Nat) : Int) < (L.length : Int) := by omega
      go_wp2_with fail
      go_ret
      exact ⟨rfl, ⟨q, rfl⟩⟩
end
end Go.Proofs.Ythbgjaboghnpjaa.R

namespace Go.Proofs.Ythbgjaboghnpjaa.R
open Go.RowKit Go.Proofs.Ythbgjaboghnpjaa.Q Go.Proofs.Ythbgjaboghnpjaa.Pure Go.Proofs.YthbgjaboghnpjaaW.PrintWords Go.Proofs.YthbgjaboghnpjaaW.PrintLast Go.Proofs.YthbgjaboghnpjaaW.PrintMore
set_option linter.unusedVariables false
set_option linter.unusedSimpArgs false
section
variable (w : World) (R : Nat) (A : Option Addr) (c : Nat) (f0 : List ByteArray) (f1 f2 : ByteArray) (f3 f4 f5 f6 : Int) (A7 : Option Addr) (c7 : Nat) (A8 : Option Addr) (c8 : Nat) (L : List S29) (T : List Bool)
set_option maxHeartbeats 2000000 in
theorem rDone (h : Kr w R A c f0 f1 f2 f3 f4 f5 f6 A7 c7 A8 c8 L T) (m : Nat) (hm : L.length = m + 1) (hl : m ≤ 1000) :
    Calls Try.prog 24 #[.pointer (some ⟨R, 0, none⟩)] w fun e w' => e = .returned (.bool (doneB f6 (rowSt L T m).1)) ∧ Drawn0 w w' := by
  have HK := Lib.hid h
  have hz6 := h.q6
  have HR : Hid (∀ n, Calls Try.prog 38 #[.pointer (some ⟨R, 0, none⟩)] (w.drewN n) fun e w' => e = .returned (.int .i64 (rowSt L T m).1) ∧ ∃ m, w' = (w.drewN n).drewN m) := fun n => (rRows (w.drewN n) R A c f0 f1 f2 f3 f4 f5 f6 A7 c7 A8 c8 L T (h.drewN n) m hm hl).mono fun e w' ⟨he, hd⟩ => ⟨he, hd.out⟩
  clear h
  have HD : Hid (doneB f6 (rowSt L T m).1 = (!(decide (f6 = 0)) && decide ((rowSt L T m).1 ≥ f6))) := rfl
  generalize (rowSt L T m).1 = x at HR HD ⊢
  by_cases h6 : f6 = 0
  · subst h6
    have HB := Lib.hid (show doneB 0 x = false by rw [HD.out]; rfl)
    rw [HB.out]
    go_enter Try.func24, Try.ntmps24
    go_wp2_with fail
    go_quiet (fail)
    go_wp2_with fail
    go_ret
    exact ⟨rfl, ⟨_, rfl⟩⟩
  · have h6b : (f6 != 0) = true := by simp [h6]
    by_cases hx : x ≥ f6
    · have HB := Lib.hid (show doneB f6 x = true by rw [HD.out]; simp [h6, hx])
      rw [HB.out]
      have hxb : decide (x ≥ f6) = true := decide_eq_true hx
      clear hx
      go_enter Try.func24, Try.ntmps24
      go_wp2_with fail
      go_quiet ((go_at_call 38; exact Calls.quiet_of (HR.out _)))
      go_wp2_with fail
      go_ret
      exact ⟨rfl, ⟨_, rfl⟩⟩
    · have HB := Lib.hid (show doneB f6 x = false by rw [HD.out]; simp [hx])
      rw [HB.out]
      have hxb : decide (x ≥ f6) = false := decide_eq_false hx
      clear hx
      go_enter Try.func24, Try.ntmps24
      go_wp2_with fail
      go_quiet ((go_at_call 38; exact Calls.quiet_of (HR.out _)))
      go_wp2_with fail
      go_ret
      exact ⟨rfl, ⟨_, rfl⟩⟩
end
end Go.Proofs.Ythbgjaboghnpjaa.R

namespace Go.Proofs.Ythbgjaboghnpjaa.R
open Go.RowKit Go.Proofs.Ythbgjaboghnpjaa.Q Go.Proofs.Ythbgjaboghnpjaa.Pure Go.Proofs.YthbgjaboghnpjaaW.PrintWords Go.Proofs.YthbgjaboghnpjaaW.PrintLast Go.Proofs.YthbgjaboghnpjaaW.PrintMore
set_option linter.unusedVariables false
set_option linter.unusedSimpArgs false
def xcells (x : S29) : Array Value := #[.string x.f0, .string x.f1, .string x.f2, .int .i64 x.f3, .int .i64 x.f4, .int .i64 x.f5.f0, .int .i64 x.f5.f1, .string x.f5.f2]
def bools (T : List Bool) : List Value := T.map Value.bool
theorem row_eq {w w' : World} {base e size n : Nat} {v : Value} {xs : List Value} (h : w.ownsRow base e size v n xs) (he : ∀ k, v.ownBlock = some k → w'.heap[k]? = w.heap[k]?) : w'.ownsRow base e size v n xs := own_move h he
/-- The document's sieve while it takes a cell: va and vb lie in its box, v7 and v8 are its rows. -/
structure Md (w0 w W : World) (R : Nat) (A : Option Addr) (c : Nat) (f0 : List ByteArray) (f1 f2 : ByteArray) (f3 f4 f5 f6 : Int) (va vb v7 v8 : Value) (L : List S29) (T : List Bool) (X : Nat) (x : S29) (P : Nat → Prop) : Prop where
  box : W.heap[R]? = some (.cells #[.slice A f0.length c, .string f1, .string f2, .int .i64 f3, .int .i64 f4, .int .i64 f5, .int .i64 f6, va, vb] 45 (0, 0))
  r7 : Kd.R k29 29 W w0.heap.size (fun _ => True) v7 L
  r8 : W.ownsRow w0.heap.size 4 1 v8 T.length (bools T)
  ge : w0.heap.size ≤ R
  bel : Below w0.heap.size w0 W
  xb : W.heap[X]? = some (.cells (xcells x) 29 (0, 0))
  n7 : ∀ k, v7.ownBlock = some k → k ≠ X
  kp : ∀ k, P k → W.heap[k]? = w.heap[k]?
  p0 : ∀ k, P k → k < W.heap.size ∧ k ≠ R
  p7 : ∀ k, P k → some k ≠ v7.ownBlock
  p8 : ∀ k, P k → some k ≠ v8.ownBlock
  gx : w0.heap.size ≤ X
section
variable {w0 w W W' : World} {R : Nat} {A : Option Addr} {c : Nat} {f0 : List ByteArray} {f1 f2 : ByteArray} {f3 f4 f5 f6 : Int} {va vb v7 v8 v7' v8' : Value} {L L' : List S29} {T T' : List Bool} {X : Nat} {x : S29} {P : Nat → Prop}
theorem typ_ne {W : World} {a b : Nat} {cs ds : Array Value} {s t : Nat} (h1 : W.heap[a]? = some (.cells cs s (0, 0))) (h2 : W.heap[b]? = some (.cells ds t (0, 0))) (h : s ≠ t) : a ≠ b := by
  rintro rfl
  rw [h1] at h2
  injection h2 with h2
  injection h2 with _ h3
  exact h h3
theorem Md.below (h : Md w0 w W R A c f0 f1 f2 f3 f4 f5 f6 va vb v7 v8 L T X x P) (hb : Below W.heap.size W W') : Md w0 w W' R A c f0 f1 f2 f3 f4 f5 f6 va vb v7 v8 L T X x P :=
  ⟨(hb.block _ (lt_of_block h.box)).trans h.box, Kd.R_below h.r7 hb, row_eq h.r8 (fun k hk => hb.block k (World.ownsRow.lt h.r8 k hk).2), h.ge, h.bel.trans (hb.mono h.bel.size), (hb.block _ (lt_of_block h.xb)).trans h.xb, h.n7,
   fun k hk => (hb.block k (h.p0 k hk).1).trans (h.kp k hk), fun k hk => ⟨Nat.lt_of_lt_of_le (h.p0 k hk).1 hb.size, (h.p0 k hk).2⟩, h.p7, h.p8, h.gx⟩
theorem Md.alloc (h : Md w0 w W R A c f0 f1 f2 f3 f4 f5 f6 va vb v7 v8 L T X x P) (o : Obj) : Md w0 w (W.alloc o) R A c f0 f1 f2 f3 f4 f5 f6 va vb v7 v8 L T X x P := h.below ((Below.refl _ _).alloc (Nat.le_refl _) o)
theorem own_type {base e size n : Nat} {v : Value} {xs : List Value} (h : W.ownsRow base e size v n xs) (k : Nat) (hk : v.ownBlock = some k) : ∃ cs, W.heap[k]? = some (.cells cs e (0, 0)) := own_typed h k hk
theorem Md.t7 (h : Md w0 w W R A c f0 f1 f2 f3 f4 f5 f6 va vb v7 v8 L T X x P) : ∀ k, v7.ownBlock = some k → ∃ cs, W.heap[k]? = some (.cells cs 29 (0, 0)) := by
  obtain ⟨inner, ho⟩ := Kd.R_own h.r7
  exact own_type ho
theorem Md.t8 (h : Md w0 w W R A c f0 f1 f2 f3 f4 f5 f6 va vb v7 v8 L T X x P) : ∀ k, v8.ownBlock = some k → ∃ cs, W.heap[k]? = some (.cells cs 4 (0, 0)) := own_type h.r8
/-- A cell is appended. -/
theorem Md.app7 (h : Md w0 w W R A c f0 f1 f2 f3 f4 f5 f6 va vb v7 v8 L T X x P) (hr : Kd.R k29 29 W' w0.heap.size (fun _ => True) v7' L') (hb : Below w0.heap.size w0 W') (hg : W.grownBy W' v7.ownBlock) (hat : v7'.ownBlock = v7.ownBlock ∨ ∃ b, v7'.ownBlock = some b ∧ W.heap.size ≤ b) : Md w0 w W' R A c f0 f1 f2 f3 f4 f5 f6 va vb v7' v8 L' T X x P := by
  have hne : ∀ (k : Nat) (cs : Array Value) (t : Nat), W.heap[k]? = some (.cells cs t (0, 0)) → t ≠ 29 → some k ≠ v7.ownBlock := fun k cs t hk ht e => by
    obtain ⟨ds, hd⟩ := h.t7 k e.symm
    exact typ_ne hk hd ht rfl
  refine ⟨(hg.block R (lt_of_block h.box) (hne _ _ _ h.box (by decide))).trans h.box, hr, ?_, h.ge, hb, ?_, ?_, fun k hk => (hg.block k (h.p0 k hk).1 (h.p7 k hk)).trans (h.kp k hk), fun k hk => ⟨Nat.lt_of_lt_of_le (h.p0 k hk).1 hg.size, (h.p0 k hk).2⟩, ?_, h.p8, h.gx⟩
  · refine row_eq h.r8 (fun k hk => ?_)
    obtain ⟨cs, hc⟩ := h.t8 k hk
    exact hg.block k (lt_of_block hc) (hne k cs 4 hc (by decide))
  · exact (hg.block X (lt_of_block h.xb) (fun e => h.n7 X e.symm rfl)).trans h.xb
  · intro k hk
    rcases hat with e | ⟨b, e, hle⟩
    · exact h.n7 k (e ▸ hk)
    · rw [hk] at e
      injection e with e
      have := lt_of_block h.xb
      omega
  · intro k hk hk'
    rcases hat with e | ⟨b, e, hle⟩
    · exact h.p7 k hk (hk'.trans e)
    · rw [← hk'] at e
      injection e with e
      have := (h.p0 k hk).1
      omega
/-- A mark is appended. -/
theorem Md.app8 (h : Md w0 w W R A c f0 f1 f2 f3 f4 f5 f6 va vb v7 v8 L T X x P) (hr : W'.ownsRow w0.heap.size 4 1 v8' T'.length (bools T')) (hg : W.grownBy W' v8.ownBlock) (hat : v8'.ownBlock = v8.ownBlock ∨ ∃ b, v8'.ownBlock = some b ∧ W.heap.size ≤ b) : Md w0 w W' R A c f0 f1 f2 f3 f4 f5 f6 va vb v7 v8' L T' X x P := by
  have hne : ∀ (k : Nat) (cs : Array Value) (t : Nat), W.heap[k]? = some (.cells cs t (0, 0)) → t ≠ 4 → some k ≠ v8.ownBlock := fun k cs t hk ht e => by
    obtain ⟨ds, hd⟩ := h.t8 k e.symm
    exact typ_ne hk hd ht rfl
  refine ⟨(hg.block R (lt_of_block h.box) (hne _ _ _ h.box (by decide))).trans h.box, ?_, hr, h.ge, ?_, ?_, h.n7, fun k hk => (hg.block k (h.p0 k hk).1 (h.p8 k hk)).trans (h.kp k hk), fun k hk => ⟨Nat.lt_of_lt_of_le (h.p0 k hk).1 hg.size, (h.p0 k hk).2⟩, h.p7, ?_, h.gx⟩
  · refine Kd.R_mono (Kd.R_step (Kd.R_bound h.r7) (fun k hk hlt => ?_)) (fun _ _ => trivial)
    obtain ⟨_, _, _, q, hq, cs, hc⟩ := hk
    exact hg.block k hlt (hne k cs q hc (by rintro rfl; revert hq; decide))
  · exact ⟨hg.os.trans h.bel.os, hg.tape.trans h.bel.tape, hg.output.trans h.bel.output, Nat.le_trans h.bel.size hg.size, fun k hk => (hg.block k (Nat.lt_of_lt_of_le hk h.bel.size) (fun e => by have := (World.ownsRow.lt h.r8 k e.symm).1; omega)).trans (h.bel.block k hk)⟩
  · exact (hg.block X (lt_of_block h.xb) (hne _ _ _ h.xb (by decide))).trans h.xb
  · intro k hk hk'
    rcases hat with e | ⟨b, e, hle⟩
    · exact h.p8 k hk (hk'.trans e)
    · rw [← hk'] at e
      injection e with e
      have := (h.p0 k hk).1
      omega
/-- A store into the box. -/
theorem Md.set (h : Md w0 w W R A c f0 f1 f2 f3 f4 f5 f6 va vb v7 v8 L T X x P) (i : Nat) (u va' vb' : Value) (hs : (#[.slice A f0.length c, .string f1, .string f2, .int .i64 f3, .int .i64 f4, .int .i64 f5, .int .i64 f6, va, vb] : Array Value).setIfInBounds i u = #[.slice A f0.length c, .string f1, .string f2, .int .i64 f3, .int .i64 f4, .int .i64 f5, .int .i64 f6, va', vb']) : Md w0 w (W.setCell ⟨R, i, none⟩ u) R A c f0 f1 f2 f3 f4 f5 f6 va' vb' v7 v8 L T X x P := by
  have hne : ∀ (k : Nat) (cs : Array Value) (t : Nat), W.heap[k]? = some (.cells cs t (0, 0)) → t ≠ 45 → k ≠ R := fun k cs t hk ht => typ_ne hk h.box ht
  have hst : ∀ (k : Nat) (cs : Array Value) (t : Nat), W.heap[k]? = some (.cells cs t (0, 0)) → t ≠ 45 → (W.setCell ⟨R, i, none⟩ u).heap[k]? = W.heap[k]? := fun k cs t hk ht => Below.heap_setCell _ _ _ _ (hne k cs t hk ht)
  refine ⟨?_, ?_, ?_, h.ge, ?_, (hst _ _ _ h.xb (by decide)).trans h.xb, h.n7, fun k hk => (Below.heap_setCell _ _ _ _ (h.p0 k hk).2).trans (h.kp k hk), fun k hk => ⟨by simpa [World.setCell] using (h.p0 k hk).1, (h.p0 k hk).2⟩, h.p7, h.p8, h.gx⟩
  · rw [← hs]
    exact blk_set h.box i u
  · refine Kd.R_mono (Kd.R_step (Kd.R_bound h.r7) (fun k hk hlt => ?_)) (fun _ _ => trivial)
    obtain ⟨_, _, _, q, hq, cs, hc⟩ := hk
    exact hst k cs q hc (by rintro rfl; revert hq; decide)
  · refine row_eq h.r8 (fun k hk => ?_)
    obtain ⟨cs, hc⟩ := h.t8 k hk
    exact hst k cs 4 hc (by decide)
  · exact h.bel.setCell h.ge _
/-- A mark is set. -/
theorem Md.put {g n q : Nat} (h : Md w0 w W R A c f0 f1 f2 f3 f4 f5 f6 va vb v7 (.slice (some ⟨g, 0, none⟩) n q) L T X x P) (i : Nat) (b : Bool) (hn : n = T.length) : Md w0 w (W.setCell ⟨g, i, none⟩ (.bool b)) R A c f0 f1 f2 f3 f4 f5 f6 va vb v7 (.slice (some ⟨g, 0, none⟩) n q) L (T.set i b) X x P := by
  subst hn
  obtain ⟨ho, hg⟩ := h.r8.stored i (.bool b)
  refine h.app8 ?_ hg (Or.inl rfl)
  rw [List.length_set]
  unfold bools at ho ⊢
  rw [List.map_set]
  exact ho
end
end Go.Proofs.Ythbgjaboghnpjaa.R

namespace Go.Proofs.Ythbgjaboghnpjaa.R
open Go.RowKit Go.Proofs.Ythbgjaboghnpjaa.Q Go.Proofs.Ythbgjaboghnpjaa.Pure Go.Proofs.YthbgjaboghnpjaaW.PrintWords Go.Proofs.YthbgjaboghnpjaaW.PrintLast Go.Proofs.YthbgjaboghnpjaaW.PrintMore
set_option linter.unusedVariables false
set_option linter.unusedSimpArgs false
/-- The document's sieve between two calls. -/
structure Ks (w0 W : World) (R : Nat) (A : Option Addr) (c : Nat) (f0 : List ByteArray) (f1 f2 : ByteArray) (f3 f4 f5 f6 : Int) (v7 v8 : Value) (L : List S29) (T : List Bool) : Prop where
  box : W.heap[R]? = some (.cells #[.slice A f0.length c, .string f1, .string f2, .int .i64 f3, .int .i64 f4, .int .i64 f5, .int .i64 f6, v7, v8] 45 (0, 0))
  r7 : Kd.R k29 29 W w0.heap.size (fun _ => True) v7 L
  r8 : W.ownsRow w0.heap.size 4 1 v8 T.length (bools T)
  ge : w0.heap.size ≤ R
  bel : Below w0.heap.size w0 W
  len : T.length = L.length
section
variable {w0 w W W' : World} {R : Nat} {A : Option Addr} {c : Nat} {f0 : List ByteArray} {f1 f2 : ByteArray} {f3 f4 f5 f6 : Int} {va vb v7 v8 v7' v8' : Value} {L L' : List S29} {T T' : List Bool} {X : Nat} {x : S29} {P : Nat → Prop}
/-- These blocks are none of the sieve's. -/
structure Off (w : World) (R : Nat) (v7 v8 : Value) (P : Nat → Prop) : Prop where
  p0 : ∀ k, P k → k < w.heap.size ∧ k ≠ R
  p7 : ∀ k, P k → some k ≠ v7.ownBlock
  p8 : ∀ k, P k → some k ≠ v8.ownBlock
theorem Ks.md (h : Ks w0 w R A c f0 f1 f2 f3 f4 f5 f6 v7 v8 L T) (hP : Off w R v7 v8 P) : Md w0 w (w.alloc (.cells (xcells x) 29)) R A c f0 f1 f2 f3 f4 f5 f6 v7 v8 v7 v8 L T w.heap.size x P := by
  have hb : Below w.heap.size w (w.alloc (.cells (xcells x) 29)) := (Below.refl _ _).alloc (Nat.le_refl _) _
  refine ⟨(hb.block _ (lt_of_block h.box)).trans h.box, Kd.R_below h.r7 hb, row_eq h.r8 (fun k hk => hb.block k (World.ownsRow.lt h.r8 k hk).2), h.ge, h.bel.trans (hb.mono h.bel.size), heap_alloc_new _ _, fun k hk => ?_, fun k hk => hb.block k (hP.p0 k hk).1, fun k hk => ⟨Nat.lt_of_lt_of_le (hP.p0 k hk).1 hb.size, (hP.p0 k hk).2⟩, hP.p7, hP.p8, h.bel.size⟩
  have := Kd.R_lt h.r7 k hk
  omega
theorem Md.ks (h : Md w0 w W R A c f0 f1 f2 f3 f4 f5 f6 v7 v8 v7 v8 L T X x P) (hl : T.length = L.length) : Ks w0 W R A c f0 f1 f2 f3 f4 f5 f6 v7 v8 L T := ⟨h.box, h.r7, h.r8, h.ge, h.bel, hl⟩
theorem own_sl {w : World} {base e size n : Nat} {v : Value} {xs : List Value} (h : w.ownsRow base e size v n xs) : ∃ A c, v = .slice A n c := by
  rcases h.2 with ⟨rfl, rfl⟩ | ⟨g, cap, cur, rfl, _⟩
  · exact ⟨none, 0, rfl⟩
  · exact ⟨_, cap, rfl⟩
theorem Md.kr {A7 A8 : Option Addr} {n7 n8 c7 c8 : Nat} (h : Md w0 w W R A c f0 f1 f2 f3 f4 f5 f6 (.slice A7 n7 c7) (.slice A8 n8 c8) (.slice A7 n7 c7) (.slice A8 n8 c8) L T X x P) (hn7 : n7 = L.length) (hn8 : n8 = T.length) (hl : T.length = L.length) : Kr W R A c f0 f1 f2 f3 f4 f5 f6 A7 c7 A8 c8 L T := by
  subst hn7 hn8
  refine ⟨h.box, (Kd.R_reads' h.r7).2.2, fun i hi => ?_, hl⟩
  have h8 := h.r8
  rcases h8.2 with ⟨e, e'⟩ | ⟨g, cap, cur, e, _⟩
  · injection e with _ e _
    omega
  · injection e with e1 e2 e3
    subst e1
    refine ⟨_, rfl, h8.cells (g := g) rfl i _ ?_⟩
    unfold bools
    rw [List.getElem?_map, List.getD_eq_getElem?_getD, List.getElem?_eq_getElem hi]
    rfl
/-- What an append of a cell leaves. -/
theorem app_end {W1 w2 : World} {inner : List Value} (h : Md w0 w W1 R A c f0 f1 f2 f3 f4 f5 f6 va vb v7 v8 L T X x P) (hW : Below W1.heap.size W1 W) (hr : Reps (k29.M W1 w0.heap.size (fun k => True ∧ some k ≠ v7.ownBlock)) 8 L inner) (ho : w2.ownsRow w0.heap.size 29 8 v7' (L.length + 1) (inner ++ (xcells x).toList)) (hg : W.grownBy w2 v7.ownBlock) (hat : v7'.ownBlock = v7.ownBlock ∨ ∃ b, v7'.ownBlock = some b ∧ W.heap.size ≤ b) : Md w0 w w2 R A c f0 f1 f2 f3 f4 f5 f6 va vb v7' v8 (L ++ [x]) T X x P := by
  have hM := h.below hW
  refine hM.app7 (Kd.R_appended (okp := fun _ => False) (fun _ _ => trivial) (hr.imp_ (fun _ _ hp => Kd.M_below hp hW)) (k29_mkM W w0.heap.size _ x) (fun _ h => h.elim) (fun _ _ => trivial) ho hg hat) ?_ hg hat
  exact ⟨hg.os.trans hM.bel.os, hg.tape.trans hM.bel.tape, hg.output.trans hM.bel.output, Nat.le_trans hM.bel.size hg.size, fun k hk => (hg.block k (Nat.lt_of_lt_of_le hk hM.bel.size) (fun e => by have := Kd.R_base hM.r7 k e.symm; omega)).trans (hM.bel.block k hk)⟩
end
def RTPost (w0 w : World) (R : Nat) (A : Option Addr) (c : Nat) (f0 : List ByteArray) (f1 f2 : ByteArray) (f3 f4 f5 f6 : Int) (L : List S29) (T : List Bool) (x : S29) (P : Nat → Prop) (ok : Bool) (e : Ending) (w' : World) : Prop :=
  ∃ v7' v8', e = .returned (.bool ok) ∧ Ks w0 w' R A c f0 f1 f2 f3 f4 f5 f6 v7' v8' (L ++ [x]) (T ++ [ok]) ∧ (∀ k, P k → w'.heap[k]? = w.heap[k]?) ∧ Off w' R v7' v8' P
theorem info4 : (Try.prog.info? 4).map (fun i => (i.zero, i.size, i.bytes)) = some (some (.bool false), 1, 1) := by kernel_rfl
end Go.Proofs.Ythbgjaboghnpjaa.R
