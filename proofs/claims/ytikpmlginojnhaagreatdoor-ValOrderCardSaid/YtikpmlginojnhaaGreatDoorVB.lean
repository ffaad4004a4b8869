/- Values out of bytes: the law. -/
import Derived.Test.YtikpmlginojnhaaGreatDoorVA
namespace Go.Proofs.YtikpmlginojnhaaGreatDoor.Fl
open Go.RowKit Go.Maps
set_option linter.unusedVariables false
set_option linter.unusedSimpArgs false
theorem val_append (l t : List Int) : val (l ++ t) = val l * 256 ^ t.length + val t := by
  unfold val
  rw [List.foldl_append]
  exact val_acc t _
theorem val_b8 (r : Int) (h : 0 ≤ r ∧ r < 18446744073709551616) : val (b8 r) = r := by
  simp only [val, b8, List.foldl]
  omega
theorem b8_byts (r : Int) : Byts (b8 r) := by
  intro x hx
  simp only [b8, List.mem_cons, List.not_mem_nil, or_false] at hx
  omega
theorem lex_lt {x y : List Int} (hx : Byts x) (hy : Byts y) (hl : x.length = y.length) (i : Nat) (hi : i < x.length) (hp : ∀ j, j < i → x.getD j 0 = y.getD j 0) (h : x.getD i 0 < y.getD i 0) : val x < val y := by
  have ex : x = x.take i ++ x.getD i 0 :: x.drop (i + 1) := by
    conv => lhs; rw [← List.take_append_drop i x]
    rw [List.drop_eq_getElem_cons hi, List.getD_eq_getElem?_getD, List.getElem?_eq_getElem hi]
    rfl
  have hi' : i < y.length := by omega
  have ey : y = y.take i ++ y.getD i 0 :: y.drop (i + 1) := by
    conv => lhs; rw [← List.take_append_drop i y]
    rw [List.drop_eq_getElem_cons hi', List.getD_eq_getElem?_getD, List.getElem?_eq_getElem hi']
    rfl
  have et : x.take i = y.take i := by
    refine List.ext_getElem (by simp; omega) (fun j h1 h2 => ?_)
    have hj : j < i := by simp at h1; omega
    have := hp j hj
    have a1 : j < x.length := by omega
    have a2 : j < y.length := by omega
    simpa [List.getD_eq_getElem?_getD, List.getElem?_eq_getElem, a1, a2, List.getElem_take] using this
  have b1 := val_bd (x.drop (i + 1)) (fun z hz => hx z (List.mem_of_mem_drop hz))
  have b2 := val_bd (y.drop (i + 1)) (fun z hz => hy z (List.mem_of_mem_drop hz))
  have l1 : (x.drop (i + 1)).length = (y.drop (i + 1)).length := by simp; omega
  rw [ex, ey, val_append, val_append, val_cons, val_cons, et, List.length_cons, List.length_cons, l1]
  rw [l1] at b1
  have hpw : (0 : Int) < 256 ^ (y.drop (i + 1)).length := Int.pow_pos (by decide)
  generalize (256 : Int) ^ (y.drop (i + 1)).length = p at *
  generalize x.getD i 0 = a at *
  generalize y.getD i 0 = b at *
  have : (a + 1) * p ≤ b * p := Int.mul_le_mul_of_nonneg_right (by omega) (by omega)
  rw [Int.add_mul] at this
  omega
theorem from_bytes (a : Int) (ha : Wf a) (hr : rightU (U a) = true) : fromF (bytesF a) = (a, true) := by
  have e : bytesF a = b8 (rankU (U a)) := by unfold bytesF; rw [if_pos hr]
  have hb := rankU_bd (U a) (U_bd a).1 (U_bd a).2
  have eu : unrankU (rankU (U a)) = U a := by
    unfold unrankU rankU
    rw [if_pos hr]
    have := U_bd a
    split <;> split <;> omega
  unfold fromF
  rw [e, val_b8 _ hb, eu, if_pos ⟨rfl, hr⟩]
  have : wrap64 (U a) = a := by
    unfold Wf at ha
    unfold U wrap64
    omega
  rw [this]
theorem list8 {t : List Int} (h : t.length = 8) : ∃ a b c d e f g k, t = [a, b, c, d, e, f, g, k] := by
  match t, h with
  | [a, b, c, d, e, f, g, k], _ => exact ⟨a, b, c, d, e, f, g, k, rfl⟩
theorem b8_val {t : List Int} (hl : t.length = 8) (hb : Byts t) : b8 (val t) = t := by
  obtain ⟨a, b, c, d, e, f, g, k, rfl⟩ := list8 hl
  have ha := hb a (by simp)
  have hb' := hb b (by simp)
  have hc := hb c (by simp)
  have hd := hb d (by simp)
  have he := hb e (by simp)
  have hf := hb f (by simp)
  have hg := hb g (by simp)
  have hk := hb k (by simp)
  clear hb hl
  simp only [val, b8, List.foldl]
  refine List.cons_eq_cons.2 ⟨by omega, List.cons_eq_cons.2 ⟨by omega, List.cons_eq_cons.2 ⟨by omega, List.cons_eq_cons.2 ⟨by omega, List.cons_eq_cons.2 ⟨by omega, List.cons_eq_cons.2 ⟨by omega, List.cons_eq_cons.2 ⟨by omega, List.cons_eq_cons.2 ⟨by omega, rfl⟩⟩⟩⟩⟩⟩⟩⟩
theorem bytes_from {t : List Int} (hb : Byts t) {n : Int} (h : fromF t = (n, true)) : rightU (U n) = true ∧ bytesF n = t ∧ Wf n := by
  have hl : t.length = 8 := by
    rcases Nat.decEq t.length 8 with hl | hl
    · rw [from_not t hl] at h; cases h
    · exact hl
  have h8 := val8_bd hb hl
  have hu := unrankU_bd h8
  have hbv := b8_val hl hb
  unfold fromF at h
  split at h
  · rename_i hc
    obtain ⟨_, hr⟩ := hc
    have hn : wrap64 (unrankU (val t)) = n := (Prod.mk.inj h).1
    have hU : U n = unrankU (val t) := by rw [← hn]; exact U_wrap hu
    refine ⟨by rw [hU]; exact hr, ?_, by rw [← hn]; unfold wrap64 Wf; omega⟩
    unfold bytesF
    rw [hU, if_pos hr]
    have : rankU (unrankU (val t)) = val t := by
      unfold rankU
      rw [if_pos hr]
      unfold unrankU
      split <;> split <;> omega
    rw [this, hbv]
  · cases h
/-- The bytes of which these are the escaped ones, and what follows. -/
def uns : List Int → Option (List Int × List Int)
  | [] => none
  | [_] => none
  | x :: y :: t => if x = 0 then (if y = 1 then some ([], t) else if y = 255 then (uns t).map (fun p => (0 :: p.1, p.2)) else none) else (uns (y :: t)).map (fun p => (x :: p.1, p.2))
theorem zz_byts {l : List Int} (h : Byts l) : Byts (zz l) := by
  induction l with
  | nil => exact h
  | cons x t ih =>
    have hx := h x (by simp)
    have ih := ih (fun z hz => h z (by simp [hz]))
    rw [zz]
    split
    · intro z hz
      rcases List.mem_cons.1 hz with rfl | hz
      · omega
      · rcases List.mem_cons.1 hz with rfl | hz
        · omega
        · exact ih z hz
    · intro z hz
      rcases List.mem_cons.1 hz with rfl | hz
      · exact hx
      · exact ih z hz
theorem uns_esc : ∀ (l r : List Int), uns (zz l ++ 0 :: 1 :: r) = some (l, r)
  | [], r => by
    show uns (0 :: 1 :: r) = _
    rw [uns, if_pos rfl, if_pos rfl]
  | x :: t, r => by
    rw [zz]
    by_cases hx : x = 0
    · subst hx
      rw [if_pos rfl]
      show uns (0 :: 255 :: (zz t ++ 0 :: 1 :: r)) = _
      rw [uns, if_pos rfl, if_neg (by decide), if_pos rfl, uns_esc t r]
      rfl
    · rw [if_neg hx]
      have ih := uns_esc t r
      obtain ⟨y, u, hu⟩ : ∃ y u, zz t ++ 0 :: 1 :: r = y :: u := by
        cases h : zz t with
        | nil => exact ⟨0, 1 :: r, rfl⟩
        | cons y u => exact ⟨y, u ++ 0 :: 1 :: r, rfl⟩
      rw [List.cons_append, hu, uns, if_neg hx, ← hu, ih]
      rfl
theorem uns_some : ∀ (b l r : List Int), uns b = some (l, r) → b = zz l ++ 0 :: 1 :: r
  | [], l, r, h => by cases h
  | [_], l, r, h => by cases h
  | x :: y :: t, l, r, h => by
    rw [uns] at h
    by_cases hx : x = 0
    · rw [if_pos hx] at h
      by_cases h1 : y = 1
      · rw [if_pos h1] at h
        obtain ⟨rfl, rfl⟩ := Prod.mk.inj (Option.some.inj h)
        rw [hx, h1]
        rfl
      · rw [if_neg h1] at h
        by_cases h2 : y = 255
        · rw [if_pos h2] at h
          cases hu : uns t with
          | none => rw [hu] at h; cases h
          | some p =>
            rw [hu] at h
            obtain ⟨rfl, rfl⟩ := Prod.mk.inj (Option.some.inj h)
            rw [uns_some t p.1 p.2 hu, hx, h2, zz, if_pos rfl]
            rfl
        · rw [if_neg h2] at h; cases h
    · rw [if_neg hx] at h
      cases hu : uns (y :: t) with
      | none => rw [hu] at h; cases h
      | some p =>
        rw [hu] at h
        obtain ⟨rfl, rfl⟩ := Prod.mk.inj (Option.some.inj h)
        rw [uns_some (y :: t) p.1 p.2 hu, zz, if_neg hx]
        rfl
/-- What a kind's bytes tell. -/
def TkIs (k : Int) (t : List Int) (n : Int) (s : ByteArray) (ok : Bool) : Prop :=
  Wf n ∧ (ok = true → rightV k n s = true ∧ encP k n s = t) ∧ (∀ n' s', Wf n' → rightV k n' s' = true → encP k n' s' = t → ok = true ∧ n = n' ∧ s = s')
theorem zz_inj {a b : List Int} (h : zz a = zz b) : a = b := by
  have h1 := uns_esc a []
  rw [h, uns_esc b []] at h1
  exact (Prod.mk.inj (Option.some.inj h1)).1.symm
theorem byt_inj {a b : ByteArray} (h : byt a = byt b) : a = b := by
  apply ByteArray.ext
  apply Array.toList_inj.1
  have : ∀ (x y : List UInt8), x.map (fun b => (b.toNat : Int)) = y.map (fun b => (b.toNat : Int)) → x = y := by
    intro x
    induction x with
    | nil => intro y h; cases y with
      | nil => rfl
      | cons b t => cases h
    | cons a t ih => intro y h; cases y with
      | nil => cases h
      | cons b u =>
        obtain ⟨h1, h2⟩ := List.cons_eq_cons.1 h
        rw [ih u h2, UInt8.toNat_inj.1 (by have h1' : ((a.toNat : Nat) : Int) = ((b.toNat : Nat) : Int) := h1; omega : a.toNat = b.toNat)]
  exact this _ _ h
theorem size0 {s : ByteArray} (h : s.size = 0) : s = ⟨#[]⟩ := by
  apply ByteArray.ext
  exact Array.eq_empty_of_size_eq_zero h
theorem encP_inj {k n m : Int} {s u : ByteArray} (hn : Wf n) (hm : Wf m) (h1 : rightV k n s = true) (h2 : rightV k m u = true) (h : encP k n s = encP k m u) : n = m ∧ s = u := by
  rcases right_kinds h1 with ⟨rfl, a⟩ | ⟨rfl, a, a2⟩ | ⟨rfl, a, a2⟩ | ⟨rfl, rfl, a⟩ | ⟨rfl, rfl, a, a2⟩ <;> rcases right_kinds h2 with ⟨e, b⟩ | ⟨e, b, b2⟩ | ⟨e, b, b2⟩ | ⟨e, e2, b⟩ | ⟨e, e2, b, b2⟩ <;> first | (exfalso; omega) | skip
  · have h : b8 (n + 9223372036854775808) = b8 (m + 9223372036854775808) := h
    have e1 := val_b8 (n + 9223372036854775808) (by unfold Wf at hn; omega)
    have e2 := val_b8 (m + 9223372036854775808) (by unfold Wf at hm; omega)
    rw [h, e2] at e1
    exact ⟨by omega, by rw [size0 a, size0 b]⟩
  · have h : [n] = [m] := h
    exact ⟨by simpa using h, by rw [size0 a, size0 b]⟩
  · have h : bytesF n = bytesF m := h
    have e1 := from_bytes n hn a2
    rw [h, from_bytes m hm b2] at e1
    exact ⟨(Prod.mk.inj e1).1.symm, by rw [size0 a, size0 b]⟩
  · subst e2
    have h : esc (byt s) = esc (byt u) := h
    unfold esc at h
    exact ⟨rfl, byt_inj (zz_inj (List.append_cancel_right h))⟩
  · subst e2
    have h : esc (byt s) = esc (byt u) := h
    unfold esc at h
    exact ⟨rfl, byt_inj (zz_inj (List.append_cancel_right h))⟩
/-- The value of bytes. -/
def DecIs (l : List Int) (k n : Int) (s : ByteArray) (b : Bool) : Prop :=
  (b = true ∧ Wf n ∧ rightV k n s = true ∧ encV k n s = l) ∨ (b = false ∧ k = 0 ∧ n = 0 ∧ s = ⟨#[]⟩ ∧ ∀ k n s, Wf n → rightV k n s = true → encV k n s ≠ l)
theorem encV_right {k n : Int} {s : ByteArray} (h : rightV k n s = true) : encV k n s = k :: encP k n s := by unfold encV; rw [if_pos h]
theorem dec_ex (l : List Int) : ∃ k n s b, DecIs l k n s b := by
  by_cases h : ∃ k n s, Wf n ∧ rightV k n s = true ∧ encV k n s = l
  · obtain ⟨k, n, s, h1, h2, h3⟩ := h
    exact ⟨k, n, s, true, Or.inl ⟨rfl, h1, h2, h3⟩⟩
  · exact ⟨0, 0, ⟨#[]⟩, false, Or.inr ⟨rfl, rfl, rfl, rfl, fun k n s h1 h2 h3 => h ⟨k, n, s, h1, h2, h3⟩⟩⟩
theorem dec_yes {l : List Int} {k n : Int} {s : ByteArray} {b : Bool} (h : DecIs l k n s b) {k' n' : Int} {s' : ByteArray} (h1 : Wf n') (h2 : rightV k' n' s' = true) (h3 : encV k' n' s' = l) : b = true ∧ k = k' ∧ n = n' ∧ s = s' := by
  rcases h with ⟨rfl, a1, a2, a3⟩ | ⟨rfl, _, _, _, a⟩
  · rw [← h3, encV_right a2, encV_right h2] at a3
    obtain ⟨rfl, e⟩ := List.cons_eq_cons.1 a3
    obtain ⟨rfl, rfl⟩ := encP_inj a1 h1 a2 h2 e
    exact ⟨rfl, rfl, rfl, rfl⟩
  · exact absurd h3 (a k' n' s' h1 h2)
theorem dec_no {l : List Int} {k n : Int} {s : ByteArray} {b : Bool} (h : DecIs l k n s b) (h1 : ∀ k n s, Wf n → rightV k n s = true → encV k n s ≠ l) : b = false ∧ k = 0 ∧ n = 0 ∧ s = ⟨#[]⟩ := by
  rcases h with ⟨rfl, a1, a2, a3⟩ | ⟨rfl, a1, a2, a3, a⟩
  · exact absurd a3 (h1 k n s a1 a2)
  · exact ⟨rfl, a1, a2, a3⟩
end Go.Proofs.YtikpmlginojnhaaGreatDoor.Fl
