/- Values: their order and their bytes, plain. -/
import Derived.Test.YtikpmlginojnhaaGreatDoorVI
namespace Go.Proofs.YtikpmlginojnhaaGreatDoor.Fl
open Go.RowKit Go.Maps
set_option linter.unusedVariables false
set_option linter.unusedSimpArgs false
theorem cb_bd : ∀ a b : List UInt8, Lib.compareBytes a b = -1 ∨ Lib.compareBytes a b = 0 ∨ Lib.compareBytes a b = 1
  | [], [] => by simp [Lib.compareBytes]
  | [], _ :: _ => by simp [Lib.compareBytes]
  | _ :: _, [] => by simp [Lib.compareBytes]
  | x :: a, y :: b => by
    rw [Lib.compareBytes]
    split
    · simp
    · split
      · simp
      · exact cb_bd a b
theorem cb_anti : ∀ a b : List UInt8, Lib.compareBytes a b = -Lib.compareBytes b a
  | [], [] => by simp [Lib.compareBytes]
  | [], _ :: _ => by simp [Lib.compareBytes]
  | _ :: _, [] => by simp [Lib.compareBytes]
  | x :: a, y :: b => by
    rw [Lib.compareBytes, Lib.compareBytes]
    simp only [UInt8.lt_iff_toNat_lt]
    by_cases h1 : x.toNat < y.toNat
    · rw [if_pos h1, if_neg (by omega), if_pos h1]
    · rw [if_neg h1]
      by_cases h2 : y.toNat < x.toNat
      · rw [if_pos h2, if_pos h2]; rfl
      · rw [if_neg h2, if_neg h2, if_neg h1]
        exact cb_anti a b
theorem cb_eq : ∀ a b : List UInt8, Lib.compareBytes a b = 0 → a = b
  | [], [], _ => rfl
  | [], _ :: _, h => by simp [Lib.compareBytes] at h
  | _ :: _, [], h => by simp [Lib.compareBytes] at h
  | x :: a, y :: b, h => by
    rw [Lib.compareBytes] at h
    simp only [UInt8.lt_iff_toNat_lt] at h
    by_cases h1 : x.toNat < y.toNat
    · rw [if_pos h1] at h; simp at h
    · rw [if_neg h1] at h
      by_cases h2 : y.toNat < x.toNat
      · rw [if_pos h2] at h; simp at h
      · rw [if_neg h2] at h
        rw [cb_eq a b h, UInt8.toNat_inj.1 (by omega : x.toNat = y.toNat)]
theorem cb_self (a : List UInt8) : Lib.compareBytes a a = 0 := by
  have := cb_anti a a
  omega
theorem cb_trans : ∀ a b c : List UInt8, Lib.compareBytes a b ≤ 0 → Lib.compareBytes b c ≤ 0 → Lib.compareBytes a c ≤ 0
  | [], _, [], _, _ => by simp [Lib.compareBytes]
  | [], _, _ :: _, _, _ => by simp [Lib.compareBytes]
  | _ :: _, [], _, h, _ => by simp [Lib.compareBytes] at h
  | _ :: _, _ :: _, [], _, h => by simp [Lib.compareBytes] at h
  | x :: a, y :: b, z :: c, h1, h2 => by
    rw [Lib.compareBytes] at h1 h2 ⊢
    simp only [UInt8.lt_iff_toNat_lt] at h1 h2 ⊢
    by_cases h3 : x.toNat < z.toNat
    · rw [if_pos h3]; omega
    · rw [if_neg h3]
      have h4 : ¬ y.toNat < x.toNat := fun h => by rw [if_neg (by omega), if_pos h] at h1; omega
      have h5 : ¬ z.toNat < y.toNat := fun h => by rw [if_neg (by omega), if_pos h] at h2; omega
      rw [if_neg (by omega)]
      rw [if_neg (by omega), if_neg (by omega)] at h1 h2
      exact cb_trans a b c h1 h2
theorem cmpB_bd (a b : ByteArray) : cmpB a b = -1 ∨ cmpB a b = 0 ∨ cmpB a b = 1 := cb_bd _ _
theorem cmpB_anti (a b : ByteArray) : cmpB a b = -cmpB b a := cb_anti _ _
theorem cmpB_eq {a b : ByteArray} (h : cmpB a b = 0) : a = b := ByteArray.ext (Array.toList_inj.1 (cb_eq _ _ h))
theorem cmpB_self (a : ByteArray) : cmpB a a = 0 := cb_self _
theorem cmpB_trans {a b c : ByteArray} (h1 : cmpB a b ≤ 0) (h2 : cmpB b c ≤ 0) : cmpB a c ≤ 0 := cb_trans _ _ _ h1 h2
/-- What of a number counts. -/
def keyV (k n : Int) : Int := if k = 5 then rankU (U n) else n
theorem nOrd_key (k n m : Int) : nOrd k n m = sgn (keyV k n) (keyV k m) := by
  unfold nOrd keyV
  split <;> rfl
theorem sgn_cases (p q : Int) : (p < q ∧ sgn p q = -1) ∨ (p = q ∧ sgn p q = 0) ∨ (q < p ∧ sgn p q = 1) := by
  unfold sgn
  by_cases h1 : p < q
  · rw [if_pos h1]; exact Or.inl ⟨h1, rfl⟩
  · rw [if_neg h1]
    by_cases h2 : q < p
    · rw [if_pos h2]; exact Or.inr (Or.inr ⟨h2, rfl⟩)
    · rw [if_neg h2]; exact Or.inr (Or.inl ⟨by omega, rfl⟩)
theorem or3_cases (x y z : Int) : (¬ x = 0 ∧ or3 x y z = x) ∨ (x = 0 ∧ ¬ y = 0 ∧ or3 x y z = y) ∨ (x = 0 ∧ y = 0 ∧ or3 x y z = z) := by
  unfold or3
  by_cases h1 : x = 0
  · rw [if_pos h1]
    by_cases h2 : y = 0
    · rw [if_pos h2]; exact Or.inr (Or.inr ⟨h1, h2, rfl⟩)
    · rw [if_neg h2]; exact Or.inr (Or.inl ⟨h1, h2, rfl⟩)
  · rw [if_neg h1]; exact Or.inl ⟨h1, rfl⟩
/-- The order, in one sentence. -/
theorem ord_cases (ka na : Int) (sa : ByteArray) (kb nb : Int) (sb : ByteArray) : (ka < kb ∧ ordV ka na sa kb nb sb = -1) ∨ (kb < ka ∧ ordV ka na sa kb nb sb = 1) ∨ (ka = kb ∧ ((keyV ka na < keyV ka nb ∧ ordV ka na sa kb nb sb = -1) ∨ (keyV ka nb < keyV ka na ∧ ordV ka na sa kb nb sb = 1) ∨ (keyV ka na = keyV ka nb ∧ ordV ka na sa kb nb sb = cmpB sa sb))) := by
  have h := or3_cases (sgn ka kb) (nOrd ka na nb) (cmpB sa sb)
  have h1 := sgn_cases ka kb
  have h2 := sgn_cases (keyV ka na) (keyV ka nb)
  rw [nOrd_key] at h
  show _ ∨ _ ∨ _
  unfold ordV
  rw [nOrd_key]
  omega
theorem ord_anti (ka na : Int) (sa : ByteArray) (kb nb : Int) (sb : ByteArray) : ordV ka na sa kb nb sb = -ordV kb nb sb ka na sa := by
  have h1 := ord_cases ka na sa kb nb sb
  have h2 := ord_cases kb nb sb ka na sa
  have h3 := cmpB_anti sa sb
  by_cases e : ka = kb
  · subst e; omega
  · omega
theorem ord_self (ka na : Int) (sa : ByteArray) : ordV ka na sa ka na sa = 0 := by
  have h1 := ord_cases ka na sa ka na sa
  have h3 := cmpB_self sa
  omega
theorem ord_bd (ka na : Int) (sa : ByteArray) (kb nb : Int) (sb : ByteArray) : -1 ≤ ordV ka na sa kb nb sb ∧ ordV ka na sa kb nb sb ≤ 1 := by
  have h1 := ord_cases ka na sa kb nb sb
  have h3 := cmpB_bd sa sb
  omega
theorem ord_trans {ka na : Int} {sa : ByteArray} {kb nb : Int} {sb : ByteArray} {kc nc : Int} {sc : ByteArray} (h1 : ordV ka na sa kb nb sb ≤ 0) (h2 : ordV kb nb sb kc nc sc ≤ 0) : ordV ka na sa kc nc sc ≤ 0 := by
  have c1 := ord_cases ka na sa kb nb sb
  have c2 := ord_cases kb nb sb kc nc sc
  have c3 := ord_cases ka na sa kc nc sc
  by_cases e1 : ka = kb
  · by_cases e2 : kb = kc
    · subst e1 e2
      by_cases g1 : cmpB sa sb ≤ 0
      · by_cases g2 : cmpB sb sc ≤ 0
        · have g3 := cmpB_trans g1 g2
          omega
        · omega
      · omega
    · omega
  · omega
theorem ord_kinds {ka na : Int} {sa : ByteArray} {kb nb : Int} {sb : ByteArray} (h : ¬ ka = kb) : (ordV ka na sa kb nb sb < 0 ↔ ka < kb) ∧ ¬ ordV ka na sa kb nb sb = 0 := by
  have c1 := ord_cases ka na sa kb nb sb
  omega
theorem rank_inj {n m : Int} (hn : Wf n) (hm : Wf m) (h1 : rightU (U n) = true) (h2 : rightU (U m) = true) (h : rankU (U n) = rankU (U m)) : n = m := by
  have e1 := from_bytes n hn h1
  have e2 := from_bytes m hm h2
  have e : bytesF n = bytesF m := by unfold bytesF; rw [if_pos h1, if_pos h2, h]
  rw [e, e2] at e1
  exact (Prod.mk.inj e1).1.symm
theorem ord_zero {ka na : Int} {sa : ByteArray} {kb nb : Int} {sb : ByteArray} (ha : Wf na) (hb : Wf nb) (h1 : rightV ka na sa = true) (h2 : rightV kb nb sb = true) (h : ordV ka na sa kb nb sb = 0) : ka = kb ∧ na = nb ∧ sa = sb := by
  have c1 := ord_cases ka na sa kb nb sb
  have e : ka = kb := by omega
  subst e
  have e2 : keyV ka na = keyV ka nb ∧ cmpB sa sb = 0 := by omega
  refine ⟨rfl, ?_, cmpB_eq e2.2⟩
  by_cases h5 : ka = 5
  · subst h5
    have r1 : rightU (U na) = true := by
      rcases right_kinds h1 with ⟨e, c⟩ | ⟨e, c, c2⟩ | ⟨e, c, c2⟩ | ⟨e, e2, c⟩ | ⟨e, e2, c, c2⟩ <;> first | exact c2 | (exfalso; omega)
    have r2 : rightU (U nb) = true := by
      rcases right_kinds h2 with ⟨e, c⟩ | ⟨e, c, c2⟩ | ⟨e, c, c2⟩ | ⟨e, e2, c⟩ | ⟨e, e2, c, c2⟩ <;> first | exact c2 | (exfalso; omega)
    exact rank_inj ha hb r1 r2 e2.1
  · have := e2.1
    unfold keyV at this
    rw [if_neg h5, if_neg h5] at this
    exact this
/-- One row of numbers below another one: at the first place where they part. -/
def lx : List Int → List Int → Int
  | [], [] => 0
  | [], _ :: _ => -2
  | _ :: _, [] => 2
  | x :: a, y :: b => if x < y then -1 else if y < x then 1 else lx a b
theorem lx_part : ∀ (a b : List Int) (i : Nat), i < a.length → i < b.length → (∀ j, j < i → a.getD j 0 = b.getD j 0) → ¬ a.getD i 0 = b.getD i 0 → (a.getD i 0 < b.getD i 0 ∧ lx a b = -1) ∨ (b.getD i 0 < a.getD i 0 ∧ lx a b = 1)
  | [], _, i, h, _, _, _ => by simp at h
  | _ :: _, [], i, _, h, _, _ => by simp at h
  | x :: a, y :: b, 0, _, _, _, h => by
    have h : ¬ x = y := h
    show (x < y ∧ _) ∨ (y < x ∧ _)
    rw [lx]
    by_cases h1 : x < y
    · rw [if_pos h1]; exact Or.inl ⟨h1, rfl⟩
    · rw [if_neg h1, if_pos (by omega)]; exact Or.inr ⟨by omega, rfl⟩
  | x :: a, y :: b, i + 1, h1, h2, h3, h4 => by
    have e : x = y := h3 0 (by omega)
    rw [lx, if_neg (by omega), if_neg (by omega)]
    exact lx_part a b i (by simpa using h1) (by simpa using h2) (fun j hj => h3 (j + 1) (by omega)) h4
theorem lx_all : ∀ (a b : List Int), (∀ j, j < a.length → j < b.length → a.getD j 0 = b.getD j 0) → (a.length = b.length ∧ lx a b = 0) ∨ (a.length < b.length ∧ lx a b = -2) ∨ (b.length < a.length ∧ lx a b = 2)
  | [], [], _ => by simp [lx]
  | [], _ :: _, _ => by simp [lx]
  | _ :: _, [], _ => by simp [lx]
  | x :: a, y :: b, h => by
    have e : x = y := h 0 (by simp) (by simp)
    rw [lx, if_neg (by omega), if_neg (by omega), List.length_cons, List.length_cons]
    have := lx_all a b (fun j h1 h2 => h (j + 1) (by simpa using h1) (by simpa using h2))
    omega
theorem lx_val : ∀ (a b : List Int), Byts a → Byts b → a.length = b.length → lx a b = sgn (val a) (val b)
  | [], [], _, _, _ => rfl
  | [], _ :: _, _, _, h => by simp at h
  | _ :: _, [], _, _, h => by simp at h
  | x :: a, y :: b, ha, hb, h => by
    have hl : a.length = b.length := by simpa using h
    have ha' : Byts a := fun z hz => ha z (by simp [hz])
    have hb' : Byts b := fun z hz => hb z (by simp [hz])
    have ih := lx_val a b ha' hb' hl
    have b1 := val_bd a ha'
    have b2 := val_bd b hb'
    rw [lx, val_cons, val_cons, hl]
    rw [hl] at b1
    generalize (256 : Int) ^ b.length = p at *
    have m1 : x < y → (x + 1) * p ≤ y * p := fun h => Int.mul_le_mul_of_nonneg_right (by omega) (by omega)
    have m2 : y < x → (y + 1) * p ≤ x * p := fun h => Int.mul_le_mul_of_nonneg_right (by omega) (by omega)
    rw [Int.add_mul] at m1 m2
    by_cases h1 : x < y
    · rw [if_pos h1]
      have := m1 h1
      unfold sgn
      rw [if_pos (by omega)]
    · rw [if_neg h1]
      by_cases h2 : y < x
      · rw [if_pos h2]
        have := m2 h2
        unfold sgn
        rw [if_neg (by omega), if_pos (by omega)]
      · rw [if_neg h2, ih]
        obtain rfl : x = y := by omega
        exact sgn_eq (by omega) (by omega)
theorem lx_b8 {u v : Int} (hu : 0 ≤ u ∧ u < 18446744073709551616) (hv : 0 ≤ v ∧ v < 18446744073709551616) : lx (b8 u) (b8 v) = sgn u v := by
  rw [lx_val _ _ (b8_byts u) (b8_byts v) rfl, val_b8 u hu, val_b8 v hv]
theorem lx_esc : ∀ (a b : List UInt8), lx (zz (a.map fun b => (b.toNat : Int)) ++ [0, 1]) (zz (b.map fun b => (b.toNat : Int)) ++ [0, 1]) = Lib.compareBytes a b
  | [], [] => rfl
  | [], y :: b => by
    show lx [0, 1] (zz ((y.toNat : Int) :: b.map fun b => (b.toNat : Int)) ++ [0, 1]) = -1
    rw [zz]
    split
    · rfl
    · show lx (0 :: [1]) ((y.toNat : Int) :: _) = -1
      rw [lx, if_pos (by omega)]
  | x :: a, [] => by
    show lx (zz ((x.toNat : Int) :: a.map fun b => (b.toNat : Int)) ++ [0, 1]) [0, 1] = 1
    rw [zz]
    split
    · rfl
    · show lx ((x.toNat : Int) :: _) (0 :: [1]) = 1
      rw [lx, if_neg (by omega), if_pos (by omega)]
  | x :: a, y :: b => by
    have ih := lx_esc a b
    show lx (zz ((x.toNat : Int) :: a.map fun b => (b.toNat : Int)) ++ [0, 1]) (zz ((y.toNat : Int) :: b.map fun b => (b.toNat : Int)) ++ [0, 1]) = _
    rw [zz, zz, Lib.compareBytes]
    simp only [UInt8.lt_iff_toNat_lt]
    generalize zz (a.map fun b => (b.toNat : Int)) = za at *
    generalize zz (b.map fun b => (b.toNat : Int)) = zb at *
    by_cases h1 : x.toNat < y.toNat
    · rw [if_pos h1]
      split
      · rw [if_neg (by omega)]
        show lx (0 :: _) ((y.toNat : Int) :: _) = -1
        rw [lx, if_pos (by omega)]
      · rw [if_neg (by omega)]
        show lx ((x.toNat : Int) :: _) ((y.toNat : Int) :: _) = -1
        rw [lx, if_pos (by omega)]
    · rw [if_neg h1]
      by_cases h2 : y.toNat < x.toNat
      · rw [if_pos h2, if_neg (by omega)]
        split
        · show lx ((x.toNat : Int) :: _) (0 :: _) = 1
          rw [lx, if_neg (by omega), if_pos (by omega)]
        · show lx ((x.toNat : Int) :: _) ((y.toNat : Int) :: _) = 1
          rw [lx, if_neg (by omega), if_pos (by omega)]
      · rw [if_neg h2]
        have e : (x.toNat : Int) = (y.toNat : Int) := by omega
        rw [e]
        split
        · show lx (0 :: 255 :: (za ++ [0, 1])) (0 :: 255 :: (zb ++ [0, 1])) = _
          rw [lx, if_neg (by omega), if_neg (by omega), lx, if_neg (by omega), if_neg (by omega)]
          exact ih
        · show lx ((y.toNat : Int) :: (za ++ [0, 1])) ((y.toNat : Int) :: (zb ++ [0, 1])) = _
          rw [lx, if_neg (by omega), if_neg (by omega)]
          exact ih
theorem lx_enc {ka na : Int} {sa : ByteArray} {kb nb : Int} {sb : ByteArray} (ha : Wf na) (hb : Wf nb) (h1 : rightV ka na sa = true) (h2 : rightV kb nb sb = true) : lx (encV ka na sa) (encV kb nb sb) = ordV ka na sa kb nb sb := by
  rw [encV_right h1, encV_right h2, lx]
  have c := ord_cases ka na sa kb nb sb
  by_cases g1 : ka < kb
  · rw [if_pos g1]; omega
  · rw [if_neg g1]
    by_cases g2 : kb < ka
    · rw [if_pos g2]; omega
    · rw [if_neg g2]
      obtain rfl : ka = kb := by omega
      unfold Wf at ha hb
      have es : sa.size = 0 → sb.size = 0 → cmpB sa sb = 0 := fun a b => by rw [size0 a, size0 b]; rfl
      have ek : ∀ n, ¬ ka = 5 → keyV ka n = n := fun n h => by unfold keyV; rw [if_neg h]
      rcases right_kinds h1 with ⟨rfl, a⟩ | ⟨rfl, a, a2⟩ | ⟨rfl, a, a2⟩ | ⟨rfl, rfl, a⟩ | ⟨rfl, rfl, a, a2⟩ <;> rcases right_kinds h2 with ⟨e, b⟩ | ⟨e, b, b2⟩ | ⟨e, b, b2⟩ | ⟨e, e2, b⟩ | ⟨e, e2, b, b2⟩ <;> first | (exfalso; omega) | skip
      · show lx (b8 (na + 9223372036854775808)) (b8 (nb + 9223372036854775808)) = _
        rw [lx_b8 (by omega) (by omega)]
        have s1 := sgn_cases (na + 9223372036854775808) (nb + 9223372036854775808)
        have := es a b
        rw [ek _ (by decide), ek _ (by decide)] at c
        omega
      · show lx [na] [nb] = _
        rw [lx, lx]
        have := es a b
        rw [ek _ (by decide), ek _ (by decide)] at c
        split
        · omega
        · split <;> omega
      · show lx (bytesF na) (bytesF nb) = _
        unfold bytesF
        rw [if_pos a2, if_pos b2, lx_b8 (rankU_bd _ (U_bd na).1 (U_bd na).2) (rankU_bd _ (U_bd nb).1 (U_bd nb).2)]
        have s1 := sgn_cases (rankU (U na)) (rankU (U nb))
        have := es a b
        unfold keyV at c
        rw [if_pos rfl, if_pos rfl] at c
        omega
      · subst e2
        show lx (esc (byt sa)) (esc (byt sb)) = _
        have := lx_esc sa.data.toList sb.data.toList
        have h3 : lx (esc (byt sa)) (esc (byt sb)) = cmpB sa sb := this
        rw [h3]
        omega
      · subst e2
        show lx (esc (byt sa)) (esc (byt sb)) = _
        have := lx_esc sa.data.toList sb.data.toList
        have h3 : lx (esc (byt sa)) (esc (byt sb)) = cmpB sa sb := this
        rw [h3]
        omega
theorem enc_part {ka na : Int} {sa : ByteArray} {kb nb : Int} {sb : ByteArray} (ha : Wf na) (hb : Wf nb) (h1 : rightV ka na sa = true) (h2 : rightV kb nb sb = true) (i : Nat) (hi : i < (encV ka na sa).length) (hj : i < (encV kb nb sb).length) (he : ∀ j, j < i → (encV ka na sa).getD j 0 = (encV kb nb sb).getD j 0) (hn : ¬ (encV ka na sa).getD i 0 = (encV kb nb sb).getD i 0) : ((encV ka na sa).getD i 0 < (encV kb nb sb).getD i 0 ↔ ordV ka na sa kb nb sb < 0) ∧ ¬ ordV ka na sa kb nb sb = 0 := by
  have h := lx_part _ _ i hi hj he hn
  rw [lx_enc ha hb h1 h2] at h
  omega
theorem enc_all {ka na : Int} {sa : ByteArray} {kb nb : Int} {sb : ByteArray} (ha : Wf na) (hb : Wf nb) (h1 : rightV ka na sa = true) (h2 : rightV kb nb sb = true) (he : ∀ j, j < (encV ka na sa).length → j < (encV kb nb sb).length → (encV ka na sa).getD j 0 = (encV kb nb sb).getD j 0) : (encV ka na sa).length = (encV kb nb sb).length ∧ ordV ka na sa kb nb sb = 0 := by
  have h := lx_all _ _ he
  have h3 := ord_bd ka na sa kb nb sb
  rw [lx_enc ha hb h1 h2] at h
  omega
theorem encP_pre {k n m : Int} {s u : ByteArray} (hn : Wf n) (hm : Wf m) (h1 : rightV k n s = true) (h2 : rightV k m u = true) (r : List Int) (h : encP k n s ++ r = encP k m u) : r = [] := by
  have hl := congrArg List.length h
  rw [List.length_append] at hl
  have hr0 : r.length = 0 → r = [] := fun h => List.length_eq_zero_iff.1 h
  rcases right_kinds h1 with ⟨rfl, a⟩ | ⟨rfl, a, a2⟩ | ⟨rfl, a, a2⟩ | ⟨rfl, rfl, a⟩ | ⟨rfl, rfl, a, a2⟩ <;> rcases right_kinds h2 with ⟨e, b⟩ | ⟨e, b, b2⟩ | ⟨e, b, b2⟩ | ⟨e, e2, b⟩ | ⟨e, e2, b, b2⟩ <;> first | (exfalso; omega) | skip
  · have hl : 8 + r.length = 8 := hl
    exact hr0 (by omega)
  · have hl : 1 + r.length = 1 := hl
    exact hr0 (by omega)
  · have x1 : encP 5 n s = b8 (rankU (U n)) := by show bytesF n = _; unfold bytesF; rw [if_pos a2]
    have x2 : encP 5 m u = b8 (rankU (U m)) := by show bytesF m = _; unfold bytesF; rw [if_pos b2]
    rw [x1, x2] at hl
    have hl : 8 + r.length = 8 := hl
    exact hr0 (by omega)
  · have h : esc (byt s) ++ r = esc (byt u) := h
    unfold esc at h
    rw [List.append_assoc] at h
    have e1 := uns_esc (byt s) r
    have h' : zz (byt s) ++ 0 :: 1 :: r = zz (byt u) ++ 0 :: 1 :: [] := h
    rw [h', uns_esc (byt u) []] at e1
    exact (Prod.mk.inj (Option.some.inj e1)).2.symm
  · have h : esc (byt s) ++ r = esc (byt u) := h
    unfold esc at h
    rw [List.append_assoc] at h
    have e1 := uns_esc (byt s) r
    have h' : zz (byt s) ++ 0 :: 1 :: r = zz (byt u) ++ 0 :: 1 :: [] := h
    rw [h', uns_esc (byt u) []] at e1
    exact (Prod.mk.inj (Option.some.inj e1)).2.symm
theorem enc_pre {ka na : Int} {sa : ByteArray} {kb nb : Int} {sb : ByteArray} (ha : Wf na) (hb : Wf nb) (h1 : rightV ka na sa = true) (h2 : rightV kb nb sb = true) (r : List Int) (h : encV ka na sa ++ r = encV kb nb sb) : r = [] := by
  rw [encV_right h1, encV_right h2] at h
  obtain ⟨rfl, h3⟩ := List.cons_eq_cons.1 h
  exact encP_pre ha hb h1 h2 r h3
/-- Cut bytes, and longer ones, tell nothing. -/
theorem dec_cut {k n : Int} {s : ByteArray} (hn : Wf n) (h : rightV k n s = true) (c : Nat) (hc : c < (encV k n s).length) {k' n' : Int} {s' : ByteArray} {b : Bool} (hd : DecIs ((encV k n s).take c) k' n' s' b) : b = false ∧ k' = 0 ∧ n' = 0 ∧ s' = ⟨#[]⟩ := dec_no hd (fun k2 n2 s2 a1 a2 a3 => by
  have := enc_pre a1 hn a2 h ((encV k n s).drop c) (by rw [a3, List.take_append_drop])
  have := congrArg List.length this
  rw [List.length_drop] at this
  simp at this
  omega)
theorem dec_more {k n : Int} {s : ByteArray} (hn : Wf n) (h : rightV k n s = true) (r : List Int) (hr : ¬ r = []) {k' n' : Int} {s' : ByteArray} {b : Bool} (hd : DecIs (encV k n s ++ r) k' n' s' b) : b = false ∧ k' = 0 ∧ n' = 0 ∧ s' = ⟨#[]⟩ := dec_no hd (fun k2 n2 s2 a1 a2 a3 => hr (enc_pre hn a1 h a2 r a3.symm))
end Go.Proofs.YtikpmlginojnhaaGreatDoor.Fl
