/- How the document compares texts and cells, in plain Lean; on the printed functions alone. -/
import Derived.Test.YthbgjaboghnpjaaQx0
import Derived.Test.YthbgjaboghnpjaaQx8
import Derived.Test.YthbgjaboghnpjaaQx16
import Derived.Test.YthbgjaboghnpjaaQx18
import Derived.Test.YthbgjaboghnpjaaQx21
import Derived.Test.YthbgjaboghnpjaaQx23
import Derived.Test.YthbgjaboghnpjaaQx25
import Derived.Test.YthbgjaboghnpjaaQx33
import Derived.Test.YthbgjaboghnpjaaQx35
import Derived.Sort.Walk0
set_option linter.unusedVariables false
set_option linter.unusedSimpArgs false
namespace Go.Proofs.Ythbgjaboghnpjaa.Pure
open Go.RowKit Go.Proofs.Ythbgjaboghnpjaa.Q Go.Proofs.YthbgjaboghnpjaaW.PrintWords Go.Proofs.YthbgjaboghnpjaaW.PrintLast Go.Proofs.YthbgjaboghnpjaaW.PrintMore

/-! ### texts -/
def cmpT (a b : List UInt8) : Int := if a < b then -1 else if b < a then 1 else 0
theorem cmpT_nil : cmpT [] [] = 0 := by decide
theorem cmpT_nil_cons (y : UInt8) (b : List UInt8) : cmpT [] (y :: b) = -1 := by simp [cmpT]
theorem cmpT_cons_nil (x : UInt8) (a : List UInt8) : cmpT (x :: a) [] = 1 := by simp [cmpT]
theorem cmpT_cons (x y : UInt8) (a b : List UInt8) : cmpT (x :: a) (y :: b) = if x = y then cmpT a b else if x < y then -1 else 1 := by
  unfold cmpT
  simp only [List.cons_lt_cons_iff]
  by_cases h : x = y
  · subst h
    simp [UInt8.lt_irrefl]
  · by_cases h2 : x < y
    · simp [h, h2]
    · have h3 : y < x := by
        rcases UInt8.lt_or_lt_of_ne h with h4 | h4
        · exact absurd h4 h2
        · exact h4
      simp [h, h2, h3, Ne.symm h]
theorem drop_one (s : ByteArray) (i : Nat) (h : i < s.size) : s.toList.drop i = (s[i]'h) :: s.toList.drop (i + 1) := by
  have hl : i < s.toList.length := by rw [Lib.toList_data, Array.length_toList]; exact h
  rw [List.drop_eq_getElem_cons hl]
  congr 1
  simp only [Lib.toList_data]
  rfl
theorem drop_all (s : ByteArray) (i : Nat) (h : ¬ i < s.size) : s.toList.drop i = [] := by
  rw [List.drop_eq_nil_iff, Lib.toList_data, Array.length_toList]
  exact Nat.le_of_not_lt h
theorem bt_nat (s : ByteArray) (i : Nat) (h : i < s.size) : bt s (i : Int) = ((s[i]'h).toNat : Int) := (bt_at s i (by rw [Int.toNat_natCast]; exact h)).symm
theorem wrap_one (i : Nat) (h : i < 1000000000000) : wrap64 ((i : Int) + 1) = ((i + 1 : Nat) : Int) := by unfold wrap64; omega
theorem u8_eq {x y : UInt8} : ((x.toNat : Int) = (y.toNat : Int)) ↔ x = y := by
  constructor
  · intro h; exact UInt8.toNat_inj.mp (by omega)
  · intro h; rw [h]
theorem u8_lt {x y : UInt8} : ((x.toNat : Int) < (y.toNat : Int)) ↔ x < y := by
  rw [UInt8.lt_iff_toNat_lt]; omega
theorem texts_loop (a b : ByteArray) (ha : a.size < 1000000000000) : ∀ (n i : Nat), i + n = a.size → i ≤ b.size → Ev (fun k => joistref00_Texts.l0 k a b (i : Int)) (cmpT (a.toList.drop i) (b.toList.drop i))
  | 0, i, hi, hib => by
    have h1 : ¬ i < a.size := by omega
    refine Ev.step (f := fun k => joistref00_Texts.j1 k a b i false) (fun k => by simp only [joistref00_Texts.l0]; rw [if_neg (by omega)]) ?_
    rw [drop_all a i h1]
    by_cases h2 : i < b.size
    · refine Ev.step (f := fun _ => some (-1)) (fun k => by simp only [joistref00_Texts.j1]; rw [if_neg (by simp), if_pos (by omega)]) ?_
      rw [drop_one b i h2, cmpT_nil_cons]
      exact Ev.now _
    · rw [drop_all b i h2, cmpT_nil]
      exact Ev.step (f := fun _ => some 0) (fun k => by simp only [joistref00_Texts.j1]; rw [if_neg (by simp), if_neg (by omega), if_neg (by omega)]) (Ev.now _)
  | n + 1, i, hi, hib => by
    have h1 : i < a.size := by omega
    by_cases h2 : i < b.size
    · have hd : decide ((i : Int) < (b.size : Int)) = true := decide_eq_true (by omega)
      refine Ev.step (f := fun k => joistref00_Texts.j1 k a b i true) (fun k => by simp only [joistref00_Texts.l0]; rw [if_pos (by omega), hd]) ?_
      rw [drop_one a i h1, drop_one b i h2, cmpT_cons]
      have e1 := bt_nat a i h1
      have e2 := bt_nat b i h2
      by_cases h3 : a[i] = b[i]
      · rw [if_pos h3]
        refine Ev.step (f := fun k => joistref00_Texts.l0 k a b ((i + 1 : Nat) : Int)) (fun k => by simp only [joistref00_Texts.j1]; rw [if_pos trivial, if_pos (by omega), if_pos (by omega), if_pos (by omega), if_pos (by rw [e1, e2, u8_eq]; exact h3), wrap_one i (by omega)]) ?_
        exact texts_loop a b ha n (i + 1) (by omega) (by omega)
      · rw [if_neg h3]
        by_cases h4 : a[i] < b[i]
        · rw [if_pos h4]
          exact Ev.step (f := fun _ => some (-1)) (fun k => by simp only [joistref00_Texts.j1]; rw [if_pos trivial, if_pos (by omega), if_pos (by omega), if_pos (by omega), if_neg (by rw [e1, e2, u8_eq]; exact h3), if_pos (by rw [e1, e2, u8_lt]; exact h4)]) (Ev.now _)
        · rw [if_neg h4]
          exact Ev.step (f := fun _ => some 1) (fun k => by simp only [joistref00_Texts.j1]; rw [if_pos trivial, if_pos (by omega), if_pos (by omega), if_pos (by omega), if_neg (by rw [e1, e2, u8_eq]; exact h3), if_neg (by rw [e1, e2, u8_lt]; exact h4)]) (Ev.now _)
    · have hd : decide ((i : Int) < (b.size : Int)) = false := decide_eq_false (by omega)
      refine Ev.step (f := fun k => joistref00_Texts.j1 k a b i false) (fun k => by simp only [joistref00_Texts.l0]; rw [if_pos (by omega), hd]) ?_
      rw [drop_one a i h1, drop_all b i h2, cmpT_cons_nil]
      exact Ev.step (f := fun _ => some 1) (fun k => by simp only [joistref00_Texts.j1]; rw [if_neg (by simp), if_neg (by omega), if_pos (by omega)]) (Ev.now _)
theorem Texts (a b : ByteArray) (ha : a.size < 1000000000000) : Ev (fun k => joistref00_Texts.f k a b) (cmpT a.toList b.toList) := by
  have h := texts_loop a b ha a.size 0 (by omega) (Nat.zero_le _)
  rw [List.drop_zero, List.drop_zero] at h
  exact h
theorem cmpT_lt {a b : List UInt8} : cmpT a b < 0 ↔ a < b := by
  unfold cmpT
  by_cases h : a < b
  · simp [h]
  · by_cases h2 : b < a <;> simp [h, h2]
theorem cmpT_gt {a b : List UInt8} : 0 < cmpT a b ↔ b < a := by
  unfold cmpT
  by_cases h : a < b
  · have h3 : ¬ b < a := fun h2 => List.lt_irrefl a (List.lt_trans h h2)
    simp only [if_pos h, h3, iff_false]
    decide
  · by_cases h2 : b < a <;> simp [h, h2]
theorem cmpT_zero {a b : List UInt8} : cmpT a b = 0 ↔ a = b := by
  constructor
  · intro h
    have h1 : ¬ a < b := fun h2 => by rw [← cmpT_lt] at h2; omega
    have h3 : ¬ b < a := fun h2 => by rw [← cmpT_gt] at h2; omega
    exact List.le_antisymm (List.not_lt.mp h3) (List.not_lt.mp h1)
  · intro h
    subst h
    unfold cmpT
    rw [if_neg (List.lt_irrefl a), if_neg (List.lt_irrefl a)]
theorem less_lt (a b : List UInt8) : Op.bytesLess a b = decide (a < b) := Go.Proofs.bytesLess_eq a b

/-! ### cells -/
/-- the numbers that Order goes through -/
def fam (c : S29) : Int := if c.f4 = 4 then 0 else 1
def cmpI (a b : Int) : Int := if a < b then -1 else if a > b then 1 else 0
def ordL (a b : S29) : List Int := [cmpT a.f0.toList b.f0.toList, cmpT a.f1.toList b.f1.toList, cmpI (fam a) (fam b), cmpT a.f2.toList b.f2.toList, cmpI b.f3 a.f3, cmpI b.f4 a.f4]
def firstNZ : List Int → Int
  | [] => 0
  | x :: r => if x = 0 then firstNZ r else x
def ordC (a b : S29) : Int := firstNZ (ordL a b)
theorem cmp_now (a b : Int) (k : Nat) : joistref03_cmp.f a b = some (cmpI a b) := by
  unfold joistref03_cmp.f cmpI
  split
  · rfl
  · split <;> rfl
theorem first_loop (l : List Int) (hl : l.length < 1000) : ∀ (n i : Nat), i + n = l.length → Ev (fun k => joistref03_Order.l0 k l (i : Int)) (firstNZ (l.drop i))
  | 0, i, hi => by
    rw [List.drop_eq_nil_iff.mpr (by omega)]
    exact Ev.step (f := fun _ => some 0) (fun k => by simp only [joistref03_Order.l0]; rw [if_neg (by omega)]) (Ev.now _)
  | n + 1, i, hi => by
    have h1 : i < l.length := by omega
    have hr : rd l (i : Int) = l[i] := by simp [rd, List.getD_eq_getElem?_getD, List.getElem?_eq_getElem h1]
    rw [List.drop_eq_getElem_cons h1, firstNZ]
    by_cases h : l[i] = 0
    · rw [if_pos h]
      refine Ev.step (f := fun k => joistref03_Order.l0 k l ((i + 1 : Nat) : Int)) (fun k => by simp only [joistref03_Order.l0]; rw [if_pos (by omega), if_pos (by omega), hr, if_pos h, wrap_one i (by omega)]) ?_
      exact first_loop l hl n (i + 1) (by omega)
    · rw [if_neg h]
      exact Ev.step (f := fun _ => some l[i]) (fun k => by simp only [joistref03_Order.l0]; rw [if_pos (by omega), if_pos (by omega), hr, if_neg h]) (Ev.now _)
/-- small cells -/
def Small (c : S29) : Prop := c.f0.size < 1000 ∧ c.f1.size < 1000 ∧ c.f2.size < 1000
theorem order_j1 (x y : Int) (a b : S29) (ha : Small a) : Ev (fun k => joistref03_Order.j1 k x y a.f0 a.f1 a.f2 a.f3 a.f4 a.f5.f0 a.f5.f1 a.f5.f2 b.f0 b.f1 b.f2 b.f3 b.f4 b.f5.f0 b.f5.f1 b.f5.f2) (firstNZ [cmpT a.f0.toList b.f0.toList, cmpT a.f1.toList b.f1.toList, cmpI x y, cmpT a.f2.toList b.f2.toList, cmpI b.f3 a.f3, cmpI b.f4 a.f4]) := by
  refine Ev.step (fun _ => by simp only [joistref03_Order.j1]; rfl) ?_
  refine Ev.bind (Texts a.f0 b.f0 (by have := ha.1; omega)) ?_
  refine Ev.bind (Texts a.f1 b.f1 (by have := ha.2.1; omega)) ?_
  refine Ev.bind ⟨0, fun k _ => cmp_now x y k⟩ ?_
  refine Ev.bind (Texts a.f2 b.f2 (by have := ha.2.2; omega)) ?_
  refine Ev.bind ⟨0, fun k _ => cmp_now _ _ k⟩ ?_
  refine Ev.bind ⟨0, fun k _ => cmp_now _ _ k⟩ ?_
  have h := first_loop [cmpT a.f0.toList b.f0.toList, cmpT a.f1.toList b.f1.toList, cmpI x y, cmpT a.f2.toList b.f2.toList, cmpI b.f3 a.f3, cmpI b.f4 a.f4] (by simp) 6 0 (by simp)
  exact h
theorem Order (a b : S29) (ha : Small a) : Ev (fun k => joistref03_Order.f k a.f0 a.f1 a.f2 a.f3 a.f4 a.f5.f0 a.f5.f1 a.f5.f2 b.f0 b.f1 b.f2 b.f3 b.f4 b.f5.f0 b.f5.f1 b.f5.f2) (ordC a b) := by
  unfold ordC ordL fam
  by_cases h1 : a.f4 = 4
  · rw [if_pos h1]
    refine Ev.congr (f := fun k => joistref03_Order.j0 k 0 1 a.f0 a.f1 a.f2 a.f3 a.f4 a.f5.f0 a.f5.f1 a.f5.f2 b.f0 b.f1 b.f2 b.f3 b.f4 b.f5.f0 b.f5.f1 b.f5.f2) (fun k => by unfold joistref03_Order.f; rw [if_pos h1]) ?_
    by_cases h2 : b.f4 = 4
    · rw [if_pos h2]
      exact Ev.step (fun k => by simp only [joistref03_Order.j0]; rw [if_pos h2]) (order_j1 0 0 a b ha)
    · rw [if_neg h2]
      exact Ev.step (fun k => by simp only [joistref03_Order.j0]; rw [if_neg h2]) (order_j1 0 1 a b ha)
  · rw [if_neg h1]
    refine Ev.congr (f := fun k => joistref03_Order.j0 k 1 1 a.f0 a.f1 a.f2 a.f3 a.f4 a.f5.f0 a.f5.f1 a.f5.f2 b.f0 b.f1 b.f2 b.f3 b.f4 b.f5.f0 b.f5.f1 b.f5.f2) (fun k => by unfold joistref03_Order.f; rw [if_neg h1]) ?_
    by_cases h2 : b.f4 = 4
    · rw [if_pos h2]
      exact Ev.step (fun k => by simp only [joistref03_Order.j0]; rw [if_pos h2]) (order_j1 1 0 a b ha)
    · rw [if_neg h2]
      exact Ev.step (fun k => by simp only [joistref03_Order.j0]; rw [if_neg h2]) (order_j1 1 1 a b ha)
end Go.Proofs.Ythbgjaboghnpjaa.Pure
