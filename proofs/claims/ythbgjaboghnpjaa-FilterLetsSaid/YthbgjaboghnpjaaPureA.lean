/- How the document compares texts and cells, in plain Lean; on the printed functions alone. -/
import Derived.Test.YthbgjaboghnpjaaQx0
import Derived.Test.YthbgjaboghnpjaaQx8
import Derived.Test.YthbgjaboghnpjaaQx16
import Derived.Test.YthbgjaboghnpjaaQx18
import Derived.Test.YthbgjaboghnpjaaQx21
import Derived.Test.YthbgjaboghnpjaaQx23
import Derived.Test.YthbgjaboghnpjaaQx25
import Derived.Test.YthbgjaboghnpjaaQx33
import Derived.Test.YthbgjaboghnpjaaQx35
import Derived.Sort.Walk0
set_option linter.unusedVariables false
set_option linter.unusedSimpArgs false
namespace Go.Proofs.Ythbgjaboghnpjaa.Pure
open Go.RowKit Go.Proofs.Ythbgjaboghnpjaa.Q Go.Proofs.YthbgjaboghnpjaaW.PrintWords Go.Proofs.YthbgjaboghnpjaaW.PrintLast Go.Proofs.YthbgjaboghnpjaaW.PrintMore

/-! ### texts -/
def cmpT (a b : List UInt8) : Int := if a < b then -1 else if b < a then 1 else 0
theorem cmpT_nil : cmpT [] [] = 0 := by decide
theorem cmpT_nil_cons (y : UInt8) (b : List UInt8) : cmpT [] (y :: b) = -1 := by simp [cmpT]
theorem cmpT_cons_nil (x : UInt8) (a : List UInt8) : cmpT (x :: a) [] = 1 := by simp [cmpT]
theorem cmpT_cons (x y : UInt8) (a b : List UInt8) : cmpT (x :: a) (y :: b) = if x = y then cmpT a b else if x < y then -1 else 1 := by
  unfold cmpT
  simp only [List.cons_lt_cons_iff]
  by_cases h : x = y
  · subst h
    simp [UInt8.lt_irrefl]
  · by_cases h2 : x < y
    · simp [h, h2]
    · have h3 : y < x := by
        rcases UInt8.lt_or_lt_of_ne h with h4 | h4
        · exact absurd h4 h2
        · exact h4
      simp [h, h2, h3, Ne.symm h]
theorem drop_one (s : ByteArray) (i : Nat) (h : i < s.size) : s.toList.drop i = (s[i]'h) :: s.toList.drop (i + 1) := by
  have hl : i < s.toList.length := by rw [Lib.toList_data, Array.length_toList]; exact h
  rw [List.drop_eq_getElem_cons hl]
  congr 1
  simp only [Lib.toList_data]
  rfl
theorem drop_all (s : ByteArray) (i : Nat) (h : ¬ i < s.size) : s.toList.drop i = [] := by
  rw [List.drop_eq_nil_iff, Lib.toList_data, Array.length_toList]
  exact Nat.le_of_not_lt h
theorem bt_nat (s : ByteArray) (i : Nat) (h : i < s.size) : bt s (i : Int) = ((s[i]'h).toNat : Int) := (bt_at s i (by rw [Int.toNat_natCast]; exact h)).symm
theorem wrap_one (i : Nat) (h : i < 1000000000000) : wrap64 ((i : Int) + 1) = ((i + 1 : Nat) : Int) := by unfold wrap64; omega
theorem u8_eq {x y : UInt8} : ((x.toNat : Int) = (y.toNat : Int)) ↔ x = y := by
  constructor
  · intro h; exact UInt8.toNat_inj.mp (by omega)
  · intro h; rw [h]
theorem u8_lt {x y : UInt8} : ((x.toNat : Int) < (y.toNat : Int)) ↔ x < y := by
  rw [UInt8.lt_iff_toNat_lt]; omega
theorem texts_loop (a b : ByteArray) (ha : a.size < 1000000000000) : ∀ (n i : Nat), i + n = a.size → i ≤ b.size → Ev (fun k => joistref00_Texts.l0 k a b (i : Int)) (cmpT (a.toList.drop i) (b.toList.drop i))
  | 0, i, hi, hib => by
    have h1 : ¬ i < a.size := by omega
    refine Ev.step (f := fun k => joistref00_Texts.j1 k a b i false) (fun k => by simp only [joistref00_Texts.l0]; rw [if_neg (by omega)]) ?_
    rw [drop_all a i h1]
    by_cases h2 : i < b.size
    · refine Ev.step (f := fun _ => some (-1)) (fun k => by simp only [joistref00_Texts.j1]; rw [if_neg (by simp), if_pos (by omega)]) ?_
      rw [drop_one b i h2, cmpT_nil_cons]
      exact Ev.now _
    · rw [drop_all b i h2, cmpT_nil]
      exact Ev.step (f := fun _ => some 0) (fun k => by simp only [joistref00_Texts.j1]; rw [if_neg (by simp), if_neg (by omega), if_neg (by omega)]) (Ev.now _)
  | n + 1, i, hi, hib => by
    have h1 : i < a.size := by omega
    by_cases h2 : i < b.size
    · have hd : decide ((i : Int) < (b.size : Int)) = true := decide_eq_true (by omega)
      refine Ev.step (f := fun k => joistref00_Texts.j1 k a b i true) (fun k => by simp only [joistref00_Texts.l0]; rw [if_pos (by omega), hd]) ?_
      rw [drop_one a i h1, drop_one b i h2, cmpT_cons]
      have e1 := bt_nat a i h1
      have e2 := bt_nat b i h2
      by_cases h3 : a[i] = b[i]
      · rw [if_pos h3]
        refine Ev.step (f := fun k => joistref00_Texts.l0 k a b ((i + 1 : Nat) : Int)) (fun k => by simp only [joistref00_Texts.j1]; rw [if_pos trivial, if_pos (by omega), if_pos (by omega), if_pos (by omega), if_pos (by rw [e1, e2, u8_eq]; exact h3), wrap_one i (by omega)]) ?_
        exact texts_loop a b ha n (i + 1) (by omega) (by omega)
      · rw [if_neg h3]
        by_cases h4 : a[i] < b[i]
        · rw [if_pos h4]
          exact Ev.step (f := fun _ => some (-1)) (fun k => by simp only [joistref00_Texts.j1]; rw [if_pos trivial, if_pos (by omega), if_pos (by omega), if_pos (by omega), if_neg (by rw [e1, e2, u8_eq]; exact h3), if_pos (by rw [e1, e2, u8_lt]; exact h4)]) (Ev.now _)
        · rw [if_neg h4]
          exact Ev.step (f := fun _ => some 1) (fun k => by simp only [joistref00_Texts.j1]; rw [if_pos trivial, if_pos (by omega), if_pos (by omega), if_pos (by omega), if_neg (by rw [e1, e2, u8_eq]; exact h3), if_neg (by rw [e1, e2, u8_lt]; exact h4)]) (Ev.now _)
    · have hd : decide ((i : Int) < (b.size : Int)) = false := decide_eq_false (by omega)
      refine Ev.step (f := fun k => joistref00_Texts.j1 k a b i false) (fun k => by simp only [joistref00_Texts.l0]; rw [if_pos (by omega), hd]) ?_
      rw [drop_one a i h1, drop_all b i h2, cmpT_cons_nil]
      exact Ev.step (f := fun _ => some 1) (fun k => by simp only [joistref00_Texts.j1]; rw [if_neg (by simp), if_neg (by omega), if_pos (by omega)]) (Ev.now _)
theorem Texts (a b : ByteArray) (ha : a.size < 1000000000000) : Ev (fun k => joistref00_Texts.f k a b) (cmpT a.toList b.toList) := by
  have h := texts_loop a b ha a.size 0 (by omega) (Nat.zero_le _)
  rw [List.drop_zero, List.drop_zero] at h
  exact h
theorem cmpT_lt {a b : List UInt8} : cmpT a b < 0 ↔ a < b := by
  unfold cmpT
  by_cases h : a < b
  · simp [h]
  · by_cases h2 : b < a <;> simp [h, h2]
theorem less_lt (a b : List UInt8) : Op.bytesLess a b = decide (a < b) := Go.Proofs.bytesLess_eq a b

/-! ### cells -/
/-- small cells -/
def Small (c : S29) : Prop := c.f0.size < 1000 ∧ c.f1.size < 1000 ∧ c.f2.size < 1000
end Go.Proofs.Ythbgjaboghnpjaa.Pure
