/- FilterAgain tells true, in plain Lean; on the printed functions alone. -/
import Derived.Test.YthbgjaboghnpjaaQx36
import Derived.Sort.Walk0

set_option linter.unusedVariables false
set_option linter.unusedSimpArgs false
namespace Go.Proofs.Ythbgjaboghnpjaa.Pure
open Go.RowKit Go.Proofs.Ythbgjaboghnpjaa.Q Go.Proofs.YthbgjaboghnpjaaW.PrintWords Go.Proofs.YthbgjaboghnpjaaW.PrintLast Go.Proofs.YthbgjaboghnpjaaW.PrintMore

/-! ### texts -/
def cmpT (a b : List UInt8) : Int := if a < b then -1 else if b < a then 1 else 0
theorem cmpT_nil : cmpT [] [] = 0 := by decide
theorem cmpT_nil_cons (y : UInt8) (b : List UInt8) : cmpT [] (y :: b) = -1 := by simp [cmpT]
theorem cmpT_cons_nil (x : UInt8) (a : List UInt8) : cmpT (x :: a) [] = 1 := by simp [cmpT]
theorem cmpT_cons (x y : UInt8) (a b : List UInt8) : cmpT (x :: a) (y :: b) = if x = y then cmpT a b else if x < y then -1 else 1 := by
  unfold cmpT
  simp only [List.cons_lt_cons_iff]
  by_cases h : x = y
  · subst h
    simp [UInt8.lt_irrefl]
  · by_cases h2 : x < y
    · simp [h, h2]
    · have h3 : y < x := by
        rcases UInt8.lt_or_lt_of_ne h with h4 | h4
        · exact absurd h4 h2
        · exact h4
      simp [h, h2, h3, Ne.symm h]
theorem drop_one (s : ByteArray) (i : Nat) (h : i < s.size) : s.toList.drop i = (s[i]'h) :: s.toList.drop (i + 1) := by
  have hl : i < s.toList.length := by rw [Lib.toList_data, Array.length_toList]; exact h
  rw [List.drop_eq_getElem_cons hl]
  congr 1
  simp only [Lib.toList_data]
  rfl
theorem drop_all (s : ByteArray) (i : Nat) (h : ¬ i < s.size) : s.toList.drop i = [] := by
  rw [List.drop_eq_nil_iff, Lib.toList_data, Array.length_toList]
  exact Nat.le_of_not_lt h
theorem bt_nat (s : ByteArray) (i : Nat) (h : i < s.size) : bt s (i : Int) = ((s[i]'h).toNat : Int) := (bt_at s i (by rw [Int.toNat_natCast]; exact h)).symm
theorem wrap_one (i : Nat) (h : i < 1000000000000) : wrap64 ((i : Int) + 1) = ((i + 1 : Nat) : Int) := by unfold wrap64; omega
theorem u8_eq {x y : UInt8} : ((x.toNat : Int) = (y.toNat : Int)) ↔ x = y := by
  constructor
  · intro h; exact UInt8.toNat_inj.mp (by omega)
  · intro h; rw [h]
theorem u8_lt {x y : UInt8} : ((x.toNat : Int) < (y.toNat : Int)) ↔ x < y := by
  rw [UInt8.lt_iff_toNat_lt]; omega
theorem texts_loop (a b : ByteArray) (ha : a.size < 1000000000000) : ∀ (n i : Nat), i + n = a.size → i ≤ b.size → Ev (fun k => joistref00_Texts.l0 k a b (i : Int)) (cmpT (a.toList.drop i) (b.toList.drop i))
  | 0, i, hi, hib => by
    have h1 : ¬ i < a.size := by omega
    refine Ev.step (f := fun k => joistref00_Texts.j1 k a b i false) (fun k => by simp only [joistref00_Texts.l0]; rw [if_neg (by omega)]) ?_
    rw [drop_all a i h1]
    by_cases h2 : i < b.size
    · refine Ev.step (f := fun _ => some (-1)) (fun k => by simp only [joistref00_Texts.j1]; rw [if_neg (by simp), if_pos (by omega)]) ?_
      rw [drop_one b i h2, cmpT_nil_cons]
      exact Ev.now _
    · rw [drop_all b i h2, cmpT_nil]
      exact Ev.step (f := fun _ => some 0) (fun k => by simp only [joistref00_Texts.j1]; rw [if_neg (by simp), if_neg (by omega), if_neg (by omega)]) (Ev.now _)
  | n + 1, i, hi, hib => by
    have h1 : i < a.size := by omega
    by_cases h2 : i < b.size
    · have hd : decide ((i : Int) < (b.size : Int)) = true := decide_eq_true (by omega)
      refine Ev.step (f := fun k => joistref00_Texts.j1 k a b i true) (fun k => by simp only [joistref00_Texts.l0]; rw [if_pos (by omega), hd]) ?_
      rw [drop_one a i h1, drop_one b i h2, cmpT_cons]
      have e1 := bt_nat a i h1
      have e2 := bt_nat b i h2
      by_cases h3 : a[i] = b[i]
      · rw [if_pos h3]
        refine Ev.step (f := fun k => joistref00_Texts.l0 k a b ((i + 1 : Nat) : Int)) (fun k => by simp only [joistref00_Texts.j1]; rw [if_pos trivial, if_pos (by omega), if_pos (by omega), if_pos (by omega), if_pos (by rw [e1, e2, u8_eq]; exact h3), wrap_one i (by omega)]) ?_
        exact texts_loop a b ha n (i + 1) (by omega) (by omega)
      · rw [if_neg h3]
        by_cases h4 : a[i] < b[i]
        · rw [if_pos h4]
          exact Ev.step (f := fun _ => some (-1)) (fun k => by simp only [joistref00_Texts.j1]; rw [if_pos trivial, if_pos (by omega), if_pos (by omega), if_pos (by omega), if_neg (by rw [e1, e2, u8_eq]; exact h3), if_pos (by rw [e1, e2, u8_lt]; exact h4)]) (Ev.now _)
        · rw [if_neg h4]
          exact Ev.step (f := fun _ => some 1) (fun k => by simp only [joistref00_Texts.j1]; rw [if_pos trivial, if_pos (by omega), if_pos (by omega), if_pos (by omega), if_neg (by rw [e1, e2, u8_eq]; exact h3), if_neg (by rw [e1, e2, u8_lt]; exact h4)]) (Ev.now _)
    · have hd : decide ((i : Int) < (b.size : Int)) = false := decide_eq_false (by omega)
      refine Ev.step (f := fun k => joistref00_Texts.j1 k a b i false) (fun k => by simp only [joistref00_Texts.l0]; rw [if_pos (by omega), hd]) ?_
      rw [drop_one a i h1, drop_all b i h2, cmpT_cons_nil]
      exact Ev.step (f := fun _ => some 1) (fun k => by simp only [joistref00_Texts.j1]; rw [if_neg (by simp), if_neg (by omega), if_pos (by omega)]) (Ev.now _)
theorem Texts (a b : ByteArray) (ha : a.size < 1000000000000) : Ev (fun k => joistref00_Texts.f k a b) (cmpT a.toList b.toList) := by
  have h := texts_loop a b ha a.size 0 (by omega) (Nat.zero_le _)
  rw [List.drop_zero, List.drop_zero] at h
  exact h
theorem cmpT_lt {a b : List UInt8} : cmpT a b < 0 ↔ a < b := by
  unfold cmpT
  by_cases h : a < b
  · simp [h]
  · by_cases h2 : b < a <;> simp [h, h2]
theorem cmpT_gt {a b : List UInt8} : 0 < cmpT a b ↔ b < a := by
  unfold cmpT
  by_cases h : a < b
  · have h3 : ¬ b < a := fun h2 => List.lt_irrefl a (List.lt_trans h h2)
    simp only [if_pos h, h3, iff_false]
    decide
  · by_cases h2 : b < a <;> simp [h, h2]
theorem cmpT_zero {a b : List UInt8} : cmpT a b = 0 ↔ a = b := by
  constructor
  · intro h
    have h1 : ¬ a < b := fun h2 => by rw [← cmpT_lt] at h2; omega
    have h3 : ¬ b < a := fun h2 => by rw [← cmpT_gt] at h2; omega
    exact List.le_antisymm (List.not_lt.mp h3) (List.not_lt.mp h1)
  · intro h
    subst h
    unfold cmpT
    rw [if_neg (List.lt_irrefl a), if_neg (List.lt_irrefl a)]
theorem less_lt (a b : List UInt8) : Op.bytesLess a b = decide (a < b) := Go.Proofs.bytesLess_eq a b

/-! ### cells -/
/-- the numbers that Order goes through -/
def fam (c : S29) : Int := if c.f4 = 4 then 0 else 1
def cmpI (a b : Int) : Int := if a < b then -1 else if a > b then 1 else 0
def ordL (a b : S29) : List Int := [cmpT a.f0.toList b.f0.toList, cmpT a.f1.toList b.f1.toList, cmpI (fam a) (fam b), cmpT a.f2.toList b.f2.toList, cmpI b.f3 a.f3, cmpI b.f4 a.f4]
def firstNZ : List Int → Int
  | [] => 0
  | x :: r => if x = 0 then firstNZ r else x
def ordC (a b : S29) : Int := firstNZ (ordL a b)
theorem cmp_now (a b : Int) (k : Nat) : joistref03_cmp.f a b = some (cmpI a b) := by
  unfold joistref03_cmp.f cmpI
  split
  · rfl
  · split <;> rfl
theorem first_loop (l : List Int) (hl : l.length < 1000) : ∀ (n i : Nat), i + n = l.length → Ev (fun k => joistref03_Order.l0 k l (i : Int)) (firstNZ (l.drop i))
  | 0, i, hi => by
    rw [List.drop_eq_nil_iff.mpr (by omega)]
    exact Ev.step (f := fun _ => some 0) (fun k => by simp only [joistref03_Order.l0]; rw [if_neg (by omega)]) (Ev.now _)
  | n + 1, i, hi => by
    have h1 : i < l.length := by omega
    have hr : rd l (i : Int) = l[i] := by simp [rd, List.getD_eq_getElem?_getD, List.getElem?_eq_getElem h1]
    rw [List.drop_eq_getElem_cons h1, firstNZ]
    by_cases h : l[i] = 0
    · rw [if_pos h]
      refine Ev.step (f := fun k => joistref03_Order.l0 k l ((i + 1 : Nat) : Int)) (fun k => by simp only [joistref03_Order.l0]; rw [if_pos (by omega), if_pos (by omega), hr, if_pos h, wrap_one i (by omega)]) ?_
      exact first_loop l hl n (i + 1) (by omega)
    · rw [if_neg h]
      exact Ev.step (f := fun _ => some l[i]) (fun k => by simp only [joistref03_Order.l0]; rw [if_pos (by omega), if_pos (by omega), hr, if_neg h]) (Ev.now _)
/-- small cells -/
def Small (c : S29) : Prop := c.f0.size < 1000 ∧ c.f1.size < 1000 ∧ c.f2.size < 1000
theorem order_j1 (x y : Int) (a b : S29) (ha : Small a) : Ev (fun k => joistref03_Order.j1 k x y a.f0 a.f1 a.f2 a.f3 a.f4 a.f5.f0 a.f5.f1 a.f5.f2 b.f0 b.f1 b.f2 b.f3 b.f4 b.f5.f0 b.f5.f1 b.f5.f2) (firstNZ [cmpT a.f0.toList b.f0.toList, cmpT a.f1.toList b.f1.toList, cmpI x y, cmpT a.f2.toList b.f2.toList, cmpI b.f3 a.f3, cmpI b.f4 a.f4]) := by
  refine Ev.step (fun _ => by simp only [joistref03_Order.j1]; rfl) ?_
  refine Ev.bind (Texts a.f0 b.f0 (by have := ha.1; omega)) ?_
  refine Ev.bind (Texts a.f1 b.f1 (by have := ha.2.1; omega)) ?_
  refine Ev.bind ⟨0, fun k _ => cmp_now x y k⟩ ?_
  refine Ev.bind (Texts a.f2 b.f2 (by have := ha.2.2; omega)) ?_
  refine Ev.bind ⟨0, fun k _ => cmp_now _ _ k⟩ ?_
  refine Ev.bind ⟨0, fun k _ => cmp_now _ _ k⟩ ?_
  have h := first_loop [cmpT a.f0.toList b.f0.toList, cmpT a.f1.toList b.f1.toList, cmpI x y, cmpT a.f2.toList b.f2.toList, cmpI b.f3 a.f3, cmpI b.f4 a.f4] (by simp) 6 0 (by simp)
  exact h
theorem Order (a b : S29) (ha : Small a) : Ev (fun k => joistref03_Order.f k a.f0 a.f1 a.f2 a.f3 a.f4 a.f5.f0 a.f5.f1 a.f5.f2 b.f0 b.f1 b.f2 b.f3 b.f4 b.f5.f0 b.f5.f1 b.f5.f2) (ordC a b) := by
  unfold ordC ordL fam
  by_cases h1 : a.f4 = 4
  · rw [if_pos h1]
    refine Ev.congr (f := fun k => joistref03_Order.j0 k 0 1 a.f0 a.f1 a.f2 a.f3 a.f4 a.f5.f0 a.f5.f1 a.f5.f2 b.f0 b.f1 b.f2 b.f3 b.f4 b.f5.f0 b.f5.f1 b.f5.f2) (fun k => by unfold joistref03_Order.f; rw [if_pos h1]) ?_
    by_cases h2 : b.f4 = 4
    · rw [if_pos h2]
      exact Ev.step (fun k => by simp only [joistref03_Order.j0]; rw [if_pos h2]) (order_j1 0 0 a b ha)
    · rw [if_neg h2]
      exact Ev.step (fun k => by simp only [joistref03_Order.j0]; rw [if_neg h2]) (order_j1 0 1 a b ha)
  · rw [if_neg h1]
    refine Ev.congr (f := fun k => joistref03_Order.j0 k 1 1 a.f0 a.f1 a.f2 a.f3 a.f4 a.f5.f0 a.f5.f1 a.f5.f2 b.f0 b.f1 b.f2 b.f3 b.f4 b.f5.f0 b.f5.f1 b.f5.f2) (fun k => by unfold joistref03_Order.f; rw [if_neg h1]) ?_
    by_cases h2 : b.f4 = 4
    · rw [if_pos h2]
      exact Ev.step (fun k => by simp only [joistref03_Order.j0]; rw [if_pos h2]) (order_j1 1 0 a b ha)
    · rw [if_neg h2]
      exact Ev.step (fun k => by simp only [joistref03_Order.j0]; rw [if_neg h2]) (order_j1 1 1 a b ha)
end Go.Proofs.Ythbgjaboghnpjaa.Pure

namespace Go.Proofs.Ythbgjaboghnpjaa.Pure
open Go.RowKit Go.Proofs.Ythbgjaboghnpjaa.Q Go.Proofs.YthbgjaboghnpjaaW.PrintWords Go.Proofs.YthbgjaboghnpjaaW.PrintLast Go.Proofs.YthbgjaboghnpjaaW.PrintMore

/-! ### it comes to an end, and says something -/
def Has (g : Nat → Option Bool) : Prop := ∃ r, Ev g r
theorem Has.now (r : Bool) : Has (fun _ => some r) := ⟨r, Ev.now r⟩
theorem Has.step {g f : Nat → Option Bool} (h : ∀ k, g (k + 1) = f k) (k : Has f) : Has g := k.elim fun r e => ⟨r, Ev.step h e⟩
theorem Has.congr {g f : Nat → Option Bool} (h : ∀ k, g k = f k) (k : Has f) : Has g := k.elim fun r e => ⟨r, Ev.congr h e⟩
theorem Has.ite {p : Prop} [Decidable p] {g f : Nat → Option Bool} (h1 : p → Has g) (h2 : ¬ p → Has f) : Has (fun k => if p then g k else f k) := by
  by_cases h : p
  · exact Has.congr (fun k => if_pos h) (h1 h)
  · exact Has.congr (fun k => if_neg h) (h2 h)
theorem Has.bind_id {g : Nat → Option Bool} (h : Has g) : Has (fun k => (g k).bind fun t => some t) := h.elim fun r e => ⟨r, Ev.bind e (Ev.now r)⟩
theorem wrap_nat (n : Nat) (h : n < 1000000000000) : wrap64 (n : Int) = (n : Int) := by unfold wrap64; omega
theorem wrap_sum (a b : Nat) (h : a + b < 1000000000000) : wrap64 ((a : Int) + (b : Int)) = ((a + b : Nat) : Int) := by unfold wrap64; omega

/-- What stands behind position i of the text is looked at to the end. -/
theorem utf8_l1 (s : ByteArray) (hs : s.size < 1000) (i n : Nat) (hin : i + n < s.size) (least : Int) (hnext : Has (fun k => joistref02_Utf8.l0 k s ((i + (n + 1) : Nat) : Int))) :
    ∀ (m j : Nat) (c : Int), j + m = n + 1 → Has (fun k => joistref02_Utf8.l1 k s (i : Int) c (n : Int) least (j : Int))
  | 0, j, c, hj => by
    refine Has.step (fun k => by simp only [joistref02_Utf8.l1]; rw [if_neg (by omega)]) ?_
    have hw : wrap64 ((i : Int) + wrap64 ((n : Int) + 1)) = ((i + (n + 1) : Nat) : Int) := by
      rw [wrap_one n (by omega), wrap_sum i (n + 1) (by omega)]
    rw [hw]
    exact Has.ite (fun _ => Has.now _) fun _ => Has.ite (fun _ => Has.now _) fun _ => Has.ite (fun _ => Has.ite (fun _ => Has.now _) fun _ => hnext) fun _ => hnext
  | m + 1, j, c, hj => by
    have hw : wrap64 ((i : Int) + (j : Int)) = ((i + j : Nat) : Int) := wrap_sum i j (by omega)
    refine Has.step (fun k => by simp only [joistref02_Utf8.l1]; rw [if_pos (by omega), hw, if_pos (by omega), if_pos (by omega), wrap_one j (by omega)]) ?_
    exact Has.ite (fun _ => Has.now _) fun _ => Has.ite (fun _ => Has.now _) fun _ => utf8_l1 s hs i n hin least hnext m (j + 1) _ (by omega)
theorem utf8_l0 (s : ByteArray) (hs : s.size < 1000) : ∀ (m i : Nat), s.size < i + m → Has (fun k => joistref02_Utf8.l0 k s (i : Int))
  | 0, i, h => by
    exact Has.step (fun k => by simp only [joistref02_Utf8.l0]; rw [if_neg (by omega)]) (Has.now _)
  | m + 1, i, h => by
    by_cases hi : i < s.size
    · refine Has.step (fun k => by simp only [joistref02_Utf8.l0]; rw [if_pos (by omega), if_pos (by omega), wrap_one i (by omega)]) ?_
      have go : ∀ (n : Nat) (c least : Int), n ≤ 3 → 1 ≤ n → Has (fun k => joistref02_Utf8.j3 k s (i : Int) c (n : Int) least) := by
        intro n c least hn hn1
        refine Has.step (fun k => by simp only [joistref02_Utf8.j3]; rw [wrap_sum i n (by omega)]) ?_
        refine Has.ite (fun _ => Has.now _) fun hlt => ?_
        exact utf8_l1 s hs i n (by omega) least (utf8_l0 s hs m (i + (n + 1)) (by omega)) n 1 c (by omega)
      have g1 := fun c => go 1 c 128 (by omega) (by omega)
      have g2 := fun c => go 2 c 2048 (by omega) (by omega)
      have g3 := fun c => go 3 c 65536 (by omega) (by omega)
      have j2 : ∀ (c : Int) (b : Bool), Has (fun k => joistref02_Utf8.j2 k s (i : Int) c b) := fun c b =>
        Has.step (fun k => by simp only [joistref02_Utf8.j2]; rfl) (Has.ite (fun _ => g2 _) fun _ => Has.ite (fun _ => Has.ite (fun _ => g3 _) fun _ => Has.now _) fun _ => Has.now _)
      have j1 : ∀ (c : Int) (b : Bool), Has (fun k => joistref02_Utf8.j1 k s (i : Int) c b) := fun c b =>
        Has.step (fun k => by simp only [joistref02_Utf8.j1]; rfl) (Has.ite (fun _ => g1 _) fun _ => Has.ite (fun _ => j2 _ _) fun _ => j2 _ _)
      exact Has.ite (fun _ => utf8_l0 s hs m (i + 1) (by omega)) fun _ => Has.ite (fun _ => j1 _ _) fun _ => j1 _ _
    · exact Has.step (fun k => by simp only [joistref02_Utf8.l0]; rw [if_neg (by omega)]) (Has.now _)
theorem Utf8 (s : ByteArray) (hs : s.size < 1000) : Has (fun k => joistref02_Utf8.f k s) := utf8_l0 s hs (s.size + 1) 0 (by omega)
theorem Right02 (a b : Int) (s : ByteArray) : Has (fun k => joistref02_Right.f k a b s) := by
  unfold joistref02_Right.f
  refine Has.ite (fun _ => Has.now _) fun _ => Has.ite (fun _ => Has.ite (fun _ => Has.now _) fun _ => Has.now _) fun _ => Has.ite (fun _ => Has.ite (fun _ => Has.ite (fun h => Has.bind_id (Utf8 s (by omega))) fun _ => Has.now _) fun _ => Has.now _) fun _ => Has.ite (fun _ => Has.ite (fun _ => Has.ite (fun _ => Has.now _) fun _ => Has.now _) fun _ => Has.now _) fun _ => Has.ite (fun _ => Has.ite (fun _ => ?_) fun _ => Has.now _) fun _ => Has.now _
  unfold joistref01_Right.f joistref01_size.f
  simp only [Option.bind_some]
  by_cases h : Go.bits .andNot .i64 b (-9223372036854775808) ≤ 9218868437227405312
  · exact Has.congr (fun _ => by rw [if_pos h]; rfl) (Has.now true)
  · exact Has.congr (fun _ => by rw [if_neg h]; rfl) (Has.now (b == 9221120237041090560))
theorem name_loop (s : ByteArray) (hs : s.size < 1000000000000) : ∀ (m i : Nat), s.size ≤ i + m → Has (fun k => joistref03_Name.l0 k s (i : Int))
  | 0, i, h => Has.step (fun k => by simp only [joistref03_Name.l0]; rw [if_neg (by omega)]) (Has.ite (fun _ => Has.now _) fun _ => Has.now _)
  | m + 1, i, h => by
    by_cases hi : i < s.size
    · have nx := name_loop s hs m (i + 1) (by omega)
      refine Has.step (fun k => by simp only [joistref03_Name.l0]; rw [if_pos (by omega), if_pos (by omega), wrap_one i (by omega)]) ?_
      exact Has.ite (fun _ => Has.ite (fun _ => nx) fun _ => Has.ite (fun _ => Has.ite (fun _ => nx) fun _ => Has.now _) fun _ => Has.now _) fun _ => Has.ite (fun _ => Has.ite (fun _ => nx) fun _ => Has.now _) fun _ => Has.now _
    · exact Has.step (fun k => by simp only [joistref03_Name.l0]; rw [if_neg (by omega)]) (Has.ite (fun _ => Has.now _) fun _ => Has.now _)
end Go.Proofs.Ythbgjaboghnpjaa.Pure

namespace Go.Proofs.Ythbgjaboghnpjaa.Pure
open Go.RowKit Go.Proofs.Ythbgjaboghnpjaa.Q Go.Proofs.YthbgjaboghnpjaaW.PrintWords Go.Proofs.YthbgjaboghnpjaaW.PrintLast Go.Proofs.YthbgjaboghnpjaaW.PrintMore

/-! ### a right cell of a family has no qualifier -/
def Rq (c : S29) : Prop := c.f4 = 4 → c.f2.toList = []
def HasR (c : S29) (g : Nat → Option Bool) : Prop := ∃ r, Ev g r ∧ (r = true → Rq c)
theorem HasR.no (c : S29) : HasR c (fun _ => some false) := ⟨false, Ev.now _, fun h => by cases h⟩
theorem HasR.of {c : S29} {g : Nat → Option Bool} (h : Has g) (hc : Rq c) : HasR c g := h.elim fun r e => ⟨r, e, fun _ => hc⟩
theorem HasR.step {c : S29} {g f : Nat → Option Bool} (h : ∀ k, g (k + 1) = f k) (k : HasR c f) : HasR c g := k.elim fun r e => ⟨r, Ev.step h e.1, e.2⟩
theorem HasR.congr {c : S29} {g f : Nat → Option Bool} (h : ∀ k, g k = f k) (k : HasR c f) : HasR c g := k.elim fun r e => ⟨r, Ev.congr h e.1, e.2⟩
theorem HasR.ite {c : S29} {p : Prop} [Decidable p] {g f : Nat → Option Bool} (h1 : p → HasR c g) (h2 : ¬ p → HasR c f) : HasR c (fun k => if p then g k else f k) := by
  by_cases h : p
  · exact HasR.congr (fun k => if_pos h) (h1 h)
  · exact HasR.congr (fun k => if_neg h) (h2 h)
theorem right_j1 (c : S29) (b : Bool) (hb : b = true → c.f4 ≠ 4) : HasR c (fun k => joistref03_Right.j1 k c.f4 b c.f0 c.f1 c.f2 c.f3 c.f4 c.f5.f0 c.f5.f1 c.f5.f2) := by
  refine HasR.step (fun k => by simp only [joistref03_Right.j1]; rfl) ?_
  refine HasR.ite (fun h => HasR.of (Has.now _) (fun h4 => absurd h4 (hb h))) fun _ => HasR.ite (fun _ => HasR.ite (fun _ => ⟨_, Ev.now _, fun h _ => by simpa using h⟩) fun _ => HasR.no c) fun _ => HasR.no c
theorem right_j0 (c : S29) (b : Bool) : HasR c (fun k => joistref03_Right.j0 k b c.f0 c.f1 c.f2 c.f3 c.f4 c.f5.f0 c.f5.f1 c.f5.f2) := by
  refine HasR.step (fun k => by simp only [joistref03_Right.j0]; rfl) ?_
  refine HasR.ite (fun _ => HasR.no c) fun _ => HasR.ite (fun h => HasR.of (Has.bind_id (Right02 _ _ _)) (fun h4 => by omega)) fun _ => HasR.ite (fun h => right_j1 c _ (fun _ => by omega)) fun _ => right_j1 c _ (fun h => ?_)
  have := beq_iff_eq.mp h
  omega
theorem Right03 (c : S29) (hc : Small c) : HasR c (fun k => joistref03_Right.f k c.f0 c.f1 c.f2 c.f3 c.f4 c.f5.f0 c.f5.f1 c.f5.f2) := by
  unfold joistref03_Right.f
  refine HasR.ite (fun _ => right_j0 c _) fun _ => HasR.ite (fun _ => right_j0 c _) fun _ => ?_
  obtain ⟨b, hb⟩ : Has (fun k => joistref03_Name.f k c.f1) := name_loop c.f1 (by have := hc.2.1; omega) c.f1.size 0 (by omega)
  obtain ⟨r, e, p⟩ : HasR c (fun k => if b = true then (if (c.f2.size : Int) > 12 then (joistref03_Right.j0 k true c.f0 c.f1 c.f2 c.f3 c.f4 c.f5.f0 c.f5.f1 c.f5.f2) else (if c.f3 < 0 then (joistref03_Right.j0 k true c.f0 c.f1 c.f2 c.f3 c.f4 c.f5.f0 c.f5.f1 c.f5.f2) else (joistref03_Right.j0 k (decide (c.f3 > 1099511627776)) c.f0 c.f1 c.f2 c.f3 c.f4 c.f5.f0 c.f5.f1 c.f5.f2))) else (joistref03_Right.j0 k true c.f0 c.f1 c.f2 c.f3 c.f4 c.f5.f0 c.f5.f1 c.f5.f2)) :=
    HasR.ite (fun _ => HasR.ite (fun _ => right_j0 c _) fun _ => HasR.ite (fun _ => right_j0 c _) fun _ => right_j0 c _) fun _ => right_j0 c _
  exact ⟨r, Ev.bind hb e, p⟩

/-! ### the order of row, family and qualifier -/
def KL (a b : S29) : Prop := a.f0.toList < b.f0.toList ∨ (a.f0.toList = b.f0.toList ∧ (a.f1.toList < b.f1.toList ∨ (a.f1.toList = b.f1.toList ∧ ¬ b.f2.toList < a.f2.toList)))
theorem nlt_trans {a b c : List UInt8} (h1 : ¬ b < a) (h2 : ¬ c < b) : ¬ c < a := fun h => by
  by_cases h3 : a < b
  · exact h2 (List.lt_trans h h3)
  · have : a = b := List.le_antisymm (List.not_lt.mp h1) (List.not_lt.mp h3)
    exact h2 (this ▸ h)
theorem KL.trans {a b c : S29} (h1 : KL a b) (h2 : KL b c) : KL a c := by
  unfold KL at *
  rcases h1 with h1 | ⟨e1, h1⟩
  · rcases h2 with h2 | ⟨e2, h2⟩
    · exact .inl (List.lt_trans h1 h2)
    · exact .inl (e2 ▸ h1)
  · rcases h2 with h2 | ⟨e2, h2⟩
    · exact .inl (e1 ▸ h2)
    · refine .inr ⟨e1.trans e2, ?_⟩
      rcases h1 with h1 | ⟨f1, h1⟩
      · rcases h2 with h2 | ⟨f2, h2⟩
        · exact .inl (List.lt_trans h1 h2)
        · exact .inl (f2 ▸ h1)
      · rcases h2 with h2 | ⟨f2, h2⟩
        · exact .inl (f1 ▸ h2)
        · exact .inr ⟨f1.trans f2, nlt_trans h1 h2⟩
theorem not_lt_nil (a : List UInt8) : ¬ a < [] := by cases a <;> simp
theorem ordC_le {a b : S29} (ha : Rq a) (h : ordC a b ≤ 0) : KL a b := by
  unfold ordC ordL firstNZ at h
  unfold KL
  by_cases h0 : cmpT a.f0.toList b.f0.toList = 0
  · refine .inr ⟨cmpT_zero.mp h0, ?_⟩
    rw [if_pos h0] at h
    unfold firstNZ at h
    by_cases h1 : cmpT a.f1.toList b.f1.toList = 0
    · refine .inr ⟨cmpT_zero.mp h1, ?_⟩
      rw [if_pos h1] at h
      unfold firstNZ at h
      by_cases h2 : cmpI (fam a) (fam b) = 0
      · rw [if_pos h2] at h
        unfold firstNZ at h
        by_cases h3 : cmpT a.f2.toList b.f2.toList = 0
        · rw [cmpT_zero.mp h3]
          exact List.lt_irrefl _
        · rw [if_neg h3] at h
          intro h4
          have := cmpT_gt.mpr h4
          omega
      · rw [if_neg h2] at h
        unfold cmpI fam at h h2
        by_cases h4 : a.f4 = 4
        · rw [ha h4]
          exact not_lt_nil _
        · exfalso
          rw [if_neg h4] at h h2
          by_cases h5 : b.f4 = 4
          · rw [if_pos h5] at h h2
            revert h
            decide
          · rw [if_neg h5] at h2
            exact h2 (by decide)
    · rw [if_neg h1] at h
      exact .inl (cmpT_lt.mp (by omega))
  · rw [if_neg h0] at h
    exact .inl (cmpT_lt.mp (by omega))
theorem ordC_gt {a b : S29} (hb : Rq b) (h : ¬ ordC a b ≤ 0) : KL b a := by
  unfold ordC ordL firstNZ at h
  unfold KL
  by_cases h0 : cmpT a.f0.toList b.f0.toList = 0
  · refine .inr ⟨(cmpT_zero.mp h0).symm, ?_⟩
    rw [if_pos h0] at h
    unfold firstNZ at h
    by_cases h1 : cmpT a.f1.toList b.f1.toList = 0
    · refine .inr ⟨(cmpT_zero.mp h1).symm, ?_⟩
      rw [if_pos h1] at h
      unfold firstNZ at h
      by_cases h2 : cmpI (fam a) (fam b) = 0
      · rw [if_pos h2] at h
        unfold firstNZ at h
        by_cases h3 : cmpT a.f2.toList b.f2.toList = 0
        · rw [cmpT_zero.mp h3]
          exact List.lt_irrefl _
        · rw [if_neg h3] at h
          intro h4
          have := cmpT_lt.mpr h4
          omega
      · rw [if_neg h2] at h
        unfold cmpI fam at h h2
        by_cases h4 : b.f4 = 4
        · rw [hb h4]
          exact not_lt_nil _
        · exfalso
          rw [if_neg h4] at h h2
          by_cases h5 : a.f4 = 4
          · rw [if_pos h5] at h h2
            revert h
            decide
          · rw [if_neg h5] at h2
            exact h2 (by decide)
    · rw [if_neg h1] at h
      exact .inl (cmpT_gt.mp (by omega))
  · rw [if_neg h0] at h
    exact .inl (cmpT_gt.mp (by omega))
/-! ### one cell is put in -/
def insGo (x : S29) : Bool → List S29 → List S29
  | d, [] => if d = true then [] else [x]
  | d, y :: ys => (if (!d && decide (ordC x y ≤ 0)) = true then [x] else []) ++ ((if ordC x y = 0 then [] else [y]) ++ insGo x (d || decide (ordC x y ≤ 0)) ys)
theorem ins_sub (x : S29) : ∀ (ys : List S29) (d : Bool) (z : S29), z ∈ insGo x d ys → z = x ∨ z ∈ ys
  | [], d, z, h => by
    cases d <;> simp [insGo] at h
    exact .inl h
  | y :: ys, d, z, h => by
    rw [insGo, List.mem_append, List.mem_append] at h
    rcases h with h | h | h
    · split at h
      · exact .inl (by simpa using h)
      · cases h
    · split at h
      · cases h
      · exact .inr (by rw [List.mem_singleton.mp h]; exact List.mem_cons_self)
    · rcases ins_sub x ys _ z h with h | h
      · exact .inl h
      · exact .inr (List.mem_cons_of_mem _ h)
theorem ins_true (x : S29) : ∀ (ys : List S29), (insGo x true ys).Sublist ys
  | [] => by simp [insGo]
  | y :: ys => by
    rw [insGo]
    simp only [Bool.not_true, Bool.false_and, Bool.false_eq_true, if_false, List.nil_append, Bool.true_or]
    split
    · exact List.Sublist.cons _ (ins_true x ys)
    · exact List.Sublist.cons_cons _ (ins_true x ys)
theorem ins_pair (x : S29) (hx : Rq x) : ∀ (ys : List S29), (∀ y ∈ ys, Rq y) → ys.Pairwise KL → (insGo x false ys).Pairwise KL
  | [], _, _ => by simp [insGo]
  | y :: ys, hr, hp => by
    have hp' := List.pairwise_cons.mp hp
    rw [insGo]
    by_cases h : ordC x y ≤ 0
    · have hxy := ordC_le hx h
      have hs := ins_true x ys
      have hall : ∀ z ∈ insGo x true ys, KL y z := fun z hz => hp'.1 z (hs.subset hz)
      simp only [h, Bool.not_false, Bool.true_and, decide_true, if_true, Bool.or_true, List.singleton_append]
      refine List.pairwise_cons.mpr ⟨?_, ?_⟩
      · intro z hz
        rw [List.mem_append] at hz
        rcases hz with hz | hz
        · split at hz
          · cases hz
          · rw [List.mem_singleton.mp hz]; exact hxy
        · exact hxy.trans (hall z hz)
      · split
        · exact hp'.2.sublist hs
        · exact List.pairwise_cons.mpr ⟨hall, hp'.2.sublist hs⟩
    · have hyx := ordC_gt (hr y List.mem_cons_self) h
      have hne : ordC x y ≠ 0 := fun e => h (by omega)
      simp only [h, hne, Bool.not_false, Bool.true_and, decide_false, Bool.false_eq_true, if_false, Bool.or_false, List.nil_append, List.singleton_append]
      refine List.pairwise_cons.mpr ⟨fun z hz => ?_, ins_pair x hx ys (fun z hz => hr z (List.mem_cons_of_mem _ hz)) hp'.2⟩
      rcases ins_sub x ys false z hz with h1 | h1
      · exact h1 ▸ hyx
      · exact hp'.1 z h1
theorem ins_length (x : S29) : ∀ (ys : List S29) (d : Bool), (insGo x d ys).length ≤ ys.length + (if d = true then 0 else 1)
  | [], d => by cases d <;> simp [insGo]
  | y :: ys, d => by
    have ih := ins_length x ys (d || decide (ordC x y ≤ 0))
    rw [insGo, List.length_append, List.length_append, List.length_cons]
    cases d <;> by_cases h : ordC x y ≤ 0 <;> by_cases h2 : ordC x y = 0 <;> simp [h, h2] at ih ⊢ <;> omega
end Go.Proofs.Ythbgjaboghnpjaa.Pure

namespace Go.Proofs.Ythbgjaboghnpjaa.Pure
open Go.RowKit Go.Proofs.Ythbgjaboghnpjaa.Q Go.Proofs.YthbgjaboghnpjaaW.PrintWords Go.Proofs.YthbgjaboghnpjaaW.PrintLast Go.Proofs.YthbgjaboghnpjaaW.PrintMore

theorem rd_at (l : List S29) (i : Nat) (h : i < l.length) : rd_T29 l (i : Int) = l[i] := by
  simp [rd_T29, List.getD_eq_getElem?_getD, List.getElem?_eq_getElem h]
theorem sort_j2 (l : List S29) (i : Nat) (hi : i < l.length) (out : List S29) (j : Nat) (hj : j < out.length) (hl : out.length ≤ 1000) (next : List S29) (hn : next.length ≤ 2 * j) (d : Bool) (t : Int) (b : Bool) (R : List S29)
    (h : Ev (fun k => joistref06_Sort.l1 k l out (i : Int) ((next ++ (if b = true then [l[i]] else [])) ++ (if t = 0 then [] else [out[j]])) (d || b) ((j + 1 : Nat) : Int)) R) :
    Ev (fun k => joistref06_Sort.j2 k l out (i : Int) next d (j : Int) t b) R := by
  have e1 := rd_at l i hi
  have e2 := rd_at out j hj
  cases b with
  | true =>
    simp only [if_true, Bool.or_true] at h
    by_cases ht : t = 0
    · simp only [ht, if_true, List.append_nil] at h
      exact Ev.step (fun k => by simp only [joistref06_Sort.j2, if_true]; rw [if_pos (by omega), if_pos (by omega), if_pos (by omega), Option.bind_some, if_pos ht, e1, wrap_one j (by omega)]) h
    · simp only [ht, if_false] at h
      refine Ev.step (fun k => by simp only [joistref06_Sort.j2, if_true]; rw [if_pos (by omega), if_pos (by omega), if_pos (by omega), Option.bind_some, if_neg ht, if_pos (by omega), if_pos (by omega), if_pos (by rw [List.length_append, List.length_singleton]; omega), e1, e2, wrap_one j (by omega)]) h
  | false =>
    simp only [Bool.false_eq_true, if_false, Bool.or_false, List.append_nil] at h
    by_cases ht : t = 0
    · simp only [ht, if_true, List.append_nil] at h
      exact Ev.step (fun k => by simp only [joistref06_Sort.j2, Bool.false_eq_true, if_false]; rw [if_pos ht, wrap_one j (by omega)]) h
    · simp only [ht, if_false] at h
      exact Ev.step (fun k => by simp only [joistref06_Sort.j2, Bool.false_eq_true, if_false]; rw [if_neg ht, if_pos (by omega), if_pos (by omega), if_pos (by omega), e2, wrap_one j (by omega)]) h
theorem sort_l1 (l : List S29) (i : Nat) (hi : i < l.length) (hil : l.length ≤ 1000) (hs : Small l[i]) (out : List S29) (hl : out.length ≤ 1000) (R : List S29) :
    ∀ (m j : Nat) (next : List S29) (d : Bool), j + m = out.length → next.length ≤ 2 * j → Ev (fun k => joistref06_Sort.l0 k l (next ++ insGo l[i] d (out.drop j)) ((i + 1 : Nat) : Int)) R → Ev (fun k => joistref06_Sort.l1 k l out (i : Int) next d (j : Int)) R
  | 0, j, next, d, hj, hn, h => by
    have e1 := rd_at l i hi
    rw [List.drop_eq_nil_iff.mpr (by omega)] at h
    cases d with
    | true =>
      simp only [insGo, if_true, List.append_nil] at h
      exact Ev.step (fun k => by simp only [joistref06_Sort.l1, if_true]; rw [if_neg (by omega), wrap_one i (by omega)]) h
    | false =>
      simp only [insGo, Bool.false_eq_true, if_false] at h
      exact Ev.step (fun k => by simp only [joistref06_Sort.l1, Bool.false_eq_true, if_false]; rw [if_neg (by omega), if_pos (by omega), if_pos (by omega), if_pos (by omega), e1, wrap_one i (by omega)]) h
  | m + 1, j, next, d, hj, hn, h => by
    have hj1 : j < out.length := by omega
    have e1 := rd_at l i hi
    have e2 := rd_at out j hj1
    rw [List.drop_eq_getElem_cons hj1, insGo] at h
    refine Ev.step (fun k => by simp only [joistref06_Sort.l1]; rw [if_pos (by omega), if_pos (by omega), if_pos (by omega), if_pos (by omega), e1, e2]) ?_
    refine Ev.bind (Order l[i] out[j] hs) ?_
    have key : ∀ b : Bool, b = (!d && decide (ordC l[i] out[j] ≤ 0)) → Ev (fun k => joistref06_Sort.j2 k l out (i : Int) next d (j : Int) (ordC l[i] out[j]) b) R := by
      intro b hb
      refine sort_j2 l i hi out j hj1 hl next hn d _ b R ?_
      refine sort_l1 l i hi hil hs out hl R m (j + 1) _ _ (by omega) ?_ ?_
      · rw [List.length_append, List.length_append]
        split <;> split <;> simp <;> omega
      · have hd : (d || b) = (d || decide (ordC l[i] out[j] ≤ 0)) := by rw [hb]; cases d <;> simp
        rw [hd, hb]
        simpa only [List.append_assoc] using h
    cases d with
    | true => exact Ev.congr (fun k => if_pos rfl) (key false (by simp))
    | false => exact Ev.congr (fun k => if_neg (by simp)) (key _ (by simp))
theorem sort_l0 (l : List S29) (hil : l.length ≤ 1000) (hs : ∀ c ∈ l, Small c) :
    ∀ (m i : Nat) (out : List S29), i + m = l.length → out.length ≤ i → out.Pairwise KL → (∀ c ∈ out, Rq c) → (∀ c ∈ out, c ∈ l) → ∃ r, Ev (fun k => joistref06_Sort.l0 k l out (i : Int)) r ∧ r.Pairwise KL ∧ (∀ c ∈ r, c ∈ l) ∧ r.length ≤ l.length
  | 0, i, out, hi, hn, hp, hq, hm => ⟨out, Ev.step (fun k => by simp only [joistref06_Sort.l0]; rw [if_neg (by omega)]) (Ev.now _), hp, hm, by omega⟩
  | m + 1, i, out, hi, hn, hp, hq, hm => by
    have hi1 : i < l.length := by omega
    have e1 := rd_at l i hi1
    have hsi := hs l[i] (List.getElem_mem hi1)
    obtain ⟨b, hb, hr⟩ := Right03 l[i] hsi
    cases b with
    | true =>
      have hx := hr rfl
      have hlen := ins_length l[i] out false
      simp only [Bool.false_eq_true, if_false] at hlen
      obtain ⟨r, e, p⟩ := sort_l0 l hil hs m (i + 1) (insGo l[i] false out) (by omega) (by omega) (ins_pair _ hx out hq hp)
        (fun c hc => by rcases ins_sub _ _ _ _ hc with h | h; exact h ▸ hx; exact hq c h)
        (fun c hc => by rcases ins_sub _ _ _ _ hc with h | h; exact h ▸ List.getElem_mem hi1; exact hm c h)
      refine ⟨r, ?_, p⟩
      refine Ev.step (fun k => by simp only [joistref06_Sort.l0]; rw [if_pos (by omega), if_pos (by omega), e1]) ?_
      refine Ev.bind hb ?_
      refine Ev.congr (fun k => if_pos rfl) ?_
      exact sort_l1 l i hi1 hil hsi out (by omega) r out.length 0 [] false (by omega) (by simp) (by simpa using e)
    | false =>
      obtain ⟨r, e, p⟩ := sort_l0 l hil hs m (i + 1) out (by omega) (by omega) hp hq hm
      refine ⟨r, ?_, p⟩
      refine Ev.step (fun k => by simp only [joistref06_Sort.l0]; rw [if_pos (by omega), if_pos (by omega), e1, wrap_one i (by omega)]) ?_
      refine Ev.bind hb ?_
      exact Ev.congr (fun k => if_neg (by simp)) e
theorem SortOk (l : List S29) (hil : l.length ≤ 1000) (hs : ∀ c ∈ l, Small c) : ∃ r, Ev (fun k => joistref06_Sort.f k l) r ∧ r.Pairwise KL ∧ (∀ c ∈ r, c ∈ l) ∧ r.length ≤ l.length :=
  sort_l0 l hil hs l.length 0 [] (by omega) (by simp) List.Pairwise.nil (fun _ h => by cases h) (fun _ h => by cases h)
end Go.Proofs.Ythbgjaboghnpjaa.Pure

namespace Go.Proofs.Ythbgjaboghnpjaa.Pure
open Go.RowKit Go.Proofs.Ythbgjaboghnpjaa.Q Go.Proofs.YthbgjaboghnpjaaW.PrintWords Go.Proofs.YthbgjaboghnpjaaW.PrintLast Go.Proofs.YthbgjaboghnpjaaW.PrintMore

def SR (a b : S29) : Prop := a.f0.toList = b.f0.toList
def SC (a b : S29) : Prop := a.f0.toList = b.f0.toList ∧ a.f1.toList = b.f1.toList ∧ a.f2.toList = b.f2.toList
theorem nlt_antisymm {a b : List UInt8} (h1 : ¬ a < b) (h2 : ¬ b < a) : a = b := List.le_antisymm (List.not_lt.mp h2) (List.not_lt.mp h1)
theorem lt_asymm {a b : List UInt8} (h : a < b) : ¬ b < a := fun h2 => List.lt_irrefl a (List.lt_trans h h2)
theorem KL.row {a b : S29} (h : KL a b) : ¬ b.f0.toList < a.f0.toList := by
  rcases h with h | ⟨h, _⟩
  · exact lt_asymm h
  · rw [h]; exact List.lt_irrefl _
theorem KL.fam {a b : S29} (h : KL a b) (e : a.f0.toList = b.f0.toList) : ¬ b.f1.toList < a.f1.toList := by
  rcases h with h | ⟨_, h | ⟨h, _⟩⟩
  · rw [e] at h; exact absurd h (List.lt_irrefl _)
  · exact lt_asymm h
  · rw [h]; exact List.lt_irrefl _
theorem KL.qual {a b : S29} (h : KL a b) (e : a.f0.toList = b.f0.toList) (e1 : a.f1.toList = b.f1.toList) : ¬ b.f2.toList < a.f2.toList := by
  rcases h with h | ⟨_, h | ⟨_, h⟩⟩
  · rw [e] at h; exact absurd h (List.lt_irrefl _)
  · rw [e1] at h; exact absurd h (List.lt_irrefl _)
  · exact h
/-- what lies between two cells of a row lies in that row -/
theorem row_between {a e d : S29} (h1 : KL a e) (h2 : KL e d) (h : SR d a) : SR d e := by
  unfold SR at *
  have r1 := h1.row
  have r2 := h2.row
  rw [h] at r2
  rw [h]
  exact nlt_antisymm r2 r1
theorem col_between {a e d : S29} (h1 : KL a e) (h2 : KL e d) (h : SC d a) : SC d e := by
  have hr : SR d e := row_between h1 h2 h.1
  have h0 := h.1
  have e0 : a.f0.toList = e.f0.toList := h0.symm.trans hr
  have g1 := h1.fam e0
  have g2 := h2.fam hr.symm
  rw [h.2.1] at g2
  have e1 : a.f1.toList = e.f1.toList := nlt_antisymm g2 g1
  have k1 := h1.qual e0 e1
  have k2 := h2.qual hr.symm (e1.symm.trans h.2.1.symm)
  rw [h.2.2] at k2
  exact ⟨hr, h.2.1.trans e1, h.2.2.trans (nlt_antisymm k2 k1)⟩

def tn (s : Sv) (c : S29) : Int := turnN s.c.f0 s.c.f1 s.c.f2 s.n c.f0 c.f1 c.f2
def trows (s : Sv) (c : S29) : Int := turnRows s.c.f0 s.some s.rows s.hit c.f0
def thit (s : Sv) (c : S29) : Bool := turnHit s.c.f0 s.some s.hit c.f0
def lets (f0 : List ByteArray) (f1 f2 : ByteArray) (f3 f4 f5 f6 : Int) (c : S29) : Bool := letsB f0 f1 f2 f3 f4 c.f1 c.f2 c.f3
def want (f5 f6 n rows : Int) : Bool := (decide (f5 = 0) || decide (n < f5)) && !(!(decide (f6 = 0)) && decide (rows ≥ f6))
theorem take_eq (f0 : List ByteArray) (f1 f2 : ByteArray) (f3 f4 f5 f6 : Int) (s : Sv) (c : S29) : svTake f0 f1 f2 f3 f4 f5 f6 s c = (lets f0 f1 f2 f3 f4 f5 f6 c && want f5 f6 (tn s c) (trows s c)) := rfl
theorem next_yes (f0 : List ByteArray) (f1 f2 : ByteArray) (f3 f4 f5 f6 : Int) (s : Sv) (c : S29) (h : svTake f0 f1 f2 f3 f4 f5 f6 s c = true) : svNext f0 f1 f2 f3 f4 f5 f6 s c = ⟨c, true, wrap64 (tn s c + 1), trows s c, true⟩ := by
  unfold svTake at h
  unfold svNext
  rw [if_pos h, h]
  rfl
theorem next_no (f0 : List ByteArray) (f1 f2 : ByteArray) (f3 f4 f5 f6 : Int) (s : Sv) (c : S29) (h : svTake f0 f1 f2 f3 f4 f5 f6 s c = false) : svNext f0 f1 f2 f3 f4 f5 f6 s c = ⟨c, true, tn s c, trows s c, thit s c⟩ := by
  unfold svTake at h
  unfold svNext
  rw [if_neg (by rw [h]; decide), h]
  rfl
theorem tn_pos {s : Sv} {c : S29} (h : SC c s.c) : tn s c = s.n := if_pos h
theorem tn_neg {s : Sv} {c : S29} (h : ¬ SC c s.c) : tn s c = 0 := if_neg h
theorem trows_same {s : Sv} {c : S29} (h : SR c s.c) : trows s c = s.rows := if_neg (fun x => x.2.1 h)
theorem trows_other {s : Sv} {c : S29} (h : ¬ SR c s.c) (hs : s.some = true) : trows s c = if s.hit = true then wrap64 (s.rows + 1) else s.rows := by
  unfold trows turnRows
  by_cases hh : s.hit = true
  · rw [if_pos ⟨hs, h, hh⟩, if_pos hh]
  · rw [if_neg (fun x => hh x.2.2), if_neg hh]
theorem trows_first {s : Sv} {c : S29} (hs : s.some = false) : trows s c = s.rows := if_neg (fun x => by rw [hs] at x; exact absurd x.1 (by decide))
theorem thit_same {s : Sv} {c : S29} (h : SR c s.c) : thit s c = s.hit := if_neg (fun x => x.2 h)
theorem thit_other {s : Sv} {c : S29} (h : ¬ SR c s.c) (hs : s.some = true) : thit s c = false := if_pos ⟨hs, h⟩
theorem thit_first {s : Sv} {c : S29} (hs : s.some = false) : thit s c = s.hit := if_neg (fun x => by rw [hs] at x; exact absurd x.1 (by decide))

/-- two sieves that say the same of what comes -/
def Agree (s t : Sv) (l : List S29) : Prop := ∀ d ∈ l, tn s d = tn t d ∧ trows s d = trows t d ∧ thit s d = thit t d
/-- the sieve is new, or its cell lies ahead of what comes -/
def Side (t : Sv) (l : List S29) : Prop := (t.n = 0 ∧ t.some = false ∧ t.hit = false) ∨ (t.some = true ∧ ∀ d ∈ l, KL t.c d)
theorem tn_new {t : Sv} {d : S29} (h : t.n = 0) : tn t d = 0 := by
  by_cases hc : SC d t.c
  · rw [tn_pos hc, h]
  · exact tn_neg hc
/-- a cell that is passed by -/
theorem agree_skip (s t : Sv) (e : S29) (r : List S29) (hp : (e :: r).Pairwise KL) (ha : Agree s t (e :: r)) (hs : Side t (e :: r)) : Agree ⟨e, true, tn s e, trows s e, thit s e⟩ t r := by
  intro d hd
  obtain ⟨a1, a2, a3⟩ := ha e List.mem_cons_self
  have hed : KL e d := (List.pairwise_cons.mp hp).1 d hd
  have hn : tn ⟨e, true, tn s e, trows s e, thit s e⟩ d = tn t d := by
    by_cases hc : SC d e
    · rw [tn_pos (s := ⟨e, true, tn s e, trows s e, thit s e⟩) hc]
      show tn s e = _
      rw [a1]
      by_cases h2 : SC e t.c
      · rw [tn_pos h2, tn_pos ⟨hc.1.trans h2.1, hc.2.1.trans h2.2.1, hc.2.2.trans h2.2.2⟩]
      · rw [tn_neg h2, tn_neg (fun h3 => h2 ⟨hc.1.symm.trans h3.1, hc.2.1.symm.trans h3.2.1, hc.2.2.symm.trans h3.2.2⟩)]
    · rw [tn_neg (s := ⟨e, true, tn s e, trows s e, thit s e⟩) hc]
      rcases hs with ⟨h1, _⟩ | ⟨_, hk⟩
      · exact (tn_new h1).symm
      · exact (tn_neg (fun h3 => hc (col_between (hk e List.mem_cons_self) hed h3))).symm
  by_cases hc : SR d e
  · refine ⟨hn, ?_, ?_⟩
    · rw [trows_same (s := ⟨e, true, tn s e, trows s e, thit s e⟩) hc]
      show trows s e = _
      rw [a2]
      unfold trows turnRows
      rw [show d.f0.toList = e.f0.toList from hc]
    · rw [thit_same (s := ⟨e, true, tn s e, trows s e, thit s e⟩) hc]
      show thit s e = _
      rw [a3]
      unfold thit turnHit
      rw [show d.f0.toList = e.f0.toList from hc]
  · rw [trows_other (s := ⟨e, true, tn s e, trows s e, thit s e⟩) hc rfl, thit_other (s := ⟨e, true, tn s e, trows s e, thit s e⟩) hc rfl]
    show _ ∧ (if thit s e = true then wrap64 (trows s e + 1) else trows s e) = _ ∧ _
    rw [a2, a3]
    rcases hs with ⟨_, h1, h2⟩ | ⟨h1, hk⟩
    · rw [trows_first h1, trows_first h1, thit_first h1, thit_first h1, h2]
      exact ⟨hn, rfl, rfl⟩
    · have hdt : ¬ SR d t.c := fun h => hc (row_between (hk e List.mem_cons_self) hed h)
      rw [trows_other hdt h1, thit_other hdt h1]
      by_cases het : SR e t.c
      · rw [trows_same het, thit_same het]
        exact ⟨hn, rfl, rfl⟩
      · rw [trows_other het h1, thit_other het h1]
        exact ⟨hn, rfl, rfl⟩
theorem side_tail {t : Sv} {e : S29} {r : List S29} (h : Side t (e :: r)) : Side t r := by
  rcases h with h | ⟨h1, h2⟩
  · exact .inl h
  · exact .inr ⟨h1, fun d hd => h2 d (List.mem_cons_of_mem _ hd)⟩
/-- What was asked for is asked for again. -/
theorem run_again (f0 : List ByteArray) (f1 f2 : ByteArray) (f3 f4 f5 f6 : Int) : ∀ (l : List S29) (s t : Sv), l.Pairwise KL → Agree s t l → Side t l → svRun f0 f1 f2 f3 f4 f5 f6 t (svRun f0 f1 f2 f3 f4 f5 f6 s l) = svRun f0 f1 f2 f3 f4 f5 f6 s l
  | [], _, _, _, _, _ => rfl
  | e :: r, s, t, hp, ha, hs => by
    have ht : svTake f0 f1 f2 f3 f4 f5 f6 s e = svTake f0 f1 f2 f3 f4 f5 f6 t e := by
      obtain ⟨a1, a2, _⟩ := ha e List.mem_cons_self
      rw [take_eq, take_eq, a1, a2]
    rw [svRun]
    cases hq : svTake f0 f1 f2 f3 f4 f5 f6 s e with
    | true =>
      have hq2 := ht.symm.trans hq
      obtain ⟨a1, a2, _⟩ := ha e List.mem_cons_self
      have hn : svNext f0 f1 f2 f3 f4 f5 f6 t e = svNext f0 f1 f2 f3 f4 f5 f6 s e := by rw [next_yes _ _ _ _ _ _ _ _ _ hq2, next_yes _ _ _ _ _ _ _ _ _ hq, a1, a2]
      have hsd : Side (svNext f0 f1 f2 f3 f4 f5 f6 s e) r := by
        rw [next_yes _ _ _ _ _ _ _ _ _ hq]
        exact .inr ⟨rfl, fun d hd => (List.pairwise_cons.mp hp).1 d hd⟩
      rw [if_pos rfl, List.singleton_append, svRun, hq2, if_pos rfl, hn, run_again f0 f1 f2 f3 f4 f5 f6 r _ _ (List.pairwise_cons.mp hp).2 (fun _ _ => ⟨rfl, rfl, rfl⟩) hsd]
      rfl
    | false =>
      rw [if_neg (by decide), List.nil_append, next_no _ _ _ _ _ _ _ _ _ hq]
      exact run_again f0 f1 f2 f3 f4 f5 f6 r _ _ (List.pairwise_cons.mp hp).2 (agree_skip s t e r hp ha hs) (side_tail hs)
/-- Without limits all that is let is taken. -/
theorem run_all (f0 : List ByteArray) (f1 f2 : ByteArray) (f3 f4 : Int) : ∀ (l : List S29) (s : Sv), svRun f0 f1 f2 f3 f4 0 0 s l = l.filter (lets f0 f1 f2 f3 f4 0 0)
  | [], _ => rfl
  | e :: r, s => by
    have h : svTake f0 f1 f2 f3 f4 0 0 s e = lets f0 f1 f2 f3 f4 0 0 e := by
      rw [take_eq]
      unfold want
      simp
    rw [svRun, h, run_all f0 f1 f2 f3 f4 r, List.filter_cons]
    split <;> rfl
end Go.Proofs.Ythbgjaboghnpjaa.Pure

namespace Go.Proofs.Ythbgjaboghnpjaa.Pure
open Go.RowKit Go.Proofs.Ythbgjaboghnpjaa.Q Go.Proofs.YthbgjaboghnpjaaW.PrintWords Go.Proofs.YthbgjaboghnpjaaW.PrintLast Go.Proofs.YthbgjaboghnpjaaW.PrintMore

/-- it says something; and if it says b, then p -/
def Say (b : Bool) (p : Prop) (g : Nat → Option Bool) : Prop := ∃ r, Ev g r ∧ (r = b → p)
theorem Say.not (p : Prop) (b : Bool) : Say b p (fun _ => some (!b)) := ⟨_, Ev.now _, fun h => by cases b <;> cases h⟩
theorem Say.yes {p : Prop} (b : Bool) (c : Bool) (h : p) : Say b p (fun _ => some c) := ⟨_, Ev.now _, fun _ => h⟩
theorem Say.step {b : Bool} {p : Prop} {g f : Nat → Option Bool} (h : ∀ k, g (k + 1) = f k) (k : Say b p f) : Say b p g := k.elim fun r e => ⟨r, Ev.step h e.1, e.2⟩
theorem Say.congr {b : Bool} {p : Prop} {g f : Nat → Option Bool} (h : ∀ k, g k = f k) (k : Say b p f) : Say b p g := k.elim fun r e => ⟨r, Ev.congr h e.1, e.2⟩
theorem Say.ite {b : Bool} {q p : Prop} [Decidable q] {g f : Nat → Option Bool} (h1 : q → Say b p g) (h2 : ¬ q → Say b p f) : Say b p (fun k => if q then g k else f k) := by
  by_cases h : q
  · exact Say.congr (fun k => if_pos h) (h1 h)
  · exact Say.congr (fun k => if_neg h) (h2 h)
theorem Say.imp {b : Bool} {p q : Prop} {g : Nat → Option Bool} (h : Say b p g) (i : p → q) : Say b q g := h.elim fun r e => ⟨r, e.1, fun x => i (e.2 x)⟩
theorem Say.bind {b : Bool} {p q : Prop} {g : Nat → Option Bool} {f : Nat → Bool → Option Bool} (c : Bool) (h : Say c q g) (h1 : q → Say b p (fun k => f k c)) (h2 : Say b p (fun k => f k (!c))) : Say b p (fun k => (g k).bind (f k)) := by
  obtain ⟨r, e, i⟩ := h
  by_cases hr : r = c
  · obtain ⟨r2, e2, i2⟩ := h1 (i hr)
    exact ⟨r2, Ev.bind e (hr ▸ e2), i2⟩
  · have hr2 : r = !c := by cases r <;> cases c <;> simp_all
    obtain ⟨r2, e2, i2⟩ := h2
    exact ⟨r2, Ev.bind e (hr2 ▸ e2), i2⟩

theorem rdB_at (l : List ByteArray) (i : Nat) (h : i < l.length) : rdOf ByteArray.empty l (i : Int) = l[i] := by
  simp [rdOf, List.getD_eq_getElem?_getD, List.getElem?_eq_getElem h]
theorem all_drop {α : Type} {P : α → Prop} {l : List α} {i : Nat} (hi : i < l.length) (h0 : P l[i]) (h : ∀ x ∈ l.drop (i + 1), P x) : ∀ x ∈ l.drop i, P x := by
  rw [List.drop_eq_getElem_cons hi]
  intro x hx
  rcases List.mem_cons.mp hx with h1 | h1
  · exact h1 ▸ h0
  · exact h x h1
theorem cells_loop (l : List S29) (hl : l.length ≤ 80) : ∀ (m i : Nat), i + m = l.length → Say false (∀ c ∈ l.drop i, Small c) (fun k => joistref00_LongCells.l0 k l (i : Int))
  | 0, i, hi => Say.step (fun k => by simp only [joistref00_LongCells.l0]; rw [if_neg (by omega)]) (Say.yes false _ (by rw [List.drop_eq_nil_iff.mpr (by omega)]; intro c h; cases h))
  | m + 1, i, hi => by
    have hi1 : i < l.length := by omega
    refine Say.step (fun k => by simp only [joistref00_LongCells.l0]; rw [if_pos (by omega), if_pos (by omega), rd_at l i hi1, wrap_one i (by omega)]) ?_
    refine Say.ite (fun _ => Say.not _ false) fun h0 => Say.ite (fun _ => Say.not _ false) fun h1 => Say.ite (fun _ => Say.not _ false) fun h2 => Say.ite (fun _ => Say.not _ false) fun _ => ?_
    exact (cells_loop l hl m (i + 1) (by omega)).imp (all_drop hi1 ⟨by omega, by omega, by omega⟩)
theorem LongCells (l : List S29) : Say false (l.length ≤ 80 ∧ ∀ c ∈ l, Small c) (fun k => joistref00_LongCells.f k l 80) := by
  unfold joistref00_LongCells.f
  refine Say.ite (fun _ => Say.not _ false) fun h => ?_
  have hl : l.length ≤ 80 := by omega
  have := cells_loop l hl l.length 0 (by omega)
  rw [List.drop_zero] at this
  exact this.imp fun h => ⟨hl, h⟩
def SmallF (f0 : List ByteArray) (f1 f2 : ByteArray) : Prop := f0.length ≤ 20 ∧ f1.size ≤ 100 ∧ f2.size ≤ 100 ∧ ∀ x ∈ f0, x.size ≤ 100
theorem fams_loop (f0 : List ByteArray) (hl : f0.length ≤ 20) (a1 a2 a4 a5 a8 f1 f2 : ByteArray) (a0 a6 a7 f3 f4 f5 f6 : Int) : ∀ (m i : Nat), i + m = f0.length → Say false (∀ x ∈ f0.drop i, x.size ≤ 100) (fun k => joistref00_LongRequest.l0 k (i : Int) a0 a1 a2 [] a4 a5 a6 a7 a8 f0 f1 f2 f3 f4 f5 f6)
  | 0, i, hi => by
    refine Say.step (fun k => by simp only [joistref00_LongRequest.l0]; rw [if_neg (by omega)]) ?_
    exact Say.step (fun k => by simp only [joistref00_LongRequest.l1]; rw [if_neg (by simp)]) (Say.yes false _ (by rw [List.drop_eq_nil_iff.mpr (by omega)]; intro c h; cases h))
  | m + 1, i, hi => by
    have hi1 : i < f0.length := by omega
    refine Say.step (fun k => by simp only [joistref00_LongRequest.l0]; rw [if_pos (by omega), if_pos (by omega), rdB_at f0 i hi1, wrap_one i (by omega)]) ?_
    refine Say.ite (fun _ => Say.not _ false) fun h0 => ?_
    exact (fams_loop f0 hl a1 a2 a4 a5 a8 f1 f2 a0 a6 a7 f3 f4 f5 f6 m (i + 1) (by omega)).imp (all_drop hi1 (by omega))
end Go.Proofs.Ythbgjaboghnpjaa.Pure

namespace Go.Proofs.Ythbgjaboghnpjaa.Pure
open Go.RowKit Go.Proofs.Ythbgjaboghnpjaa.Q Go.Proofs.YthbgjaboghnpjaaW.PrintWords Go.Proofs.YthbgjaboghnpjaaW.PrintLast Go.Proofs.YthbgjaboghnpjaaW.PrintMore

theorem LongRequest (f0 : List ByteArray) (f1 f2 : ByteArray) (f3 f4 f5 f6 : Int) : Say false (SmallF f0 f1 f2) (fun k => joistref00_LongRequest.f k 0 (⟨#[]⟩ : ByteArray) (⟨#[]⟩ : ByteArray) [] (⟨#[]⟩ : ByteArray) (⟨#[]⟩ : ByteArray) 0 0 (⟨#[]⟩ : ByteArray) f0 f1 f2 f3 f4 f5 f6) := by
  have J : ∀ b : Bool, (b = false → f0.length ≤ 20 ∧ f1.size ≤ 100 ∧ f2.size ≤ 100) → Say false (SmallF f0 f1 f2) (fun k => joistref00_LongRequest.j0 k b 0 (⟨#[]⟩ : ByteArray) (⟨#[]⟩ : ByteArray) [] (⟨#[]⟩ : ByteArray) (⟨#[]⟩ : ByteArray) 0 0 (⟨#[]⟩ : ByteArray) f0 f1 f2 f3 f4 f5 f6) := by
    intro b hb
    refine Say.step (fun k => by simp only [joistref00_LongRequest.j0]; rfl) ?_
    refine Say.ite (fun _ => Say.not _ false) fun h => ?_
    have hb2 := hb (by simpa using h)
    have := fams_loop f0 hb2.1 (⟨#[]⟩ : ByteArray) (⟨#[]⟩ : ByteArray) (⟨#[]⟩ : ByteArray) (⟨#[]⟩ : ByteArray) (⟨#[]⟩ : ByteArray) f1 f2 0 0 0 f3 f4 f5 f6 f0.length 0 (by omega)
    rw [List.drop_zero] at this
    exact this.imp fun h => ⟨hb2.1, hb2.2.1, hb2.2.2, h⟩
  have T := J true (fun h => by cases h)
  unfold joistref00_LongRequest.f
  refine Say.ite (fun _ => T) fun _ => Say.ite (fun _ => T) fun _ => Say.ite (fun _ => T) fun _ => Say.ite (fun _ => T) fun _ => Say.ite (fun _ => T) fun _ => Say.ite (fun _ => T) fun _ => Say.ite (fun _ => T) fun h1 => Say.ite (fun _ => T) fun h2 => ?_
  refine J _ fun h => ?_
  have := of_decide_eq_false h
  exact ⟨by omega, by omega, by omega⟩
theorem Long (f0 : List ByteArray) (f1 f2 : ByteArray) (f3 f4 f5 f6 : Int) (l : List S29) : Say false (SmallF f0 f1 f2 ∧ l.length ≤ 80 ∧ ∀ c ∈ l, Small c) (fun k => joistlaw13_long.f k f0 f1 f2 f3 f4 f5 f6 l) := by
  unfold joistlaw13_long.f
  refine Say.bind false (LongRequest f0 f1 f2 f3 f4 f5 f6) (fun h => ?_) (Say.congr (fun k => if_pos rfl) (Say.not _ false))
  refine Say.congr (fun k => if_neg (by decide)) ?_
  obtain ⟨r, e, i⟩ := LongCells l
  exact ⟨r, Ev.bind e (Ev.now r), fun hr => ⟨h, i hr⟩⟩

/-! ### names -/
theorem isOther_no (c : Int) : isOther c = false ↔ (97 ≤ c ∧ c ≤ 122) ∨ (48 ≤ c ∧ c ≤ 57) := by
  unfold isOther
  rw [Bool.and_eq_false_iff, Bool.or_eq_false_iff, Bool.or_eq_false_iff]
  simp only [decide_eq_false_iff_not]
  omega
theorem name_ok (s : ByteArray) (hs : s.size < 1000000000000) : ∀ (m i : Nat), i + m = s.size → Say true (okFrom m i s = true ∧ 1 ≤ s.size ∧ s.size ≤ 8) (fun k => joistref03_Name.l0 k s (i : Int))
  | 0, i, h => by
    refine Say.step (fun k => by simp only [joistref03_Name.l0]; rw [if_neg (by omega)]) ?_
    refine Say.ite (fun h1 => ⟨_, Ev.now _, fun h2 => ⟨rfl, by omega, ?_⟩⟩) fun _ => Say.not _ true
    have := of_decide_eq_true h2
    omega
  | m + 1, i, h => by
    have hi : i < s.size := by omega
    have nx := name_ok s hs m (i + 1) (by omega)
    refine Say.step (fun k => by simp only [joistref03_Name.l0]; rw [if_pos (by omega), if_pos (by omega), bt_nat s i hi, wrap_one i (by omega)]) ?_
    have yes : (97 ≤ ((s[i]'hi).toNat : Int) ∧ ((s[i]'hi).toNat : Int) ≤ 122) ∨ (48 ≤ ((s[i]'hi).toNat : Int) ∧ ((s[i]'hi).toNat : Int) ≤ 57) → Say true (okFrom (m + 1) i s = true ∧ 1 ≤ s.size ∧ s.size ≤ 8) (fun k => joistref03_Name.l0 k s ((i + 1 : Nat) : Int)) := fun hc => nx.imp fun p => ⟨by rw [okFrom_one m i s hi, byte_getD s i hi, (isOther_no _).mpr hc, p.1]; rfl, p.2⟩
    refine Say.ite (fun h1 => Say.ite (fun h2 => yes (.inl ⟨h1, h2⟩)) fun _ => Say.ite (fun h3 => Say.ite (fun h4 => yes (.inr ⟨h3, h4⟩)) fun _ => Say.not _ true) fun _ => Say.not _ true) fun _ => Say.ite (fun h3 => Say.ite (fun h4 => yes (.inr ⟨h3, h4⟩)) fun _ => Say.not _ true) fun _ => Say.not _ true
theorem Name (s : ByteArray) (hs : s.size < 1000000000000) : Say true (nameOk s = true) (fun k => joistref03_Name.f k s) := by
  refine (name_ok s hs s.size 0 (by omega)).imp fun ⟨h1, h2, h3⟩ => ?_
  unfold nameOk okName
  rw [h1, decide_eq_true (by omega)]
  have : s.toList ≠ [] := fun e => by
    have h : s.toList.length = 0 := by rw [e]; rfl
    rw [Lib.toList_data, Array.length_toList] at h
    have h5 : s.size = 0 := h
    omega
  cases h4 : s.toList with
  | nil => exact absurd h4 this
  | cons a b => rfl
theorem right_loop (f0 : List ByteArray) (f1 f2 : ByteArray) (f3 f4 f5 f6 : Int) (hf : SmallF f0 f1 f2) : ∀ (m i : Nat), i + m = f0.length → allNames (f0.take i) = true → Say true (rightB f0 f1 f2 f3 f4 f5 f6 = true ∧ 0 ≤ f6 ∧ 0 ≤ f5) (fun k => joistref13_Right.l0 k (i : Int) f0 f1 f2 f3 f4 f5 f6)
  | 0, i, hi, ha => by
    rw [List.take_of_length_le (by omega)] at ha
    refine Say.step (fun k => by simp only [joistref13_Right.l0]; rw [if_neg (by omega)]) ?_
    refine Say.ite (fun h1 => Say.ite (fun h2 => Say.ite (fun h3 => Say.ite (fun h4 => Say.ite (fun h5 => Say.ite (fun h6 => Say.ite (fun h7 => Say.ite (fun h8 => Say.ite (fun h9 => Say.ite (fun h10 => ⟨_, Ev.now _, fun h11 => ?_⟩) fun _ => Say.not _ true) fun _ => Say.not _ true) fun _ => Say.not _ true) fun _ => Say.not _ true) fun _ => Say.not _ true) fun _ => Say.not _ true) fun _ => Say.not _ true) fun _ => Say.not _ true) fun _ => Say.not _ true) fun _ => Say.not _ true
    have h12 := of_decide_eq_true h11
    refine ⟨?_, h10, h8⟩
    unfold rightB inR
    simp only [ha, h1, h2, h3, decide_true, Bool.true_and, Bool.and_eq_true, decide_eq_true_eq]
    omega
  | m + 1, i, hi, ha => by
    have hi1 : i < f0.length := by omega
    have hw := hf.1
    refine Say.step (fun k => by simp only [joistref13_Right.l0]; rw [if_pos (by omega), if_pos (by omega), rdB_at f0 i hi1, wrap_one i (by omega)]) ?_
    refine Say.bind true (Name f0[i] (by have := hf.2.2.2 f0[i] (List.getElem_mem hi1); omega)) (fun hn => ?_) (Say.congr (fun k => if_neg (by decide)) (Say.not _ true))
    refine Say.congr (fun k => if_pos rfl) ?_
    refine right_loop f0 f1 f2 f3 f4 f5 f6 hf m (i + 1) (by omega) ?_
    rw [allNames_take f0 i hi1, ha, rdB_at f0 i hi1, hn]
    rfl
theorem Right (f0 : List ByteArray) (f1 f2 : ByteArray) (f3 f4 f5 f6 : Int) (hf : SmallF f0 f1 f2) : Say true (rightB f0 f1 f2 f3 f4 f5 f6 = true ∧ 0 ≤ f6 ∧ 0 ≤ f5) (fun k => joistref13_Right.f k f0 f1 f2 f3 f4 f5 f6) :=
  right_loop f0 f1 f2 f3 f4 f5 f6 hf f0.length 0 (by omega) rfl

/-! ### is a cell let? -/
theorem lets_loop (f0 : List ByteArray) (f1 f2 : ByteArray) (f3 f4 f5 f6 : Int) (hf : SmallF f0 f1 f2) (c : S29) (hc : Small c) : ∀ (m i : Nat) (b : Bool), i + m = f0.length → Ev (fun k => joistref13_Lets.l0 k b (i : Int) f0 f1 f2 f3 f4 f5 f6 c.f0 c.f1 c.f2 c.f3 c.f4 c.f5.f0 c.f5.f1 c.f5.f2) ((b || (f0.drop i).any (fun y => c.f1.toList == y.toList)) && (!(Op.bytesLess c.f2.toList f1.toList) && ((f2.toList.isEmpty || Op.bytesLess c.f2.toList f2.toList) && (decide (c.f3 ≥ f3) && (decide (f4 = 0) || decide (c.f3 < f4))))))
  | 0, i, b, hi => by
    rw [List.drop_eq_nil_iff.mpr (by omega), List.any_nil, Bool.or_false]
    have hw := hf.1
    have tail : Ev (fun _ => if c.f3 ≥ f3 then (if f4 = 0 then some true else some (decide (c.f3 < f4))) else some false) (decide (c.f3 ≥ f3) && (decide (f4 = 0) || decide (c.f3 < f4))) := by
      by_cases h1 : c.f3 ≥ f3 <;> by_cases h2 : f4 = 0 <;> simp only [h1, h2, if_true, if_false, decide_true, decide_false, Bool.true_and, Bool.false_and, Bool.true_or, Bool.false_or] <;> exact Ev.now _
    cases b with
    | false =>
      refine Ev.step (fun k => by simp only [joistref13_Lets.l0]; rw [if_neg (by omega), if_neg (by decide)]) ?_
      exact Ev.now _
    | true =>
      refine Ev.step (fun k => by simp only [joistref13_Lets.l0]; rw [if_neg (by omega), if_pos trivial]) ?_
      refine Ev.bind (Texts c.f2 f1 (by have := hc.2.2; omega)) ?_
      rw [less_lt, less_lt, Bool.true_and]
      by_cases h1 : c.f2.toList < f1.toList
      · have : ¬ cmpT c.f2.toList f1.toList ≥ 0 := fun h => by have := cmpT_lt.mpr h1; omega
        refine Ev.congr (fun k => if_neg this) ?_
        rw [decide_eq_true h1]
        exact Ev.now _
      · have : cmpT c.f2.toList f1.toList ≥ 0 := by
          by_cases h2 : cmpT c.f2.toList f1.toList < 0
          · exact absurd (cmpT_lt.mp h2) h1
          · omega
        refine Ev.congr (fun k => if_pos this) ?_
        rw [decide_eq_false h1, Bool.not_false, Bool.true_and]
        by_cases h2 : f2.toList = []
        · refine Ev.congr (fun k => if_pos h2) ?_
          rw [h2]
          simpa using tail
        · refine Ev.congr (fun k => if_neg h2) ?_
          have he : f2.toList.isEmpty = false := by cases h : f2.toList with | nil => exact absurd h h2 | cons a b => rfl
          rw [he, Bool.false_or]
          refine Ev.bind (Texts c.f2 f2 (by have := hc.2.2; omega)) ?_
          by_cases h3 : c.f2.toList < f2.toList
          · refine Ev.congr (fun k => if_pos (cmpT_lt.mpr h3)) ?_
            rw [decide_eq_true h3, Bool.true_and]
            exact tail
          · refine Ev.congr (fun k => if_neg (fun h => h3 (cmpT_lt.mp h))) ?_
            rw [decide_eq_false h3, Bool.false_and]
            exact Ev.now _
  | m + 1, i, b, hi => by
    have hi1 : i < f0.length := by omega
    have hw := hf.1
    rw [List.drop_eq_getElem_cons hi1, List.any_cons]
    cases b with
    | true =>
      refine Ev.step (fun k => by simp only [joistref13_Lets.l0]; rw [if_pos (by omega), if_pos trivial, wrap_one i (by omega)]) ?_
      have := lets_loop f0 f1 f2 f3 f4 f5 f6 hf c hc m (i + 1) true (by omega)
      simpa only [Bool.true_or] using this
    | false =>
      refine Ev.step (fun k => by simp only [joistref13_Lets.l0]; rw [if_pos (by omega), if_neg (by decide), if_pos (by omega), rdB_at f0 i hi1, wrap_one i (by omega)]) ?_
      have := lets_loop f0 f1 f2 f3 f4 f5 f6 hf c hc m (i + 1) (f0[i].toList == c.f1.toList) (by omega)
      rw [show (f0[i].toList == c.f1.toList) = (c.f1.toList == f0[i].toList) from Bool.beq_comm] at this ⊢
      simpa only [Bool.false_or] using this
theorem Lets (f0 : List ByteArray) (f1 f2 : ByteArray) (f3 f4 f5 f6 : Int) (hf : SmallF f0 f1 f2) (c : S29) (hc : Small c) : Ev (fun k => joistref13_Lets.f k f0 f1 f2 f3 f4 f5 f6 c.f0 c.f1 c.f2 c.f3 c.f4 c.f5.f0 c.f5.f1 c.f5.f2) (lets f0 f1 f2 f3 f4 f5 f6 c) := by
  have h := lets_loop f0 f1 f2 f3 f4 f5 f6 hf c hc f0.length 0 ((f0.length : Int) == 0) (by omega)
  rw [List.drop_zero] at h
  have e : ((f0.length : Int) == 0) = f0.isEmpty := by
    cases f0 with
    | nil => rfl
    | cons a b => simp; omega
  rw [e] at h
  unfold joistref13_Lets.f
  rw [e]
  exact h
/-! ### the same cells -/
theorem same_loop (l : List S29) (hl : l.length ≤ 1000) : ∀ (m i : Nat), i + m = l.length → Ev (fun k => joistref00_SameCells.l0 k l l (i : Int)) true
  | 0, i, hi => Ev.step (fun k => by simp only [joistref00_SameCells.l0]; rw [if_neg (by omega)]) (Ev.now _)
  | m + 1, i, hi => by
    refine Ev.step (fun k => by simp only [joistref00_SameCells.l0]; rw [if_pos (by omega), if_pos (by omega), if_pos (by omega), if_neg (by simp), wrap_one i (by omega)]) ?_
    exact same_loop l hl m (i + 1) (by omega)
theorem Same (l : List S29) (hl : l.length ≤ 1000) : Ev (fun k => joistref00_SameCells.f k l l) true := by
  refine Ev.congr (fun k => by unfold joistref00_SameCells.f; rw [if_pos rfl]) ?_
  exact same_loop l hl l.length 0 (by omega)
end Go.Proofs.Ythbgjaboghnpjaa.Pure

namespace Go.Proofs.Ythbgjaboghnpjaa.Pure
open Go.RowKit Go.Proofs.Ythbgjaboghnpjaa.Q Go.Proofs.YthbgjaboghnpjaaW.PrintWords Go.Proofs.YthbgjaboghnpjaaW.PrintLast Go.Proofs.YthbgjaboghnpjaaW.PrintMore

theorem apply_now (f0 : List ByteArray) (f1 f2 : ByteArray) (f3 f4 f5 f6 : Int) (l : List S29) (hl : l.length ≤ 1000) : filter_Apply.f f0 f1 f2 f3 f4 f5 f6 l = some (applyL f0 f1 f2 f3 f4 f5 f6 l) := by
  unfold filter_Apply.f
  rw [if_pos (by omega)]
theorem right_loose (f0 : List ByteArray) (f1 f2 : ByteArray) (f3 f4 f5 f6 : Int) (h : rightB f0 f1 f2 f3 f4 f5 f6 = true) : rightB f0 f1 f2 f3 f4 0 0 = true := by
  unfold rightB at *
  simp only [Bool.and_eq_true] at h ⊢
  obtain ⟨h1, h2, h3, h4, h5, h6, h7⟩ := h
  exact ⟨h1, h2, h3, h4, h5, by decide, by decide⟩
theorem again_loop (f0 : List ByteArray) (f1 f2 : ByteArray) (f3 f4 f5 f6 : Int) (g5 g6 : Int) (hf : SmallF f0 f1 f2) (hr : rightB f0 f1 f2 f3 f4 0 0 = true) (l : List S29) (hl : l.length ≤ 80) (hs : ∀ c ∈ l, Small c) : ∀ (m i : Nat), i + m = l.length →
    Ev (fun k => joistlaw13_FilterAgain.l0 k l ((l.take i).filter (lets f0 f1 f2 f3 f4 f5 f6)) (i : Int) f0 f1 f2 f3 f4 f5 f6 f0 f1 f2 f3 f4 0 0) true
  | 0, i, hi => by
    rw [List.take_of_length_le (by omega)]
    refine Ev.step (fun k => by simp only [joistlaw13_FilterAgain.l0]; rw [if_neg (by omega), apply_now f0 f1 f2 f3 f4 0 0 l (by omega), Option.bind_some]) ?_
    have e : applyL f0 f1 f2 f3 f4 0 0 l = l.filter (lets f0 f1 f2 f3 f4 f5 f6) := by
      unfold applyL
      rw [if_pos hr, run_all]
      rfl
    rw [e]
    refine Ev.bind (Same _ ?_) (Ev.now _)
    have := List.length_filter_le (lets f0 f1 f2 f3 f4 f5 f6) l
    omega
  | m + 1, i, hi => by
    have hi1 : i < l.length := by omega
    have nx := again_loop f0 f1 f2 f3 f4 f5 f6 g5 g6 hf hr l hl hs m (i + 1) (by omega)
    rw [List.take_succ_eq_append_getElem hi1, List.filter_append] at nx
    have hlen := List.length_filter_le (lets f0 f1 f2 f3 f4 f5 f6) (l.take i)
    rw [List.length_take] at hlen
    refine Ev.step (fun k => by simp only [joistlaw13_FilterAgain.l0]; rw [if_pos (by omega), if_pos (by omega), rd_at l i hi1, wrap_one i (by omega)]) ?_
    refine Ev.bind (Lets f0 f1 f2 f3 f4 f5 f6 hf l[i] (hs _ (List.getElem_mem hi1))) ?_
    cases hq : lets f0 f1 f2 f3 f4 f5 f6 l[i] with
    | true =>
      refine Ev.congr (fun k => by rw [if_pos rfl, if_pos (by omega)]) ?_
      simpa [hq] using nx
    | false =>
      refine Ev.congr (fun k => if_neg (by decide)) ?_
      simpa [hq] using nx
theorem again_j0 (f0 : List ByteArray) (f1 f2 : ByteArray) (f3 f4 f5 f6 : Int) (l : List S29) (b : Bool) (h : b = false → SmallF f0 f1 f2 ∧ (l.length ≤ 80 ∧ ∀ c ∈ l, Small c) ∧ rightB f0 f1 f2 f3 f4 f5 f6 = true) : Ev (fun k => joistlaw13_FilterAgain.j0 k l b f0 f1 f2 f3 f4 f5 f6) true := by
  refine Ev.step (fun k => by simp only [joistlaw13_FilterAgain.j0]; rfl) ?_
  cases b with
  | true => exact Ev.congr (fun k => if_pos rfl) (Ev.now _)
  | false =>
    obtain ⟨hf, ⟨hl, hs⟩, hr⟩ := h rfl
    obtain ⟨r, e, hp, hm, hn⟩ := SortOk l (by omega) hs
    refine Ev.congr (fun k => if_neg (by decide)) ?_
    refine Ev.bind e ?_
    have ha : applyL f0 f1 f2 f3 f4 f5 f6 r = svRun f0 f1 f2 f3 f4 f5 f6 sv0 r := by unfold applyL; rw [if_pos hr]
    have hlen := svRun_length f0 f1 f2 f3 f4 f5 f6 r sv0
    have hb : applyL f0 f1 f2 f3 f4 f5 f6 (svRun f0 f1 f2 f3 f4 f5 f6 sv0 r) = svRun f0 f1 f2 f3 f4 f5 f6 sv0 r := by
      unfold applyL
      rw [if_pos hr]
      exact run_again f0 f1 f2 f3 f4 f5 f6 r sv0 sv0 hp (fun _ _ => ⟨rfl, rfl, rfl⟩) (.inl ⟨rfl, rfl, rfl⟩)
    refine Ev.bind (f := fun k t211 => (filter_Apply.f f0 f1 f2 f3 f4 f5 f6 t211).bind fun t214 => ((joistref00_SameCells.f k t214 t211).bind fun t217 => (if t217 = true then ((filter_Clone.f f0 f1 f2 f3 f4 f5 f6).bind fun bt218 => (joistlaw13_FilterAgain.l0 k r (([] : List (S29))) 0 f0 f1 f2 f3 f4 f5 f6 bt218.1 bt218.2.1 bt218.2.2.1 bt218.2.2.2.1 bt218.2.2.2.2.1 0 0)) else (some false)))) ⟨0, fun k _ => apply_now f0 f1 f2 f3 f4 f5 f6 r (by omega)⟩ ?_
    rw [ha]
    refine Ev.bind ⟨0, fun k _ => apply_now f0 f1 f2 f3 f4 f5 f6 _ (by omega)⟩ ?_
    rw [hb]
    refine Ev.bind (Same _ (by omega)) ?_
    refine Ev.congr (fun k => if_pos rfl) ?_
    have hc : filter_Clone.f f0 f1 f2 f3 f4 f5 f6 = some (f0, f1, f2, f3, f4, f5, f6) := by
      have := hf.1
      unfold filter_Clone.f slices_Clone_string_string.f
      rw [if_pos (by omega)]
      rfl
    refine Ev.congr (fun k => by rw [hc, Option.bind_some]) ?_
    exact again_loop f0 f1 f2 f3 f4 f5 f6 0 0 hf (right_loose f0 f1 f2 f3 f4 f5 f6 hr) r (by omega) (fun c h => hs c (hm c h)) r.length 0 (by omega)
theorem FilterAgain (f0 : List ByteArray) (f1 f2 : ByteArray) (f3 f4 f5 f6 : Int) (l : List S29) : ∃ k, joistlaw13_FilterAgain.f k f0 f1 f2 f3 f4 f5 f6 l = some true := by
  refine Ev.rounds (g := fun k => joistlaw13_FilterAgain.f k f0 f1 f2 f3 f4 f5 f6 l) ?_
  refine Ev.congr (f := fun k => (joistlaw13_long.f k f0 f1 f2 f3 f4 f5 f6 l).bind fun t206 => (if t206 = true then (joistlaw13_FilterAgain.j0 k l true f0 f1 f2 f3 f4 f5 f6) else ((joistref13_Right.f k f0 f1 f2 f3 f4 f5 f6).bind fun t207 => (joistlaw13_FilterAgain.j0 k l (!t207) f0 f1 f2 f3 f4 f5 f6)))) (fun k => by unfold joistlaw13_FilterAgain.f joistlaw13_alive.f; rfl) ?_
  obtain ⟨b, eb, ib⟩ := Long f0 f1 f2 f3 f4 f5 f6 l
  refine Ev.bind eb ?_
  cases b with
  | true => exact Ev.congr (fun k => if_pos rfl) (again_j0 f0 f1 f2 f3 f4 f5 f6 l true (fun h => by cases h))
  | false =>
    have hb := ib rfl
    refine Ev.congr (fun k => if_neg (by decide)) ?_
    obtain ⟨c, ec, ic⟩ := Right f0 f1 f2 f3 f4 f5 f6 hb.1
    refine Ev.bind ec ?_
    refine again_j0 f0 f1 f2 f3 f4 f5 f6 l (!c) (fun h => ⟨hb.1, hb.2, (ic ?_).1⟩)
    cases c
    · cases h
    · rfl
end Go.Proofs.Ythbgjaboghnpjaa.Pure
