/- The document's Right is the program's. -/
import Derived.Test.YthbgjaboghnpjaaPureG
set_option linter.unusedVariables false
set_option linter.unusedSimpArgs false
namespace Go.Proofs.Ythbgjaboghnpjaa.Pure
open Go.RowKit Go.Proofs.Ythbgjaboghnpjaa.Q Go.Proofs.YthbgjaboghnpjaaW.PrintWords Go.Proofs.YthbgjaboghnpjaaW.PrintLast Go.Proofs.YthbgjaboghnpjaaW.PrintMore
theorem nameEv (s : ByteArray) (hs : s.size < 1000000000000) : ∀ (m i : Nat), i + m = s.size → Ev (fun k => joistref03_Name.l0 k s (i : Int)) (okFrom m i s && (decide ((s.size : Int) ≥ 1) && decide ((s.size : Int) ≤ 8)))
  | 0, i, h => by
    refine Ev.step (fun k => by simp only [joistref03_Name.l0]; rw [if_neg (by omega)]) ?_
    rw [okFrom_end 0 i s (by omega), Bool.true_and]
    by_cases h1 : (s.size : Int) ≥ 1
    · rw [decide_eq_true h1, Bool.true_and]
      exact Ev.congr (fun _ => if_pos h1) (Ev.now _)
    · rw [decide_eq_false h1, Bool.false_and]
      exact Ev.congr (fun _ => if_neg h1) (Ev.now _)
  | m + 1, i, h => by
    have hi : i < s.size := by omega
    have nx := nameEv s hs m (i + 1) (by omega)
    refine Ev.step (fun k => by simp only [joistref03_Name.l0]; rw [if_pos (by omega), if_pos (by omega), bt_nat s i hi, wrap_one i (by omega)]) ?_
    rw [okFrom_one m i s hi, byte_getD s i hi]
    by_cases hc : (97 ≤ ((s[i]'hi).toNat : Int) ∧ ((s[i]'hi).toNat : Int) ≤ 122) ∨ (48 ≤ ((s[i]'hi).toNat : Int) ∧ ((s[i]'hi).toNat : Int) ≤ 57)
    · rw [(isOther_no _).mpr hc, Bool.not_false, Bool.true_and]
      refine Ev.congr (fun k => ?_) nx
      repeat' split
      all_goals first | rfl | (exfalso; omega)
    · have : isOther ((s[i]'hi).toNat : Int) = true := by
        cases hq : isOther ((s[i]'hi).toNat : Int) with
        | true => rfl
        | false => exact absurd ((isOther_no _).mp hq) hc
      rw [this, Bool.not_true, Bool.false_and, Bool.false_and]
      refine Ev.congr (fun k => ?_) (Ev.now false)
      repeat' split
      all_goals first | rfl | (exfalso; omega)
theorem NameEv (s : ByteArray) (hs : s.size < 1000000000000) : Ev (fun k => joistref03_Name.f k s) (nameOk s) := by
  have h := nameEv s hs s.size 0 (by omega)
  have e : (okFrom s.size 0 s && (decide ((s.size : Int) ≥ 1) && decide ((s.size : Int) ≤ 8))) = nameOk s := by
    unfold nameOk okName
    have hl : s.toList.length = s.size := by rw [Lib.toList_data, Array.length_toList]; rfl
    cases h4 : s.toList with
    | nil =>
      rw [h4] at hl
      have h5 : s.size = 0 := hl.symm
      rw [decide_eq_false (show ¬ (s.size : Int) ≥ 1 by omega)]
      simp
    | cons a b =>
      rw [h4, List.length_cons] at hl
      rw [decide_eq_true (show (s.size : Int) ≥ 1 by omega)]
      simp [Bool.and_comm]
  rw [e] at h
  exact h
theorem rightEv (f0 : List ByteArray) (f1 f2 : ByteArray) (f3 f4 f5 f6 : Int) (hf : SmallF f0 f1 f2) : ∀ (m i : Nat), i + m = f0.length → allNames (f0.take i) = true → Ev (fun k => joistref13_Right.l0 k (i : Int) f0 f1 f2 f3 f4 f5 f6) (rightB f0 f1 f2 f3 f4 f5 f6)
  | 0, i, hi, ha => by
    rw [List.take_of_length_le (by omega)] at ha
    refine Ev.step (fun k => by simp only [joistref13_Right.l0]; rw [if_neg (by omega)]) ?_
    unfold rightB inR
    rw [ha]
    refine Ev.congr (fun k => ?_) (Ev.now _)
    repeat' split
    all_goals simp only [*, decide_true, decide_false, Bool.true_and, Bool.false_and, Bool.and_true, Bool.and_false]
  | m + 1, i, hi, ha => by
    have hi1 : i < f0.length := by omega
    have hw := hf.1
    refine Ev.step (fun k => by simp only [joistref13_Right.l0]; rw [if_pos (by omega), if_pos (by omega), rdB_at f0 i hi1, wrap_one i (by omega)]) ?_
    refine Ev.bind (NameEv f0[i] (by have := hf.2.2.2 f0[i] (List.getElem_mem hi1); omega)) ?_
    cases hn : nameOk f0[i] with
    | true =>
      refine Ev.congr (fun k => if_pos rfl) ?_
      refine rightEv f0 f1 f2 f3 f4 f5 f6 hf m (i + 1) (by omega) ?_
      rw [allNames_take f0 i hi1, ha, rdB_at f0 i hi1, hn]
      rfl
    | false =>
      have hall : allNames f0 = false := by
        unfold allNames
        rw [List.all_eq_false]
        exact ⟨f0[i], List.getElem_mem hi1, by rw [hn]; decide⟩
      have hr : rightB f0 f1 f2 f3 f4 f5 f6 = false := by unfold rightB; rw [hall]; simp
      rw [hr]
      exact Ev.congr (fun k => if_neg (by decide)) (Ev.now _)
theorem RightEv (f0 : List ByteArray) (f1 f2 : ByteArray) (f3 f4 f5 f6 : Int) (hf : SmallF f0 f1 f2) : Ev (fun k => joistref13_Right.f k f0 f1 f2 f3 f4 f5 f6) (rightB f0 f1 f2 f3 f4 f5 f6) :=
  rightEv f0 f1 f2 f3 f4 f5 f6 hf f0.length 0 (by omega) rfl
end Go.Proofs.Ythbgjaboghnpjaa.Pure
