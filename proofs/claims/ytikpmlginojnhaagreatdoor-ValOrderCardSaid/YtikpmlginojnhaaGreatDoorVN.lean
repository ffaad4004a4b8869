/- Values out of text: Read. -/
import Derived.Test.YtikpmlginojnhaaGreatDoorVM
namespace Go.Proofs.YtikpmlginojnhaaGreatDoor.Fl
open Go.RowKit Go.Maps
set_option linter.unusedVariables false
set_option linter.unusedSimpArgs false
/-- The value of a text. -/
def RdV (s : ByteArray) (k n : Int) (t : ByteArray) (b : Bool) : Prop :=
  (b = true ∧ Wf n ∧ rightV k n t = true ∧ showV k n t = s) ∨ (b = false ∧ k = 0 ∧ n = 0 ∧ t = ⟨#[]⟩ ∧ ∀ k n t, Wf n → rightV k n t = true → showV k n t ≠ s)
theorem rdv_ex (s : ByteArray) : ∃ k n t b, RdV s k n t b := by
  by_cases h : ∃ k n t, Wf n ∧ rightV k n t = true ∧ showV k n t = s
  · obtain ⟨k, n, t, h1, h2, h3⟩ := h
    exact ⟨k, n, t, true, Or.inl ⟨rfl, h1, h2, h3⟩⟩
  · exact ⟨0, 0, ⟨#[]⟩, false, Or.inr ⟨rfl, rfl, rfl, rfl, fun k n t h1 h2 h3 => h ⟨k, n, t, h1, h2, h3⟩⟩⟩
theorem show_q {k n : Int} {t : ByteArray} (h : rightV k n t = true) : ¬ showV k n t = ⟨#[63]⟩ := fun e => by
  have hb := form_b (show_form h)
  rw [e] at hb
  have e0 : b0 ⟨#[63]⟩ = 63 := rfl
  omega
theorem show_wrong {k n : Int} {t : ByteArray} (h : rightV k n t = false) : showV k n t = ⟨#[63]⟩ := by unfold showV; rw [if_pos h]
theorem rdv_yes {k n : Int} {t : ByteArray} (hn : Wf n) (h : rightV k n t = true) {k' n' : Int} {t' : ByteArray} {b : Bool} (hr : RdV (showV k n t) k' n' t' b) : b = true ∧ k' = k ∧ n' = n ∧ t' = t := by
  rcases hr with ⟨rfl, a1, a2, a3⟩ | ⟨rfl, _, _, _, a⟩
  · have f := show_form a2
    rw [a3] at f
    obtain ⟨r1, r2, r3⟩ := form_inj a1 hn f (show_form h)
    exact ⟨rfl, r1, r2, r3⟩
  · exact absurd rfl (a k n t hn h)
theorem rdv_cand {s : ByteArray} {k n : Int} {t : ByteArray} (hg : Gs s k n t) (hw : Wf n) {k' n' : Int} {t' : ByteArray} {b : Bool} (h : RdV s k' n' t' b) : (¬ s = ⟨#[63]⟩ ∧ showV k n t = s ∧ b = true ∧ k' = k ∧ n' = n ∧ t' = t) ∨ ((s = ⟨#[63]⟩ ∨ ¬ showV k n t = s) ∧ b = false ∧ k' = 0 ∧ n' = 0 ∧ t' = ⟨#[]⟩) := by
  rcases h with ⟨rfl, a1, a2, a3⟩ | ⟨rfl, rfl, rfl, rfl, a⟩
  · have f := show_form a2
    rw [a3] at f
    obtain ⟨rfl, rfl, rfl⟩ := hg k' n' t' a1 f
    exact Or.inl ⟨fun e => show_q a2 (a3.trans e), a3, rfl, rfl, rfl, rfl⟩
  · right
    refine ⟨?_, rfl, rfl, rfl, rfl⟩
    by_cases h1 : s = ⟨#[63]⟩
    · exact Or.inl h1
    · right
      intro h2
      cases hr : rightV k n t with
      | false => exact h1 (h2.symm.trans (show_wrong hr))
      | true => exact a k n t hw hr h2
theorem rdv_none {s : ByteArray} (h : ∀ k n t, Wf n → ¬ Form k n t s) {k' n' : Int} {t' : ByteArray} {b : Bool} (hr : RdV s k' n' t' b) : b = false ∧ k' = 0 ∧ n' = 0 ∧ t' = ⟨#[]⟩ := by
  rcases hr with ⟨rfl, a1, a2, a3⟩ | ⟨rfl, rfl, rfl, rfl, a⟩
  · have f := show_form a2
    rw [a3] at f
    exact (h _ _ _ a1 f).elim
  · exact ⟨rfl, rfl, rfl, rfl⟩
set_option maxHeartbeats 4000000 in
set_option maxRecDepth 100000 in
theorem c_vread (s : ByteArray) (hs : s.size ≤ 1000000) (w : World) (hg : Gv w) (k n : Int) (t : ByteArray) (b : Bool) (hr : RdV s k n t b) :
    Calls Tryz.prog 22 #[.string s] w fun e w' => e = .returned (.tuple #[vv k n t, .bool b]) ∧ Below w.heap.size w w' := by
  have HZ0 := Lib.hid (Zb.start w (.int .i64 0) (.int .i64 0) (.string ⟨#[]⟩))
  have HG := Lib.hid (hg.below HZ0.out.bel)
  have HR := Lib.hid hr
  have HS := Lib.hid hs
  have C1 := Lib.hid (fun W hg => c_guess s hs W hg)
  simp only [vv] at C1 ⊢
  clear hg hr hs
  by_cases e1 : s = ⟨#[63]⟩
  · have q1 : (s.toList == [63]) = true := tl_true e1
    have HE := Lib.hid e1
    clear e1
    go_enter Tryz.func22, Tryz.ntmps22
    go_wp2_with fail
    refine (C1.out _ HG.out).mono ?_
    rintro e w2 ⟨k1, n1, t1, rfl, hn, ht, hgs, hb⟩
    obtain ⟨rfl, rfl, rfl, rfl⟩ : b = false ∧ k = 0 ∧ n = 0 ∧ t = ⟨#[]⟩ := by
      rcases rdv_cand hgs hn HR.out with ⟨h, _⟩ | ⟨_, h⟩
      · exact absurd HE.out h
      · exact h
    have HZ := Lib.hid ((HZ0.out.below hb).below ((Below.refl _ _).alloc (Nat.le_refl _) (.cells #[.int .i64 k1, .int .i64 n1, .string t1] 23)))
    clear hn ht hgs hb
    go_upto_region 2 with fail
    generalize w2.alloc (.cells #[.int .i64 k1, .int .i64 n1, .string t1] 23) = Y at HZ ⊢
    obtain ⟨x0, x1, x2, f0, f1, f2⟩ := HZ.out.facts
    go_wp2_with fail
    exact bodyPost_ret (ret_cell rfl _ _ w.heap.size 0 0 ⟨#[]⟩ false (0, 0) rfl rfl (HZ.out.put _ _ _).z) rfl ⟨rfl, (HZ.out.put _ _ _).bel⟩
  · have q1 : (s.toList == [63]) = false := tl_false e1
    have HE := Lib.hid e1
    clear e1
    go_enter Tryz.func22, Tryz.ntmps22
    go_wp2_with fail
    refine (C1.out _ HG.out).mono ?_
    rintro e w2 ⟨k1, n1, t1, rfl, hn, ht, hgs, hb⟩
    have HC := Lib.hid (rdv_cand hgs hn HR.out)
    have HZ := Lib.hid (HZ0.out.below hb)
    have HG2 := Lib.hid (HG.out.below hb)
    have hba : Below w2.heap.size w2 (w2.alloc (.cells #[.int .i64 k1, .int .i64 n1, .string t1] 23)) := (Below.refl _ _).alloc (Nat.le_refl _) _
    have HZ2 := Lib.hid (HZ.out.below hba)
    have HG3 := Lib.hid (HG2.out.below hba)
    have HV := Lib.hid (heap_alloc_new w2 (.cells #[.int .i64 k1, .int .i64 n1, .string t1] 23))
    have C2 := Lib.hid (fun W hg => c_vshow k1 n1 t1 hn (by have := HS.out; omega) W hg)
    simp only [vv] at C2
    clear hn ht hgs hb hba
    obtain ⟨u, hu⟩ : ∃ u, showV k1 n1 t1 = u := ⟨_, rfl⟩
    rw [hu] at C2 HC
    clear hu
    by_cases he : u = s
    · obtain ⟨rfl, rfl, rfl, rfl⟩ : b = true ∧ k = k1 ∧ n = n1 ∧ t = t1 := by
        rcases HC.out with ⟨_, _, h⟩ | ⟨h, _⟩
        · exact h
        · rcases h with h | h
          · exact absurd h HE.out
          · exact absurd he h
      subst he
      clear HC
      go_wp2_with (go_at_call 18; ((refine (C2.out _ HG3.out).mono ?_); rintro e w3 ⟨rfl, hb⟩; have HZ3 := Lib.hid (HZ2.out.below hb); have HV3 := Lib.hid ((hb.block _ (lt_block HV.out)).trans HV.out); obtain ⟨x0, x1, x2, f0, f1, f2⟩ := HZ3.out.facts; obtain ⟨y0, y1, y2⟩ := cells3 HV3.out; clear hb))
      exact bodyPost_ret (ret_cell rfl _ _ w.heap.size k n t true (0, 0) rfl rfl (HZ3.out.put _ _ _).z) rfl ⟨rfl, (HZ3.out.put _ _ _).bel⟩
    · obtain ⟨rfl, rfl, rfl, rfl⟩ : b = false ∧ k = 0 ∧ n = 0 ∧ t = ⟨#[]⟩ := by
        rcases HC.out with ⟨_, h, _⟩ | ⟨_, h⟩
        · exact absurd h he
        · exact h
      have q2 : (u.toList == s.toList) = false := by
        apply beq_eq_false_iff_ne.2
        intro e
        exact he (toList_inj e)
      clear HC he
      go_wp2_with (go_at_call 18; ((refine (C2.out _ HG3.out).mono ?_); rintro e w3 ⟨rfl, hb⟩; have HZ3 := Lib.hid (HZ2.out.below hb); have HV3 := Lib.hid ((hb.block _ (lt_block HV.out)).trans HV.out); obtain ⟨x0, x1, x2, f0, f1, f2⟩ := HZ3.out.facts; obtain ⟨y0, y1, y2⟩ := cells3 HV3.out; clear hb))
      exact bodyPost_ret (ret_cell rfl _ _ w.heap.size 0 0 ⟨#[]⟩ false (0, 0) rfl rfl (HZ3.out.put _ _ _).z) rfl ⟨rfl, (HZ3.out.put _ _ _).bel⟩
end Go.Proofs.YtikpmlginojnhaaGreatDoor.Fl
