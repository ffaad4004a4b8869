/- Values out of text: guess, the walk. -/
import Derived.Test.YtikpmlginojnhaaGreatDoorVL
namespace Go.Proofs.YtikpmlginojnhaaGreatDoor.Fl
open Go.RowKit Go.Maps
set_option linter.unusedVariables false
set_option linter.unusedSimpArgs false
theorem tl_true {s : ByteArray} {l : List UInt8} (h : s = ⟨l.toArray⟩) : (s.toList == l) = true := by rw [h, ByteArray.toList_eq]; simp
theorem tl_false {s : ByteArray} {l : List UInt8} (h : ¬ s = ⟨l.toArray⟩) : (s.toList == l) = false := by
  apply beq_eq_false_iff_ne.2
  intro e
  apply h
  rw [← e, ByteArray.toList_eq]
theorem byt_b0 {s : ByteArray} (h : ¬ b0 s = 0) : 1 ≤ s.size := by
  rcases Nat.eq_zero_or_pos s.size with h0 | h0
  · rw [size0 h0] at h; exact absurd rfl h
  · exact h0
set_option maxHeartbeats 4000000 in
set_option maxRecDepth 100000 in
theorem c_guess (s : ByteArray) (hs : s.size ≤ 1000000) (w : World) (hg : Gv w) :
    Calls Tryz.prog 50 #[.string s] w fun e w' => ∃ k n t, e = .returned (vv k n t) ∧ Wf n ∧ t.size ≤ s.size ∧ Gs s k n t ∧ Below w.heap.size w w' := by
  have HZ0 := Lib.hid (Zb.start w (.int .i64 0) (.int .i64 0) (.string ⟨#[]⟩))
  have HG := Lib.hid (hg.below HZ0.out.bel)
  obtain ⟨x0, x1, x2, f0, f1, f2⟩ := HZ0.out.facts
  clear hg
  by_cases e1 : s = ⟨#[116, 114, 117, 101]⟩
  · have q1 : (s.toList == [116, 114, 117, 101]) = true := tl_true e1
    have HE := Lib.hid (show Gs s 4 1 ⟨#[]⟩ from gs_of (by unfold Wf; omega) (Or.inr (Or.inl ⟨rfl, rfl, rfl, e1⟩)))
    clear e1 hs
    go_enter Tryz.func50, Tryz.ntmps50
    go_wp2
    exact bodyPost_ret (ret_cell1 rfl _ _ w.heap.size 4 1 ⟨#[]⟩ (0, 0) rfl (Zb.start w _ _ _).z) rfl ⟨4, 1, ⟨#[]⟩, rfl, by unfold Wf; omega, Nat.zero_le _, HE.out, (Zb.start w _ _ _).bel⟩
  have q1 : (s.toList == [116, 114, 117, 101]) = false := tl_false e1
  by_cases e2 : s = ⟨#[102, 97, 108, 115, 101]⟩
  · have q2 : (s.toList == [102, 97, 108, 115, 101]) = true := tl_true e2
    have HE := Lib.hid (show Gs s 4 0 ⟨#[]⟩ from gs_of (by unfold Wf; omega) (Or.inr (Or.inr (Or.inl ⟨rfl, rfl, rfl, e2⟩))))
    clear e1 e2 hs
    go_enter Tryz.func50, Tryz.ntmps50
    go_wp2
    exact bodyPost_ret (ret_cell1 rfl _ _ w.heap.size 4 0 ⟨#[]⟩ (0, 0) rfl (Zb.start w _ _ _).z) rfl ⟨4, 0, ⟨#[]⟩, rfl, by unfold Wf; omega, Nat.zero_le _, HE.out, (Zb.start w _ _ _).bel⟩
  have q2 : (s.toList == [102, 97, 108, 115, 101]) = false := tl_false e2
  have hcs := size_cut s 1
  obtain ⟨d1, hd1⟩ : ∃ d, decide (b0 s = 102) = d := ⟨_, rfl⟩
  obtain ⟨d2, hd2⟩ : ∃ d, decide (b0 s = 98) = d := ⟨_, rfl⟩
  obtain ⟨d3, hd3⟩ : ∃ d, decide (b0 s = 116) = d := ⟨_, rfl⟩
  have P1 := Lib.hid (fun W => c_hasp s 102 (by decide) d1 hd1 W)
  have P2 := Lib.hid (fun W => c_hasp s 98 (by decide) d2 hd2 W)
  have P3 := Lib.hid (fun W => c_hasp s 116 (by decide) d3 hd3 W)
  cases d1 with
  | true =>
    have hb0 : b0 s = 102 := of_decide_eq_true hd1
    have h1 := byt_b0 (s := s) (by omega)
    obtain ⟨n, b, hr⟩ := rd_ex (s.extract 1 s.size)
    have HE := Lib.hid (gs_float hb0 e2 hr)
    have HW := Lib.hid (rd_wf hr)
    have C1 := Lib.hid (fun W hg => c_read (s.extract 1 s.size) (by rw [hcs]; omega) W hg n b hr)
    clear e1 e2 hb0 hd1 hd2 hd3 hr P2 P3 hcs hs
    go_enter Tryz.func50, Tryz.ntmps50
    go_wp2_with (first | (go_at_call 69; ((with_reducible refine (P1.out _).mono ?_); rintro e w1 ⟨rfl, rfl⟩)) | (go_at_call 70; ((with_reducible refine (C1.out _ HG.out.gl).mono ?_); rintro e w2 ⟨rfl, hb⟩; clear x0 x1 x2 f0 f1 f2; have HZ := Lib.hid (HZ0.out.below hb); obtain ⟨x0, x1, x2, f0, f1, f2⟩ := HZ.out.facts; clear hb)))
    exact bodyPost_ret (ret_cell1 rfl _ _ w.heap.size 5 n ⟨#[]⟩ (0, 0) rfl (HZ.out.put _ _ _).z) rfl ⟨5, n, ⟨#[]⟩, rfl, HW.out, Nat.zero_le _, HE.out, (HZ.out.put _ _ _).bel⟩
  | false =>
    have n1 : ¬ b0 s = 102 := of_decide_eq_false hd1
    cases d2 with
    | true =>
      have hb0 : b0 s = 98 := of_decide_eq_true hd2
      have h1 := byt_b0 (s := s) (by omega)
      have C1 := Lib.hid (fun W => c_unquoted (s.extract 1 s.size) (by rw [hcs]; omega) W)
      have HE := Lib.hid (show ∀ t, UqIs (s.extract 1 s.size) t → Gs s 2 0 t from fun t h => gs_bytes hb0 h)
      have hcs2 : s.size - 1 ≤ s.size := by omega
      have HCS := Lib.hid hcs
      clear e1 e2 hb0 hd1 hd2 hd3 n1 hs hcs
      go_enter Tryz.func50, Tryz.ntmps50
      go_wp2_with fail
      refine (P1.out _).mono ?_
      rintro e w1 ⟨rfl, rfl⟩
      go_wp2_with fail
      refine (P2.out _).mono ?_
      rintro e w1 ⟨rfl, rfl⟩
      go_wp2_with fail
      refine (C1.out _).mono ?_
      rintro e w2 ⟨t, rfl, ht, hu, hb⟩
      have HZ := Lib.hid (HZ0.out.below hb)
      have HU := Lib.hid (HE.out t hu)
      have HTS := Lib.hid (show t.size ≤ s.size by rw [HCS.out] at ht; omega)
      clear x0 x1 x2 f0 f1 f2 hb hu ht
      obtain ⟨x0, x1, x2, f0, f1, f2⟩ := HZ.out.facts
      go_wp2_with fail
      exact bodyPost_ret (ret_cell1 rfl _ _ w.heap.size 2 0 t (0, 0) rfl (HZ.out.put _ _ _).z) rfl ⟨2, 0, t, rfl, by unfold Wf; omega, HTS.out, HU.out, (HZ.out.put _ _ _).bel⟩
    | false =>
      have n2 : ¬ b0 s = 98 := of_decide_eq_false hd2
      cases d3 with
      | true =>
        have hb0 : b0 s = 116 := of_decide_eq_true hd3
        have h1 := byt_b0 (s := s) (by omega)
        have C1 := Lib.hid (fun W => c_unquoted (s.extract 1 s.size) (by rw [hcs]; omega) W)
        have HE := Lib.hid (show ∀ t, UqIs (s.extract 1 s.size) t → Gs s 3 0 t from fun t h => gs_text hb0 e1 h)
        have hcs2 : s.size - 1 ≤ s.size := by omega
        have HCS := Lib.hid hcs
        clear e1 e2 hb0 hd1 hd2 hd3 n1 hs hcs n2
        go_enter Tryz.func50, Tryz.ntmps50
        go_wp2_with fail
        refine (P1.out _).mono ?_
        rintro e w1 ⟨rfl, rfl⟩
        go_wp2_with fail
        refine (P2.out _).mono ?_
        rintro e w1 ⟨rfl, rfl⟩
        go_wp2_with fail
        refine (P3.out _).mono ?_
        rintro e w1 ⟨rfl, rfl⟩
        go_wp2_with fail
        refine (C1.out _).mono ?_
        rintro e w2 ⟨t, rfl, ht, hu, hb⟩
        have HZ := Lib.hid (HZ0.out.below hb)
        have HU := Lib.hid (HE.out t hu)
        have HTS := Lib.hid (show t.size ≤ s.size by rw [HCS.out] at ht; omega)
        clear x0 x1 x2 f0 f1 f2 hb hu ht
        obtain ⟨x0, x1, x2, f0, f1, f2⟩ := HZ.out.facts
        go_wp2_with fail
        exact bodyPost_ret (ret_cell1 rfl _ _ w.heap.size 3 0 t (0, 0) rfl (HZ.out.put _ _ _).z) rfl ⟨3, 0, t, rfl, by unfold Wf; omega, HTS.out, HU.out, (HZ.out.put _ _ _).bel⟩
      | false =>
        have n3 : ¬ b0 s = 116 := of_decide_eq_false hd3
        have C1 := Lib.hid (fun W hg => c_atoi s (by omega) W hg)
        have HN := Lib.hid (And.intro n1 (And.intro n2 n3))
        clear e1 e2 hd1 hd2 hd3 n1 n2 n3 hcs hs
        go_enter Tryz.func50, Tryz.ntmps50
        go_wp2_with fail
        refine (P1.out _).mono ?_
        rintro e w1 ⟨rfl, rfl⟩
        go_wp2_with fail
        refine (P2.out _).mono ?_
        rintro e w1 ⟨rfl, rfl⟩
        go_wp2_with fail
        refine (P3.out _).mono ?_
        rintro e w1 ⟨rfl, rfl⟩
        go_wp2_with fail
        refine (C1.out _ HG.out.gl).mono ?_
        rintro e w2 ⟨n, v, rfl, hn, hu, hb⟩
        have HZ := Lib.hid (HZ0.out.below hb)
        have HU := Lib.hid (gs_int HN.out.1 HN.out.2.1 HN.out.2.2 hu)
        have HW := Lib.hid hn
        clear x0 x1 x2 f0 f1 f2 hb hu hn
        obtain ⟨x0, x1, x2, f0, f1, f2⟩ := HZ.out.facts
        go_wp2_with fail
        exact bodyPost_ret (ret_cell1 rfl _ _ w.heap.size 1 n ⟨#[]⟩ (0, 0) rfl (HZ.out.put _ _ _).z) rfl ⟨1, n, ⟨#[]⟩, rfl, HW.out, Nat.zero_le _, HU.out, (HZ.out.put _ _ _).bel⟩
end Go.Proofs.YtikpmlginojnhaaGreatDoor.Fl
