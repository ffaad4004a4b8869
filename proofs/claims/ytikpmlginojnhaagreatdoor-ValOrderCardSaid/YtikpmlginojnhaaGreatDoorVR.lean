/- Values out of text: the document's Read: floats. -/
import Derived.Test.YtikpmlginojnhaaGreatDoorVQ
namespace Go.Proofs.YtikpmlginojnhaaGreatDoor.Fl
open Go.RowKit Go.Maps
set_option linter.unusedVariables false
set_option linter.unusedSimpArgs false
theorem Tk.setK {w W : World} {a0 a1 a2 : Value} {k n : Int} {s : ByteArray} (h : Tk w W a0 a1 a2 k n s) (m : Int) : Tk w (W.setCell ⟨w.heap.size + 1, 0, none⟩ (.int .i64 m)) a0 a1 a2 m n s := by
  have e1 := setCell_eq_setRow W (w.heap.size + 1) 0 #[.int .i64 k, .int .i64 n, .string s] 23 (0, 0) (.int .i64 m) h.v
  have h1 := setRow_heap W (w.heap.size + 1) #[.int .i64 k, .int .i64 n, .string s] (#[.int .i64 k, .int .i64 n, .string s].setIfInBounds 0 (.int .i64 m)) 23 (0, 0) h.v
  refine ⟨?_, ?_, h.bel.setCell (p := ⟨w.heap.size + 1, 0, none⟩) (Nat.le_succ _) _⟩
  · rw [e1, setRow_other _ _ _ _ (by omega)]
    exact h.z
  · rw [e1, h1]
    rfl
theorem none_float {s : ByteArray} {m : Int} (h0 : b0 s = 102) (hf : ¬ s = ⟨#[102, 97, 108, 115, 101]⟩) (h : RdIs (s.extract 1 s.size) m false) : ∀ k n t, Wf n → ¬ Form k n t s := fun k' n' t' h1 h2 => by
  have hb := form_b h2
  rcases h2 with ⟨rfl, rfl, e⟩ | ⟨rfl, rfl, rfl, e⟩ | ⟨rfl, rfl, rfl, e⟩ | ⟨rfl, rfl, hr, e⟩ | ⟨rfl, rfl, e⟩ | ⟨rfl, rfl, e⟩ <;> first | (exfalso; clear e; omega) | exact absurd e hf | skip
  subst e
  rw [cut_one] at h
  have := (rd_yes h h1 hr rfl).2
  cases this
theorem b0_ne {s t : ByteArray} (h : ¬ b0 s = b0 t) : ¬ s = t := fun e => h (by rw [e])
set_option maxHeartbeats 4000000 in
set_option maxRecDepth 100000 in
theorem c_rvreadf (s : ByteArray) (h0 : b0 s = 102) (hf : ¬ s = ⟨#[102, 97, 108, 115, 101]⟩) (hs : s.size ≤ 1000000) (w : World) (k n : Int) (t : ByteArray) (b : Bool) (hr : RdV s k n t b) :
    Calls Tryz.prog 23 #[.string s] w fun e w' => e = .returned (.tuple #[vv k n t, .bool b]) ∧ Below w.heap.size w w' := by
  have h1 := byt_b0 (s := s) (by omega)
  have q0 := size_empty h1
  have q1 : (s.toList == [116, 114, 117, 101]) = false := tl_false (b0_ne (by rw [h0]; decide))
  have q2 : (s.toList == [102, 97, 108, 115, 101]) = false := tl_false hf
  have x0 := at0 s h1
  rw [h0] at x0
  have hcs := size_cut s 1
  have HTK0 := Lib.hid (Tk.start w (.int .i64 0) (.int .i64 0) (.string ⟨#[]⟩) 0 0 ⟨#[]⟩)
  obtain ⟨m, ok, hrd⟩ := rd_ex (s.extract 1 s.size)
  have C3 := Lib.hid (fun W => c_rread (s.extract 1 s.size) (by rw [hcs]; omega) W m ok hrd)
  have h1i : (1 : Int) ≤ (s.size : Int) := by omega
  cases ok with
  | true =>
    have HC := Lib.hid (rdv_cand (gs_float h0 hf hrd) (rd_wf hrd) hr)
    have C2 := Lib.hid (fun W => c_rvshow 5 m ⟨#[]⟩ (rd_wf hrd) (Nat.zero_le _) W)
    obtain ⟨u, hu⟩ : ∃ u, showV 5 m ⟨#[]⟩ = u := ⟨_, rfl⟩
    have HQ := Lib.hid (show u = s → ¬ s = ⟨#[63]⟩ from fun _ => b0_ne (by rw [h0]; decide))
    rw [hu] at C2 HC
    simp only [vv] at C2 ⊢
    clear hr hrd h0 hf hs hcs hu
    go_enter Tryz.func23, Tryz.ntmps23
    go_wp2_with (go_at_call 51; ((refine (C3.out _).mono ?_); rintro e w1 ⟨rfl, hb⟩; have HTK1 := Lib.hid (HTK0.out.below hb); obtain ⟨z0, z1, z2, y0, y1, y2⟩ := HTK1.out.cells; obtain ⟨f0, f1, f2⟩ := HTK1.out.frozenv; clear hb))
    have HTK := Lib.hid ((HTK1.out.setK 5).setN m)
    clear z0 z1 z2 y0 y1 y2 f0 f1 f2
    by_cases he : u = s
    · obtain ⟨hb1, hk1, hn1, ht1⟩ : b = true ∧ k = 5 ∧ n = m ∧ t = ⟨#[]⟩ := by
        rcases HC.out with ⟨_, _, h⟩ | ⟨h, _⟩
        · exact h
        · rcases h with h | h
          · exact absurd h (HQ.out he)
          · exact absurd he h
      subst he hb1
      refine (C2.out _).mono ?_
      rintro e w3 ⟨rfl, hb⟩
      have HTK3 := Lib.hid (HTK.out.below hb)
      clear hb
      obtain ⟨z0, z1, z2, y0, y1, y2⟩ := HTK3.out.cells
      obtain ⟨f0, f1, f2⟩ := HTK3.out.frozen
      go_wp2_with fail
      exact bodyPost_ret (ret_cell rfl _ _ w.heap.size _ _ _ true (0, 0) rfl rfl (HTK3.out.put _ _ _).z) rfl ⟨by rw [hk1, hn1, ht1] <;> rfl, (HTK3.out.put _ _ _).bel⟩
    · obtain ⟨rfl, rfl, rfl, rfl⟩ : b = false ∧ k = 0 ∧ n = 0 ∧ t = ⟨#[]⟩ := by
        rcases HC.out with ⟨_, h, _⟩ | ⟨_, h⟩
        · exact absurd h he
        · exact h
      have q2 : (u.toList == s.toList) = false := by
        apply beq_eq_false_iff_ne.2
        intro e
        exact he (toList_inj e)
      clear he HC
      refine (C2.out _).mono ?_
      rintro e w3 ⟨rfl, hb⟩
      have HTK3 := Lib.hid (HTK.out.below hb)
      clear hb
      obtain ⟨z0, z1, z2, y0, y1, y2⟩ := HTK3.out.cells
      obtain ⟨f0, f1, f2⟩ := HTK3.out.frozen
      go_wp2_with fail
      exact bodyPost_ret (ret_cell rfl _ _ w.heap.size 0 0 ⟨#[]⟩ false (0, 0) rfl rfl (HTK3.out.put _ _ _).z) rfl ⟨rfl, (HTK3.out.put _ _ _).bel⟩
  | false =>
    obtain ⟨rfl, rfl, rfl, rfl⟩ := rdv_none (none_float h0 hf hrd) hr
    clear hr hrd h0 hf hs hcs
    go_enter Tryz.func23, Tryz.ntmps23
    go_wp2_with (go_at_call 51; ((refine (C3.out _).mono ?_); rintro e w1 ⟨rfl, hb⟩; have HTK1 := Lib.hid (HTK0.out.below hb); obtain ⟨z0, z1, z2, y0, y1, y2⟩ := HTK1.out.cells; obtain ⟨f0, f1, f2⟩ := HTK1.out.frozen; clear hb))
    exact bodyPost_ret (ret_cell rfl _ _ w.heap.size 0 0 ⟨#[]⟩ false (0, 0) rfl rfl (HTK1.out.put _ _ _).z) rfl ⟨rfl, (HTK1.out.put _ _ _).bel⟩
end Go.Proofs.YtikpmlginojnhaaGreatDoor.Fl
