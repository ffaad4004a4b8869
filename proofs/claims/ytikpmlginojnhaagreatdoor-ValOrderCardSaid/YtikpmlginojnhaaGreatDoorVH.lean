/- Values out of bytes: the document's Decode. -/
import Derived.Test.YtikpmlginojnhaaGreatDoorVG
namespace Go.Proofs.YtikpmlginojnhaaGreatDoor.Fl
open Go.RowKit Go.Maps
set_option linter.unusedVariables false
set_option linter.unusedSimpArgs false
/-- If these bytes tell a value of this kind, it is this one. -/
def Cand (x : Int) (t : List Int) (n' : Int) (s' : ByteArray) : Prop := Wf n' ∧ ∀ n s, Wf n → rightV x n s = true → encP x n s = t → n = n' ∧ s = s'
theorem cand_of {x : Int} {t : List Int} {n' : Int} {s' : ByteArray} {ok : Bool} (h : TkIs x t n' s' ok) : Cand x t n' s' := ⟨h.1, fun n s h1 h2 h3 => by
  obtain ⟨_, a, b⟩ := h.2.2 n s h1 h2 h3
  exact ⟨a.symm, b.symm⟩⟩
theorem dec_cand {x : Int} {t : List Int} {n' : Int} {s' : ByteArray} (hc : Cand x t n' s') {k n : Int} {s : ByteArray} {b : Bool} (hd : DecIs (x :: t) k n s b) : (rightV x n' s' = true ∧ encV x n' s' = x :: t ∧ b = true ∧ k = x ∧ n = n' ∧ s = s') ∨ (¬ (rightV x n' s' = true ∧ encV x n' s' = x :: t) ∧ b = false ∧ k = 0 ∧ n = 0 ∧ s = ⟨#[]⟩) := by
  by_cases h : rightV x n' s' = true ∧ encV x n' s' = x :: t
  · obtain ⟨r1, r2, r3, r4⟩ := dec_yes hd hc.1 h.1 h.2
    exact Or.inl ⟨h.1, h.2, r1, r2, r3, r4⟩
  · obtain ⟨r1, r2, r3, r4⟩ := dec_no hd (fun k' n2 s2 a1 a2 a3 => by
      have a4 := a3
      rw [encV_right a2] at a3
      obtain ⟨rfl, e⟩ := List.cons_eq_cons.1 a3
      obtain ⟨rfl, rfl⟩ := hc.2 n2 s2 a1 a2 e
      exact h ⟨a2, a4⟩)
    exact Or.inr ⟨h, r1, r2, r3, r4⟩
theorem encV_len {k n : Int} {s : ByteArray} (h : rightV k n s = true) : 2 ≤ (encV k n s).length := by
  rw [encV_right h, List.length_cons]
  have := encP_len k n s h
  omega
theorem encP_small {k n : Int} {s : ByteArray} (h : rightV k n s = true) : (encP k n s).length ≤ 66 := by
  have hz := zz_len (byt s)
  rw [byt_len] at hz
  rcases right_kinds h with ⟨rfl, h⟩ | ⟨rfl, h, h2⟩ | ⟨rfl, h, h2⟩ | ⟨rfl, rfl, h⟩ | ⟨rfl, rfl, h, h2⟩
  · show 8 ≤ 66; omega
  · show 1 ≤ 66; omega
  · have : encP 5 n s = b8 (rankU (U n)) := by show bytesF n = _; unfold bytesF; rw [if_pos h2]
    rw [this]
    show 8 ≤ 66; omega
  · show (esc (byt s)).length ≤ 66
    unfold esc
    rw [List.length_append]
    show _ + 2 ≤ 66
    omega
  · show (esc (byt s)).length ≤ 66
    unfold esc
    rw [List.length_append]
    show _ + 2 ≤ 66
    omega
theorem dec_short {l : List Int} (hl : l.length < 2) {k n : Int} {s : ByteArray} {b : Bool} (hd : DecIs l k n s b) : b = false ∧ k = 0 ∧ n = 0 ∧ s = ⟨#[]⟩ := dec_no hd (fun k' n2 s2 a1 a2 a3 => by
  have := encV_len a2
  rw [a3] at this
  omega)
theorem cand_bool {y : Int} {u : List Int} (h : 0 ≤ y ∧ y < 256) : Cand 4 (y :: u) y ⟨#[]⟩ := ⟨by unfold Wf; omega, fun n s h1 h2 h3 => by
  have h3 : [n] = y :: u := h3
  obtain ⟨rfl, _⟩ := List.cons_eq_cons.1 h3
  rcases right_kinds h2 with ⟨e, c⟩ | ⟨e, c, c2⟩ | ⟨e, c, c2⟩ | ⟨e, e2, c⟩ | ⟨e, e2, c, c2⟩ <;> first | (exfalso; omega) | exact ⟨rfl, size0 c⟩⟩
set_option maxHeartbeats 4000000 in
set_option maxRecDepth 100000 in
theorem c_rdec4 (w : World) (ad : Addr) (c : Nat) (t : List Int) (ht2 : 1 ≤ t.length) (hc : t.length + 1 ≤ c) (hk : ∀ j, j < t.length + 1 → w.cell? (ad.add j) = some (.int .u8 ((4 :: t).getD j 0))) (hb : Byts (4 :: t)) (hm : t.length ≤ 1000000) (k n : Int) (s : ByteArray) (b : Bool) (hd : DecIs (4 :: t) k n s b) :
    Calls Tryz.prog 21 #[.slice (some ad) (t.length + 1) c] w fun e w' => e = .returned (.tuple #[vv k n s, .bool b]) ∧ Below w.heap.size w w' := by
  cases t with
  | nil => simp at ht2
  | cons y u =>
    have hy := hb y (by simp)
    have hd2 := dec_cand (cand_bool (u := u) hy) hd
    have HTK0 := Lib.hid (Tk.start w (.int .i64 0) (.int .i64 0) (.string ⟨#[]⟩) 4 0 ⟨#[]⟩)
    have c0 : w.cell? ad = some (.int .u8 4) := by simpa [Addr.add] using hk 0 (by omega)
    have y0 := ((Zb.start w (.int .i64 0) (.int .i64 0) (.string ⟨#[]⟩)).bel.cell (World.block_lt_of_cell? w _ c0)).trans c0
    have c1 : w.cell? ⟨ad.block, ad.off + 1, none⟩ = some (.int .u8 y) := by simpa [Addr.add] using hk 1 (by simp)
    have y1 := (HTK0.out.bel.cell (World.block_lt_of_cell? w _ c1)).trans c1
    have hlu : (y :: u).length = u.length + 1 := rfl
    rw [hlu] at *
    have t0 : decide ((u.length : Int) + 1 + 1 < 2) = false := decide_eq_false (by omega)
    have hwy : wrap64 y = y := by unfold wrap64; omega
    have C2 := Lib.hid (fun W => c_rvencode 4 y ⟨#[]⟩ (by unfold Wf; omega) (by decide) W)
    unfold vv at C2
    have HP := Lib.hid (show HasB w (.slice (some ad) (u.length + 1 + 1) c) (4 :: y :: u) from ⟨some ad, c, rfl, hc, fun j hj => ⟨ad, rfl, hk j hj⟩⟩)
    clear hk hb hd c0 c1 hy
    go_enter Tryz.func21, Tryz.ntmps21
    go_wp2_with fail
    have HTK := Lib.hid (Tk.start w (.int .i64 0) (.int .i64 0) (.string ⟨#[]⟩) 4 y ⟨#[]⟩)
    refine (C2.out _).mono ?_
    rintro e w2 ⟨v2, rfl, hv2, hb⟩
    have HTK2 := Lib.hid (HTK.out.below hb)
    have HV2 := Lib.hid hv2
    have HP2 := Lib.hid (HP.out.below HTK2.out.bel)
    have HD2 := Lib.hid hd2
    clear hv2 hb hd2
    cases hr : rightV 4 y ⟨#[]⟩ with
    | false =>
      obtain ⟨rfl, rfl, rfl, rfl⟩ : b = false ∧ k = 0 ∧ n = 0 ∧ s = ⟨#[]⟩ := by
        rcases HD2.out with ⟨h, _⟩ | ⟨_, h⟩
        · rw [hr] at h; cases h
        · exact h
      obtain ⟨z0, z1, z2, q0, q1, q2⟩ := HTK2.out.cells
      obtain ⟨f0, f1, f2⟩ := HTK2.out.frozen
      go_wp2_with fail
      exact bodyPost_ret (ret_cell rfl _ _ w.heap.size 0 0 ⟨#[]⟩ false (0, 0) rfl rfl (HTK2.out.put _ _ _).z) rfl ⟨rfl, (HTK2.out.put _ _ _).bel⟩
    | true =>
      by_cases he : encV 4 y ⟨#[]⟩ = 4 :: y :: u
      · have C3 := Lib.hid (c_same w2 v2 _ _ _ HV2.out HP2.out (by rw [encV_right hr, List.length_cons]; have := encP_small hr; omega) true (decide_eq_true he))
        obtain ⟨rfl, hk3, hn3, hs4⟩ : b = true ∧ k = 4 ∧ n = y ∧ s = ⟨#[]⟩ := by
          rcases HD2.out with ⟨_, _, h⟩ | ⟨h, _⟩
          · exact h
          · exact absurd ⟨hr, he⟩ h
        clear he HD2
        obtain ⟨z0, z1, z2, q0, q1, q2⟩ := HTK2.out.cells
        obtain ⟨f0, f1, f2⟩ := HTK2.out.frozen
        go_wp2_with (go_at_call 17; ((refine C3.out.mono ?_); rintro e w3 ⟨rfl, hb⟩; clear z0 z1 z2 q0 q1 q2 f0 f1 f2; have HTK3 := Lib.hid (HTK2.out.below hb); obtain ⟨z0, z1, z2, q0, q1, q2⟩ := HTK3.out.cells; obtain ⟨f0, f1, f2⟩ := HTK3.out.frozen; clear hb))
        exact bodyPost_ret (ret_cell rfl _ _ w.heap.size 4 y ⟨#[]⟩ true (0, 0) rfl rfl (HTK3.out.put _ _ _).z) rfl ⟨by rw [hk3, hn3, hs4], (HTK3.out.put _ _ _).bel⟩
      · have C3 := Lib.hid (c_same w2 v2 _ _ _ HV2.out HP2.out (by rw [encV_right hr, List.length_cons]; have := encP_small hr; omega) false (decide_eq_false he))
        obtain ⟨rfl, rfl, rfl, rfl⟩ : b = false ∧ k = 0 ∧ n = 0 ∧ s = ⟨#[]⟩ := by
          rcases HD2.out with ⟨_, h, _⟩ | ⟨_, h⟩
          · exact absurd h he
          · exact h
        clear he HD2
        obtain ⟨z0, z1, z2, q0, q1, q2⟩ := HTK2.out.cells
        obtain ⟨f0, f1, f2⟩ := HTK2.out.frozen
        go_wp2_with (go_at_call 17; ((refine C3.out.mono ?_); rintro e w3 ⟨rfl, hb⟩; clear z0 z1 z2 q0 q1 q2 f0 f1 f2; have HTK3 := Lib.hid (HTK2.out.below hb); obtain ⟨z0, z1, z2, q0, q1, q2⟩ := HTK3.out.cells; obtain ⟨f0, f1, f2⟩ := HTK3.out.frozen; clear hb))
        exact bodyPost_ret (ret_cell rfl _ _ w.heap.size 0 0 ⟨#[]⟩ false (0, 0) rfl rfl (HTK3.out.put _ _ _).z) rfl ⟨rfl, (HTK3.out.put _ _ _).bel⟩
set_option maxHeartbeats 4000000 in
set_option maxRecDepth 100000 in
theorem c_rdecO (x : Int) (h1 : ¬ x = 1) (h2 : ¬ x = 2) (h3 : ¬ x = 3) (h4 : ¬ x = 4) (h5 : ¬ x = 5) (w : World) (ad : Addr) (c : Nat) (t : List Int) (ht2 : 1 ≤ t.length) (hc : t.length + 1 ≤ c) (hk : ∀ j, j < t.length + 1 → w.cell? (ad.add j) = some (.int .u8 ((x :: t).getD j 0))) (hb : Byts (x :: t)) (hm : t.length ≤ 1000000) (k n : Int) (s : ByteArray) (b : Bool) (hd : DecIs (x :: t) k n s b) :
    Calls Tryz.prog 21 #[.slice (some ad) (t.length + 1) c] w fun e w' => e = .returned (.tuple #[vv k n s, .bool b]) ∧ Below w.heap.size w w' := by
  have hxb := hb x (by simp)
  have hcd : Cand x t 0 ⟨#[]⟩ := ⟨by unfold Wf; omega, fun n s a1 a2 a3 => by rcases right_kinds a2 with ⟨e, c⟩ | ⟨e, c, c2⟩ | ⟨e, c, c2⟩ | ⟨e, e2, c⟩ | ⟨e, e2, c, c2⟩ <;> (exfalso; omega)⟩
  have hd2 := dec_cand hcd hd
  have HTK := Lib.hid (Tk.start w (.int .i64 0) (.int .i64 0) (.string ⟨#[]⟩) x 0 ⟨#[]⟩)
  have c0 : w.cell? ad = some (.int .u8 x) := by simpa [Addr.add] using hk 0 (by omega)
  have y0 := ((Zb.start w (.int .i64 0) (.int .i64 0) (.string ⟨#[]⟩)).bel.cell (World.block_lt_of_cell? w _ c0)).trans c0
  have t0 : decide ((t.length : Int) + 1 < 2) = false := decide_eq_false (by omega)
  have hwy : wrap64 x = x := by unfold wrap64; omega
  have C2 := Lib.hid (fun W => c_rvencode x 0 ⟨#[]⟩ (by unfold Wf; omega) (by decide) W)
  have HP := Lib.hid (show HasB w (.slice (some ad) (t.length + 1) c) (x :: t) from ⟨some ad, c, rfl, hc, fun j hj => ⟨ad, rfl, hk j hj⟩⟩)
  have q1 : (x == 1) = false := by simp [h1]
  have q2 : (x == 2) = false := by simp [h2]
  have q3 : (x == 3) = false := by simp [h3]
  have q4 : (x == 4) = false := by simp [h4]
  have q5 : (x == 5) = false := by simp [h5]
  unfold vv at C2
  clear hk hb hd c0 h1 h2 h3 h4 h5 hcd hxb
  go_enter Tryz.func21, Tryz.ntmps21
  go_wp2_with fail
  refine (C2.out _).mono ?_
  rintro e w2 ⟨v2, rfl, hv2, hb⟩
  have HTK2 := Lib.hid (HTK.out.below hb)
  have HV2 := Lib.hid hv2
  have HP2 := Lib.hid (HP.out.below HTK2.out.bel)
  have HD2 := Lib.hid hd2
  clear hv2 hb hd2
  cases hr : rightV x 0 ⟨#[]⟩ with
  | false =>
    obtain ⟨rfl, rfl, rfl, rfl⟩ : b = false ∧ k = 0 ∧ n = 0 ∧ s = ⟨#[]⟩ := by
      rcases HD2.out with ⟨h, _⟩ | ⟨_, h⟩
      · rw [hr] at h; cases h
      · exact h
    obtain ⟨z0, z1, z2, q0, q1, q2⟩ := HTK2.out.cells
    obtain ⟨f0, f1, f2⟩ := HTK2.out.frozen
    go_wp2_with fail
    exact bodyPost_ret (ret_cell rfl _ _ w.heap.size 0 0 ⟨#[]⟩ false (0, 0) rfl rfl (HTK2.out.put _ _ _).z) rfl ⟨rfl, (HTK2.out.put _ _ _).bel⟩
  | true =>
    by_cases he : encV x 0 ⟨#[]⟩ = x :: t
    · have C3 := Lib.hid (c_same w2 v2 _ _ _ HV2.out HP2.out (by rw [encV_right hr, List.length_cons]; have := encP_small hr; omega) true (decide_eq_true he))
      obtain ⟨rfl, hk3, hn3, hs4⟩ : b = true ∧ k = x ∧ n = 0 ∧ s = ⟨#[]⟩ := by
        rcases HD2.out with ⟨_, _, h⟩ | ⟨h, _⟩
        · exact h
        · exact absurd ⟨hr, he⟩ h
      clear he HD2
      obtain ⟨z0, z1, z2, q0, q1, q2⟩ := HTK2.out.cells
      obtain ⟨f0, f1, f2⟩ := HTK2.out.frozen
      go_wp2_with (go_at_call 17; ((refine C3.out.mono ?_); rintro e w3 ⟨rfl, hb⟩; clear z0 z1 z2 q0 q1 q2 f0 f1 f2; have HTK3 := Lib.hid (HTK2.out.below hb); obtain ⟨z0, z1, z2, q0, q1, q2⟩ := HTK3.out.cells; obtain ⟨f0, f1, f2⟩ := HTK3.out.frozen; clear hb))
      exact bodyPost_ret (ret_cell rfl _ _ w.heap.size x 0 ⟨#[]⟩ true (0, 0) rfl rfl (HTK3.out.put _ _ _).z) rfl ⟨by rw [hk3, hn3, hs4], (HTK3.out.put _ _ _).bel⟩
    · have C3 := Lib.hid (c_same w2 v2 _ _ _ HV2.out HP2.out (by rw [encV_right hr, List.length_cons]; have := encP_small hr; omega) false (decide_eq_false he))
      obtain ⟨rfl, rfl, rfl, rfl⟩ : b = false ∧ k = 0 ∧ n = 0 ∧ s = ⟨#[]⟩ := by
        rcases HD2.out with ⟨_, h, _⟩ | ⟨_, h⟩
        · exact absurd h he
        · exact h
      clear he HD2
      obtain ⟨z0, z1, z2, q0, q1, q2⟩ := HTK2.out.cells
      obtain ⟨f0, f1, f2⟩ := HTK2.out.frozen
      go_wp2_with (go_at_call 17; ((refine C3.out.mono ?_); rintro e w3 ⟨rfl, hb⟩; clear z0 z1 z2 q0 q1 q2 f0 f1 f2; have HTK3 := Lib.hid (HTK2.out.below hb); obtain ⟨z0, z1, z2, q0, q1, q2⟩ := HTK3.out.cells; obtain ⟨f0, f1, f2⟩ := HTK3.out.frozen; clear hb))
      exact bodyPost_ret (ret_cell rfl _ _ w.heap.size 0 0 ⟨#[]⟩ false (0, 0) rfl rfl (HTK3.out.put _ _ _).z) rfl ⟨rfl, (HTK3.out.put _ _ _).bel⟩
set_option maxHeartbeats 4000000 in
set_option maxRecDepth 100000 in
theorem c_rdec2 (w : World) (ad : Addr) (c : Nat) (t : List Int) (ht2 : 1 ≤ t.length) (hc : t.length + 1 ≤ c) (hk : ∀ j, j < t.length + 1 → w.cell? (ad.add j) = some (.int .u8 ((2 :: t).getD j 0))) (hb : Byts (2 :: t)) (hm : t.length ≤ 1000000) (k n : Int) (s : ByteArray) (b : Bool) (hd : DecIs (2 :: t) k n s b) :
    Calls Tryz.prog 21 #[.slice (some ad) (t.length + 1) c] w fun e w' => e = .returned (.tuple #[vv k n s, .bool b]) ∧ Below w.heap.size w w' := by
  have hbt : Byts t := fun z hz => hb z (by simp [hz])
  have hd2 := dec_cand (cand_of (tk_text (k := 2) hbt (by decide) (by decide) (by decide))) hd
  have hsz := unsT_size t
  have HTK0 := Lib.hid (Tk.start w (.int .i64 0) (.int .i64 0) (.string ⟨#[]⟩) 2 0 ⟨#[]⟩)
  have c0 : w.cell? ad = some (.int .u8 2) := by simpa [Addr.add] using hk 0 (by omega)
  have y0 := ((Zb.start w (.int .i64 0) (.int .i64 0) (.string ⟨#[]⟩)).bel.cell (World.block_lt_of_cell? w _ c0)).trans c0
  have t0 : decide ((t.length : Int) + 1 < 2) = false := decide_eq_false (by omega)
  have C2 := Lib.hid (fun W => c_rvencode 2 0 (unsT t) (by unfold Wf; omega) (by omega) W)
  have HP := Lib.hid (show HasB w (.slice (some ad) (t.length + 1) c) (2 :: t) from ⟨some ad, c, rfl, hc, fun j hj => ⟨ad, rfl, hk j hj⟩⟩)
  have HR := Lib.hid (show HasB w (.slice (some ⟨ad.block, ad.off + 1, none⟩) t.length (c - 1)) t from ⟨_, _, rfl, by omega, fun j hj => ⟨_, rfl, by
    have h := hk (j + 1) (by omega)
    have e1 : ad.add (j + 1) = (⟨ad.block, ad.off + 1, none⟩ : Addr).add j := by
      unfold Addr.add
      rw [if_neg (by simp : ¬ j + 1 = 0)]
      by_cases h0 : j = 0
      · subst h0; simp
      · simp [h0]; omega
    rw [← e1, h]
    rfl⟩⟩)
  have C3 := Lib.hid (fun W hv => c_runesc W (.slice (some ⟨ad.block, ad.off + 1, none⟩) t.length (c - 1)) t hv hbt hm)
  unfold vv at C2
  generalize unsT t = u at *
  clear hk hb hd c0 hbt hsz
  go_enter Tryz.func21, Tryz.ntmps21
  go_wp2_with (go_at_call 49; ((refine (C3.out _ (HR.out.below HTK0.out.bel)).mono ?_); rintro e w1 ⟨v1, b1, rfl, hb⟩; have HTK1 := Lib.hid (HTK0.out.below hb); obtain ⟨z0, z1, z2, q0, q1, q2⟩ := HTK1.out.cells; obtain ⟨f0, f1, f2⟩ := HTK1.out.frozenv; clear hb))
  have HTK := Lib.hid (HTK1.out.setS u)
  clear z0 z1 z2 q0 q1 q2 f0 f1 f2
  refine (C2.out _).mono ?_
  rintro e w2 ⟨v2, rfl, hv2, hb⟩
  have HTK2 := Lib.hid (HTK.out.below hb)
  have HV2 := Lib.hid hv2
  have HP2 := Lib.hid (HP.out.below HTK2.out.bel)
  have HD2 := Lib.hid hd2
  clear hv2 hb hd2
  cases hr : rightV 2 0 u with
  | false =>
    obtain ⟨rfl, rfl, rfl, rfl⟩ : b = false ∧ k = 0 ∧ n = 0 ∧ s = ⟨#[]⟩ := by
      rcases HD2.out with ⟨h, _⟩ | ⟨_, h⟩
      · rw [hr] at h; cases h
      · exact h
    obtain ⟨z0, z1, z2, q0, q1, q2⟩ := HTK2.out.cells
    obtain ⟨f0, f1, f2⟩ := HTK2.out.frozen
    go_wp2_with fail
    exact bodyPost_ret (ret_cell rfl _ _ w.heap.size 0 0 ⟨#[]⟩ false (0, 0) rfl rfl (HTK2.out.put _ _ _).z) rfl ⟨rfl, (HTK2.out.put _ _ _).bel⟩
  | true =>
    by_cases he : encV 2 0 u = 2 :: t
    · have C3 := Lib.hid (c_same w2 v2 _ _ _ HV2.out HP2.out (by rw [encV_right hr, List.length_cons]; have := encP_small hr; omega) true (decide_eq_true he))
      obtain ⟨rfl, hk3, hn3, hs4⟩ : b = true ∧ k = 2 ∧ n = 0 ∧ s = u := by
        rcases HD2.out with ⟨_, _, h⟩ | ⟨h, _⟩
        · exact h
        · exact absurd ⟨hr, he⟩ h
      clear he HD2
      obtain ⟨z0, z1, z2, q0, q1, q2⟩ := HTK2.out.cells
      obtain ⟨f0, f1, f2⟩ := HTK2.out.frozen
      go_wp2_with (go_at_call 17; ((refine C3.out.mono ?_); rintro e w3 ⟨rfl, hb⟩; clear z0 z1 z2 q0 q1 q2 f0 f1 f2; have HTK3 := Lib.hid (HTK2.out.below hb); obtain ⟨z0, z1, z2, q0, q1, q2⟩ := HTK3.out.cells; obtain ⟨f0, f1, f2⟩ := HTK3.out.frozen; clear hb))
      exact bodyPost_ret (ret_cell rfl _ _ w.heap.size 2 0 u true (0, 0) rfl rfl (HTK3.out.put _ _ _).z) rfl ⟨by rw [hk3, hn3, hs4], (HTK3.out.put _ _ _).bel⟩
    · have C3 := Lib.hid (c_same w2 v2 _ _ _ HV2.out HP2.out (by rw [encV_right hr, List.length_cons]; have := encP_small hr; omega) false (decide_eq_false he))
      obtain ⟨rfl, rfl, rfl, rfl⟩ : b = false ∧ k = 0 ∧ n = 0 ∧ s = ⟨#[]⟩ := by
        rcases HD2.out with ⟨_, h, _⟩ | ⟨_, h⟩
        · exact absurd h he
        · exact h
      clear he HD2
      obtain ⟨z0, z1, z2, q0, q1, q2⟩ := HTK2.out.cells
      obtain ⟨f0, f1, f2⟩ := HTK2.out.frozen
      go_wp2_with (go_at_call 17; ((refine C3.out.mono ?_); rintro e w3 ⟨rfl, hb⟩; clear z0 z1 z2 q0 q1 q2 f0 f1 f2; have HTK3 := Lib.hid (HTK2.out.below hb); obtain ⟨z0, z1, z2, q0, q1, q2⟩ := HTK3.out.cells; obtain ⟨f0, f1, f2⟩ := HTK3.out.frozen; clear hb))
      exact bodyPost_ret (ret_cell rfl _ _ w.heap.size 0 0 ⟨#[]⟩ false (0, 0) rfl rfl (HTK3.out.put _ _ _).z) rfl ⟨rfl, (HTK3.out.put _ _ _).bel⟩
set_option maxHeartbeats 4000000 in
set_option maxRecDepth 100000 in
theorem c_rdec3 (w : World) (ad : Addr) (c : Nat) (t : List Int) (ht2 : 1 ≤ t.length) (hc : t.length + 1 ≤ c) (hk : ∀ j, j < t.length + 1 → w.cell? (ad.add j) = some (.int .u8 ((3 :: t).getD j 0))) (hb : Byts (3 :: t)) (hm : t.length ≤ 1000000) (k n : Int) (s : ByteArray) (b : Bool) (hd : DecIs (3 :: t) k n s b) :
    Calls Tryz.prog 21 #[.slice (some ad) (t.length + 1) c] w fun e w' => e = .returned (.tuple #[vv k n s, .bool b]) ∧ Below w.heap.size w w' := by
  have hbt : Byts t := fun z hz => hb z (by simp [hz])
  have hd2 := dec_cand (cand_of (tk_text (k := 3) hbt (by decide) (by decide) (by decide))) hd
  have hsz := unsT_size t
  have HTK0 := Lib.hid (Tk.start w (.int .i64 0) (.int .i64 0) (.string ⟨#[]⟩) 3 0 ⟨#[]⟩)
  have c0 : w.cell? ad = some (.int .u8 3) := by simpa [Addr.add] using hk 0 (by omega)
  have y0 := ((Zb.start w (.int .i64 0) (.int .i64 0) (.string ⟨#[]⟩)).bel.cell (World.block_lt_of_cell? w _ c0)).trans c0
  have t0 : decide ((t.length : Int) + 1 < 2) = false := decide_eq_false (by omega)
  have C2 := Lib.hid (fun W => c_rvencode 3 0 (unsT t) (by unfold Wf; omega) (by omega) W)
  have HP := Lib.hid (show HasB w (.slice (some ad) (t.length + 1) c) (3 :: t) from ⟨some ad, c, rfl, hc, fun j hj => ⟨ad, rfl, hk j hj⟩⟩)
  have HR := Lib.hid (show HasB w (.slice (some ⟨ad.block, ad.off + 1, none⟩) t.length (c - 1)) t from ⟨_, _, rfl, by omega, fun j hj => ⟨_, rfl, by
    have h := hk (j + 1) (by omega)
    have e1 : ad.add (j + 1) = (⟨ad.block, ad.off + 1, none⟩ : Addr).add j := by
      unfold Addr.add
      rw [if_neg (by simp : ¬ j + 1 = 0)]
      by_cases h0 : j = 0
      · subst h0; simp
      · simp [h0]; omega
    rw [← e1, h]
    rfl⟩⟩)
  have C3 := Lib.hid (fun W hv => c_runesc W (.slice (some ⟨ad.block, ad.off + 1, none⟩) t.length (c - 1)) t hv hbt hm)
  unfold vv at C2
  generalize unsT t = u at *
  clear hk hb hd c0 hbt hsz
  go_enter Tryz.func21, Tryz.ntmps21
  go_wp2_with (go_at_call 49; ((refine (C3.out _ (HR.out.below HTK0.out.bel)).mono ?_); rintro e w1 ⟨v1, b1, rfl, hb⟩; have HTK1 := Lib.hid (HTK0.out.below hb); obtain ⟨z0, z1, z2, q0, q1, q2⟩ := HTK1.out.cells; obtain ⟨f0, f1, f2⟩ := HTK1.out.frozenv; clear hb))
  have HTK := Lib.hid (HTK1.out.setS u)
  clear z0 z1 z2 q0 q1 q2 f0 f1 f2
  refine (C2.out _).mono ?_
  rintro e w2 ⟨v2, rfl, hv2, hb⟩
  have HTK2 := Lib.hid (HTK.out.below hb)
  have HV2 := Lib.hid hv2
  have HP2 := Lib.hid (HP.out.below HTK2.out.bel)
  have HD2 := Lib.hid hd2
  clear hv2 hb hd2
  cases hr : rightV 3 0 u with
  | false =>
    obtain ⟨rfl, rfl, rfl, rfl⟩ : b = false ∧ k = 0 ∧ n = 0 ∧ s = ⟨#[]⟩ := by
      rcases HD2.out with ⟨h, _⟩ | ⟨_, h⟩
      · rw [hr] at h; cases h
      · exact h
    obtain ⟨z0, z1, z2, q0, q1, q2⟩ := HTK2.out.cells
    obtain ⟨f0, f1, f2⟩ := HTK2.out.frozen
    go_wp2_with fail
    exact bodyPost_ret (ret_cell rfl _ _ w.heap.size 0 0 ⟨#[]⟩ false (0, 0) rfl rfl (HTK2.out.put _ _ _).z) rfl ⟨rfl, (HTK2.out.put _ _ _).bel⟩
  | true =>
    by_cases he : encV 3 0 u = 3 :: t
    · have C3 := Lib.hid (c_same w2 v2 _ _ _ HV2.out HP2.out (by rw [encV_right hr, List.length_cons]; have := encP_small hr; omega) true (decide_eq_true he))
      obtain ⟨rfl, hk3, hn3, hs4⟩ : b = true ∧ k = 3 ∧ n = 0 ∧ s = u := by
        rcases HD2.out with ⟨_, _, h⟩ | ⟨h, _⟩
        · exact h
        · exact absurd ⟨hr, he⟩ h
      clear he HD2
      obtain ⟨z0, z1, z2, q0, q1, q2⟩ := HTK2.out.cells
      obtain ⟨f0, f1, f2⟩ := HTK2.out.frozen
      go_wp2_with (go_at_call 17; ((refine C3.out.mono ?_); rintro e w3 ⟨rfl, hb⟩; clear z0 z1 z2 q0 q1 q2 f0 f1 f2; have HTK3 := Lib.hid (HTK2.out.below hb); obtain ⟨z0, z1, z2, q0, q1, q2⟩ := HTK3.out.cells; obtain ⟨f0, f1, f2⟩ := HTK3.out.frozen; clear hb))
      exact bodyPost_ret (ret_cell rfl _ _ w.heap.size 3 0 u true (0, 0) rfl rfl (HTK3.out.put _ _ _).z) rfl ⟨by rw [hk3, hn3, hs4], (HTK3.out.put _ _ _).bel⟩
    · have C3 := Lib.hid (c_same w2 v2 _ _ _ HV2.out HP2.out (by rw [encV_right hr, List.length_cons]; have := encP_small hr; omega) false (decide_eq_false he))
      obtain ⟨rfl, rfl, rfl, rfl⟩ : b = false ∧ k = 0 ∧ n = 0 ∧ s = ⟨#[]⟩ := by
        rcases HD2.out with ⟨_, h, _⟩ | ⟨_, h⟩
        · exact absurd h he
        · exact h
      clear he HD2
      obtain ⟨z0, z1, z2, q0, q1, q2⟩ := HTK2.out.cells
      obtain ⟨f0, f1, f2⟩ := HTK2.out.frozen
      go_wp2_with (go_at_call 17; ((refine C3.out.mono ?_); rintro e w3 ⟨rfl, hb⟩; clear z0 z1 z2 q0 q1 q2 f0 f1 f2; have HTK3 := Lib.hid (HTK2.out.below hb); obtain ⟨z0, z1, z2, q0, q1, q2⟩ := HTK3.out.cells; obtain ⟨f0, f1, f2⟩ := HTK3.out.frozen; clear hb))
      exact bodyPost_ret (ret_cell rfl _ _ w.heap.size 0 0 ⟨#[]⟩ false (0, 0) rfl rfl (HTK3.out.put _ _ _).z) rfl ⟨rfl, (HTK3.out.put _ _ _).bel⟩
theorem right_of_rest {w : World} {ad : Addr} {c : Nat} {x : Int} {t : List Int} (hc : t.length + 1 ≤ c) (hk : ∀ j, j < t.length + 1 → w.cell? (ad.add j) = some (.int .u8 ((x :: t).getD j 0))) : HasB w (.slice (some ⟨ad.block, ad.off + 1, none⟩) t.length (c - 1)) t := ⟨_, _, rfl, by omega, fun j hj => ⟨_, rfl, by
    have h := hk (j + 1) (by omega)
    have e1 : ad.add (j + 1) = (⟨ad.block, ad.off + 1, none⟩ : Addr).add j := by
      unfold Addr.add
      rw [if_neg (by simp : ¬ j + 1 = 0)]
      by_cases h0 : j = 0
      · subst h0; simp
      · simp [h0]; omega
    rw [← e1, h]
    rfl⟩⟩
set_option maxHeartbeats 4000000 in
set_option maxRecDepth 100000 in
theorem c_rdec5 (w : World) (ad : Addr) (c : Nat) (t : List Int) (ht2 : 1 ≤ t.length) (hc : t.length + 1 ≤ c) (hk : ∀ j, j < t.length + 1 → w.cell? (ad.add j) = some (.int .u8 ((5 :: t).getD j 0))) (hb : Byts (5 :: t)) (hm : t.length ≤ 1000000) (k n : Int) (s : ByteArray) (b : Bool) (hd : DecIs (5 :: t) k n s b) :
    Calls Tryz.prog 21 #[.slice (some ad) (t.length + 1) c] w fun e w' => e = .returned (.tuple #[vv k n s, .bool b]) ∧ Below w.heap.size w w' := by
  have hbt : Byts t := fun z hz => hb z (by simp [hz])
  obtain ⟨m, ok, hf⟩ : ∃ m ok, fromF t = (m, ok) := ⟨_, _, rfl⟩
  obtain ⟨htk, hrt⟩ := tk_float hbt hf
  have HTK0 := Lib.hid (Tk.start w (.int .i64 0) (.int .i64 0) (.string ⟨#[]⟩) 5 0 ⟨#[]⟩)
  have c0 : w.cell? ad = some (.int .u8 5) := by simpa [Addr.add] using hk 0 (by omega)
  have y0 := ((Zb.start w (.int .i64 0) (.int .i64 0) (.string ⟨#[]⟩)).bel.cell (World.block_lt_of_cell? w _ c0)).trans c0
  have t0 : decide ((t.length : Int) + 1 < 2) = false := decide_eq_false (by omega)
  have HP := Lib.hid (show HasB w (.slice (some ad) (t.length + 1) c) (5 :: t) from ⟨some ad, c, rfl, hc, fun j hj => ⟨ad, rfl, hk j hj⟩⟩)
  have HR := Lib.hid (right_of_rest hc hk)
  have C3 := Lib.hid (fun W hv => c_rfrom W (.slice (some ⟨ad.block, ad.off + 1, none⟩) t.length (c - 1)) t hv hbt hm m ok hf)
  cases ok with
  | true =>
    have hd2 := dec_cand (cand_of htk) hd
    have C2 := Lib.hid (fun W => c_rvencode 5 m ⟨#[]⟩ htk.1 (by decide) W)
    unfold vv at C2
    clear hk hb hd c0 hbt htk hrt hf
    go_enter Tryz.func21, Tryz.ntmps21
    go_wp2_with (go_at_call 48; ((refine (C3.out _ (HR.out.below HTK0.out.bel)).mono ?_); rintro e w1 ⟨rfl, hb⟩; have HTK1 := Lib.hid (HTK0.out.below hb); obtain ⟨z0, z1, z2, q0, q1, q2⟩ := HTK1.out.cells; obtain ⟨f0, f1, f2⟩ := HTK1.out.frozenv; clear hb))
    have HTK := Lib.hid (HTK1.out.setN m)
    clear z0 z1 z2 q0 q1 q2 f0 f1 f2
    refine (C2.out _).mono ?_
    rintro e w2 ⟨v2, rfl, hv2, hb⟩
    have HTK2 := Lib.hid (HTK.out.below hb)
    have HV2 := Lib.hid hv2
    have HP2 := Lib.hid (HP.out.below HTK2.out.bel)
    have HD2 := Lib.hid hd2
    clear hv2 hb hd2
    cases hr : rightV 5 m ⟨#[]⟩ with
    | false =>
      obtain ⟨rfl, rfl, rfl, rfl⟩ : b = false ∧ k = 0 ∧ n = 0 ∧ s = ⟨#[]⟩ := by
        rcases HD2.out with ⟨h, _⟩ | ⟨_, h⟩
        · rw [hr] at h; cases h
        · exact h
      obtain ⟨z0, z1, z2, q0, q1, q2⟩ := HTK2.out.cells
      obtain ⟨f0, f1, f2⟩ := HTK2.out.frozen
      go_wp2_with fail
      exact bodyPost_ret (ret_cell rfl _ _ w.heap.size 0 0 ⟨#[]⟩ false (0, 0) rfl rfl (HTK2.out.put _ _ _).z) rfl ⟨rfl, (HTK2.out.put _ _ _).bel⟩
    | true =>
      by_cases he : encV 5 m ⟨#[]⟩ = 5 :: t
      · have C3 := Lib.hid (c_same w2 v2 _ _ _ HV2.out HP2.out (by rw [encV_right hr, List.length_cons]; have := encP_small hr; omega) true (decide_eq_true he))
        obtain ⟨rfl, hk3, hn3, hs4⟩ : b = true ∧ k = 5 ∧ n = m ∧ s = ⟨#[]⟩ := by
          rcases HD2.out with ⟨_, _, h⟩ | ⟨h, _⟩
          · exact h
          · exact absurd ⟨hr, he⟩ h
        clear he HD2
        obtain ⟨z0, z1, z2, q0, q1, q2⟩ := HTK2.out.cells
        obtain ⟨f0, f1, f2⟩ := HTK2.out.frozen
        go_wp2_with (go_at_call 17; ((refine C3.out.mono ?_); rintro e w3 ⟨rfl, hb⟩; clear z0 z1 z2 q0 q1 q2 f0 f1 f2; have HTK3 := Lib.hid (HTK2.out.below hb); obtain ⟨z0, z1, z2, q0, q1, q2⟩ := HTK3.out.cells; obtain ⟨f0, f1, f2⟩ := HTK3.out.frozen; clear hb))
        exact bodyPost_ret (ret_cell rfl _ _ w.heap.size 5 m ⟨#[]⟩ true (0, 0) rfl rfl (HTK3.out.put _ _ _).z) rfl ⟨by rw [hk3, hn3, hs4], (HTK3.out.put _ _ _).bel⟩
      · have C3 := Lib.hid (c_same w2 v2 _ _ _ HV2.out HP2.out (by rw [encV_right hr, List.length_cons]; have := encP_small hr; omega) false (decide_eq_false he))
        obtain ⟨rfl, rfl, rfl, rfl⟩ : b = false ∧ k = 0 ∧ n = 0 ∧ s = ⟨#[]⟩ := by
          rcases HD2.out with ⟨_, h, _⟩ | ⟨_, h⟩
          · exact absurd h he
          · exact h
        clear he HD2
        obtain ⟨z0, z1, z2, q0, q1, q2⟩ := HTK2.out.cells
        obtain ⟨f0, f1, f2⟩ := HTK2.out.frozen
        go_wp2_with (go_at_call 17; ((refine C3.out.mono ?_); rintro e w3 ⟨rfl, hb⟩; clear z0 z1 z2 q0 q1 q2 f0 f1 f2; have HTK3 := Lib.hid (HTK2.out.below hb); obtain ⟨z0, z1, z2, q0, q1, q2⟩ := HTK3.out.cells; obtain ⟨f0, f1, f2⟩ := HTK3.out.frozen; clear hb))
        exact bodyPost_ret (ret_cell rfl _ _ w.heap.size 0 0 ⟨#[]⟩ false (0, 0) rfl rfl (HTK3.out.put _ _ _).z) rfl ⟨rfl, (HTK3.out.put _ _ _).bel⟩
  | false =>
    obtain ⟨rfl, rfl, rfl, rfl⟩ : b = false ∧ k = 0 ∧ n = 0 ∧ s = ⟨#[]⟩ := by
      rcases dec_cons htk hd with ⟨h, _⟩ | ⟨_, h⟩
      · cases h
      · exact h
    clear hk hb hd c0 hbt htk hrt hf
    go_enter Tryz.func21, Tryz.ntmps21
    go_wp2_with (go_at_call 48; ((refine (C3.out _ (HR.out.below HTK0.out.bel)).mono ?_); rintro e w1 ⟨rfl, hb⟩; have HTK1 := Lib.hid (HTK0.out.below hb); obtain ⟨z0, z1, z2, q0, q1, q2⟩ := HTK1.out.cells; obtain ⟨f0, f1, f2⟩ := HTK1.out.frozen; clear hb))
    exact bodyPost_ret (ret_cell rfl _ _ w.heap.size 0 0 ⟨#[]⟩ false (0, 0) rfl rfl (HTK1.out.put _ _ _).z) rfl ⟨rfl, (HTK1.out.put _ _ _).bel⟩
theorem add_any (g o k : Nat) : (⟨g, o, none⟩ : Addr).add k = ⟨g, o + k, none⟩ := by
  unfold Addr.add
  by_cases h : k = 0
  · subst h; simp
  · simp [h]
theorem cand_int_no {t : List Int} (h : ¬ t.length = 8) (n : Int) (hn : Wf n) : Cand 1 t n ⟨#[]⟩ := cand_of (tk_int_no h n hn)
set_option maxHeartbeats 4000000 in
set_option maxRecDepth 100000 in
theorem c_rdec1 (w : World) (ad : Addr) (c : Nat) (t : List Int) (ht2 : 1 ≤ t.length) (hc : t.length + 1 ≤ c) (hk : ∀ j, j < t.length + 1 → w.cell? (ad.add j) = some (.int .u8 ((1 :: t).getD j 0))) (hb : Byts (1 :: t)) (hm : t.length ≤ 1000000) (k n : Int) (s : ByteArray) (b : Bool) (hd : DecIs (1 :: t) k n s b) :
    Calls Tryz.prog 21 #[.slice (some ad) (t.length + 1) c] w fun e w' => e = .returned (.tuple #[vv k n s, .bool b]) ∧ Below w.heap.size w w' := by
  have hbt : Byts t := fun z hz => hb z (by simp [hz])
  have HTK0 := Lib.hid (Tk.start w (.int .i64 0) (.int .i64 0) (.string ⟨#[]⟩) 1 0 ⟨#[]⟩)
  have c0 : w.cell? ad = some (.int .u8 1) := by simpa [Addr.add] using hk 0 (by omega)
  have y0 := ((Zb.start w (.int .i64 0) (.int .i64 0) (.string ⟨#[]⟩)).bel.cell (World.block_lt_of_cell? w _ c0)).trans c0
  have t0 : decide ((t.length : Int) + 1 < 2) = false := decide_eq_false (by omega)
  have HP := Lib.hid (show HasB w (.slice (some ad) (t.length + 1) c) (1 :: t) from ⟨some ad, c, rfl, hc, fun j hj => ⟨ad, rfl, hk j hj⟩⟩)
  obtain ⟨_, _, hvv, _, hrr⟩ := right_of_rest hc hk
  have HK : Hid (∀ j, j < t.length → w.cell? ((⟨ad.block, ad.off + 1, none⟩ : Addr).add j) = some (.int .u8 (t.getD j 0))) := Lib.hid (fun j hj => by
    obtain ⟨a2, e2, h2⟩ := hrr j hj
    injection hvv with e3 _ _
    rw [e2] at e3
    injection e3 with e4
    rw [e4]
    exact h2)
  have HBY := Lib.hid hbt
  have HD := Lib.hid hd
  have HMM := Lib.hid hm
  clear hk hb hd c0 hbt hvv hrr
  go_enter Tryz.func21, Tryz.ntmps21
  go_wp2_with fail
  generalize (w.alloc (.cells #[.int .i64 0, .int .i64 0, .string ⟨#[]⟩] 23)).alloc (.cells #[.int .i64 1, .int .i64 0, .string ⟨#[]⟩] 23) = W0 at HTK0 ⊢
  clear y0
  have HX : Hid (∀ j, j < t.length → W0.cell? ⟨ad.block, ad.off + 1 + j, none⟩ = some (.int .u8 (t.getD j 0))) := Lib.hid (fun j hj => by
    have h := (HTK0.out.bel.cell (World.block_lt_of_cell? w _ (HK.out j hj))).trans (HK.out j hj)
    rw [add_any] at h
    exact h)
  go_loopw [6, 7] (fun v6 v7 W => ∃ (i : Nat) (q : Int), i ≤ t.length ∧ v6 = .int .u64 q ∧ v7 = .int .i64 i ∧ Hid (t.length = 8 → q = val (t.take i)) ∧ ∃ n, W = W0.drewN n) (fun _ v7 _ => t.length - (intOf v7).toNat)
  case atStart => exact ⟨0, 0, by omega, rfl, rfl, Lib.hid (fun _ => rfl), 0, rfl⟩
  case round =>
    obtain ⟨i, q, hi, rfl, rfl, HQ, mq, rfl⟩ := hrel
    by_cases hlt : i < t.length
    · have x1 := HX.out i hlt
      have hx := byts_at HBY.out i hlt
      have hi0 : (0 : Int) ≤ (i : Int) := by omega
      have hi1 : (i : Int) < (t.length : Int) := by omega
      have t1 : decide ((i : Int) < (t.length : Int)) = true := decide_eq_true hi1
      have hwx : IntKind.u64.wrap (t.getD i 0) = t.getD i 0 := wraps_u64 _ (by omega) (by simp only [Int.reducePow]; omega)
      obtain ⟨q2, hq2⟩ : ∃ q2, IntKind.u64.wrap (IntKind.u64.wrap (q * 256) + t.getD i 0) = q2 := ⟨_, rfl⟩
      have HN := Lib.hid (show t.length = 8 → q2 = val (t.take (i + 1)) from fun h8 => by
        have hqb := val_take_bd HBY.out i (by omega) h8
        rw [← HQ.out h8] at hqb
        rw [take_snoc t i hlt, val_snoc, ← HQ.out h8, ← hq2, wrap_u64, wrap_u64]
        omega)
      generalize t.getD i 0 = x at x1 hwx hq2
      clear hx
      go_wp2
      go_roundw
      case rel => exact ⟨i + 1, q2, by omega, by first | rfl | (congr 1), by go_num, HN, _, rfl⟩
      case measure => simp [intOf]; omega
    · have hie : i = t.length := by omega
      subst hie
      have t1 : decide ((t.length : Int) < (t.length : Int)) = false := decide_eq_false (by omega)
      obtain ⟨n1, hn1⟩ : ∃ n1, wrap64 (IntKind.u64.wrap (q - 9223372036854775808)) = n1 := ⟨_, rfl⟩
      have hcd : Cand 1 t n1 ⟨#[]⟩ := by
        by_cases h8 : t.length = 8
        · have h9 := HQ.out h8
          rw [List.take_length] at h9
          have h10 := val8_bd HBY.out h8
          have : n1 = val t - 9223372036854775808 := by rw [← hn1, h9, wrap_u64]; unfold wrap64; omega
          rw [this]
          exact cand_of (tk_int_yes HBY.out h8)
        · exact cand_int_no h8 n1 (by rw [← hn1]; exact wf_wrap _)
      have hd2 := dec_cand hcd HD.out
      have C2 := Lib.hid (fun W => c_rvencode 1 n1 ⟨#[]⟩ hcd.1 (by decide) W)
      unfold vv at C2
      have HTK1 := Lib.hid (HTK0.out.below (below_drewN W0 mq))
      obtain ⟨z0, z1, z2, q0, q1, q2⟩ := HTK0.out.cells
      obtain ⟨f0, f1, f2⟩ := HTK0.out.frozenv
      clear hcd
      go_wp2_with fail
      have HTK := Lib.hid (HTK1.out.setN n1)
      clear z0 z1 z2 q0 q1 q2 f0 f1 f2
      refine (C2.out _).mono ?_
      rintro e w2 ⟨v2, rfl, hv2, hb⟩
      have HTK2 := Lib.hid (HTK.out.below hb)
      have HV2 := Lib.hid hv2
      have HP2 := Lib.hid (HP.out.below HTK2.out.bel)
      have HD2 := Lib.hid hd2
      clear hv2 hb hd2
      cases hr : rightV 1 n1 ⟨#[]⟩ with
      | false =>
        obtain ⟨rfl, rfl, rfl, rfl⟩ : b = false ∧ k = 0 ∧ n = 0 ∧ s = ⟨#[]⟩ := by
          rcases HD2.out with ⟨h, _⟩ | ⟨_, h⟩
          · rw [hr] at h; cases h
          · exact h
        obtain ⟨z0, z1, z2, q0, q1, q2⟩ := HTK2.out.cells
        obtain ⟨f0, f1, f2⟩ := HTK2.out.frozen
        go_wp2_with fail
        exact bodyPost_ret (ret_cell rfl _ _ w.heap.size 0 0 ⟨#[]⟩ false (0, 0) rfl rfl (HTK2.out.put _ _ _).z) rfl ⟨rfl, (HTK2.out.put _ _ _).bel⟩
      | true =>
        by_cases he : encV 1 n1 ⟨#[]⟩ = 1 :: t
        · have C3 := Lib.hid (c_same w2 v2 _ _ _ HV2.out HP2.out (by rw [encV_right hr, List.length_cons]; have := encP_small hr; omega) true (decide_eq_true he))
          obtain ⟨rfl, hk3, hn3, hs4⟩ : b = true ∧ k = 1 ∧ n = n1 ∧ s = ⟨#[]⟩ := by
            rcases HD2.out with ⟨_, _, h⟩ | ⟨h, _⟩
            · exact h
            · exact absurd ⟨hr, he⟩ h
          clear he HD2
          obtain ⟨z0, z1, z2, q0, q1, q2⟩ := HTK2.out.cells
          obtain ⟨f0, f1, f2⟩ := HTK2.out.frozen
          go_wp2_with (go_at_call 17; ((refine C3.out.mono ?_); rintro e w3 ⟨rfl, hb⟩; clear z0 z1 z2 q0 q1 q2 f0 f1 f2; have HTK3 := Lib.hid (HTK2.out.below hb); obtain ⟨z0, z1, z2, q0, q1, q2⟩ := HTK3.out.cells; obtain ⟨f0, f1, f2⟩ := HTK3.out.frozen; clear hb))
          exact bodyPost_ret (ret_cell rfl _ _ w.heap.size 1 n1 ⟨#[]⟩ true (0, 0) rfl rfl (HTK3.out.put _ _ _).z) rfl ⟨by rw [hk3, hn3, hs4], (HTK3.out.put _ _ _).bel⟩
        · have C3 := Lib.hid (c_same w2 v2 _ _ _ HV2.out HP2.out (by rw [encV_right hr, List.length_cons]; have := encP_small hr; omega) false (decide_eq_false he))
          obtain ⟨rfl, rfl, rfl, rfl⟩ : b = false ∧ k = 0 ∧ n = 0 ∧ s = ⟨#[]⟩ := by
            rcases HD2.out with ⟨_, h, _⟩ | ⟨_, h⟩
            · exact absurd h he
            · exact h
          clear he HD2
          obtain ⟨z0, z1, z2, q0, q1, q2⟩ := HTK2.out.cells
          obtain ⟨f0, f1, f2⟩ := HTK2.out.frozen
          go_wp2_with (go_at_call 17; ((refine C3.out.mono ?_); rintro e w3 ⟨rfl, hb⟩; clear z0 z1 z2 q0 q1 q2 f0 f1 f2; have HTK3 := Lib.hid (HTK2.out.below hb); obtain ⟨z0, z1, z2, q0, q1, q2⟩ := HTK3.out.cells; obtain ⟨f0, f1, f2⟩ := HTK3.out.frozen; clear hb))
          exact bodyPost_ret (ret_cell rfl _ _ w.heap.size 0 0 ⟨#[]⟩ false (0, 0) rfl rfl (HTK3.out.put _ _ _).z) rfl ⟨rfl, (HTK3.out.put _ _ _).bel⟩
set_option maxHeartbeats 4000000 in
set_option maxRecDepth 100000 in
theorem c_rvdecode (w : World) (v : Value) (l : List Int) (hv : HasB w v l) (hb : Byts l) (hm : l.length ≤ 1000000) (k n : Int) (s : ByteArray) (b : Bool) (hd : DecIs l k n s b) :
    Calls Tryz.prog 21 #[v] w fun e w' => e = .returned (.tuple #[vv k n s, .bool b]) ∧ Below w.heap.size w w' := by
  obtain ⟨A, c, rfl, hc, hk⟩ := hv
  by_cases h2 : l.length < 2
  · obtain ⟨rfl, rfl, rfl, rfl⟩ := dec_short h2 hd
    have HZ0 := Lib.hid (Zb.start w (.int .i64 0) (.int .i64 0) (.string ⟨#[]⟩))
    obtain ⟨x0, x1, x2, f0, f1, f2⟩ := HZ0.out.facts
    have t0 : decide ((l.length : Int) < 2) = true := decide_eq_true (by omega)
    clear hd hk hb hm
    go_enter Tryz.func21, Tryz.ntmps21
    go_wp2
    exact bodyPost_ret (ret_cell rfl _ _ w.heap.size 0 0 ⟨#[]⟩ false (0, 0) rfl rfl HZ0.out.z) rfl ⟨rfl, HZ0.out.bel⟩
  · cases l with
    | nil => simp at h2
    | cons x t =>
      obtain ⟨ad, rfl, _⟩ := hk 0 (by simp)
      have hk2 : ∀ j, j < t.length + 1 → w.cell? (ad.add j) = some (.int .u8 ((x :: t).getD j 0)) := fun j hj => by
        obtain ⟨ad2, e, h⟩ := hk j hj
        obtain rfl := Option.some.inj e
        exact h
      have ht2 : 1 ≤ t.length := by simp at h2; omega
      have hmt : t.length ≤ 1000000 := by simp at hm; omega
      by_cases e1 : x = 1
      · subst e1; exact c_rdec1 w ad c t ht2 hc hk2 hb hmt k n s b hd
      by_cases e2 : x = 2
      · subst e2; exact c_rdec2 w ad c t ht2 hc hk2 hb hmt k n s b hd
      by_cases e3 : x = 3
      · subst e3; exact c_rdec3 w ad c t ht2 hc hk2 hb hmt k n s b hd
      by_cases e4 : x = 4
      · subst e4; exact c_rdec4 w ad c t ht2 hc hk2 hb hmt k n s b hd
      by_cases e5 : x = 5
      · subst e5; exact c_rdec5 w ad c t ht2 hc hk2 hb hmt k n s b hd
      exact c_rdecO x e1 e2 e3 e4 e5 w ad c t ht2 hc hk2 hb hmt k n s b hd
end Go.Proofs.YtikpmlginojnhaaGreatDoor.Fl
