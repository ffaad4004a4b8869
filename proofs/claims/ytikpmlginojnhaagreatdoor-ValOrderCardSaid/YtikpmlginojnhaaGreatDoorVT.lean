/- Values out of text: the document's Read: numbers. -/
import Derived.Test.YtikpmlginojnhaaGreatDoorVS
namespace Go.Proofs.YtikpmlginojnhaaGreatDoor.Fl
open Go.RowKit Go.Maps
set_option linter.unusedVariables false
set_option linter.unusedSimpArgs false
/-- The digits' number. -/
def fd (l : List Int) : Int := l.foldl (fun a b => if 48 ≤ b ∧ b ≤ 57 then a * 10 + (b - 48) else a) 0
theorem fd_snoc (l : List Int) (x : Int) : fd (l ++ [x]) = if 48 ≤ x ∧ x ≤ 57 then fd l * 10 + (x - 48) else fd l := by
  unfold fd
  rw [List.foldl_append]
  rfl
theorem fd_dec (m : Nat) : fd ((Lib.decDigits m).map fun b => (b.toNat : Int)) = m := by
  induction m using Nat.strongRecOn with
  | _ m ih =>
    rw [Lib.decDigits]
    split
    · have e : (UInt8.ofNat (48 + m)).toNat = 48 + m := by rw [UInt8.toNat_ofNat']; omega
      show fd ([] ++ [((UInt8.ofNat (48 + m)).toNat : Int)]) = _
      rw [fd_snoc, e, if_pos (by omega)]
      show 0 * 10 + _ = _
      omega
    · have e : (UInt8.ofNat (48 + m % 10)).toNat = 48 + m % 10 := by rw [UInt8.toNat_ofNat']; omega
      rw [List.map_append]
      show fd (_ ++ [((UInt8.ofNat (48 + m % 10)).toNat : Int)]) = _
      rw [fd_snoc, ih (m / 10) (by omega), e, if_pos (by omega)]
      omega
theorem fd_skip (l : List Int) : fd (45 :: l) = fd l := by
  unfold fd
  rw [List.foldl_cons, if_neg (by omega)]
theorem w64_step (a d : Int) : wrap64 (wrap64 (wrap64 a * 10) + d) = wrap64 (a * 10 + d) := by unfold wrap64; omega
theorem w64_neg {n : Int} (h : Wf n) (h0 : n < 0) : wrap64 (-(wrap64 (n.natAbs : Int))) = n := by unfold Wf at h; unfold wrap64; omega
theorem w64_pos {n : Int} (h : Wf n) (h0 : ¬ n < 0) : wrap64 (n.toNat : Int) = n := by unfold Wf at h; unfold wrap64; omega
/-- What the document makes of a text's digits. -/
def numI (s : ByteArray) : Int := if b0 s = 45 then wrap64 (-(wrap64 (fd (byt s)))) else wrap64 (fd (byt s))
theorem num_itoa {n : Int} (h : Wf n) : numI ⟨(Lib.itoa n).toArray⟩ = n := by
  have hf := itoa_first n
  unfold numI
  by_cases h0 : n < 0
  · have e : byt ⟨(Lib.itoa n).toArray⟩ = 45 :: (Lib.decDigits n.natAbs).map fun b => (b.toNat : Int) := by
      unfold Lib.itoa
      rw [if_pos h0]
      rfl
    have e2 : b0 ⟨(Lib.itoa n).toArray⟩ = 45 := by unfold b0; rw [e]; rfl
    rw [if_pos e2, e, fd_skip, fd_dec]
    exact w64_neg h h0
  · have e : byt ⟨(Lib.itoa n).toArray⟩ = (Lib.decDigits n.toNat).map fun b => (b.toNat : Int) := by
      unfold Lib.itoa
      rw [if_neg h0]
      rfl
    have e2 : ¬ b0 ⟨(Lib.itoa n).toArray⟩ = 45 := by
      unfold b0
      rw [e]
      have hd := dec_bd n.toNat
      cases hl : Lib.decDigits n.toNat with
      | nil => exact fun h => by have h : (0 : Int) = 45 := h; omega
      | cons c r =>
        have hc := hd c (by rw [hl]; simp)
        show ¬ (c.toNat : Int) = 45
        omega
    rw [if_neg e2, e, fd_dec]
    exact w64_pos h h0
theorem wf_w64 (a : Int) : Wf (wrap64 a) := by unfold wrap64 Wf; omega
theorem num_wf (s : ByteArray) : Wf (numI s) := by
  unfold numI
  split <;> exact wf_w64 _
theorem gs_num {s : ByteArray} (h1 : ¬ b0 s = 102) (h2 : ¬ b0 s = 98) (h3 : ¬ b0 s = 116) : Gs s 1 (numI s) ⟨#[]⟩ := gs_int h1 h2 h3 (fun m hm e => by
  have e2 : s = ⟨(Lib.itoa m).toArray⟩ := by
    apply ByteArray.ext
    apply Array.toList_inj.1
    rw [← e]
  rw [e2]
  exact num_itoa hm)
theorem show_int (n : Int) : showV 1 n ⟨#[]⟩ = ⟨(Lib.itoa n).toArray⟩ := by
  unfold showV
  rw [if_neg, if_pos rfl]
  unfold rightV
  rw [if_pos rfl, emp_list]
  decide
theorem conv_u8 {x : Int} (h1 : 48 ≤ x) (h2 : x ≤ 57) : IntKind.u8.wrap (x - 48) = x - 48 ∧ IntKind.i64.wrap (x - 48) = x - 48 := by
  constructor
  · unfold IntKind.wrap; simp [IntKind.bits, IntKind.signed]; omega
  · rw [IntKind.wrap_i64]; omega
set_option maxHeartbeats 4000000 in
set_option maxRecDepth 100000 in
theorem c_rvread1 (s : ByteArray) (hz : 1 ≤ s.size) (n1 : ¬ b0 s = 102) (n2 : ¬ b0 s = 98) (n3 : ¬ b0 s = 116) (hs : s.size ≤ 1000000) (w : World) (k n : Int) (t : ByteArray) (b : Bool) (hr : RdV s k n t b) :
    Calls Tryz.prog 23 #[.string s] w fun e w' => e = .returned (.tuple #[vv k n t, .bool b]) ∧ Below w.heap.size w w' := by
  have q0 := size_empty hz
  have q1 : (s.toList == [116, 114, 117, 101]) = false := tl_false (b0_ne (fun h => n3 (h.trans rfl)))
  have q2 : (s.toList == [102, 97, 108, 115, 101]) = false := tl_false (b0_ne (fun h => n1 (h.trans rfl)))
  have x0 := at0 s hz
  have HC := Lib.hid (rdv_cand (gs_num n1 n2 n3) (num_wf s) hr)
  have C2 := Lib.hid (fun W => c_rvshow 1 (numI s) ⟨#[]⟩ (num_wf s) (Nat.zero_le _) W)
  have HN := Lib.hid (show numI s = if b0 s = 45 then wrap64 (-(wrap64 (fd (byt s)))) else wrap64 (fd (byt s)) from rfl)
  have HQ := Lib.hid (show showV 1 (numI s) ⟨#[]⟩ = s → ¬ s = ⟨#[63]⟩ from fun e => by
    rw [← e, show_int]
    have := itoa_first (numI s)
    apply b0_ne
    show ¬ _ = (63 : Int)
    omega)
  have HTK0 := Lib.hid (Tk.start w (.int .i64 0) (.int .i64 0) (.string ⟨#[]⟩) 1 0 ⟨#[]⟩)
  generalize numI s = nn at *
  obtain ⟨u, hu⟩ : ∃ u, showV 1 nn ⟨#[]⟩ = u := ⟨_, rfl⟩
  rw [hu] at C2 HC HQ
  simp only [vv] at C2 ⊢
  have p1 : (b0 s == 102) = false := by simp [n1]
  have p2 : (b0 s == 98) = false := by simp [n2]
  have p3 : (b0 s == 116) = false := by simp [n3]
  have HB0 := Lib.hid (show ∃ c, b0 s = c from ⟨_, rfl⟩)
  clear hr hu n1 n2 n3
  obtain ⟨c0, hc0⟩ := HB0.out
  rw [hc0] at x0 p1 p2 p3 HN
  clear hc0 HB0
  go_enter Tryz.func23, Tryz.ntmps23
  go_upto_region 5 with fail
  generalize (w.alloc (.cells #[.int .i64 0, .int .i64 0, .string ⟨#[]⟩] 23)).alloc (.cells #[.int .i64 1, .int .i64 0, .string ⟨#[]⟩] 23) = W1 at HTK0 ⊢
  go_wp2
  go_loopw [9] (fun v9 W => ∃ (i : Nat) (q : Int), v9 = .int .i64 i ∧ i ≤ s.size ∧ Hid (q = wrap64 (fd ((byt s).take i))) ∧ Hid (Tk w W (.int .i64 0) (.int .i64 0) (.string ⟨#[]⟩) 1 q ⟨#[]⟩)) (fun v9 _ => s.size - (intOf v9).toNat)
  case atStart => exact ⟨0, 0, rfl, by omega, Lib.hid (by rw [List.take_zero]; show (0 : Int) = wrap64 0; unfold wrap64; omega), HTK0⟩
  case round =>
    clear HTK0
    obtain ⟨i, q, rfl, hi, HQQ, HTK⟩ := hrel
    by_cases hlt : i < s.size
    · have t1 : decide ((i : Int) < (s.size : Int)) = true := decide_eq_true (by omega)
      have x1 := str_at s i hlt
      have hx := byts_at (byt_bd s) i (by rw [byt_len]; exact hlt)
      have HNX := Lib.hid (show fd ((byt s).take (i + 1)) = if 48 ≤ (byt s).getD i 0 ∧ (byt s).getD i 0 ≤ 57 then fd ((byt s).take i) * 10 + ((byt s).getD i 0 - 48) else fd ((byt s).take i) by rw [take_snoc (byt s) i (by rw [byt_len]; exact hlt), fd_snoc])
      generalize (byt s).getD i 0 = x at x1 hx HNX
      have HLT := Lib.hid hlt
      by_cases h48 : 48 ≤ x
      · have t2 : decide (48 ≤ x) = true := decide_eq_true h48
        by_cases h57 : x ≤ 57
        · have t3 : decide (x ≤ 57) = true := decide_eq_true h57
          obtain ⟨v1, v2⟩ := conv_u8 h48 h57
          obtain ⟨z0, z1, z2, y0, y1, y2⟩ := HTK.out.cells
          obtain ⟨f0, f1, f2⟩ := HTK.out.frozenv
          have HQN := Lib.hid (show wrap64 (wrap64 (q * 10) + (x - 48)) = wrap64 (fd ((byt s).take (i + 1))) by rw [HNX.out, if_pos ⟨h48, h57⟩, HQQ.out, w64_step])
          clear h48 h57 hx hlt
          go_wp2_with fail
          go_region
          go_wp2
          go_roundw
          case rel => exact ⟨i + 1, _, by go_num, by have := HLT.out; omega, HQN, Lib.hid ((HTK.out.setN _).below (Below.refl _ _).drew)⟩
          case measure => have := HLT.out; simp [intOf]; omega
        · have t3 : decide (x ≤ 57) = false := decide_eq_false h57
          have HQN := Lib.hid (show q = wrap64 (fd ((byt s).take (i + 1))) by rw [HNX.out, if_neg (fun h => h57 h.2), HQQ.out])
          clear h48 h57 hx hlt
          go_wp2
          go_roundw
          case rel => exact ⟨i + 1, q, by go_num, by have := HLT.out; omega, HQN, HTK⟩
          case measure => have := HLT.out; simp [intOf]; omega
      · have t2 : decide (48 ≤ x) = false := decide_eq_false h48
        have HQN := Lib.hid (show q = wrap64 (fd ((byt s).take (i + 1))) by rw [HNX.out, if_neg (fun h => h48 h.1), HQQ.out])
        clear h48 hx hlt
        go_wp2
        go_roundw
        case rel => exact ⟨i + 1, q, by go_num, by have := HLT.out; omega, HQN, HTK⟩
        case measure => have := HLT.out; simp [intOf]; omega
    · have t1 : decide ((i : Int) < (s.size : Int)) = false := decide_eq_false (by omega)
      have HQE := Lib.hid (show q = wrap64 (fd (byt s)) by rw [HQQ.out, List.take_of_length_le (by rw [byt_len]; omega)])
      obtain ⟨z0, z1, z2, y0, y1, y2⟩ := HTK.out.cells
      obtain ⟨f0, f1, f2⟩ := HTK.out.frozenv
      by_cases h45 : c0 = 45
      · have t2 : (c0 == 45) = true := by simp [h45]
        have HE := Lib.hid (show nn = wrap64 (-q) by rw [HN.out, if_pos h45, HQE.out])
        have HTKo := HTK
        clear HTK h45
        go_wp2_with fail
        have HTK := Lib.hid (HTKo.out.setN (wrap64 (-q)))
        clear z0 z1 z2 y0 y1 y2 f0 f1 f2
        rw [← HE.out] at HTK ⊢
        clear HE HQE HN HTKo HQQ
        by_cases he : u = s
        · obtain ⟨hb1, hk1, hn1, ht1⟩ : b = true ∧ k = 1 ∧ n = nn ∧ t = ⟨#[]⟩ := by
            rcases HC.out with ⟨_, _, h⟩ | ⟨h, _⟩
            · exact h
            · rcases h with h | h
              · exact absurd h (HQ.out he)
              · exact absurd he h
          subst he hb1
          refine (C2.out _).mono ?_
          rintro e w3 ⟨rfl, hb⟩
          have HTK3 := Lib.hid (HTK.out.below hb)
          clear hb
          obtain ⟨z0, z1, z2, y0, y1, y2⟩ := HTK3.out.cells
          obtain ⟨f0, f1, f2⟩ := HTK3.out.frozen
          go_wp2_with fail
          exact bodyPost_ret (ret_cell rfl _ _ w.heap.size _ _ _ true (0, 0) rfl rfl (HTK3.out.put _ _ _).z) rfl ⟨by rw [hk1, hn1, ht1] <;> rfl, (HTK3.out.put _ _ _).bel⟩
        · obtain ⟨rfl, rfl, rfl, rfl⟩ : b = false ∧ k = 0 ∧ n = 0 ∧ t = ⟨#[]⟩ := by
            rcases HC.out with ⟨_, h, _⟩ | ⟨_, h⟩
            · exact absurd h he
            · exact h
          have q2 : (u.toList == s.toList) = false := by
            apply beq_eq_false_iff_ne.2
            intro e
            exact he (toList_inj e)
          clear he HC
          refine (C2.out _).mono ?_
          rintro e w3 ⟨rfl, hb⟩
          have HTK3 := Lib.hid (HTK.out.below hb)
          clear hb
          obtain ⟨z0, z1, z2, y0, y1, y2⟩ := HTK3.out.cells
          obtain ⟨f0, f1, f2⟩ := HTK3.out.frozen
          go_wp2_with fail
          exact bodyPost_ret (ret_cell rfl _ _ w.heap.size 0 0 ⟨#[]⟩ false (0, 0) rfl rfl (HTK3.out.put _ _ _).z) rfl ⟨rfl, (HTK3.out.put _ _ _).bel⟩
      · have t2 : (c0 == 45) = false := by simp [h45]
        have HE := Lib.hid (show nn = q by rw [HN.out, if_neg h45, HQE.out])
        clear h45
        go_wp2_with fail
        clear z0 z1 z2 y0 y1 y2 f0 f1 f2
        rw [← HE.out] at HTK ⊢
        clear HE HQE HN HQQ
        by_cases he : u = s
        · obtain ⟨hb1, hk1, hn1, ht1⟩ : b = true ∧ k = 1 ∧ n = nn ∧ t = ⟨#[]⟩ := by
            rcases HC.out with ⟨_, _, h⟩ | ⟨h, _⟩
            · exact h
            · rcases h with h | h
              · exact absurd h (HQ.out he)
              · exact absurd he h
          subst he hb1
          refine (C2.out _).mono ?_
          rintro e w3 ⟨rfl, hb⟩
          have HTK3 := Lib.hid (HTK.out.below hb)
          clear hb
          obtain ⟨z0, z1, z2, y0, y1, y2⟩ := HTK3.out.cells
          obtain ⟨f0, f1, f2⟩ := HTK3.out.frozen
          go_wp2_with fail
          exact bodyPost_ret (ret_cell rfl _ _ w.heap.size _ _ _ true (0, 0) rfl rfl (HTK3.out.put _ _ _).z) rfl ⟨by rw [hk1, hn1, ht1] <;> rfl, (HTK3.out.put _ _ _).bel⟩
        · obtain ⟨rfl, rfl, rfl, rfl⟩ : b = false ∧ k = 0 ∧ n = 0 ∧ t = ⟨#[]⟩ := by
            rcases HC.out with ⟨_, h, _⟩ | ⟨_, h⟩
            · exact absurd h he
            · exact h
          have q2 : (u.toList == s.toList) = false := by
            apply beq_eq_false_iff_ne.2
            intro e
            exact he (toList_inj e)
          clear he HC
          refine (C2.out _).mono ?_
          rintro e w3 ⟨rfl, hb⟩
          have HTK3 := Lib.hid (HTK.out.below hb)
          clear hb
          obtain ⟨z0, z1, z2, y0, y1, y2⟩ := HTK3.out.cells
          obtain ⟨f0, f1, f2⟩ := HTK3.out.frozen
          go_wp2_with fail
          exact bodyPost_ret (ret_cell rfl _ _ w.heap.size 0 0 ⟨#[]⟩ false (0, 0) rfl rfl (HTK3.out.put _ _ _).z) rfl ⟨rfl, (HTK3.out.put _ _ _).bel⟩
theorem c_rvread (s : ByteArray) (hs : s.size ≤ 1000000) (w : World) (k n : Int) (t : ByteArray) (b : Bool) (hr : RdV s k n t b) :
    Calls Tryz.prog 23 #[.string s] w fun e w' => e = .returned (.tuple #[vv k n t, .bool b]) ∧ Below w.heap.size w w' := by
  by_cases h0 : s.size = 0
  · exact c_rvread0 s h0 w k n t b hr
  by_cases h1 : s = ⟨#[116, 114, 117, 101]⟩
  · subst h1; exact c_rvreadT w k n t b hr
  by_cases h2 : s = ⟨#[102, 97, 108, 115, 101]⟩
  · subst h2; exact c_rvreadF w k n t b hr
  by_cases h3 : b0 s = 102
  · exact c_rvreadf s h3 h2 hs w k n t b hr
  by_cases h4 : b0 s = 98
  · exact c_rvread2 s h4 hs w k n t b hr
  by_cases h5 : b0 s = 116
  · exact c_rvread3 s h5 h1 hs w k n t b hr
  exact c_rvread1 s (by omega) h3 h4 h5 hs w k n t b hr
end Go.Proofs.YtikpmlginojnhaaGreatDoor.Fl
