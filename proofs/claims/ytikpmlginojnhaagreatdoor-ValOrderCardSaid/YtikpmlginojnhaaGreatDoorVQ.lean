/- Values out of text: the document's Read: digits, and names, and floats. -/
import Derived.Test.YtikpmlginojnhaaGreatDoorVN
namespace Go.Proofs.YtikpmlginojnhaaGreatDoor.Fl
open Go.RowKit Go.Maps
set_option linter.unusedVariables false
set_option linter.unusedSimpArgs false
/-- A digit's worth, or nought. -/
def ud (c : Int) : Int := if uh c < 0 then 0 else uh c
theorem hx_uh {c : Int} (h : 0 ≤ uh c) : hx (uh c) = c := by
  have e : uh c = if 48 ≤ c ∧ c ≤ 57 then c - 48 else if 97 ≤ c ∧ c ≤ 102 then c - 87 else -1 := rfl
  rw [e] at h ⊢
  unfold hx
  by_cases h1 : 48 ≤ c ∧ c ≤ 57
  · rw [if_pos h1, if_pos (by omega)]; omega
  · rw [if_neg h1] at h ⊢
    by_cases h2 : 97 ≤ c ∧ c ≤ 102
    · rw [if_pos h2, if_neg (by omega)]; omega
    · rw [if_neg h2] at h; omega
set_option maxHeartbeats 4000000 in
set_option maxRecDepth 100000 in
theorem c_digit (c : Int) (w : World) : Calls Tryz.prog 52 #[.int .u8 c] w fun e w' => e = .returned (.int .i64 (ud c)) ∧ w' = w := by
  obtain ⟨r, hr⟩ : ∃ r, ud c = r := ⟨_, rfl⟩
  rw [hr]
  have HR := Lib.hid hr
  clear hr
  go_enter Tryz.func52, Tryz.ntmps52
  go_wp2
  go_loopw [3] (fun v3 W => ∃ i : Nat, v3 = .int .i64 i ∧ i ≤ 16 ∧ Hid (∀ j : Nat, j < i → ¬ hx j = c) ∧ W = w) (fun v3 _ => (16 - intOf v3).toNat)
  case atStart => exact ⟨0, rfl, by omega, Lib.hid (fun j h => by omega), rfl⟩
  case round =>
    obtain ⟨i, rfl, hi, HN, rfl⟩ := hrel
    by_cases hlt : i < 16
    · have t1 : decide ((i : Int) < 16) = true := decide_eq_true (by omega)
      have x0 := dig_at16 i hlt
      cases hq : (hx (i : Int) == c) with
      | true =>
        have HE := Lib.hid (show (i : Int) = r by
          have h1 : hx (i : Int) = c := by simpa using hq
          rw [← HR.out, ← h1]
          unfold ud
          rw [uh_hx _ (by omega) (by omega), if_neg (by omega)])
        go_wp2
        go_ret
        exact ⟨by show Ending.returned (.int .i64 (i : Int)) = _; rw [HE.out], rfl⟩
      | false =>
        have HN2 := Lib.hid (show ∀ j : Nat, j < i + 1 → ¬ hx j = c from fun j hj => by
          by_cases h : j = i
          · subst h; simpa using hq
          · exact HN.out j (by omega))
        go_wp2
        go_roundw
        case rel => exact ⟨i + 1, by go_num, by omega, HN2, by trivial⟩
        case measure => simp [intOf]; omega
    · have t1 : decide ((i : Int) < 16) = false := decide_eq_false (by omega)
      have HE := Lib.hid (show (0 : Int) = r by
        rw [← HR.out]
        unfold ud
        rcases uh_bd c with h | h
        · rw [h, if_pos (by omega)]
        · exact absurd (by rw [show ((uh c).toNat : Int) = uh c by omega]; exact hx_uh h.1) (HN.out (uh c).toNat (by omega)))
      go_wp2
      go_ret
      exact ⟨by show Ending.returned (.int .i64 0) = _; rw [HE.out], rfl⟩
theorem at0 (s : ByteArray) (h : 1 ≤ s.size) (w : World) : (Instr.index 9 (.string s) (.int .i64 0)).run Tryz.prog w = .ok (.int .u8 (b0 s)) w := str_at s 0 (by omega) w
theorem size_empty {s : ByteArray} (h : 1 ≤ s.size) : (s.toList == []) = false := by
  rw [ByteArray.toList_eq]
  apply beq_eq_false_iff_ne.2
  intro e
  have := congrArg List.length e
  rw [Array.length_toList] at this
  have h2 : s.size = s.data.size := rfl
  have h3 : s.data.size = 0 := this
  omega
theorem emp_list : (⟨#[]⟩ : ByteArray).toList.isEmpty = true := by rw [ByteArray.toList_eq]; rfl
theorem right_bool {n : Int} (h : n = 0 ∨ n = 1) : rightV 4 n ⟨#[]⟩ = true := by
  unfold rightV
  rw [if_neg (by decide), if_pos rfl, emp_list]
  rcases h with rfl | rfl <;> rfl
theorem show_bool {n : Int} (h : n = 0 ∨ n = 1) : showV 4 n ⟨#[]⟩ = if n = 1 then ⟨#[116, 114, 117, 101]⟩ else ⟨#[102, 97, 108, 115, 101]⟩ := by
  unfold showV
  rw [if_neg (by rw [right_bool h]; decide), if_neg (by decide), if_pos rfl]
set_option maxHeartbeats 4000000 in
set_option maxRecDepth 100000 in
theorem c_rvread0 (s : ByteArray) (hs : s.size = 0) (w : World) (k n : Int) (t : ByteArray) (b : Bool) (hr : RdV s k n t b) :
    Calls Tryz.prog 23 #[.string s] w fun e w' => e = .returned (.tuple #[vv k n t, .bool b]) ∧ Below w.heap.size w w' := by
  obtain rfl := size0 hs
  obtain ⟨rfl, rfl, rfl, rfl⟩ := rdv_none (fun k n t h1 h2 => by
    have hb := form_b h2
    have e0 : b0 ⟨#[]⟩ = 0 := rfl
    omega) hr
  clear hr
  have HZ := Lib.hid (Zb.start w (.int .i64 0) (.int .i64 0) (.string ⟨#[]⟩))
  go_enter Tryz.func23, Tryz.ntmps23
  go_wp2
  exact bodyPost_ret (ret_cell rfl _ _ w.heap.size 0 0 ⟨#[]⟩ false (0, 0) rfl rfl HZ.out.z) rfl ⟨rfl, HZ.out.bel⟩
set_option maxHeartbeats 4000000 in
set_option maxRecDepth 100000 in
theorem c_rvreadT (w : World) (k n : Int) (t : ByteArray) (b : Bool) (hr : RdV ⟨#[116, 114, 117, 101]⟩ k n t b) :
    Calls Tryz.prog 23 #[.string ⟨#[116, 114, 117, 101]⟩] w fun e w' => e = .returned (.tuple #[vv k n t, .bool b]) ∧ Below w.heap.size w w' := by
  have HC := Lib.hid (rdv_cand (gs_of (by unfold Wf; omega) (show Form 4 1 ⟨#[]⟩ ⟨#[116, 114, 117, 101]⟩ from Or.inr (Or.inl ⟨rfl, rfl, rfl, rfl⟩))) (by unfold Wf; omega) hr)
  have HTK := Lib.hid (Tk.start w (.int .i64 0) (.int .i64 0) (.string ⟨#[]⟩) 4 1 ⟨#[]⟩)
  have C2 := Lib.hid (fun W => c_rvshow 4 1 ⟨#[]⟩ (by unfold Wf; omega) (Nat.zero_le _) W)
  have hsb : showV 4 1 ⟨#[]⟩ = ⟨#[116, 114, 117, 101]⟩ := by rw [show_bool (by omega)]; rfl
  rw [hsb] at C2 HC
  clear hsb
  have HQ : Hid (¬ (⟨#[116, 114, 117, 101]⟩ : ByteArray) = ⟨#[63]⟩) := Lib.hid (by decide)
  simp only [vv] at C2 ⊢
  clear hr
  go_enter Tryz.func23, Tryz.ntmps23
  go_wp2_with fail
  obtain ⟨rfl, rfl, rfl, rfl⟩ : b = true ∧ k = 4 ∧ n = 1 ∧ t = ⟨#[]⟩ := by
    rcases HC.out with ⟨_, _, h⟩ | ⟨h, _⟩
    · exact h
    · rcases h with h | h
      · exact absurd h HQ.out
      · exact h.elim (by first | trivial | rfl)
  refine (C2.out _).mono ?_
  rintro e w3 ⟨rfl, hb⟩
  have HTK3 := Lib.hid (HTK.out.below hb)
  clear hb
  obtain ⟨z0, z1, z2, y0, y1, y2⟩ := HTK3.out.cells
  obtain ⟨f0, f1, f2⟩ := HTK3.out.frozen
  go_wp2_with fail
  exact bodyPost_ret (ret_cell rfl _ _ w.heap.size _ _ _ true (0, 0) rfl rfl (HTK3.out.put _ _ _).z) rfl ⟨rfl, (HTK3.out.put _ _ _).bel⟩
set_option maxHeartbeats 4000000 in
set_option maxRecDepth 100000 in
theorem c_rvreadF (w : World) (k n : Int) (t : ByteArray) (b : Bool) (hr : RdV ⟨#[102, 97, 108, 115, 101]⟩ k n t b) :
    Calls Tryz.prog 23 #[.string ⟨#[102, 97, 108, 115, 101]⟩] w fun e w' => e = .returned (.tuple #[vv k n t, .bool b]) ∧ Below w.heap.size w w' := by
  have HC := Lib.hid (rdv_cand (gs_of (by unfold Wf; omega) (show Form 4 0 ⟨#[]⟩ ⟨#[102, 97, 108, 115, 101]⟩ from Or.inr (Or.inr (Or.inl ⟨rfl, rfl, rfl, rfl⟩)))) (by unfold Wf; omega) hr)
  have HTK := Lib.hid (Tk.start w (.int .i64 0) (.int .i64 0) (.string ⟨#[]⟩) 4 0 ⟨#[]⟩)
  have C2 := Lib.hid (fun W => c_rvshow 4 0 ⟨#[]⟩ (by unfold Wf; omega) (Nat.zero_le _) W)
  have hsb : showV 4 0 ⟨#[]⟩ = ⟨#[102, 97, 108, 115, 101]⟩ := by rw [show_bool (by omega)]; rfl
  rw [hsb] at C2 HC
  clear hsb
  have HQ : Hid (¬ (⟨#[102, 97, 108, 115, 101]⟩ : ByteArray) = ⟨#[63]⟩) := Lib.hid (by decide)
  simp only [vv] at C2 ⊢
  clear hr
  go_enter Tryz.func23, Tryz.ntmps23
  go_wp2_with fail
  obtain ⟨rfl, rfl, rfl, rfl⟩ : b = true ∧ k = 4 ∧ n = 0 ∧ t = ⟨#[]⟩ := by
    rcases HC.out with ⟨_, _, h⟩ | ⟨h, _⟩
    · exact h
    · rcases h with h | h
      · exact absurd h HQ.out
      · exact h.elim (by first | trivial | rfl)
  refine (C2.out _).mono ?_
  rintro e w3 ⟨rfl, hb⟩
  have HTK3 := Lib.hid (HTK.out.below hb)
  clear hb
  obtain ⟨z0, z1, z2, y0, y1, y2⟩ := HTK3.out.cells
  obtain ⟨f0, f1, f2⟩ := HTK3.out.frozen
  go_wp2_with fail
  exact bodyPost_ret (ret_cell rfl _ _ w.heap.size _ _ _ true (0, 0) rfl rfl (HTK3.out.put _ _ _).z) rfl ⟨rfl, (HTK3.out.put _ _ _).bel⟩
end Go.Proofs.YtikpmlginojnhaaGreatDoor.Fl
