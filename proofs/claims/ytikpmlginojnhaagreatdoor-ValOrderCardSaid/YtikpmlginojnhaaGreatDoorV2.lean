/- Values: the document's Right. -/
import Derived.Test.YtikpmlginojnhaaGreatDoorV1
namespace Go.Proofs.YtikpmlginojnhaaGreatDoor.Fl
open Go.RowKit Go.Maps
set_option linter.unusedVariables false
set_option linter.unusedSimpArgs false
set_option maxHeartbeats 4000000 in
set_option maxRecDepth 100000 in
theorem c_rvright (k n : Int) (s : ByteArray) (hn : Wf n) (hs : s.size ≤ 140737488351232) (b : Bool) (hb : rightV k n s = b) (w : World) :
    Calls Tryz.prog 14 #[vv k n s] w fun e w' => e = .returned (.bool b) ∧ Below w.heap.size w w' := by
  unfold rightV at hb
  unfold vv
  have HB := Lib.hid ((Below.refl w.heap.size w).alloc (Nat.le_refl _) (.cells #[.int .i64 k, .int .i64 n, .string s] 23))
  rcases kinds k with rfl | rfl | rfl | rfl | rfl | ⟨h1, h2, h3, h4, h5⟩
  · rw [if_pos rfl] at hb
    subst hb
    go_enter Tryz.func14, Tryz.ntmps14
    go_wp2
    go_ret
    exact ⟨rfl, HB.out⟩
  · rw [if_neg (by decide), if_pos rfl] at hb
    cases he : s.toList.isEmpty with
    | true =>
      rw [he, Bool.true_and] at hb
      cases h0 : (n == 0) with
      | true =>
        rw [h0, Bool.true_or] at hb
        subst hb
        go_enter Tryz.func14, Tryz.ntmps14
        go_wp2
        go_ret
        exact ⟨rfl, HB.out⟩
      | false =>
        rw [h0, Bool.false_or] at hb
        subst hb
        go_enter Tryz.func14, Tryz.ntmps14
        go_wp2
        go_ret
        exact ⟨rfl, HB.out⟩
    | false =>
      rw [he, Bool.false_and] at hb
      subst hb
      go_enter Tryz.func14, Tryz.ntmps14
      go_wp2
      go_ret
      exact ⟨rfl, HB.out⟩
  · rw [if_neg (by decide), if_neg (by decide), if_pos rfl] at hb
    have C1 := Lib.hid (c_rright n hn _ rfl)
    cases he : s.toList.isEmpty with
    | true =>
      rw [he, Bool.true_and] at hb
      rw [hb] at C1
      go_enter Tryz.func14, Tryz.ntmps14
      go_wp2_with (go_at_call 32; ((with_reducible refine (C1.out _).mono ?_); rintro e w' ⟨rfl, rfl⟩))
      go_ret
      exact ⟨rfl, HB.out⟩
    | false =>
      rw [he, Bool.false_and] at hb
      subst hb
      clear C1
      go_enter Tryz.func14, Tryz.ntmps14
      go_wp2
      go_ret
      exact ⟨rfl, HB.out⟩
  · rw [if_neg (by decide), if_neg (by decide), if_neg (by decide), if_pos rfl] at hb
    cases hz : (n == 0) with
    | true =>
      rw [hz, Bool.true_and] at hb
      have hd : decide ((s.size : Int) ≤ 32) = b := by rw [← hb]; simp; omega
      cases b with
      | true =>
        go_enter Tryz.func14, Tryz.ntmps14
        go_wp2
        go_ret
        exact ⟨rfl, HB.out⟩
      | false =>
        go_enter Tryz.func14, Tryz.ntmps14
        go_wp2
        go_ret
        exact ⟨rfl, HB.out⟩
    | false =>
      rw [hz, Bool.false_and] at hb
      subst hb
      go_enter Tryz.func14, Tryz.ntmps14
      go_wp2
      go_ret
      exact ⟨rfl, HB.out⟩
  · rw [if_neg (by decide), if_neg (by decide), if_neg (by decide), if_neg (by decide), if_pos rfl] at hb
    cases hz : (n == 0) with
    | true =>
      rw [hz, Bool.true_and] at hb
      by_cases h32 : s.size ≤ 32
      · rw [decide_eq_true h32, Bool.true_and] at hb
        have hd : decide ((s.size : Int) ≤ 32) = true := by simp; omega
        have C1 := Lib.hid (fun W => c_rutf8 s hs b hb W)
        go_enter Tryz.func14, Tryz.ntmps14
        go_wp2_with (go_at_call 31; ((with_reducible refine (C1.out _).mono ?_); rintro e w' ⟨rfl, hb⟩; have HB2 := Lib.hid (HB.out.trans (hb.mono HB.out.size)); clear hb))
        go_ret
        exact ⟨rfl, HB2.out⟩
      · rw [decide_eq_false h32, Bool.false_and] at hb
        subst hb
        have hd : decide ((s.size : Int) ≤ 32) = false := by simp; omega
        go_enter Tryz.func14, Tryz.ntmps14
        go_wp2
        go_ret
        exact ⟨rfl, HB.out⟩
    | false =>
      rw [hz, Bool.false_and, Bool.false_and] at hb
      subst hb
      go_enter Tryz.func14, Tryz.ntmps14
      go_wp2
      go_ret
      exact ⟨rfl, HB.out⟩
  · rw [if_neg h1, if_neg h2, if_neg h3, if_neg h4, if_neg h5] at hb
    subst hb
    have q1 : (k == 1) = false := by simp [h1]
    have q2 : (k == 4) = false := by simp [h2]
    have q3 : (k == 5) = false := by simp [h3]
    have q4 : (k == 2) = false := by simp [h4]
    have q5 : (k == 3) = false := by simp [h5]
    clear h1 h2 h3 h4 h5
    go_enter Tryz.func14, Tryz.ntmps14
    go_wp2
    go_ret
    exact ⟨rfl, HB.out⟩
end Go.Proofs.YtikpmlginojnhaaGreatDoor.Fl
