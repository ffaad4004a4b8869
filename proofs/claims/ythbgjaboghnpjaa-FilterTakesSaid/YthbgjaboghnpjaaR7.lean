/- The document's sieve in memory: Done and Take. -/
import Derived.Test.YthbgjaboghnpjaaR6
import Derived.BigQuiet
namespace Go.Proofs.Ythbgjaboghnpjaa.R
open Go.RowKit Go.Proofs.Ythbgjaboghnpjaa.Q Go.Proofs.Ythbgjaboghnpjaa.Pure Go.Proofs.YthbgjaboghnpjaaW.PrintWords Go.Proofs.YthbgjaboghnpjaaW.PrintLast Go.Proofs.YthbgjaboghnpjaaW.PrintMore
set_option linter.unusedVariables false
set_option linter.unusedSimpArgs false
section
variable (w : World) (R : Nat) (A : Option Addr) (c : Nat) (f0 : List ByteArray) (f1 f2 : ByteArray) (f3 f4 f5 f6 : Int) (A7 : Option Addr) (c7 : Nat) (A8 : Option Addr) (c8 : Nat) (L : List S29) (T : List Bool)
set_option maxHeartbeats 2000000 in
theorem rDone (h : Kr w R A c f0 f1 f2 f3 f4 f5 f6 A7 c7 A8 c8 L T) (m : Nat) (hm : L.length = m + 1) (hl : m ≤ 1000) :
    Calls Try.prog 24 #[.pointer (some ⟨R, 0, none⟩)] w fun e w' => e = .returned (.bool (doneB f6 (rowSt L T m).1)) ∧ Drawn0 w w' := by
  have HK := Lib.hid h
  have hz6 := h.q6
  have HR : Hid (∀ n, Calls Try.prog 38 #[.pointer (some ⟨R, 0, none⟩)] (w.drewN n) fun e w' => e = .returned (.int .i64 (rowSt L T m).1) ∧ ∃ m, w' = (w.drewN n).drewN m) := fun n => (rRows (w.drewN n) R A c f0 f1 f2 f3 f4 f5 f6 A7 c7 A8 c8 L T (h.drewN n) m hm hl).mono fun e w' ⟨he, hd⟩ => ⟨he, hd.out⟩
  clear h
  have HD : Hid (doneB f6 (rowSt L T m).1 = (!(decide (f6 = 0)) && decide ((rowSt L T m).1 ≥ f6))) := rfl
  generalize (rowSt L T m).1 = x at HR HD ⊢
  by_cases h6 : f6 = 0
  · subst h6
    have HB := Lib.hid (show doneB 0 x = false by rw [HD.out]; rfl)
    rw [HB.out]
    go_enter Try.func24, Try.ntmps24
    go_wp2_with fail
    go_quiet (fail)
    go_wp2_with fail
    go_ret
    exact ⟨rfl, ⟨_, rfl⟩⟩
  · have h6b : (f6 != 0) = true := by simp [h6]
    by_cases hx : x ≥ f6
    · have HB := Lib.hid (show doneB f6 x = true by rw [HD.out]; simp [h6, hx])
      rw [HB.out]
      have hxb : decide (x ≥ f6) = true := decide_eq_true hx
      clear hx
      go_enter Try.func24, Try.ntmps24
      go_wp2_with fail
      go_quiet ((go_at_call 38; exact Calls.quiet_of (HR.out _)))
      go_wp2_with fail
      go_ret
      exact ⟨rfl, ⟨_, rfl⟩⟩
    · have HB := Lib.hid (show doneB f6 x = false by rw [HD.out]; simp [hx])
      rw [HB.out]
      have hxb : decide (x ≥ f6) = false := decide_eq_false hx
      clear hx
      go_enter Try.func24, Try.ntmps24
      go_wp2_with fail
      go_quiet ((go_at_call 38; exact Calls.quiet_of (HR.out _)))
      go_wp2_with fail
      go_ret
      exact ⟨rfl, ⟨_, rfl⟩⟩
end
end Go.Proofs.Ythbgjaboghnpjaa.R
