-- Written by a program of this session, out of Lean's print of the loaded program (a patched copy of the kit's print).
import Derived.Test.YtjfmnjhkpkcakaaQx0
namespace Go.Proofs.Ytjfmnjhkpkcakaa.Q
open Go.RowKit Go.Proofs.YtjfmnjhkpkcakaaW.PrintWords Go.Proofs.YtjfmnjhkpkcakaaW.PrintLast Go.Proofs.YtjfmnjhkpkcakaaW.PrintMore
attribute [local go_sem] max2_int min2_int max_two min_two max_three min_three max_four min_four   -- for this text's walks alone
set_option linter.unusedVariables false
set_option linter.unusedSimpArgs false

/-! ### sum_begun: function 24 -/
theorem begun_pred (x : Int) (w : World) : Calls Try.prog 34 #[.int .u8 x] w fun e w' => e = .returned (.bool (decide (x < 128))) ∧ w = w' := by
  go_enter Try.func34, Try.ntmps34
  go_wp2
  go_ret
  exact ⟨rfl, rfl⟩
def anyLow (l : List Int) : Bool := l.any (fun x => decide (x < 128))
theorem anyLow_take (l : List Int) (k : Nat) (hk : k < l.length) : anyLow (l.take (k + 1)) = (anyLow (l.take k) || decide (rd l k < 128)) := by
  unfold anyLow rd
  rw [List.take_succ_eq_append_getElem hk, List.any_append]
  simp [List.getD_eq_getElem?_getD, List.getElem?_eq_getElem hk]
theorem anyLow_of_take (l : List Int) (k : Nat) (h : anyLow (l.take k) = true) : anyLow l = true := by
  unfold anyLow at *
  rw [List.any_eq_true] at *
  obtain ⟨x, hx, h⟩ := h
  exact ⟨x, List.mem_of_mem_take hx, h⟩
def IdxPost (l0 : List Int) (w : World) (e : Ending) (w' : World) : Prop := ∃ i : Int, e = .returned (.int .i64 i) ∧ -1 ≤ i ∧ decide (0 ≤ i) = anyLow l0 ∧ Drawn0 w w'
set_option maxHeartbeats 2000000 in
set_option maxRecDepth 100000 in
theorem begun_index (A0 : Option Addr) (c0 : Nat) (l0 : List Int) (w : World) (hr0 : Kd.C (Kd.int .u8) w A0 l0.length l0) :
    Calls Try.prog 35 #[.slice A0 l0.length c0, .func (.func 34) #[] #[]] w (IdxPost l0 w) := by
  have HR0 := Aside0.mk hr0
  have hbig : l0.length ≤ 9223372036854775807 := hr0.2.1
  clear hr0
  go_enter Try.func35, Try.ntmps35
  go_wp2
  go_loopg [5, 8] l0.length (fun gg _ s8 wr => ∃ kk : Nat, kk ≤ l0.length ∧ l0.length - kk ≤ gg ∧ s8 = .int .i64 kk ∧ Drawn0 w wr ∧ Aside0 (anyLow (l0.take kk) = false))
  case atStart => exact ⟨0, Nat.zero_le _, by omega, rfl, Drawn0.refl _, ⟨by simp [anyLow]⟩⟩
  case round =>
    obtain ⟨kk, hkk, hg, rfl, ⟨q, rfl⟩, A⟩ := hrel
    by_cases hlt : kk < l0.length
    · have hltz : (kk : Int) < (l0.length : Int) := by omega
      obtain ⟨ad, e, hx⟩ := Kd.at_int HR0.out kk (by omega) hltz
      cases e
      have ht := Aside0.mk (anyLow_take l0 kk hlt)
      have hl := Aside0.mk (anyLow_of_take l0 (kk + 1))
      rw [Int.toNat_natCast] at hx
      generalize hy : rd l0 kk = y at hx ht
      have B := Aside0.mk hy
      clear hy
      have hcall := begun_pred y
      cases hq : decide (y < 128) with
      | true =>
        rw [hq] at hcall
        have HQ := Aside0.mk hq
        clear hq
        go_wp2_with (go_at_call 34; refine (hcall _).mono ?_; rintro e w' ⟨rfl, rfl⟩)
        go_ret
        exact ⟨kk, rfl, by omega, by rw [hl.out (by rw [ht.out, HQ.out]; simp)]; simp, Drawn0.step (Drawn0.refl _) _⟩
      | false =>
        rw [hq] at hcall
        have HQ := Aside0.mk hq
        clear hq
        go_wp2_with (go_at_call 34; refine (hcall _).mono ?_; rintro e w' ⟨rfl, rfl⟩)
        go_roundg (l0.length - (kk + 1))
        case measure => omega
        case rel =>
          exact ⟨kk + 1, by omega, by omega, by go_num, Drawn0.step (Drawn0.refl _) _, ⟨by rw [ht.out, A.out, HQ.out]; rfl⟩⟩
    · have hltz : ¬ (kk : Int) < (l0.length : Int) := by omega
      have : kk = l0.length := by omega
      subst this
      go_wp2
      go_ret
      exact ⟨-1, rfl, by omega, by have := A.out; rw [List.take_length] at this; rw [this]; rfl, Drawn0.step (Drawn0.refl _) _⟩
set_option maxHeartbeats 2000000 in
set_option maxRecDepth 100000 in
theorem begun_contains (A0 : Option Addr) (c0 : Nat) (l0 : List Int) (w : World) (hr0 : Kd.C (Kd.int .u8) w A0 l0.length l0) :
    Calls Try.prog 33 #[.slice A0 l0.length c0, .func (.func 34) #[] #[]] w fun e w' => e = .returned (.bool (anyLow l0)) ∧ Drawn0 w w' := by
  have H := Aside0.mk (begun_index A0 c0 l0 w hr0)
  clear hr0
  go_enter Try.func33, Try.ntmps33
  go_wp2_with (go_at_call 35; refine H.out.mono ?_; rintro e w' ⟨i, rfl, h1, h2, ⟨m, rfl⟩⟩; have H2 := Aside0.mk h2; clear h2)
  go_ret
  exact ⟨by rw [← H2.out]; rfl, Drawn0.step (Drawn0.refl _) _⟩
def sum_begun.f (l0 : List Int) : Option Bool := some (decide ((l0.length : Int) ≤ 8) && !(anyLow l0))
set_option maxHeartbeats 2000000 in
set_option maxRecDepth 100000 in
theorem sum_begun.calls (A0 : Option Addr) (c0 : Nat) (l0 : List Int) (r : Bool) (w : World) (hr0 : Kd.C (Kd.int .u8) w A0 l0.length l0) (hc0 : l0.length ≤ c0) (h : sum_begun.f l0 = some r) :
    Calls Try.prog 24 #[.slice A0 l0.length c0] w fun e w' => e = .returned (.bool r) ∧ Drawn0 w w' := by
  obtain rfl := Option.some.inj h
  clear h hc0
  have hi := fun w1 (hd : Drawn0 w w1) => begun_contains A0 c0 l0 w1 (Kd.C_below hr0 hd.below)
  have H := Aside0.mk hi
  clear hi hr0
  by_cases c1 : (l0.length : Int) ≤ 8
  · have c1b : decide ((l0.length : Int) ≤ 8) = true := decide_eq_true c1
    go_enter Try.func24, Try.ntmps24
    go_wp2_with (go_at_call 33; refine (H.out _ (Drawn0.refl _)).mono ?_; rintro e w' ⟨rfl, ⟨m, rfl⟩⟩)
    go_ret
    exact ⟨by rw [c1b]; rfl, Drawn0.step (Drawn0.refl _) _⟩
  · have c1b : decide ((l0.length : Int) ≤ 8) = false := decide_eq_false c1
    clear c1
    go_enter Try.func24, Try.ntmps24
    go_wp2
    go_ret
    exact ⟨by rw [c1b]; rfl, Drawn0.refl _⟩

end Go.Proofs.Ytjfmnjhkpkcakaa.Q
