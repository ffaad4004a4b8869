/- Floating numbers as text. -/
import Derived.Test.YtikpmlginojnhaaGreatDoorF9
import Derived.Test.YtikpmlginojnhaaGreatDoorShelf
namespace Go.Proofs.YtikpmlginojnhaaGreatDoor.Fl
open Go.RowKit Go.Maps
set_option linter.unusedVariables false
set_option linter.unusedSimpArgs false
/-- The text of bits. -/
def showS (n : Int) : ByteArray :=
  if rightU (U n) = false then ⟨#[63]⟩ else if n = 9221120237041090560 then ⟨#[110, 97, 110]⟩ else if n = 9218868437227405312 then ⟨#[105, 110, 102]⟩ else if n = -4503599627370496 then ⟨#[45, 105, 110, 102]⟩
  else if n = 0 then ⟨#[48]⟩ else if n = -9223372036854775808 then ⟨#[45, 48]⟩ else txt (120 :: hexI 16 (U n))
theorem show_parts (n : Int) (hn : -9223372036854775808 ≤ n ∧ n ≤ 9223372036854775807) : (U n == 9221120237041090560) = (n == 9221120237041090560) ∧ (U n == 9218868437227405312) = (n == 9218868437227405312) ∧ (U n == 18442240474082181120) = (n == -4503599627370496) ∧ (U n == 0) = (n == 0) ∧ (U n == 9223372036854775808) = (n == -9223372036854775808) := by
  unfold U
  refine ⟨?_, ?_, ?_, ?_, ?_⟩ <;> (rw [Bool.eq_iff_iff, beq_iff_eq, beq_iff_eq]; omega)
theorem cat_txt (u : Int) (m : Nat) (h0 : 0 ≤ u) (h1 : u < 16 ^ m) (hm : m ≤ 16) : ((⟨#[120]⟩ : ByteArray) ++ ⟨(Lib.repeatL [48] (16 - m)).toArray⟩) ++ txt (hexI m u) = txt (120 :: hexI 16 u) := by
  have e : hexI 16 u = List.replicate (16 - m) 48 ++ hexI m u := by
    have := hexI_pad m (16 - m) u h0 h1
    rwa [Nat.sub_add_cancel hm] at this
  have e2 : ∀ k, Lib.repeatL [48] k = List.replicate k 48 := by
    intro k
    induction k with
    | zero => rfl
    | succ k ih => rw [Lib.repeatL, ih]; rfl
  rw [e, e2]
  apply ByteArray.ext
  apply Array.toList_inj.1
  simp only [ByteArray.data_append, txt, Array.toList_append, List.map_cons, List.map_append, List.map_replicate, List.cons_append, List.append_assoc]
  rfl
theorem txt_size (l : List Int) : (txt l).size = l.length := by simp [txt, ByteArray.size]
set_option maxHeartbeats 4000000 in
set_option maxRecDepth 100000 in
theorem c_show (n : Int) (hn : -9223372036854775808 ≤ n ∧ n ≤ 9223372036854775807) (s : ByteArray) (hs : showS n = s) (w : World) (hg : Gl w) :
    Calls Tryz.prog 42 #[.int .i64 n] w fun e w' => e = .returned (.string s) ∧ Below w.heap.size w w' := by
  have hu : IntKind.u64.wrap n = U n := wrap_U n
  have C1 := Lib.hid (c_bright (U n) (U_bd n).1 (U_bd n).2 _ rfl)
  have C2 := Lib.hid (fun w => c_fuint (U n) (U_bd n).1 (U_bd n).2 w)
  have HUB := Lib.hid (U_bd n)
  have HG := Lib.hid hg
  obtain ⟨e1, e2, e3, e4, e5⟩ := show_parts n hn
  unfold showS at hs
  clear hg hn
  cases hr : rightU (U n) with
  | false =>
    rw [if_pos hr] at hs
    subst hs
    rw [hr] at C1
    generalize U n = u at *
    clear hr e1 e2 e3 e4 e5
    go_enter Tryz.func42, Tryz.ntmps42
    go_wp2_with (go_at_call 56; refine (C1.out _).mono ?_; rintro e w' ⟨rfl, rfl⟩)
    go_ret
    exact ⟨rfl, Below.refl _ _⟩
  | true =>
    rw [if_neg (by rw [hr]; decide)] at hs
    rw [hr] at C1
    clear hr
    by_cases n0 : n = 9221120237041090560
    · rw [if_pos n0] at hs
      rw [show (n == 9221120237041090560) = true by simp [n0]] at e1
      subst hs
      clear n0 e2 e3 e4 e5
      generalize U n = u at *
      go_enter Tryz.func42, Tryz.ntmps42
      go_wp2_with (go_at_call 56; refine (C1.out _).mono ?_; rintro e w' ⟨rfl, rfl⟩)
      go_ret
      exact ⟨rfl, Below.refl _ _⟩
    rw [if_neg n0] at hs
    rw [show (n == 9221120237041090560) = false by simp [n0]] at e1
    clear n0
    by_cases n1 : n = 9218868437227405312
    · rw [if_pos n1] at hs
      rw [show (n == 9218868437227405312) = true by simp [n1]] at e2
      subst hs
      clear n1 e3 e4 e5
      generalize U n = u at *
      go_enter Tryz.func42, Tryz.ntmps42
      go_wp2_with (go_at_call 56; refine (C1.out _).mono ?_; rintro e w' ⟨rfl, rfl⟩)
      go_ret
      exact ⟨rfl, Below.refl _ _⟩
    rw [if_neg n1] at hs
    rw [show (n == 9218868437227405312) = false by simp [n1]] at e2
    clear n1
    by_cases n2 : n = -4503599627370496
    · rw [if_pos n2] at hs
      rw [show (n == -4503599627370496) = true by simp [n2]] at e3
      subst hs
      clear n2 e4 e5
      generalize U n = u at *
      go_enter Tryz.func42, Tryz.ntmps42
      go_wp2_with (go_at_call 56; refine (C1.out _).mono ?_; rintro e w' ⟨rfl, rfl⟩)
      go_ret
      exact ⟨rfl, Below.refl _ _⟩
    rw [if_neg n2] at hs
    rw [show (n == -4503599627370496) = false by simp [n2]] at e3
    clear n2
    by_cases n3 : n = 0
    · rw [if_pos n3] at hs
      rw [show (n == 0) = true by simp [n3]] at e4
      subst hs
      clear n3 e5
      generalize U n = u at *
      go_enter Tryz.func42, Tryz.ntmps42
      go_wp2_with (go_at_call 56; refine (C1.out _).mono ?_; rintro e w' ⟨rfl, rfl⟩)
      go_ret
      exact ⟨rfl, Below.refl _ _⟩
    rw [if_neg n3] at hs
    rw [show (n == 0) = false by simp [n3]] at e4
    clear n3
    by_cases n4 : n = -9223372036854775808
    · rw [if_pos n4] at hs
      rw [show (n == -9223372036854775808) = true by simp [n4]] at e5
      subst hs
      clear n4 
      generalize U n = u at *
      go_enter Tryz.func42, Tryz.ntmps42
      go_wp2_with (go_at_call 56; refine (C1.out _).mono ?_; rintro e w' ⟨rfl, rfl⟩)
      go_ret
      exact ⟨rfl, Below.refl _ _⟩
    rw [if_neg n4] at hs
    rw [show (n == -9223372036854775808) = false by simp [n4]] at e5
    clear n4
    subst hs
    generalize U n = u at *
    go_enter Tryz.func42, Tryz.ntmps42
    go_wp2_with (first | (go_at_call 56; refine (C1.out _).mono ?_; rintro e w' ⟨rfl, rfl⟩) | (go_at_call 65; refine (C2.out _ HG.out).mono ?_; rintro e w' ⟨m, hm1, hm2, hm3, rfl, hb⟩))
    have hk : wrap64 (16 - ((txt (hexI m u)).size : Int)) = ((16 - m : Nat) : Int) := by
      rw [txt_size, hexI_len]
      unfold wrap64
      omega
    rw [hk]
    have HF := Lib.hid (cat_txt u m HUB.out.1 hm3 hm2)
    have hb0 := Lib.hid hb
    clear hb hk
    refine (Tryz.strings_Repeat ⟨#[48]⟩ (16 - m) w' (by omega) (by show 1 * (16 - m) ≤ _; omega)).mono ?_
    rintro e w2 ⟨rfl, hb2⟩
    have hb3 := Lib.hid hb2
    clear hb2
    have hl1 : ¬ 9223372036854775807 < 1 + (Lib.repeatL [48] (16 - m)).length := by
      rw [Lib.repeatL_length]
      simp
      omega
    have hl2 : ¬ 9223372036854775807 < 1 + (Lib.repeatL [48] (16 - m)).length + (txt (hexI m u)).size := by
      rw [Lib.repeatL_length, txt_size, hexI_len]
      simp
      omega
    go_wp2
    go_ret
    exact ⟨by show Ending.returned (.string _) = _; rw [← HF.out], hb0.out.trans (hb3.out.mono hb0.out.size)⟩
end Go.Proofs.YtikpmlginojnhaaGreatDoor.Fl
