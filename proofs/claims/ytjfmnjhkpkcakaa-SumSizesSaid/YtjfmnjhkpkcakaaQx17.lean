-- Written by a program of this session, out of Lean's print of the loaded program (a patched copy of the kit's print).
import Derived.Test.YtjfmnjhkpkcakaaQx0
import Derived.Test.YtjfmnjhkpkcakaaQx6
import Derived.Test.YtjfmnjhkpkcakaaQx13
import Derived.Test.YtjfmnjhkpkcakaaQx14
import Derived.Test.YtjfmnjhkpkcakaaQx15
namespace Go.Proofs.Ytjfmnjhkpkcakaa.Q
open Go.RowKit Go.Proofs.YtjfmnjhkpkcakaaW.PrintWords Go.Proofs.YtjfmnjhkpkcakaaW.PrintLast Go.Proofs.YtjfmnjhkpkcakaaW.PrintMore
attribute [local go_sem] max2_int min2_int max_two min_two max_three min_three max_four min_four   -- for this text's walks alone
set_option linter.unusedVariables false
set_option linter.unusedSimpArgs false

/-! ### joistlaw04_SumSizes: function 4 -/
def joistlaw04_SumSizes.j0 : Nat → List Int → List Int → Int → Bool → Option (Bool)
  | 0, _, _, _, _ => none
  | k + 1, x0, x3, x5, x42 => if x42 = true then (some false) else ((sum_Next.f k x3).bind fun bt185 => (if 0 ≤ x5 then (if x5 ≤ (wrap64 (x5 + (x0.length : Int))) then (if (wrap64 (x5 + (x0.length : Int))) ≤ (x3.length : Int) then ((joistref00_SameBytes.f k ((x3.take ((wrap64 (x5 + (x0.length : Int))) : Int).toNat).drop (x5 : Int).toNat) x0).bind fun t196 => (if t196 = true then ((joistref00_SameBytes.f k bt185.1 x0).bind fun t197 => (if t197 = true then (if (bt185.2.1.length : Int) = 0 then (some (bt185.2.2 == 0)) else (some false)) else (some false))) else (some false))) else (none)) else (none)) else (none)))
def joistlaw04_SumSizes.f (k : Nat) (l0 : List Int) : Option (Bool) := (joistlaw04_alive.f).bind fun t180 => (if t180 = true then (if (l0.length : Int) > 3000 then (some true) else ((sum_Frame.f k l0).bind fun bt181 => (if bt181.2 = true then (if (wrap64 ((wrap64 ((bt181.1.length : Int) - (l0.length : Int))) - 4)) < 1 then (joistlaw04_SumSizes.j0 k l0 bt181.1 (wrap64 ((wrap64 ((bt181.1.length : Int) - (l0.length : Int))) - 4)) true) else (if (wrap64 ((wrap64 ((bt181.1.length : Int) - (l0.length : Int))) - 4)) > 2 then (joistlaw04_SumSizes.j0 k l0 bt181.1 (wrap64 ((wrap64 ((bt181.1.length : Int) - (l0.length : Int))) - 4)) true) else (joistlaw04_SumSizes.j0 k l0 bt181.1 (wrap64 ((wrap64 ((bt181.1.length : Int) - (l0.length : Int))) - 4)) (((wrap64 ((wrap64 ((bt181.1.length : Int) - (l0.length : Int))) - 4)) == 1) != (decide ((l0.length : Int) < 128)))))) else (joistlaw04_SumSizes.j0 k l0 bt181.1 (wrap64 ((wrap64 ((bt181.1.length : Int) - (l0.length : Int))) - 4)) true)))) else (some false))
theorem joistlaw04_SumSizes.mono_l : ∀ k, (∀ y0 y1 y2 y3, LeO (joistlaw04_SumSizes.j0 k y0 y1 y2 y3) (joistlaw04_SumSizes.j0 (k + 1) y0 y1 y2 y3))
  | 0 => fun _ _ _ _ r h => by simp [joistlaw04_SumSizes.j0] at h
  | k + 1 => by
    have ih0 := joistlaw04_SumSizes.mono_l k
    · intro y0 y1 y2 y3
      unfold joistlaw04_SumSizes.j0
      repeat' first
      | (with_reducible exact ih0 _ _ _ _)
      | (with_reducible exact joistref00_SameBytes.mono _ _ _)
      | (with_reducible exact sum_Frame.mono _ _)
      | (with_reducible exact sum_Next.mono _ _)
      | (with_reducible exact LeO.refl _)
      | (with_reducible exact LeO.none _)
      | (with_reducible refine LeO.ite ?_ ?_)
      | (with_reducible refine LeO.bind ?_ (fun _ => ?_))
      | exact ih0 _ _ _ _
      | exact joistref00_SameBytes.mono _ _ _
      | exact sum_Frame.mono _ _
      | exact sum_Next.mono _ _
      | exact LeO.none _
      | refine LeO.ite ?_ ?_
      | refine LeO.bind ?_ (fun _ => ?_)
theorem joistlaw04_SumSizes.mono : ∀ a0 k, LeO (joistlaw04_SumSizes.f k a0) (joistlaw04_SumSizes.f (k + 1) a0) := by
  intro a0 k
  have ih0 := joistlaw04_SumSizes.mono_l k
  unfold joistlaw04_SumSizes.f
  repeat' first
      | (with_reducible exact ih0 _ _ _ _)
      | (with_reducible exact joistref00_SameBytes.mono _ _ _)
      | (with_reducible exact sum_Frame.mono _ _)
      | (with_reducible exact sum_Next.mono _ _)
      | (with_reducible exact LeO.refl _)
      | (with_reducible exact LeO.none _)
      | (with_reducible refine LeO.ite ?_ ?_)
      | (with_reducible refine LeO.bind ?_ (fun _ => ?_))
      | exact ih0 _ _ _ _
      | exact joistref00_SameBytes.mono _ _ _
      | exact sum_Frame.mono _ _
      | exact sum_Next.mono _ _
      | exact LeO.none _
      | refine LeO.ite ?_ ?_
      | refine LeO.bind ?_ (fun _ => ?_)
set_option maxHeartbeats 8000000 in
set_option maxRecDepth 100000 in
theorem joistlaw04_SumSizes.calls (k : Nat) (A0 : Option Addr) (c0 : Nat) (l0 : List Int) (r : Bool) (w : World) (hr0 : Kd.C (Kd.int .u8) w A0 l0.length l0) (hc0 : l0.length ≤ c0) (h : joistlaw04_SumSizes.f k l0 = some r) :
    Calls Try.prog 4 #[.slice A0 l0.length c0] w fun e w' => e = .returned (.bool r) ∧ Below w.heap.size w w' := by
  have HR0 := Aside0.mk hr0
  have HC0 := Aside0.mk hc0
  clear hr0 hc0
  have HB := Aside0.mk (Below.refl w.heap.size w)
  have H : ((joistlaw04_alive.f).bind fun t180 => (if t180 = true then (if (l0.length : Int) > 3000 then (some true) else ((sum_Frame.f k l0).bind fun bt181 => (if bt181.2 = true then (if (wrap64 ((wrap64 ((bt181.1.length : Int) - (l0.length : Int))) - 4)) < 1 then (joistlaw04_SumSizes.j0 k l0 bt181.1 (wrap64 ((wrap64 ((bt181.1.length : Int) - (l0.length : Int))) - 4)) true) else (if (wrap64 ((wrap64 ((bt181.1.length : Int) - (l0.length : Int))) - 4)) > 2 then (joistlaw04_SumSizes.j0 k l0 bt181.1 (wrap64 ((wrap64 ((bt181.1.length : Int) - (l0.length : Int))) - 4)) true) else (joistlaw04_SumSizes.j0 k l0 bt181.1 (wrap64 ((wrap64 ((bt181.1.length : Int) - (l0.length : Int))) - 4)) (((wrap64 ((wrap64 ((bt181.1.length : Int) - (l0.length : Int))) - 4)) == 1) != (decide ((l0.length : Int) < 128)))))) else (joistlaw04_SumSizes.j0 k l0 bt181.1 (wrap64 ((wrap64 ((bt181.1.length : Int) - (l0.length : Int))) - 4)) true)))) else (some false))) = some r := h
  clear h
  replace H := Option.bind_eq_some_iff.mp H
  obtain ⟨t180, A20, H⟩ := H
  replace H : (if t180 = true then (if (l0.length : Int) > 3000 then (some true) else ((sum_Frame.f k l0).bind fun bt181 => (if bt181.2 = true then (if (wrap64 ((wrap64 ((bt181.1.length : Int) - (l0.length : Int))) - 4)) < 1 then (joistlaw04_SumSizes.j0 k l0 bt181.1 (wrap64 ((wrap64 ((bt181.1.length : Int) - (l0.length : Int))) - 4)) true) else (if (wrap64 ((wrap64 ((bt181.1.length : Int) - (l0.length : Int))) - 4)) > 2 then (joistlaw04_SumSizes.j0 k l0 bt181.1 (wrap64 ((wrap64 ((bt181.1.length : Int) - (l0.length : Int))) - 4)) true) else (joistlaw04_SumSizes.j0 k l0 bt181.1 (wrap64 ((wrap64 ((bt181.1.length : Int) - (l0.length : Int))) - 4)) (((wrap64 ((wrap64 ((bt181.1.length : Int) - (l0.length : Int))) - 4)) == 1) != (decide ((l0.length : Int) < 128)))))) else (joistlaw04_SumSizes.j0 k l0 bt181.1 (wrap64 ((wrap64 ((bt181.1.length : Int) - (l0.length : Int))) - 4)) true)))) else (some false)) = some r := H
  have A2 := Aside0.mk A20
  clear A20
  by_cases c3 : t180 = true
  · subst c3
    have H1 : (if (l0.length : Int) > 3000 then (some true) else ((sum_Frame.f k l0).bind fun bt181 => (if bt181.2 = true then (if (wrap64 ((wrap64 ((bt181.1.length : Int) - (l0.length : Int))) - 4)) < 1 then (joistlaw04_SumSizes.j0 k l0 bt181.1 (wrap64 ((wrap64 ((bt181.1.length : Int) - (l0.length : Int))) - 4)) true) else (if (wrap64 ((wrap64 ((bt181.1.length : Int) - (l0.length : Int))) - 4)) > 2 then (joistlaw04_SumSizes.j0 k l0 bt181.1 (wrap64 ((wrap64 ((bt181.1.length : Int) - (l0.length : Int))) - 4)) true) else (joistlaw04_SumSizes.j0 k l0 bt181.1 (wrap64 ((wrap64 ((bt181.1.length : Int) - (l0.length : Int))) - 4)) (((wrap64 ((wrap64 ((bt181.1.length : Int) - (l0.length : Int))) - 4)) == 1) != (decide ((l0.length : Int) < 128)))))) else (joistlaw04_SumSizes.j0 k l0 bt181.1 (wrap64 ((wrap64 ((bt181.1.length : Int) - (l0.length : Int))) - 4)) true)))) = some r := by rw [if_pos rfl] at H; exact H
    clear H
    have H := H1
    clear H1
    by_cases c4 : (l0.length : Int) > 3000
    · rw [if_pos c4] at H
      have c4b0 : decide (3000 < (l0.length : Int)) = true := decide_eq_true c4
      have c4b1 : decide (3000 < l0.length) = true := decide_eq_true (by omega)
      clear c4
      obtain rfl := Option.some.inj H
      go_enter Try.func4, Try.ntmps4
      go_wp2_with (first | ((with_reducible refine gate_callee (f := 8) rfl ?_); refine goesL_ (some 9) rfl rfl Try.func8 (by kernel_rfl) rfl #[] rfl (by (try simp only [List.map_toArray, List.map_cons, List.map_nil]); first | done | rfl | (simp only [List.length_drop, List.length_take]; rfl)) ?_; (with_reducible refine (joistlaw04_alive.calls  true _ A2.out).mono ?_); rintro e w5 ⟨rfl, hb⟩; refine ⟨_, rfl, ?_⟩; have n0_ := Aside0.mk (below_step (by repeat (first | (with_reducible first | exact HB.out | apply below_alloc | apply pw_below_drewN | apply below_drew1) | exact HB.out)) hb); clear HB; have HB := n0_; clear n0_; (try clear hb); (try clear hb2); (try clear hk); (try clear hi)))
      go_ret
      exact ⟨by first | rfl | (simp [errW_none, errW_some] <;> rfl) | (simp [*, errW_none, errW_some] <;> rfl), by repeat (first | (with_reducible first | exact HB.out | apply below_alloc | apply pw_below_drewN | apply below_drew1) | exact HB.out)⟩
    · rw [if_neg c4] at H
      have c4b0 : decide (3000 < (l0.length : Int)) = false := decide_eq_false c4
      have c4b1 : decide (3000 < l0.length) = false := decide_eq_false (by omega)
      clear c4
      replace H := Option.bind_eq_some_iff.mp H
      obtain ⟨⟨t181, t184⟩, A60, H⟩ := H
      replace H : (if t184 = true then (if (wrap64 ((wrap64 ((t181.length : Int) - (l0.length : Int))) - 4)) < 1 then (joistlaw04_SumSizes.j0 k l0 t181 (wrap64 ((wrap64 ((t181.length : Int) - (l0.length : Int))) - 4)) true) else (if (wrap64 ((wrap64 ((t181.length : Int) - (l0.length : Int))) - 4)) > 2 then (joistlaw04_SumSizes.j0 k l0 t181 (wrap64 ((wrap64 ((t181.length : Int) - (l0.length : Int))) - 4)) true) else (joistlaw04_SumSizes.j0 k l0 t181 (wrap64 ((wrap64 ((t181.length : Int) - (l0.length : Int))) - 4)) (((wrap64 ((wrap64 ((t181.length : Int) - (l0.length : Int))) - 4)) == 1) != (decide ((l0.length : Int) < 128)))))) else (joistlaw04_SumSizes.j0 k l0 t181 (wrap64 ((wrap64 ((t181.length : Int) - (l0.length : Int))) - 4)) true)) = some r := H
      have A6 := Aside0.mk A60
      clear A60
      have HC7 := Aside0.mk H
      clear H
      go_enter Try.func4, Try.ntmps4
      go_upto_region 7 with (first | ((with_reducible refine gate_callee (f := 8) rfl ?_); refine goesL_ (some 9) rfl rfl Try.func8 (by kernel_rfl) rfl #[] rfl (by (try simp only [List.map_toArray, List.map_cons, List.map_nil]); first | done | rfl | (simp only [List.length_drop, List.length_take]; rfl)) ?_; (with_reducible refine (joistlaw04_alive.calls  true _ A2.out).mono ?_); rintro e w8 ⟨rfl, hb⟩; refine ⟨_, rfl, ?_⟩; have n0_ := Aside0.mk (below_step (by repeat (first | (with_reducible first | exact HB.out | apply below_alloc | apply pw_below_drewN | apply below_drew1) | exact HB.out)) hb); clear HB; have HB := n0_; clear n0_; (try clear hb); (try clear hb2); (try clear hk); (try clear hi)) | ((with_reducible refine gate_callee (f := 9) rfl ?_); refine goesL_ (some 16) rfl rfl Try.func9 (by kernel_rfl) rfl #[.slice A0 l0.length c0] rfl (by (try simp only [List.map_toArray, List.map_cons, List.map_nil]); first | done | rfl | (simp only [List.length_drop, List.length_take]; rfl)) ?_; (with_reducible refine (sum_Frame.calls k (fun k_ => k_ < w.heap.size) _ _ l0 t181 t184 _ ?side1 A6.out).mono ?_); (case side1 => exact Kd.V_mk HC0.out (Kd.F_below (Kd.C_F (Kd.heap_int .u8) HR0.out) (by repeat (first | (with_reducible first | exact HB.out | apply below_alloc | apply pw_below_drewN | apply below_drew1) | exact HB.out)))); rintro e w9 ⟨v182, rfl, ho0, hb⟩; refine ⟨_, rfl, ?_⟩; have n0_ := Aside0.mk (Kd.R_lower (Kd.R_mono (ok' := fun k_ => True) ho0 (fun _ hk_ => trivial)) (below_size (by repeat (first | (with_reducible first | exact HB.out | apply below_alloc | apply pw_below_drewN | apply below_drew1) | exact HB.out)))); have n1_ := Aside0.mk (below_step (by repeat (first | (with_reducible first | exact HB.out | apply below_alloc | apply pw_below_drewN | apply below_drew1) | exact HB.out)) hb); clear HB; have HO183 := n0_; have HB := n1_; clear n0_ n1_; (try clear hb); (try clear hb2); (try clear hk); (try clear hi); (try clear ho0); obtain ⟨Ao10, co10, eo10⟩ := Kd.R_slice HO183.out; subst eo10))
      (try simp only [Act.put, List.setIfInBounds_toArray, List.set_cons_zero, List.set_cons_succ])
      go_cut [42] (fun v42 wc => ∃ (kq : Nat) (x42_6 : Bool), v42 = .bool x42_6 ∧ Aside0 (joistlaw04_SumSizes.j0 kq l0 t181 (wrap64 ((wrap64 ((t181.length : Int) - (l0.length : Int))) - 4)) x42_6 = some r) ∧ Aside0 (kq ≤ k) ∧ Aside0 (Kd.R (Kd.int .u8) 5 wc w.heap.size (fun _ => True) (.slice Ao10 t181.length co10) t181) ∧ Aside0 (Below w.heap.size w wc))
      case first =>
        have H := HC7.out
        clear HC7
        by_cases c11 : t184 = true
        · subst c11
          have H1 : (if (wrap64 ((wrap64 ((t181.length : Int) - (l0.length : Int))) - 4)) < 1 then (joistlaw04_SumSizes.j0 k l0 t181 (wrap64 ((wrap64 ((t181.length : Int) - (l0.length : Int))) - 4)) true) else (if (wrap64 ((wrap64 ((t181.length : Int) - (l0.length : Int))) - 4)) > 2 then (joistlaw04_SumSizes.j0 k l0 t181 (wrap64 ((wrap64 ((t181.length : Int) - (l0.length : Int))) - 4)) true) else (joistlaw04_SumSizes.j0 k l0 t181 (wrap64 ((wrap64 ((t181.length : Int) - (l0.length : Int))) - 4)) (((wrap64 ((wrap64 ((t181.length : Int) - (l0.length : Int))) - 4)) == 1) != (decide ((l0.length : Int) < 128)))))) = some r := by rw [if_pos rfl] at H; exact H
          clear H
          have H := H1
          clear H1
          by_cases c12 : (wrap64 ((wrap64 ((t181.length : Int) - (l0.length : Int))) - 4)) < 1
          · rw [if_pos c12] at H
            have c12b0 : decide ((wrap64 ((wrap64 ((t181.length : Int) - (l0.length : Int))) - 4)) < 1) = true := decide_eq_true c12
            clear c12
            (first | rw [c12b0] | (simp only [i64_w, i32_w]; rw [c12b0]) | skip)
            have H' := Aside0.mk H
            clear H
            go_wp2
            go_meet
            case rel => exact ⟨_, (true), (by first | rfl | (simp; done) | (simp [*]; done)), H', ⟨by first | omega | exact Nat.le_refl _⟩, ⟨by (with_reducible repeat (first | apply Kd.R_alloc | apply Kd.R_drewN | apply Kd.R_drew)); exact HO183.out⟩, ⟨by repeat (first | (with_reducible first | exact HB.out | apply below_alloc | apply pw_below_drewN | apply below_drew1) | exact HB.out)⟩⟩
          · rw [if_neg c12] at H
            have c12b0 : decide ((wrap64 ((wrap64 ((t181.length : Int) - (l0.length : Int))) - 4)) < 1) = false := decide_eq_false c12
            clear c12
            (first | rw [c12b0] | (simp only [i64_w, i32_w]; rw [c12b0]) | skip)
            by_cases c13 : (wrap64 ((wrap64 ((t181.length : Int) - (l0.length : Int))) - 4)) > 2
            · rw [if_pos c13] at H
              have c13b0 : decide (2 < (wrap64 ((wrap64 ((t181.length : Int) - (l0.length : Int))) - 4))) = true := decide_eq_true c13
              clear c13
              have H' := Aside0.mk H
              clear H
              go_wp2
              go_meet
              case rel => exact ⟨_, (true), (by first | rfl | (simp; done) | (simp [*]; done)), H', ⟨by first | omega | exact Nat.le_refl _⟩, ⟨by (with_reducible repeat (first | apply Kd.R_alloc | apply Kd.R_drewN | apply Kd.R_drew)); exact HO183.out⟩, ⟨by repeat (first | (with_reducible first | exact HB.out | apply below_alloc | apply pw_below_drewN | apply below_drew1) | exact HB.out)⟩⟩
            · rw [if_neg c13] at H
              have c13b0 : decide (2 < (wrap64 ((wrap64 ((t181.length : Int) - (l0.length : Int))) - 4))) = false := decide_eq_false c13
              clear c13
              have H' := Aside0.mk H
              clear H
              go_wp2
              go_meet
              case rel => exact ⟨_, ((((wrap64 ((wrap64 ((t181.length : Int) - (l0.length : Int))) - 4)) == 1) != (decide ((l0.length : Int) < 128)))), (by first | rfl | (simp; done) | (simp [*]; done)), H', ⟨by first | omega | exact Nat.le_refl _⟩, ⟨by (with_reducible repeat (first | apply Kd.R_alloc | apply Kd.R_drewN | apply Kd.R_drew)); exact HO183.out⟩, ⟨by repeat (first | (with_reducible first | exact HB.out | apply below_alloc | apply pw_below_drewN | apply below_drew1) | exact HB.out)⟩⟩
        · replace c11 := Bool.eq_false_iff.mpr c11
          subst c11
          have H1 : (joistlaw04_SumSizes.j0 k l0 t181 (wrap64 ((wrap64 ((t181.length : Int) - (l0.length : Int))) - 4)) true) = some r := by rw [if_neg (show ¬ (false = true) by decide)] at H; exact H
          clear H
          have H := H1
          clear H1
          have H' := Aside0.mk H
          clear H
          go_wp2
          go_meet
          case rel => exact ⟨_, (true), (by first | rfl | (simp; done) | (simp [*]; done)), H', ⟨by first | omega | exact Nat.le_refl _⟩, ⟨by (with_reducible repeat (first | apply Kd.R_alloc | apply Kd.R_drewN | apply Kd.R_drew)); exact HO183.out⟩, ⟨by repeat (first | (with_reducible first | exact HB.out | apply below_alloc | apply pw_below_drewN | apply below_drew1) | exact HB.out)⟩⟩
      case rest =>
        clear HC7
        try clear c1
        try clear p2
        try clear c3
        try clear c4
        try clear c4b0
        try clear c4b1
        try clear p6
        try clear c8
        try clear c9
        try clear c11
        try clear c12
        try clear c12b0
        try clear c13
        try clear c13b0
        obtain ⟨kq, x42_6, rfl, HA, HJ6, HO_3, HB⟩ := hcut
        cases kq with
        | zero => exact absurd HA.out (by simp [joistlaw04_SumSizes.j0])
        | succ kj6 =>
          have H := HA.out
          clear HA
          simp only [joistlaw04_SumSizes.j0] at H
          by_cases c14 : x42_6 = true
          · subst c14
            have H1 : (some false) = some r := by rw [if_pos rfl] at H; exact H
            clear H
            have H := H1
            clear H1
            obtain rfl := Option.some.inj H
            go_wp2
            go_ret
            exact ⟨by first | rfl | (simp [errW_none, errW_some] <;> rfl) | (simp [*, errW_none, errW_some] <;> rfl), by repeat (first | (with_reducible first | exact HB.out | apply below_alloc | apply pw_below_drewN | apply below_drew1) | exact HB.out)⟩
          · replace c14 := Bool.eq_false_iff.mpr c14
            subst c14
            have H1 : ((sum_Next.f kj6 t181).bind fun bt185 => (if 0 ≤ (wrap64 ((wrap64 ((t181.length : Int) - (l0.length : Int))) - 4)) then (if (wrap64 ((wrap64 ((t181.length : Int) - (l0.length : Int))) - 4)) ≤ (wrap64 ((wrap64 ((wrap64 ((t181.length : Int) - (l0.length : Int))) - 4)) + (l0.length : Int))) then (if (wrap64 ((wrap64 ((wrap64 ((t181.length : Int) - (l0.length : Int))) - 4)) + (l0.length : Int))) ≤ (t181.length : Int) then ((joistref00_SameBytes.f kj6 ((t181.take ((wrap64 ((wrap64 ((wrap64 ((t181.length : Int) - (l0.length : Int))) - 4)) + (l0.length : Int))) : Int).toNat).drop ((wrap64 ((wrap64 ((t181.length : Int) - (l0.length : Int))) - 4)) : Int).toNat) l0).bind fun t196 => (if t196 = true then ((joistref00_SameBytes.f kj6 bt185.1 l0).bind fun t197 => (if t197 = true then (if (bt185.2.1.length : Int) = 0 then (some (bt185.2.2 == 0)) else (some false)) else (some false))) else (some false))) else (none)) else (none)) else (none))) = some r := by rw [if_neg (show ¬ (false = true) by decide)] at H; exact H
            clear H
            have H := H1
            clear H1
            replace H := Option.bind_eq_some_iff.mp H
            obtain ⟨⟨t185, t188, t191⟩, A150, H⟩ := H
            replace H : (if 0 ≤ (wrap64 ((wrap64 ((t181.length : Int) - (l0.length : Int))) - 4)) then (if (wrap64 ((wrap64 ((t181.length : Int) - (l0.length : Int))) - 4)) ≤ (wrap64 ((wrap64 ((wrap64 ((t181.length : Int) - (l0.length : Int))) - 4)) + (l0.length : Int))) then (if (wrap64 ((wrap64 ((wrap64 ((t181.length : Int) - (l0.length : Int))) - 4)) + (l0.length : Int))) ≤ (t181.length : Int) then ((joistref00_SameBytes.f kj6 ((t181.take ((wrap64 ((wrap64 ((wrap64 ((t181.length : Int) - (l0.length : Int))) - 4)) + (l0.length : Int))) : Int).toNat).drop ((wrap64 ((wrap64 ((t181.length : Int) - (l0.length : Int))) - 4)) : Int).toNat) l0).bind fun t196 => (if t196 = true then ((joistref00_SameBytes.f kj6 t185 l0).bind fun t197 => (if t197 = true then (if (t188.length : Int) = 0 then (some (t191 == 0)) else (some false)) else (some false))) else (some false))) else (none)) else (none)) else (none)) = some r := H
            have A15 := Aside0.mk A150
            clear A150
            obtain ⟨ji16, hji16⟩ : ∃ j_ : Int, (wrap64 ((wrap64 ((t181.length : Int) - (l0.length : Int))) - 4)) = j_ := ⟨_, rfl⟩
            replace H : (if 0 ≤ (ji16) then (if (ji16) ≤ (wrap64 ((ji16) + (l0.length : Int))) then (if (wrap64 ((ji16) + (l0.length : Int))) ≤ (t181.length : Int) then ((joistref00_SameBytes.f kj6 ((t181.take ((wrap64 ((ji16) + (l0.length : Int))) : Int).toNat).drop ((ji16) : Int).toNat) l0).bind fun t196 => (if t196 = true then ((joistref00_SameBytes.f kj6 t185 l0).bind fun t197 => (if t197 = true then (if (t188.length : Int) = 0 then (some (t191 == 0)) else (some false)) else (some false))) else (some false))) else (none)) else (none)) else (none)) = some r := by first | (rw [hji16] at H; exact H) | (simp only [hji16] at H ⊢; exact H)
            (try rw [hji16] at A15)
            have hji16w : (IntKind.i64.wrap ((wrap64 ((t181.length : Int) - (l0.length : Int))) - 4)) = ji16 := (i64_w _).trans hji16
            by_cases c17 : 0 ≤ (ji16)
            · rw [if_pos c17] at H
              have c17b0 := eq_true c17
              have c17b1 : decide (0 ≤ (ji16)) = true := decide_eq_true c17
              clear c17
              by_cases c18 : (ji16) ≤ (wrap64 ((ji16) + (l0.length : Int)))
              · rw [if_pos c18] at H
                have c18b0 := eq_true c18
                have c18b1 : decide ((ji16) ≤ (wrap64 ((ji16) + (l0.length : Int)))) = true := decide_eq_true c18
                by_cases c19 : (wrap64 ((ji16) + (l0.length : Int))) ≤ (t181.length : Int)
                · rw [if_pos c19] at H
                  have c19b0 := eq_true c19
                  have c19b1 : decide ((wrap64 ((ji16) + (l0.length : Int))) ≤ (t181.length : Int)) = true := decide_eq_true c19
                  obtain ⟨y192, hy192⟩ : ∃ y_ : List Int, y_ = ((t181.take ((wrap64 ((ji16) + (l0.length : Int))) : Int).toNat).drop ((ji16) : Int).toNat) := ⟨_, rfl⟩
                  replace H : ((joistref00_SameBytes.f kj6 y192 l0).bind fun t196 => (if t196 = true then ((joistref00_SameBytes.f kj6 t185 l0).bind fun t197 => (if t197 = true then (if (t188.length : Int) = 0 then (some (t191 == 0)) else (some false)) else (some false))) else (some false))) = some r := by first | (rw [hy192]; with_reducible exact H) | (have H2_ := (Option.bind_some _ _).symm.trans H; rw [hy192]; with_reducible exact H2_) | (have H2_ := (Option.bind_some _ _).symm.trans H; with_reducible exact H2_) | with_reducible exact H | (rw [hy192]; exact H) | exact H
                  have Ny192 := Aside0.mk hy192
                  clear hy192
                  replace H := Option.bind_eq_some_iff.mp H
                  obtain ⟨t196, A200, H⟩ := H
                  replace H : (if t196 = true then ((joistref00_SameBytes.f kj6 t185 l0).bind fun t197 => (if t197 = true then (if (t188.length : Int) = 0 then (some (t191 == 0)) else (some false)) else (some false))) else (some false)) = some r := H
                  have A20 := Aside0.mk A200
                  clear A200
                  by_cases c21 : t196 = true
                  · subst c21
                    have H1 : ((joistref00_SameBytes.f kj6 t185 l0).bind fun t197 => (if t197 = true then (if (t188.length : Int) = 0 then (some (t191 == 0)) else (some false)) else (some false))) = some r := by rw [if_pos rfl] at H; exact H
                    clear H
                    have H := H1
                    clear H1
                    replace H := Option.bind_eq_some_iff.mp H
                    obtain ⟨t197, A220, H⟩ := H
                    replace H : (if t197 = true then (if (t188.length : Int) = 0 then (some (t191 == 0)) else (some false)) else (some false)) = some r := H
                    have A22 := Aside0.mk A220
                    clear A220
                    by_cases c23 : t197 = true
                    · subst c23
                      have H1 : (if (t188.length : Int) = 0 then (some (t191 == 0)) else (some false)) = some r := by rw [if_pos rfl] at H; exact H
                      clear H
                      have H := H1
                      clear H1
                      by_cases c24 : (t188.length : Int) = 0
                      · rw [if_pos c24] at H
                        have c24b0 : ((t188.length : Int) == 0) = true := beq_iff_eq.mpr c24
                        have c24b1 : ((t188.length : Int) != 0) = false := bne_eq_false_iff_eq.mpr c24
                        clear c24
                        obtain rfl := Option.some.inj H
                        go_wp2_with (first | ((with_reducible refine gate_callee (f := 10) rfl ?_); refine goesL_ (some 45) rfl rfl Try.func10 (by kernel_rfl) rfl #[.slice Ao10 t181.length co10] rfl (by (try simp only [List.map_toArray, List.map_cons, List.map_nil]); first | done | rfl | (simp only [List.length_drop, List.length_take]; rfl)) ?_; (with_reducible refine (sum_Next.calls kj6 _ _ t181 t185 t188 t191 _ ?side1 ?side2 A15.out).mono ?_); (case side1 => repeat (first | exact (Kd.R_reads' HO_3.out).2.2 | (with_reducible refine Kd.C_alloc ?_ _) | (with_reducible refine Kd.C_drewN ?_ _) | (with_reducible refine Kd.C_drew ?_))); (case side2 => exact (Kd.R_reads' HO_3.out).2.1); rintro e w25 ⟨v186, v189, rfl, ho0, ho1, hb⟩; refine ⟨_, rfl, ?_⟩; have n0_ := Aside0.mk (Kd.R_elder' (by (with_reducible repeat (first | apply Kd.R_alloc | apply Kd.R_drewN | apply Kd.R_drew)); exact HO_3.out) (Kd.R_base ho1) hb); have n1_ := Aside0.mk (Kd.V_lower (Kd.V_mono (ok' := fun k_ => some k_ ≠ (v189 : Value).ownBlock ∧ some k_ ≠ (.slice Ao10 t181.length co10 : Value).ownBlock) ho0 (fun k_ hk_ => ⟨hk_.2, (Kd.fresh' (Kd.R_lt (by (with_reducible repeat (first | apply Kd.R_alloc | apply Kd.R_drewN | apply Kd.R_drew)); exact HO_3.out)) k_ hk_.1)⟩)) (below_size (by repeat (first | (with_reducible first | exact HB.out | apply below_alloc | apply pw_below_drewN | apply below_drew1) | exact HB.out)))); have n2_ := Aside0.mk (Kd.R_lower (Kd.R_new' (Kd.R_mono (ok' := fun k_ => True) ho1 (fun _ hk_ => trivial)) (Kd.R_lt (by (with_reducible repeat (first | apply Kd.R_alloc | apply Kd.R_drewN | apply Kd.R_drew)); exact HO_3.out))) (below_size (by repeat (first | (with_reducible first | exact HB.out | apply below_alloc | apply pw_below_drewN | apply below_drew1) | exact HB.out)))); have n3_ := Aside0.mk (below_step (by repeat (first | (with_reducible first | exact HB.out | apply below_alloc | apply pw_below_drewN | apply below_drew1) | exact HB.out)) hb); clear HO_3; clear HB; have HO_3 := n0_; have HO187 := n1_; have HO190 := n2_; have HB := n3_; clear n0_ n1_ n2_ n3_; (try clear hb); (try clear hb2); (try clear hk); (try clear hi); (try clear ho0); (try clear ho1); have q26 : ((wrap64 ((ji16) + (l0.length : Int))) : Int) ≤ ((t181.length : Int) : Int) := of_decide_eq_true (by first | (with_reducible assumption) | assumption); obtain ⟨i026, hi026, _, hsz26, _⟩ := info_parts info5; have hroom26 : t181.length ≤ co10 := (Kd.R_reads' HO_3.out).2.1; have hC26 : Kd.C (Kd.int .u8) _ Ao10 t181.length t181 := (Kd.R_reads' HO_3.out).2.2; have ql26 : ((ji16) : Int) ≤ ((wrap64 ((ji16) + (l0.length : Int))) : Int) := of_decide_eq_true (by first | (with_reducible assumption) | assumption); have q026 : (0 : Int) ≤ ((ji16) : Int) := of_decide_eq_true (by first | (with_reducible assumption) | assumption); have hcut26 := cut_mid (P := Try.prog) 22 5 .i64 .i64 Try.underlying22 hi026 1 hsz26 Ao10 t181.length co10 (ji16) (wrap64 ((ji16) + (l0.length : Int))) q026 ql26 q26 hroom26; have hr26 := Kd.C_mid (lo := ((ji16) : Int).toNat) (hi := ((wrap64 ((ji16) + (l0.length : Int))) : Int).toNat) (c := co10) hC26 (by omega) (by omega) hroom26; obtain ⟨A26, hA26⟩ : ∃ A1, A1 = (if co10 = ((ji16) : Int).toNat then Ao10 else (Ao10 : Option Addr).map (·.add (((ji16) : Int).toNat * 1))) := ⟨_, rfl⟩; obtain ⟨c26, hc26⟩ : ∃ c1, c1 = co10 - ((ji16) : Int).toNat := ⟨_, rfl⟩; have hy26 : y192.length = ((wrap64 ((ji16) + (l0.length : Int))) : Int).toNat - ((ji16) : Int).toNat := (by rw [Ny192.out, List.length_drop, List.length_take] <;> omega); rw [show ((t181).take ((wrap64 ((ji16) + (l0.length : Int))) : Int).toNat).drop ((ji16) : Int).toNat = y192 from Ny192.out.symm] at hr26; replace hr26 : Kd.C (Kd.int .u8) _ A26 y192.length y192 := (by rw [hA26]; exact hr26); rw [← hy26, ← hA26, ← hc26] at hcut26; have HR195 := Aside0.mk hr26; have HC195 := Aside0.mk (show y192.length ≤ c26 from by rw [hy26, hc26]; exact Nat.sub_le_sub_right (Nat.le_trans (by omega) hroom26) _); clear hr26 hC26 hroom26 hi026 hsz26 hc26; have KY26 := Aside0.mk hy26; have KA26 := Aside0.mk hA26; clear hy26 hA26; have KL26 := Aside0.mk (show ((wrap64 ((ji16) + (l0.length : Int))) : Int).toNat ≤ t181.length from by omega); have KM26 := Aside0.mk (show ((ji16) : Int).toNat ≤ ((wrap64 ((ji16) + (l0.length : Int))) : Int).toNat from by omega); replace q26 := eq_true q26) | ((with_reducible refine gate_callee (f := 11) rfl ?_); refine goesL_ (some 57) rfl rfl Try.func11 (by kernel_rfl) rfl #[.slice A26 y192.length c26, .slice A0 l0.length c0] rfl (by (try simp only [List.map_toArray, List.map_cons, List.map_nil]); first | done | rfl | (simp only [List.length_drop, List.length_take]; rfl)) ?_; (with_reducible refine (joistref00_SameBytes.calls kj6 _ _ y192 _ _ l0 true _ ?side1 ?side2 ?side3 ?side4 A20.out).mono ?_); (case side1 => repeat (first | exact (by repeat (first | (with_reducible exact HR195.out) | (with_reducible refine Kd.C_alloc ?_ _) | (with_reducible refine Kd.C_drewN ?_ _) | (with_reducible refine Kd.C_drew ?_) | exact HR195.out)) | (with_reducible refine Kd.C_alloc ?_ _) | (with_reducible refine Kd.C_drewN ?_ _) | (with_reducible refine Kd.C_drew ?_))); (case side2 => exact HC195.out); (case side3 => repeat (first | exact (Kd.C_below HR0.out HB.out) | (with_reducible refine Kd.C_alloc ?_ _) | (with_reducible refine Kd.C_drewN ?_ _) | (with_reducible refine Kd.C_drew ?_))); (case side4 => exact HC0.out); rintro e w' ⟨rfl, ⟨nd, rfl⟩⟩; refine ⟨_, rfl, ?_⟩; obtain ⟨Ao27, co27, eo27⟩ := Kd.V_slice HO187.out; subst eo27) | (go_at_call 11; (with_reducible refine (joistref00_SameBytes.calls kj6 _ _ t185 _ _ l0 true _ ?side1 ?side2 ?side3 ?side4 A22.out).mono ?_); (case side1 => repeat (first | exact (Kd.V_reads' HO187.out).2.2 | (with_reducible refine Kd.C_alloc ?_ _) | (with_reducible refine Kd.C_drewN ?_ _) | (with_reducible refine Kd.C_drew ?_))); (case side2 => exact (Kd.V_reads' HO187.out).2.1); (case side3 => repeat (first | exact (Kd.C_below HR0.out (by repeat (first | (with_reducible first | exact HB.out | apply below_alloc | apply pw_below_drewN | apply below_drew1) | exact HB.out))) | (with_reducible refine Kd.C_alloc ?_ _) | (with_reducible refine Kd.C_drewN ?_ _) | (with_reducible refine Kd.C_drew ?_))); (case side4 => exact HC0.out); rintro e w' ⟨rfl, ⟨nd, rfl⟩⟩; obtain ⟨Ao28, co28, eo28⟩ := Kd.R_slice HO190.out; subst eo28))
                        go_ret
                        exact ⟨by first | rfl | (simp [errW_none, errW_some] <;> rfl) | (simp only [← hji16]; first | rfl | (simp [errW_none, errW_some] <;> rfl)) | (simp [*, errW_none, errW_some] <;> rfl), by repeat (first | (with_reducible first | exact HB.out | apply below_alloc | apply pw_below_drewN | apply below_drew1) | exact HB.out)⟩
                      · rw [if_neg c24] at H
                        have c24b0 : ((t188.length : Int) == 0) = false := beq_eq_false_iff_ne.mpr c24
                        have c24b1 : ((t188.length : Int) != 0) = true := bne_iff_ne.mpr c24
                        have c24b2 : ¬ (t188 = []) := fun h_ => c24 (by rw [h_]; rfl)
                        obtain rfl := Option.some.inj H
                        go_wp2_with (first | ((with_reducible refine gate_callee (f := 10) rfl ?_); refine goesL_ (some 45) rfl rfl Try.func10 (by kernel_rfl) rfl #[.slice Ao10 t181.length co10] rfl (by (try simp only [List.map_toArray, List.map_cons, List.map_nil]); first | done | rfl | (simp only [List.length_drop, List.length_take]; rfl)) ?_; (with_reducible refine (sum_Next.calls kj6 _ _ t181 t185 t188 t191 _ ?side1 ?side2 A15.out).mono ?_); (case side1 => repeat (first | exact (Kd.R_reads' HO_3.out).2.2 | (with_reducible refine Kd.C_alloc ?_ _) | (with_reducible refine Kd.C_drewN ?_ _) | (with_reducible refine Kd.C_drew ?_))); (case side2 => exact (Kd.R_reads' HO_3.out).2.1); rintro e w29 ⟨v186, v189, rfl, ho0, ho1, hb⟩; refine ⟨_, rfl, ?_⟩; have n0_ := Aside0.mk (Kd.R_elder' (by (with_reducible repeat (first | apply Kd.R_alloc | apply Kd.R_drewN | apply Kd.R_drew)); exact HO_3.out) (Kd.R_base ho1) hb); have n1_ := Aside0.mk (Kd.V_lower (Kd.V_mono (ok' := fun k_ => some k_ ≠ (v189 : Value).ownBlock ∧ some k_ ≠ (.slice Ao10 t181.length co10 : Value).ownBlock) ho0 (fun k_ hk_ => ⟨hk_.2, (Kd.fresh' (Kd.R_lt (by (with_reducible repeat (first | apply Kd.R_alloc | apply Kd.R_drewN | apply Kd.R_drew)); exact HO_3.out)) k_ hk_.1)⟩)) (below_size (by repeat (first | (with_reducible first | exact HB.out | apply below_alloc | apply pw_below_drewN | apply below_drew1) | exact HB.out)))); have n2_ := Aside0.mk (Kd.R_lower (Kd.R_new' (Kd.R_mono (ok' := fun k_ => True) ho1 (fun _ hk_ => trivial)) (Kd.R_lt (by (with_reducible repeat (first | apply Kd.R_alloc | apply Kd.R_drewN | apply Kd.R_drew)); exact HO_3.out))) (below_size (by repeat (first | (with_reducible first | exact HB.out | apply below_alloc | apply pw_below_drewN | apply below_drew1) | exact HB.out)))); have n3_ := Aside0.mk (below_step (by repeat (first | (with_reducible first | exact HB.out | apply below_alloc | apply pw_below_drewN | apply below_drew1) | exact HB.out)) hb); clear HO_3; clear HB; have HO_3 := n0_; have HO187 := n1_; have HO190 := n2_; have HB := n3_; clear n0_ n1_ n2_ n3_; (try clear hb); (try clear hb2); (try clear hk); (try clear hi); (try clear ho0); (try clear ho1); have q30 : ((wrap64 ((ji16) + (l0.length : Int))) : Int) ≤ ((t181.length : Int) : Int) := of_decide_eq_true (by first | (with_reducible assumption) | assumption); obtain ⟨i030, hi030, _, hsz30, _⟩ := info_parts info5; have hroom30 : t181.length ≤ co10 := (Kd.R_reads' HO_3.out).2.1; have hC30 : Kd.C (Kd.int .u8) _ Ao10 t181.length t181 := (Kd.R_reads' HO_3.out).2.2; have ql30 : ((ji16) : Int) ≤ ((wrap64 ((ji16) + (l0.length : Int))) : Int) := of_decide_eq_true (by first | (with_reducible assumption) | assumption); have q030 : (0 : Int) ≤ ((ji16) : Int) := of_decide_eq_true (by first | (with_reducible assumption) | assumption); have hcut30 := cut_mid (P := Try.prog) 22 5 .i64 .i64 Try.underlying22 hi030 1 hsz30 Ao10 t181.length co10 (ji16) (wrap64 ((ji16) + (l0.length : Int))) q030 ql30 q30 hroom30; have hr30 := Kd.C_mid (lo := ((ji16) : Int).toNat) (hi := ((wrap64 ((ji16) + (l0.length : Int))) : Int).toNat) (c := co10) hC30 (by omega) (by omega) hroom30; obtain ⟨A30, hA30⟩ : ∃ A1, A1 = (if co10 = ((ji16) : Int).toNat then Ao10 else (Ao10 : Option Addr).map (·.add (((ji16) : Int).toNat * 1))) := ⟨_, rfl⟩; obtain ⟨c30, hc30⟩ : ∃ c1, c1 = co10 - ((ji16) : Int).toNat := ⟨_, rfl⟩; have hy30 : y192.length = ((wrap64 ((ji16) + (l0.length : Int))) : Int).toNat - ((ji16) : Int).toNat := (by rw [Ny192.out, List.length_drop, List.length_take] <;> omega); rw [show ((t181).take ((wrap64 ((ji16) + (l0.length : Int))) : Int).toNat).drop ((ji16) : Int).toNat = y192 from Ny192.out.symm] at hr30; replace hr30 : Kd.C (Kd.int .u8) _ A30 y192.length y192 := (by rw [hA30]; exact hr30); rw [← hy30, ← hA30, ← hc30] at hcut30; have HR195 := Aside0.mk hr30; have HC195 := Aside0.mk (show y192.length ≤ c30 from by rw [hy30, hc30]; exact Nat.sub_le_sub_right (Nat.le_trans (by omega) hroom30) _); clear hr30 hC30 hroom30 hi030 hsz30 hc30; have KY30 := Aside0.mk hy30; have KA30 := Aside0.mk hA30; clear hy30 hA30; have KL30 := Aside0.mk (show ((wrap64 ((ji16) + (l0.length : Int))) : Int).toNat ≤ t181.length from by omega); have KM30 := Aside0.mk (show ((ji16) : Int).toNat ≤ ((wrap64 ((ji16) + (l0.length : Int))) : Int).toNat from by omega); replace q30 := eq_true q30) | ((with_reducible refine gate_callee (f := 11) rfl ?_); refine goesL_ (some 57) rfl rfl Try.func11 (by kernel_rfl) rfl #[.slice A30 y192.length c30, .slice A0 l0.length c0] rfl (by (try simp only [List.map_toArray, List.map_cons, List.map_nil]); first | done | rfl | (simp only [List.length_drop, List.length_take]; rfl)) ?_; (with_reducible refine (joistref00_SameBytes.calls kj6 _ _ y192 _ _ l0 true _ ?side1 ?side2 ?side3 ?side4 A20.out).mono ?_); (case side1 => repeat (first | exact (by repeat (first | (with_reducible exact HR195.out) | (with_reducible refine Kd.C_alloc ?_ _) | (with_reducible refine Kd.C_drewN ?_ _) | (with_reducible refine Kd.C_drew ?_) | exact HR195.out)) | (with_reducible refine Kd.C_alloc ?_ _) | (with_reducible refine Kd.C_drewN ?_ _) | (with_reducible refine Kd.C_drew ?_))); (case side2 => exact HC195.out); (case side3 => repeat (first | exact (Kd.C_below HR0.out HB.out) | (with_reducible refine Kd.C_alloc ?_ _) | (with_reducible refine Kd.C_drewN ?_ _) | (with_reducible refine Kd.C_drew ?_))); (case side4 => exact HC0.out); rintro e w' ⟨rfl, ⟨nd, rfl⟩⟩; refine ⟨_, rfl, ?_⟩; obtain ⟨Ao31, co31, eo31⟩ := Kd.V_slice HO187.out; subst eo31) | (go_at_call 11; (with_reducible refine (joistref00_SameBytes.calls kj6 _ _ t185 _ _ l0 true _ ?side1 ?side2 ?side3 ?side4 A22.out).mono ?_); (case side1 => repeat (first | exact (Kd.V_reads' HO187.out).2.2 | (with_reducible refine Kd.C_alloc ?_ _) | (with_reducible refine Kd.C_drewN ?_ _) | (with_reducible refine Kd.C_drew ?_))); (case side2 => exact (Kd.V_reads' HO187.out).2.1); (case side3 => repeat (first | exact (Kd.C_below HR0.out (by repeat (first | (with_reducible first | exact HB.out | apply below_alloc | apply pw_below_drewN | apply below_drew1) | exact HB.out))) | (with_reducible refine Kd.C_alloc ?_ _) | (with_reducible refine Kd.C_drewN ?_ _) | (with_reducible refine Kd.C_drew ?_))); (case side4 => exact HC0.out); rintro e w' ⟨rfl, ⟨nd, rfl⟩⟩; obtain ⟨Ao32, co32, eo32⟩ := Kd.R_slice HO190.out; subst eo32))
                        go_ret
                        exact ⟨by first | rfl | (simp [errW_none, errW_some] <;> rfl) | (simp only [← hji16]; first | rfl | (simp [errW_none, errW_some] <;> rfl)) | (simp [*, errW_none, errW_some] <;> rfl), by repeat (first | (with_reducible first | exact HB.out | apply below_alloc | apply pw_below_drewN | apply below_drew1) | exact HB.out)⟩
                    · replace c23 := Bool.eq_false_iff.mpr c23
                      subst c23
                      have H1 : (some false) = some r := by rw [if_neg (show ¬ (false = true) by decide)] at H; exact H
                      clear H
                      have H := H1
                      clear H1
                      obtain rfl := Option.some.inj H
                      go_wp2_with (first | ((with_reducible refine gate_callee (f := 10) rfl ?_); refine goesL_ (some 45) rfl rfl Try.func10 (by kernel_rfl) rfl #[.slice Ao10 t181.length co10] rfl (by (try simp only [List.map_toArray, List.map_cons, List.map_nil]); first | done | rfl | (simp only [List.length_drop, List.length_take]; rfl)) ?_; (with_reducible refine (sum_Next.calls kj6 _ _ t181 t185 t188 t191 _ ?side1 ?side2 A15.out).mono ?_); (case side1 => repeat (first | exact (Kd.R_reads' HO_3.out).2.2 | (with_reducible refine Kd.C_alloc ?_ _) | (with_reducible refine Kd.C_drewN ?_ _) | (with_reducible refine Kd.C_drew ?_))); (case side2 => exact (Kd.R_reads' HO_3.out).2.1); rintro e w33 ⟨v186, v189, rfl, ho0, ho1, hb⟩; refine ⟨_, rfl, ?_⟩; have n0_ := Aside0.mk (Kd.R_elder' (by (with_reducible repeat (first | apply Kd.R_alloc | apply Kd.R_drewN | apply Kd.R_drew)); exact HO_3.out) (Kd.R_base ho1) hb); have n1_ := Aside0.mk (Kd.V_lower (Kd.V_mono (ok' := fun k_ => some k_ ≠ (v189 : Value).ownBlock ∧ some k_ ≠ (.slice Ao10 t181.length co10 : Value).ownBlock) ho0 (fun k_ hk_ => ⟨hk_.2, (Kd.fresh' (Kd.R_lt (by (with_reducible repeat (first | apply Kd.R_alloc | apply Kd.R_drewN | apply Kd.R_drew)); exact HO_3.out)) k_ hk_.1)⟩)) (below_size (by repeat (first | (with_reducible first | exact HB.out | apply below_alloc | apply pw_below_drewN | apply below_drew1) | exact HB.out)))); have n2_ := Aside0.mk (Kd.R_lower (Kd.R_new' (Kd.R_mono (ok' := fun k_ => True) ho1 (fun _ hk_ => trivial)) (Kd.R_lt (by (with_reducible repeat (first | apply Kd.R_alloc | apply Kd.R_drewN | apply Kd.R_drew)); exact HO_3.out))) (below_size (by repeat (first | (with_reducible first | exact HB.out | apply below_alloc | apply pw_below_drewN | apply below_drew1) | exact HB.out)))); have n3_ := Aside0.mk (below_step (by repeat (first | (with_reducible first | exact HB.out | apply below_alloc | apply pw_below_drewN | apply below_drew1) | exact HB.out)) hb); clear HO_3; clear HB; have HO_3 := n0_; have HO187 := n1_; have HO190 := n2_; have HB := n3_; clear n0_ n1_ n2_ n3_; (try clear hb); (try clear hb2); (try clear hk); (try clear hi); (try clear ho0); (try clear ho1); have q34 : ((wrap64 ((ji16) + (l0.length : Int))) : Int) ≤ ((t181.length : Int) : Int) := of_decide_eq_true (by first | (with_reducible assumption) | assumption); obtain ⟨i034, hi034, _, hsz34, _⟩ := info_parts info5; have hroom34 : t181.length ≤ co10 := (Kd.R_reads' HO_3.out).2.1; have hC34 : Kd.C (Kd.int .u8) _ Ao10 t181.length t181 := (Kd.R_reads' HO_3.out).2.2; have ql34 : ((ji16) : Int) ≤ ((wrap64 ((ji16) + (l0.length : Int))) : Int) := of_decide_eq_true (by first | (with_reducible assumption) | assumption); have q034 : (0 : Int) ≤ ((ji16) : Int) := of_decide_eq_true (by first | (with_reducible assumption) | assumption); have hcut34 := cut_mid (P := Try.prog) 22 5 .i64 .i64 Try.underlying22 hi034 1 hsz34 Ao10 t181.length co10 (ji16) (wrap64 ((ji16) + (l0.length : Int))) q034 ql34 q34 hroom34; have hr34 := Kd.C_mid (lo := ((ji16) : Int).toNat) (hi := ((wrap64 ((ji16) + (l0.length : Int))) : Int).toNat) (c := co10) hC34 (by omega) (by omega) hroom34; obtain ⟨A34, hA34⟩ : ∃ A1, A1 = (if co10 = ((ji16) : Int).toNat then Ao10 else (Ao10 : Option Addr).map (·.add (((ji16) : Int).toNat * 1))) := ⟨_, rfl⟩; obtain ⟨c34, hc34⟩ : ∃ c1, c1 = co10 - ((ji16) : Int).toNat := ⟨_, rfl⟩; have hy34 : y192.length = ((wrap64 ((ji16) + (l0.length : Int))) : Int).toNat - ((ji16) : Int).toNat := (by rw [Ny192.out, List.length_drop, List.length_take] <;> omega); rw [show ((t181).take ((wrap64 ((ji16) + (l0.length : Int))) : Int).toNat).drop ((ji16) : Int).toNat = y192 from Ny192.out.symm] at hr34; replace hr34 : Kd.C (Kd.int .u8) _ A34 y192.length y192 := (by rw [hA34]; exact hr34); rw [← hy34, ← hA34, ← hc34] at hcut34; have HR195 := Aside0.mk hr34; have HC195 := Aside0.mk (show y192.length ≤ c34 from by rw [hy34, hc34]; exact Nat.sub_le_sub_right (Nat.le_trans (by omega) hroom34) _); clear hr34 hC34 hroom34 hi034 hsz34 hc34; have KY34 := Aside0.mk hy34; have KA34 := Aside0.mk hA34; clear hy34 hA34; have KL34 := Aside0.mk (show ((wrap64 ((ji16) + (l0.length : Int))) : Int).toNat ≤ t181.length from by omega); have KM34 := Aside0.mk (show ((ji16) : Int).toNat ≤ ((wrap64 ((ji16) + (l0.length : Int))) : Int).toNat from by omega); replace q34 := eq_true q34) | ((with_reducible refine gate_callee (f := 11) rfl ?_); refine goesL_ (some 57) rfl rfl Try.func11 (by kernel_rfl) rfl #[.slice A34 y192.length c34, .slice A0 l0.length c0] rfl (by (try simp only [List.map_toArray, List.map_cons, List.map_nil]); first | done | rfl | (simp only [List.length_drop, List.length_take]; rfl)) ?_; (with_reducible refine (joistref00_SameBytes.calls kj6 _ _ y192 _ _ l0 true _ ?side1 ?side2 ?side3 ?side4 A20.out).mono ?_); (case side1 => repeat (first | exact (by repeat (first | (with_reducible exact HR195.out) | (with_reducible refine Kd.C_alloc ?_ _) | (with_reducible refine Kd.C_drewN ?_ _) | (with_reducible refine Kd.C_drew ?_) | exact HR195.out)) | (with_reducible refine Kd.C_alloc ?_ _) | (with_reducible refine Kd.C_drewN ?_ _) | (with_reducible refine Kd.C_drew ?_))); (case side2 => exact HC195.out); (case side3 => repeat (first | exact (Kd.C_below HR0.out HB.out) | (with_reducible refine Kd.C_alloc ?_ _) | (with_reducible refine Kd.C_drewN ?_ _) | (with_reducible refine Kd.C_drew ?_))); (case side4 => exact HC0.out); rintro e w' ⟨rfl, ⟨nd, rfl⟩⟩; refine ⟨_, rfl, ?_⟩; obtain ⟨Ao35, co35, eo35⟩ := Kd.V_slice HO187.out; subst eo35) | (go_at_call 11; (with_reducible refine (joistref00_SameBytes.calls kj6 _ _ t185 _ _ l0 false _ ?side1 ?side2 ?side3 ?side4 A22.out).mono ?_); (case side1 => repeat (first | exact (Kd.V_reads' HO187.out).2.2 | (with_reducible refine Kd.C_alloc ?_ _) | (with_reducible refine Kd.C_drewN ?_ _) | (with_reducible refine Kd.C_drew ?_))); (case side2 => exact (Kd.V_reads' HO187.out).2.1); (case side3 => repeat (first | exact (Kd.C_below HR0.out (by repeat (first | (with_reducible first | exact HB.out | apply below_alloc | apply pw_below_drewN | apply below_drew1) | exact HB.out))) | (with_reducible refine Kd.C_alloc ?_ _) | (with_reducible refine Kd.C_drewN ?_ _) | (with_reducible refine Kd.C_drew ?_))); (case side4 => exact HC0.out); rintro e w' ⟨rfl, ⟨nd, rfl⟩⟩))
                      go_ret
                      exact ⟨by first | rfl | (simp [errW_none, errW_some] <;> rfl) | (simp only [← hji16]; first | rfl | (simp [errW_none, errW_some] <;> rfl)) | (simp [*, errW_none, errW_some] <;> rfl), by repeat (first | (with_reducible first | exact HB.out | apply below_alloc | apply pw_below_drewN | apply below_drew1) | exact HB.out)⟩
                  · replace c21 := Bool.eq_false_iff.mpr c21
                    subst c21
                    have H1 : (some false) = some r := by rw [if_neg (show ¬ (false = true) by decide)] at H; exact H
                    clear H
                    have H := H1
                    clear H1
                    obtain rfl := Option.some.inj H
                    go_wp2_with (first | ((with_reducible refine gate_callee (f := 10) rfl ?_); refine goesL_ (some 45) rfl rfl Try.func10 (by kernel_rfl) rfl #[.slice Ao10 t181.length co10] rfl (by (try simp only [List.map_toArray, List.map_cons, List.map_nil]); first | done | rfl | (simp only [List.length_drop, List.length_take]; rfl)) ?_; (with_reducible refine (sum_Next.calls kj6 _ _ t181 t185 t188 t191 _ ?side1 ?side2 A15.out).mono ?_); (case side1 => repeat (first | exact (Kd.R_reads' HO_3.out).2.2 | (with_reducible refine Kd.C_alloc ?_ _) | (with_reducible refine Kd.C_drewN ?_ _) | (with_reducible refine Kd.C_drew ?_))); (case side2 => exact (Kd.R_reads' HO_3.out).2.1); rintro e w36 ⟨v186, v189, rfl, ho0, ho1, hb⟩; refine ⟨_, rfl, ?_⟩; have n0_ := Aside0.mk (Kd.R_elder' (by (with_reducible repeat (first | apply Kd.R_alloc | apply Kd.R_drewN | apply Kd.R_drew)); exact HO_3.out) (Kd.R_base ho1) hb); have n1_ := Aside0.mk (Kd.V_lower (Kd.V_mono (ok' := fun k_ => some k_ ≠ (v189 : Value).ownBlock ∧ some k_ ≠ (.slice Ao10 t181.length co10 : Value).ownBlock) ho0 (fun k_ hk_ => ⟨hk_.2, (Kd.fresh' (Kd.R_lt (by (with_reducible repeat (first | apply Kd.R_alloc | apply Kd.R_drewN | apply Kd.R_drew)); exact HO_3.out)) k_ hk_.1)⟩)) (below_size (by repeat (first | (with_reducible first | exact HB.out | apply below_alloc | apply pw_below_drewN | apply below_drew1) | exact HB.out)))); have n2_ := Aside0.mk (Kd.R_lower (Kd.R_new' (Kd.R_mono (ok' := fun k_ => True) ho1 (fun _ hk_ => trivial)) (Kd.R_lt (by (with_reducible repeat (first | apply Kd.R_alloc | apply Kd.R_drewN | apply Kd.R_drew)); exact HO_3.out))) (below_size (by repeat (first | (with_reducible first | exact HB.out | apply below_alloc | apply pw_below_drewN | apply below_drew1) | exact HB.out)))); have n3_ := Aside0.mk (below_step (by repeat (first | (with_reducible first | exact HB.out | apply below_alloc | apply pw_below_drewN | apply below_drew1) | exact HB.out)) hb); clear HO_3; clear HB; have HO_3 := n0_; have HO187 := n1_; have HO190 := n2_; have HB := n3_; clear n0_ n1_ n2_ n3_; (try clear hb); (try clear hb2); (try clear hk); (try clear hi); (try clear ho0); (try clear ho1); have q37 : ((wrap64 ((ji16) + (l0.length : Int))) : Int) ≤ ((t181.length : Int) : Int) := of_decide_eq_true (by first | (with_reducible assumption) | assumption); obtain ⟨i037, hi037, _, hsz37, _⟩ := info_parts info5; have hroom37 : t181.length ≤ co10 := (Kd.R_reads' HO_3.out).2.1; have hC37 : Kd.C (Kd.int .u8) _ Ao10 t181.length t181 := (Kd.R_reads' HO_3.out).2.2; have ql37 : ((ji16) : Int) ≤ ((wrap64 ((ji16) + (l0.length : Int))) : Int) := of_decide_eq_true (by first | (with_reducible assumption) | assumption); have q037 : (0 : Int) ≤ ((ji16) : Int) := of_decide_eq_true (by first | (with_reducible assumption) | assumption); have hcut37 := cut_mid (P := Try.prog) 22 5 .i64 .i64 Try.underlying22 hi037 1 hsz37 Ao10 t181.length co10 (ji16) (wrap64 ((ji16) + (l0.length : Int))) q037 ql37 q37 hroom37; have hr37 := Kd.C_mid (lo := ((ji16) : Int).toNat) (hi := ((wrap64 ((ji16) + (l0.length : Int))) : Int).toNat) (c := co10) hC37 (by omega) (by omega) hroom37; obtain ⟨A37, hA37⟩ : ∃ A1, A1 = (if co10 = ((ji16) : Int).toNat then Ao10 else (Ao10 : Option Addr).map (·.add (((ji16) : Int).toNat * 1))) := ⟨_, rfl⟩; obtain ⟨c37, hc37⟩ : ∃ c1, c1 = co10 - ((ji16) : Int).toNat := ⟨_, rfl⟩; have hy37 : y192.length = ((wrap64 ((ji16) + (l0.length : Int))) : Int).toNat - ((ji16) : Int).toNat := (by rw [Ny192.out, List.length_drop, List.length_take] <;> omega); rw [show ((t181).take ((wrap64 ((ji16) + (l0.length : Int))) : Int).toNat).drop ((ji16) : Int).toNat = y192 from Ny192.out.symm] at hr37; replace hr37 : Kd.C (Kd.int .u8) _ A37 y192.length y192 := (by rw [hA37]; exact hr37); rw [← hy37, ← hA37, ← hc37] at hcut37; have HR195 := Aside0.mk hr37; have HC195 := Aside0.mk (show y192.length ≤ c37 from by rw [hy37, hc37]; exact Nat.sub_le_sub_right (Nat.le_trans (by omega) hroom37) _); clear hr37 hC37 hroom37 hi037 hsz37 hc37; have KY37 := Aside0.mk hy37; have KA37 := Aside0.mk hA37; clear hy37 hA37; have KL37 := Aside0.mk (show ((wrap64 ((ji16) + (l0.length : Int))) : Int).toNat ≤ t181.length from by omega); have KM37 := Aside0.mk (show ((ji16) : Int).toNat ≤ ((wrap64 ((ji16) + (l0.length : Int))) : Int).toNat from by omega); replace q37 := eq_true q37) | ((with_reducible refine gate_callee (f := 11) rfl ?_); refine goesL_ (some 57) rfl rfl Try.func11 (by kernel_rfl) rfl #[.slice A37 y192.length c37, .slice A0 l0.length c0] rfl (by (try simp only [List.map_toArray, List.map_cons, List.map_nil]); first | done | rfl | (simp only [List.length_drop, List.length_take]; rfl)) ?_; (with_reducible refine (joistref00_SameBytes.calls kj6 _ _ y192 _ _ l0 false _ ?side1 ?side2 ?side3 ?side4 A20.out).mono ?_); (case side1 => repeat (first | exact (by repeat (first | (with_reducible exact HR195.out) | (with_reducible refine Kd.C_alloc ?_ _) | (with_reducible refine Kd.C_drewN ?_ _) | (with_reducible refine Kd.C_drew ?_) | exact HR195.out)) | (with_reducible refine Kd.C_alloc ?_ _) | (with_reducible refine Kd.C_drewN ?_ _) | (with_reducible refine Kd.C_drew ?_))); (case side2 => exact HC195.out); (case side3 => repeat (first | exact (Kd.C_below HR0.out HB.out) | (with_reducible refine Kd.C_alloc ?_ _) | (with_reducible refine Kd.C_drewN ?_ _) | (with_reducible refine Kd.C_drew ?_))); (case side4 => exact HC0.out); rintro e w' ⟨rfl, ⟨nd, rfl⟩⟩; refine ⟨_, rfl, ?_⟩))
                    go_ret
                    exact ⟨by first | rfl | (simp [errW_none, errW_some] <;> rfl) | (simp only [← hji16]; first | rfl | (simp [errW_none, errW_some] <;> rfl)) | (simp [*, errW_none, errW_some] <;> rfl), by repeat (first | (with_reducible first | exact HB.out | apply below_alloc | apply pw_below_drewN | apply below_drew1) | exact HB.out)⟩
                · rw [if_neg c19] at H
                  exact absurd H (by simp)
              · rw [if_neg c18] at H
                exact absurd H (by simp)
            · rw [if_neg c17] at H
              exact absurd H (by simp)
  · replace c3 := Bool.eq_false_iff.mpr c3
    subst c3
    have H1 : (some false) = some r := by rw [if_neg (show ¬ (false = true) by decide)] at H; exact H
    clear H
    have H := H1
    clear H1
    obtain rfl := Option.some.inj H
    go_enter Try.func4, Try.ntmps4
    go_wp2_with (first | ((with_reducible refine gate_callee (f := 8) rfl ?_); refine goesL_ (some 9) rfl rfl Try.func8 (by kernel_rfl) rfl #[] rfl (by (try simp only [List.map_toArray, List.map_cons, List.map_nil]); first | done | rfl | (simp only [List.length_drop, List.length_take]; rfl)) ?_; (with_reducible refine (joistlaw04_alive.calls  false _ A2.out).mono ?_); rintro e w38 ⟨rfl, hb⟩; refine ⟨_, rfl, ?_⟩; have n0_ := Aside0.mk (below_step (by repeat (first | (with_reducible first | exact HB.out | apply below_alloc | apply pw_below_drewN | apply below_drew1) | exact HB.out)) hb); clear HB; have HB := n0_; clear n0_; (try clear hb); (try clear hb2); (try clear hk); (try clear hi)))
    go_ret
    exact ⟨by first | rfl | (simp [errW_none, errW_some] <;> rfl) | (simp [*, errW_none, errW_some] <;> rfl), by repeat (first | (with_reducible first | exact HB.out | apply below_alloc | apply pw_below_drewN | apply below_drew1) | exact HB.out)⟩

/-- THE ONE PURE STATEMENT of joistlaw04_SumSizes: yours. -/
def joistlaw04_SumSizes.Pure : Prop := ∀ (l0 : List Int), l0.length ≤ maxLen → l0.length * 1 ≤ 140737488351232 → (∀ x ∈ l0, (Lit.int .u8 x).wf = true) → ∃ k, joistlaw04_SumSizes.f k l0 = some true
theorem joistlaw04_SumSizes.walk (P : joistlaw04_SumSizes.Pure) (a0 : Option Addr) (len0 cap0 : Nat) (z0 : List Int) (w : World) (w0 : (a0 = none ∧ len0 = 0 ∧ cap0 = 0 ∧ z0 = []) ∨ ∃ x, a0 = some x ∧ len0 ≤ cap0 ∧ cap0 ≤ maxLen ∧ z0.length = cap0 ∧ (∀ i, i < z0.length → w.cell? (x.add i) = some (.int .u8 (z0.getD i 0))) ∧ ∀ n ∈ z0, (Lit.int .u8 n).wf = true) (y0 : len0 * 1 ≤ 140737488351232) :
    Calls Try.prog 4 #[.slice a0 len0 cap0] w fun e w' => e = .returned (.bool true) ∧ Below w.heap.size w w' := by
  obtain ⟨l0, rfl, hr0, hm0, hw0, hc0⟩ := ReadsInt.ofRowC w0
  obtain ⟨k, h⟩ := P l0 hm0 y0 hw0
  refine (joistlaw04_SumSizes.calls k _ _ l0 true w (Kd.C_of_reads (d := (0 : Int)) (h1 := fun _ => rfl) hr0) hc0 h).mono ?_
  rintro e w' ⟨rfl, hd⟩
  exact ⟨rfl, hd⟩

end Go.Proofs.Ytjfmnjhkpkcakaa.Q
