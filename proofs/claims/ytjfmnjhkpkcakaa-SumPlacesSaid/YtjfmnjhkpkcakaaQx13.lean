-- Written by a program of this session, out of Lean's print of the loaded program (a patched copy of the kit's print).
import Derived.Test.YtjfmnjhkpkcakaaQx0
import Derived.Test.YtjfmnjhkpkcakaaQx5
import Derived.Test.YtjfmnjhkpkcakaaQx9
import Derived.Test.YtjfmnjhkpkcakaaQx10
import Derived.Test.YtjfmnjhkpkcakaaQx11
import Derived.Test.YtjfmnjhkpkcakaaQx12
namespace Go.Proofs.Ytjfmnjhkpkcakaa.Q
open Go.RowKit Go.Proofs.YtjfmnjhkpkcakaaW.PrintWords Go.Proofs.YtjfmnjhkpkcakaaW.PrintLast Go.Proofs.YtjfmnjhkpkcakaaW.PrintMore
attribute [local go_sem] max2_int min2_int max_two min_two max_three min_three max_four min_four   -- for this text's walks alone
set_option linter.unusedVariables false
set_option linter.unusedSimpArgs false

/-! ### sum_Next: function 10 -/
def sum_Next.j0 : Nat → Int → List Int → Bool → Option (List Int × List Int × Int)
  | 0, _, _, _ => none
  | k + 1, x5, x6, x16 => if x16 = true then (some (([] : List Int), ([] : List Int), 2)) else (if (x6.length : Int) < (wrap64 (x5 + 4)) then (some (([] : List Int), ([] : List Int), 1)) else (if 0 ≤ x5 then (if x5 ≤ (x6.length : Int) then ((sum_ending.f k (x6.take (x5 : Int).toNat)).bind fun t144 => (if x5 ≤ (wrap64 (x5 + 4)) then (if (wrap64 (x5 + 4)) ≤ (x6.length : Int) then ((bytes_Equal.f t144 ((x6.take ((wrap64 (x5 + 4)) : Int).toNat).drop (x5 : Int).toNat)).bind fun t151 => (if t151 = true then (if 0 ≤ (wrap64 (x5 + 4)) then ((slices_Clone_byte_byte.f (x6.drop ((wrap64 (x5 + 4)) : Int).toNat)).bind fun t161 => (some ((x6.take (x5 : Int).toNat), t161, 0))) else (none)) else (some (([] : List Int), ([] : List Int), 2)))) else (none)) else (none))) else (none)) else (none)))
def sum_Next.f (k : Nat) (l0 : List Int) : Option (List Int × List Int × Int) := (sum_begun.f l0).bind fun t134 => (if t134 = true then (some (([] : List Int), ([] : List Int), 1)) else ((codec_Take.f k l0).bind fun bt135 => (if bt135.2.2 = true then (sum_Next.j0 k bt135.1 bt135.2.1 (decide (bt135.1 > 65536))) else (sum_Next.j0 k bt135.1 bt135.2.1 true))))
theorem sum_Next.mono_l : ∀ k, (∀ y0 y1 y2, LeO (sum_Next.j0 k y0 y1 y2) (sum_Next.j0 (k + 1) y0 y1 y2))
  | 0 => fun _ _ _ r h => by simp [sum_Next.j0] at h
  | k + 1 => by
    have ih0 := sum_Next.mono_l k
    · intro y0 y1 y2
      unfold sum_Next.j0
      repeat' first
      | (with_reducible exact ih0 _ _ _)
      | (with_reducible exact codec_Take.mono _ _)
      | (with_reducible exact sum_ending.mono _ _)
      | (with_reducible exact LeO.refl _)
      | (with_reducible exact LeO.none _)
      | (with_reducible refine LeO.ite ?_ ?_)
      | (with_reducible refine LeO.bind ?_ (fun _ => ?_))
      | exact ih0 _ _ _
      | exact codec_Take.mono _ _
      | exact sum_ending.mono _ _
      | exact LeO.none _
      | refine LeO.ite ?_ ?_
      | refine LeO.bind ?_ (fun _ => ?_)
theorem sum_Next.mono : ∀ a0 k, LeO (sum_Next.f k a0) (sum_Next.f (k + 1) a0) := by
  intro a0 k
  have ih0 := sum_Next.mono_l k
  unfold sum_Next.f
  repeat' first
      | (with_reducible exact ih0 _ _ _)
      | (with_reducible exact codec_Take.mono _ _)
      | (with_reducible exact sum_ending.mono _ _)
      | (with_reducible exact LeO.refl _)
      | (with_reducible exact LeO.none _)
      | (with_reducible refine LeO.ite ?_ ?_)
      | (with_reducible refine LeO.bind ?_ (fun _ => ?_))
      | exact ih0 _ _ _
      | exact codec_Take.mono _ _
      | exact sum_ending.mono _ _
      | exact LeO.none _
      | refine LeO.ite ?_ ?_
      | refine LeO.bind ?_ (fun _ => ?_)
def sum_Next.T8 : Bool × List (List Nat × List Nat) := (true, [([], []), ([], []), ([0, 1], [0, 1]), ([2], [2]), ([], []), ([], []), ([], []), ([6], [6]), ([4, 5, 7], [4, 5, 7]), ([3, 8, 3], [3, 8]), ([9], [9]), ([10, 9], [10])])
def sum_Next.B8 : List Nat := [0, 0, 3, 7, 0, 0, 0, 64, 240, 511, 1023, 2047]
theorem sum_Next.tab8 : rtab .any (opsOf Try.f10 8) = sum_Next.T8 := by kernel_rfl
theorem sum_Next.bits8 : waitsOk sum_Next.T8.2 sum_Next.B8 = true := by kernel_rfl
def sum_Next.T10 : Bool × List (List Nat × List Nat) := (true, [([], []), ([], []), ([], []), ([0, 1, 2], [0, 1, 2]), ([], []), ([], []), ([5], [5]), ([4, 6], [4, 6]), ([7], [7]), ([3, 8, 0, 1, 2, 3], [3]), ([8, 9, 0, 1, 2, 3, 4, 5, 6, 7, 8, 9], [8]), ([10, 0, 1, 2, 3, 4, 5, 6, 7, 8, 9, 10], [])])
def sum_Next.B10 : List Nat := [0, 0, 0, 7, 0, 0, 32, 112, 240, 511, 1023, 2047]
theorem sum_Next.tab10 : rtab .any (opsOf Try.f10 10) = sum_Next.T10 := by kernel_rfl
theorem sum_Next.bits10 : waitsOk sum_Next.T10.2 sum_Next.B10 = true := by kernel_rfl
set_option maxHeartbeats 8000000 in
set_option maxRecDepth 100000 in
theorem sum_Next.calls (k : Nat) (A0 : Option Addr) (c0 : Nat) (l0 : List Int) (r1 : List Int) (r2 : List Int) (r3 : Int) (w : World) (hr0 : Kd.C (Kd.int .u8) w A0 l0.length l0) (hc0 : l0.length ≤ c0) (h : sum_Next.f k l0 = some (r1, r2, r3)) :
    Calls Try.prog 10 #[.slice A0 l0.length c0] w fun e w' => ∃ v0_ v1_ : Value, e = .returned (.tuple #[v0_, v1_, .int .i64 r3]) ∧ Kd.V (Kd.int .u8) 5 w' w.heap.size (fun k_ => (w.heap.size ≤ k_) ∧ some k_ ≠ (v1_ : Value).ownBlock) v0_ r1 ∧ Kd.R (Kd.int .u8) 5 w' w.heap.size (fun k_ => (w.heap.size ≤ k_)) v1_ r2 ∧ Below w.heap.size w w' := by
  have HR0 := Aside0.mk hr0
  have HC0 := Aside0.mk hc0
  clear hr0 hc0
  have HB := Aside0.mk (Below.refl w.heap.size w)
  have H : ((sum_begun.f l0).bind fun t134 => (if t134 = true then (some (([] : List Int), ([] : List Int), 1)) else ((codec_Take.f k l0).bind fun bt135 => (if bt135.2.2 = true then (sum_Next.j0 k bt135.1 bt135.2.1 (decide (bt135.1 > 65536))) else (sum_Next.j0 k bt135.1 bt135.2.1 true))))) = some (r1, r2, r3) := h
  clear h
  replace H := Option.bind_eq_some_iff.mp H
  obtain ⟨t134, A20, H⟩ := H
  replace H : (if t134 = true then (some (([] : List Int), ([] : List Int), 1)) else ((codec_Take.f k l0).bind fun bt135 => (if bt135.2.2 = true then (sum_Next.j0 k bt135.1 bt135.2.1 (decide (bt135.1 > 65536))) else (sum_Next.j0 k bt135.1 bt135.2.1 true)))) = some (r1, r2, r3) := H
  have A2 := Aside0.mk A20
  clear A20
  by_cases c3 : t134 = true
  · subst c3
    have H1 : (some (([] : List Int), ([] : List Int), 1)) = some (r1, r2, r3) := by rw [if_pos rfl] at H; exact H
    clear H
    have H := H1
    clear H1
    simp only [Option.some.injEq, Prod.mk.injEq] at H
    obtain ⟨rfl, rfl, rfl⟩ := H
    go_enter Try.func10, Try.ntmps10
    go_wp2_with (first | ((with_reducible refine gate_callee (f := 24) rfl ?_); refine goesL_ (some 9) rfl rfl Try.func24 (by kernel_rfl) rfl #[.slice A0 l0.length c0] rfl (by (try simp only [List.map_toArray, List.map_cons, List.map_nil]); first | done | rfl | (simp only [List.length_drop, List.length_take]; rfl)) ?_; (with_reducible refine (sum_begun.calls _ _ l0 true _ ?side1 ?side2 A2.out).mono ?_); (case side1 => repeat (first | exact HR0.out | (with_reducible refine Kd.C_alloc ?_ _) | (with_reducible refine Kd.C_drewN ?_ _) | (with_reducible refine Kd.C_drew ?_))); (case side2 => exact HC0.out); rintro e w' ⟨rfl, ⟨nd, rfl⟩⟩; refine ⟨_, rfl, ?_⟩))
    go_ret3
    exact ⟨_, _, by first | rfl | (simp [errW_none, errW_some] <;> rfl) | (simp [*, errW_none, errW_some] <;> rfl), (by first | exact Kd.V_nil _ _ _ _ _ | exact Kd.R_nil _ _ _ _ _ | exact Kd.N_nil _ _ _ _ _ | exact Kd.V_nil _ _ _ _ _ | exact Kd.Q_nil _ _ _ _ _ | exact Kd.S_nil _ _ _ _ _), by first | exact Kd.R_nil _ _ _ _ _ | exact Kd.N_nil _ _ _ _ _ | exact Kd.V_nil _ _ _ _ _ | exact Kd.Q_nil _ _ _ _ _ | exact Kd.S_nil _ _ _ _ _, by repeat (first | (with_reducible first | exact HB.out | apply below_alloc | apply pw_below_drewN | apply below_drew1) | exact HB.out)⟩
  · replace c3 := Bool.eq_false_iff.mpr c3
    subst c3
    have H1 : ((codec_Take.f k l0).bind fun bt135 => (if bt135.2.2 = true then (sum_Next.j0 k bt135.1 bt135.2.1 (decide (bt135.1 > 65536))) else (sum_Next.j0 k bt135.1 bt135.2.1 true))) = some (r1, r2, r3) := by rw [if_neg (show ¬ (false = true) by decide)] at H; exact H
    clear H
    have H := H1
    clear H1
    replace H := Option.bind_eq_some_iff.mp H
    obtain ⟨⟨t135, t136, t137⟩, A40, H⟩ := H
    replace H : (if t137 = true then (sum_Next.j0 k t135 t136 (decide (t135 > 65536))) else (sum_Next.j0 k t135 t136 true)) = some (r1, r2, r3) := H
    have A4 := Aside0.mk A40
    clear A40
    have HC5 := Aside0.mk H
    clear H
    go_enter Try.func10, Try.ntmps10
    go_upto_region 4 with (first | ((with_reducible refine gate_callee (f := 24) rfl ?_); refine goesL_ (some 9) rfl rfl Try.func24 (by kernel_rfl) rfl #[.slice A0 l0.length c0] rfl (by (try simp only [List.map_toArray, List.map_cons, List.map_nil]); first | done | rfl | (simp only [List.length_drop, List.length_take]; rfl)) ?_; (with_reducible refine (sum_begun.calls _ _ l0 false _ ?side1 ?side2 A2.out).mono ?_); (case side1 => repeat (first | exact HR0.out | (with_reducible refine Kd.C_alloc ?_ _) | (with_reducible refine Kd.C_drewN ?_ _) | (with_reducible refine Kd.C_drew ?_))); (case side2 => exact HC0.out); rintro e w' ⟨rfl, ⟨nd, rfl⟩⟩; refine ⟨_, rfl, ?_⟩) | ((with_reducible refine gate_callee (f := 25) rfl ?_); refine goesL_ (some 12) rfl rfl Try.func25 (by kernel_rfl) rfl #[.slice A0 l0.length c0] rfl (by (try simp only [List.map_toArray, List.map_cons, List.map_nil]); first | done | rfl | (simp only [List.length_drop, List.length_take]; rfl)) ?_; (with_reducible refine (codec_Take.calls k _ _ l0 t135 t136 t137 _ ?side1 ?side2 A4.out).mono ?_); (case side1 => repeat (first | exact HR0.out | (with_reducible refine Kd.C_alloc ?_ _) | (with_reducible refine Kd.C_drewN ?_ _) | (with_reducible refine Kd.C_drew ?_))); (case side2 => exact HC0.out); rintro e w6 ⟨v138, rfl, ho0, hb⟩; refine ⟨_, rfl, ?_⟩; have n0_ := Aside0.mk (Kd.R_lower (Kd.R_newM (M := fun k_ => (w.heap.size ≤ k_)) ho0 (below_size (by repeat (first | (with_reducible first | exact HB.out | apply below_alloc | apply pw_below_drewN | apply below_drew1) | exact HB.out))) (fun k_ h_ => h_)) (below_size (by repeat (first | (with_reducible first | exact HB.out | apply below_alloc | apply pw_below_drewN | apply below_drew1) | exact HB.out)))); have n1_ := Aside0.mk (below_step (by repeat (first | (with_reducible first | exact HB.out | apply below_alloc | apply pw_below_drewN | apply below_drew1) | exact HB.out)) hb); clear HB; have HO139 := n0_; have HB := n1_; clear n0_ n1_; (try clear hb); (try clear hb2); (try clear hk); (try clear hi); (try clear ho0)))
    (try simp only [Act.put, List.setIfInBounds_toArray, List.set_cons_zero, List.set_cons_succ])
    go_cut [16] (fun v16 wc => ∃ (kq : Nat) (x16_4 : Bool), v16 = .bool x16_4 ∧ Aside0 (sum_Next.j0 kq t135 t136 x16_4 = some (r1, r2, r3)) ∧ Aside0 (kq ≤ k) ∧ Aside0 (Kd.R (Kd.int .u8) 5 wc w.heap.size (fun k_ => (w.heap.size ≤ k_)) v138 t136) ∧ Aside0 (Below w.heap.size w wc))
    case first =>
      have H := HC5.out
      clear HC5
      by_cases c7 : t137 = true
      · subst c7
        have H1 : (sum_Next.j0 k t135 t136 (decide (t135 > 65536))) = some (r1, r2, r3) := by rw [if_pos rfl] at H; exact H
        clear H
        have H := H1
        clear H1
        have H' := Aside0.mk H
        clear H
        go_wp2
        go_meet
        case rel => exact ⟨_, (decide (t135 > 65536)), (by first | rfl | (simp; done) | (simp [*]; done)), H', ⟨by first | omega | exact Nat.le_refl _⟩, ⟨by (with_reducible repeat (first | apply Kd.R_alloc | apply Kd.R_drewN | apply Kd.R_drew)); exact Kd.R_mono HO139.out (fun _ hk => hk.1)⟩, ⟨by repeat (first | (with_reducible first | exact HB.out | apply below_alloc | apply pw_below_drewN | apply below_drew1) | exact HB.out)⟩⟩
      · replace c7 := Bool.eq_false_iff.mpr c7
        subst c7
        have H1 : (sum_Next.j0 k t135 t136 true) = some (r1, r2, r3) := by rw [if_neg (show ¬ (false = true) by decide)] at H; exact H
        clear H
        have H := H1
        clear H1
        have H' := Aside0.mk H
        clear H
        go_wp2
        go_meet
        case rel => exact ⟨_, (true), (by first | rfl | (simp; done) | (simp [*]; done)), H', ⟨by first | omega | exact Nat.le_refl _⟩, ⟨by (with_reducible repeat (first | apply Kd.R_alloc | apply Kd.R_drewN | apply Kd.R_drew)); exact Kd.R_mono HO139.out (fun _ hk => hk.1)⟩, ⟨by repeat (first | (with_reducible first | exact HB.out | apply below_alloc | apply pw_below_drewN | apply below_drew1) | exact HB.out)⟩⟩
    case rest =>
      clear HC5
      try clear c1
      try clear c2
      try clear p2
      try clear c3
      try clear c7
      obtain ⟨kq, x16_4, rfl, HA, HJ4, HO_6, HB⟩ := hcut
      cases kq with
      | zero => exact absurd HA.out (by simp [sum_Next.j0])
      | succ kj4 =>
        have H := HA.out
        clear HA
        simp only [sum_Next.j0] at H
        by_cases c8 : x16_4 = true
        · subst c8
          have H1 : (some (([] : List Int), ([] : List Int), 2)) = some (r1, r2, r3) := by rw [if_pos rfl] at H; exact H
          clear H
          have H := H1
          clear H1
          simp only [Option.some.injEq, Prod.mk.injEq] at H
          obtain ⟨rfl, rfl, rfl⟩ := H
          go_wp2
          go_ret3
          exact ⟨_, _, by first | rfl | (simp [errW_none, errW_some] <;> rfl) | (simp [*, errW_none, errW_some] <;> rfl), (by first | exact Kd.V_nil _ _ _ _ _ | exact Kd.R_nil _ _ _ _ _ | exact Kd.N_nil _ _ _ _ _ | exact Kd.V_nil _ _ _ _ _ | exact Kd.Q_nil _ _ _ _ _ | exact Kd.S_nil _ _ _ _ _), by first | exact Kd.R_nil _ _ _ _ _ | exact Kd.N_nil _ _ _ _ _ | exact Kd.V_nil _ _ _ _ _ | exact Kd.Q_nil _ _ _ _ _ | exact Kd.S_nil _ _ _ _ _, by repeat (first | (with_reducible first | exact HB.out | apply below_alloc | apply pw_below_drewN | apply below_drew1) | exact HB.out)⟩
        · replace c8 := Bool.eq_false_iff.mpr c8
          subst c8
          have H1 : (if (t136.length : Int) < (wrap64 (t135 + 4)) then (some (([] : List Int), ([] : List Int), 1)) else (if 0 ≤ t135 then (if t135 ≤ (t136.length : Int) then ((sum_ending.f kj4 (t136.take (t135 : Int).toNat)).bind fun t144 => (if t135 ≤ (wrap64 (t135 + 4)) then (if (wrap64 (t135 + 4)) ≤ (t136.length : Int) then ((bytes_Equal.f t144 ((t136.take ((wrap64 (t135 + 4)) : Int).toNat).drop (t135 : Int).toNat)).bind fun t151 => (if t151 = true then (if 0 ≤ (wrap64 (t135 + 4)) then ((slices_Clone_byte_byte.f (t136.drop ((wrap64 (t135 + 4)) : Int).toNat)).bind fun t161 => (some ((t136.take (t135 : Int).toNat), t161, 0))) else (none)) else (some (([] : List Int), ([] : List Int), 2)))) else (none)) else (none))) else (none)) else (none))) = some (r1, r2, r3) := by rw [if_neg (show ¬ (false = true) by decide)] at H; exact H
          clear H
          have H := H1
          clear H1
          by_cases c9 : (t136.length : Int) < (wrap64 (t135 + 4))
          · rw [if_pos c9] at H
            have c9b0 : decide ((t136.length : Int) < (wrap64 (t135 + 4))) = true := decide_eq_true c9
            clear c9
            simp only [Option.some.injEq, Prod.mk.injEq] at H
            obtain ⟨rfl, rfl, rfl⟩ := H
            obtain ⟨Ao10, co10, eo10⟩ := Kd.R_slice HO_6.out
            subst eo10
            go_wp2
            go_ret3
            exact ⟨_, _, by first | rfl | (simp [errW_none, errW_some] <;> rfl) | (simp [*, errW_none, errW_some] <;> rfl), (by first | exact Kd.V_nil _ _ _ _ _ | exact Kd.R_nil _ _ _ _ _ | exact Kd.N_nil _ _ _ _ _ | exact Kd.V_nil _ _ _ _ _ | exact Kd.Q_nil _ _ _ _ _ | exact Kd.S_nil _ _ _ _ _), by first | exact Kd.R_nil _ _ _ _ _ | exact Kd.N_nil _ _ _ _ _ | exact Kd.V_nil _ _ _ _ _ | exact Kd.Q_nil _ _ _ _ _ | exact Kd.S_nil _ _ _ _ _, by repeat (first | (with_reducible first | exact HB.out | apply below_alloc | apply pw_below_drewN | apply below_drew1) | exact HB.out)⟩
          · rw [if_neg c9] at H
            have c9b0 : decide ((t136.length : Int) < (wrap64 (t135 + 4))) = false := decide_eq_false c9
            clear c9
            by_cases c11 : 0 ≤ t135
            · rw [if_pos c11] at H
              have c11b0 := eq_true c11
              have c11b1 : decide (0 ≤ t135) = true := decide_eq_true c11
              clear c11
              by_cases c12 : t135 ≤ (t136.length : Int)
              · rw [if_pos c12] at H
                have c12b0 := eq_true c12
                have c12b1 : decide (t135 ≤ (t136.length : Int)) = true := decide_eq_true c12
                clear c12
                obtain ⟨y140, hy140⟩ : ∃ y_ : List Int, y_ = (t136.take (t135 : Int).toNat) := ⟨_, rfl⟩
                replace H : ((sum_ending.f kj4 y140).bind fun t144 => (if t135 ≤ (wrap64 (t135 + 4)) then (if (wrap64 (t135 + 4)) ≤ (t136.length : Int) then ((bytes_Equal.f t144 ((t136.take ((wrap64 (t135 + 4)) : Int).toNat).drop (t135 : Int).toNat)).bind fun t151 => (if t151 = true then (if 0 ≤ (wrap64 (t135 + 4)) then ((slices_Clone_byte_byte.f (t136.drop ((wrap64 (t135 + 4)) : Int).toNat)).bind fun t161 => (some ((t136.take (t135 : Int).toNat), t161, 0))) else (none)) else (some (([] : List Int), ([] : List Int), 2)))) else (none)) else (none))) = some (r1, r2, r3) := by first | (rw [hy140]; with_reducible exact H) | (have H2_ := (Option.bind_some _ _).symm.trans H; rw [hy140]; with_reducible exact H2_) | (have H2_ := (Option.bind_some _ _).symm.trans H; with_reducible exact H2_) | with_reducible exact H | (rw [hy140]; exact H) | exact H
                have Ny140 := Aside0.mk hy140
                clear hy140
                replace H := Option.bind_eq_some_iff.mp H
                obtain ⟨t144, A130, H⟩ := H
                replace H : (if t135 ≤ (wrap64 (t135 + 4)) then (if (wrap64 (t135 + 4)) ≤ (t136.length : Int) then ((bytes_Equal.f t144 ((t136.take ((wrap64 (t135 + 4)) : Int).toNat).drop (t135 : Int).toNat)).bind fun t151 => (if t151 = true then (if 0 ≤ (wrap64 (t135 + 4)) then ((slices_Clone_byte_byte.f (t136.drop ((wrap64 (t135 + 4)) : Int).toNat)).bind fun t161 => (some ((t136.take (t135 : Int).toNat), t161, 0))) else (none)) else (some (([] : List Int), ([] : List Int), 2)))) else (none)) else (none)) = some (r1, r2, r3) := H
                have A13 := Aside0.mk A130
                clear A130
                have c14b0 := eq_true (of_decide_eq_true (by first | (with_reducible assumption) | assumption) : 0 ≤ t135)
                by_cases c15 : t135 ≤ (wrap64 (t135 + 4))
                · rw [if_pos c15] at H
                  have c15b0 := eq_true c15
                  have c15b1 : decide (t135 ≤ (wrap64 (t135 + 4))) = true := decide_eq_true c15
                  by_cases c16 : (wrap64 (t135 + 4)) ≤ (t136.length : Int)
                  · rw [if_pos c16] at H
                    have c16b0 := eq_true c16
                    have c16b1 : decide ((wrap64 (t135 + 4)) ≤ (t136.length : Int)) = true := decide_eq_true c16
                    obtain ⟨y147, hy147⟩ : ∃ y_ : List Int, y_ = ((t136.take ((wrap64 (t135 + 4)) : Int).toNat).drop (t135 : Int).toNat) := ⟨_, rfl⟩
                    replace H : ((bytes_Equal.f t144 y147).bind fun t151 => (if t151 = true then (if 0 ≤ (wrap64 (t135 + 4)) then ((slices_Clone_byte_byte.f (t136.drop ((wrap64 (t135 + 4)) : Int).toNat)).bind fun t161 => (some ((t136.take (t135 : Int).toNat), t161, 0))) else (none)) else (some (([] : List Int), ([] : List Int), 2)))) = some (r1, r2, r3) := by first | (rw [hy147]; with_reducible exact H) | (have H2_ := (Option.bind_some _ _).symm.trans H; rw [hy147]; with_reducible exact H2_) | (have H2_ := (Option.bind_some _ _).symm.trans H; with_reducible exact H2_) | with_reducible exact H | (rw [hy147]; exact H) | exact H
                    have Ny147 := Aside0.mk hy147
                    clear hy147
                    replace H := Option.bind_eq_some_iff.mp H
                    obtain ⟨t151, A170, H⟩ := H
                    replace H : (if t151 = true then (if 0 ≤ (wrap64 (t135 + 4)) then ((slices_Clone_byte_byte.f (t136.drop ((wrap64 (t135 + 4)) : Int).toNat)).bind fun t161 => (some ((t136.take (t135 : Int).toNat), t161, 0))) else (none)) else (some (([] : List Int), ([] : List Int), 2))) = some (r1, r2, r3) := H
                    have A17 := Aside0.mk A170
                    clear A170
                    by_cases c18 : t151 = true
                    · subst c18
                      have H1 : (if 0 ≤ (wrap64 (t135 + 4)) then ((slices_Clone_byte_byte.f (t136.drop ((wrap64 (t135 + 4)) : Int).toNat)).bind fun t161 => (some ((t136.take (t135 : Int).toNat), t161, 0))) else (none)) = some (r1, r2, r3) := by rw [if_pos rfl] at H; exact H
                      clear H
                      have H := H1
                      clear H1
                      have c19b0 := eq_true (of_decide_eq_true (by first | (with_reducible assumption) | assumption) : 0 ≤ t135)
                      have c20b0 := eq_true (of_decide_eq_true (by first | (with_reducible assumption) | assumption) : t135 ≤ (t136.length : Int))
                      obtain ⟨y152, hy152⟩ : ∃ y_ : List Int, y_ = (t136.take (t135 : Int).toNat) := ⟨_, rfl⟩
                      replace H : (if 0 ≤ (wrap64 (t135 + 4)) then ((slices_Clone_byte_byte.f (t136.drop ((wrap64 (t135 + 4)) : Int).toNat)).bind fun t161 => (some (y152, t161, 0))) else (none)) = some (r1, r2, r3) := by first | (rw [hy152]; with_reducible exact H) | (have H2_ := (Option.bind_some _ _).symm.trans H; rw [hy152]; with_reducible exact H2_) | (have H2_ := (Option.bind_some _ _).symm.trans H; with_reducible exact H2_) | with_reducible exact H | (rw [hy152]; exact H) | exact H
                      have Ny152 := Aside0.mk hy152
                      clear hy152
                      obtain ⟨ji21, hji21⟩ : ∃ j_ : Int, (wrap64 (t135 + 4)) = j_ := ⟨_, rfl⟩
                      replace H : (if 0 ≤ (ji21) then ((slices_Clone_byte_byte.f (t136.drop ((ji21) : Int).toNat)).bind fun t161 => (some (y152, t161, 0))) else (none)) = some (r1, r2, r3) := by first | (rw [hji21] at H; exact H) | (simp only [hji21] at H ⊢; exact H)
                      (try rw [hji21] at c9b0)
                      (try rw [hji21] at c15b0)
                      (try rw [hji21] at c15b1)
                      (try rw [hji21] at c15)
                      (try rw [hji21] at c16b0)
                      (try rw [hji21] at c16b1)
                      (try rw [hji21] at c16)
                      (try rw [hji21] at A13)
                      (try rw [hji21] at Ny147)
                      (try rw [hji21] at A17)
                      have hji21w : (IntKind.i64.wrap (t135 + 4)) = ji21 := (i64_w _).trans hji21
                      by_cases c22 : 0 ≤ (ji21)
                      · rw [if_pos c22] at H
                        have c22b0 := eq_true c22
                        have c22b1 : decide (0 ≤ (ji21)) = true := decide_eq_true c22
                        clear c22
                        have c23b0 := eq_true (of_decide_eq_true (by first | (with_reducible assumption) | assumption) : (ji21) ≤ (t136.length : Int))
                        obtain ⟨y157, hy157⟩ : ∃ y_ : List Int, y_ = (t136.drop ((ji21) : Int).toNat) := ⟨_, rfl⟩
                        replace H : ((slices_Clone_byte_byte.f y157).bind fun t161 => (some (y152, t161, 0))) = some (r1, r2, r3) := by first | (rw [hy157]; with_reducible exact H) | (have H2_ := (Option.bind_some _ _).symm.trans H; rw [hy157]; with_reducible exact H2_) | (have H2_ := (Option.bind_some _ _).symm.trans H; with_reducible exact H2_) | with_reducible exact H | (rw [hy157]; exact H) | exact H
                        have Ny157 := Aside0.mk hy157
                        clear hy157
                        replace H := Option.bind_eq_some_iff.mp H
                        obtain ⟨t161, A240, H⟩ := H
                        replace H : (some (y152, t161, 0)) = some (r1, r2, r3) := H
                        have A24 := Aside0.mk A240
                        clear A240
                        simp only [Option.some.injEq, Prod.mk.injEq] at H
                        obtain ⟨rfl, rfl, rfl⟩ := H
                        obtain ⟨Ao25, co25, eo25⟩ := Kd.R_slice HO_6.out
                        subst eo25
                        try go_wp2
                        have n0_ := Aside0.mk (Kd.R_drew HO_6.out)
                        have n1_ := Aside0.mk (below_drew1 HB.out)
                        clear HO_6
                        clear HB
                        have HO_6 := n0_
                        have HB := n1_
                        clear n0_ n1_
                        have q27 : (t135 : Int) ≤ ((t136.length : Int) : Int) := of_decide_eq_true (by first | (with_reducible assumption) | assumption)
                        obtain ⟨i027, hi027, _, hsz27, _⟩ := info_parts info5
                        have hroom27 : t136.length ≤ co25 := (Kd.R_reads' HO_6.out).2.1
                        have hC27 : Kd.C (Kd.int .u8) _ Ao25 t136.length t136 := (Kd.R_reads' HO_6.out).2.2
                        have hcut27 := cut_to (P := Try.prog) 22 5 .i64 Try.underlying22 hi027 Ao25 t136.length co25 t135 (of_decide_eq_true (by first | (with_reducible assumption) | assumption)) q27 hroom27
                        have hr27 := Kd.C_take (m := (t135 : Int).toNat) hC27 (by omega)
                        have hy27 : y140.length = (t135 : Int).toNat := (by rw [Ny140.out, List.length_take]; omega)
                        rw [← Ny140.out] at hr27
                        rw [← hy27] at hcut27
                        have HR143 := Aside0.mk hr27
                        have HC143 := Aside0.mk (show y140.length ≤ co25 from by omega)
                        clear hr27 hC27 hroom27 hi027 hsz27
                        have KY27 := Aside0.mk hy27
                        clear hy27
                        have KL27 := Aside0.mk (show (t135 : Int).toNat ≤ t136.length from by omega)
                        replace q27 := eq_true q27
                        have q28 : ((ji21) : Int) ≤ ((t136.length : Int) : Int) := of_decide_eq_true (by first | (with_reducible assumption) | assumption)
                        obtain ⟨i028, hi028, _, hsz28, _⟩ := info_parts info5
                        have hroom28 : t136.length ≤ co25 := (Kd.R_reads' HO_6.out).2.1
                        have hC28 : Kd.C (Kd.int .u8) _ Ao25 t136.length t136 := (Kd.R_reads' HO_6.out).2.2
                        have ql28 : (t135 : Int) ≤ ((ji21) : Int) := of_decide_eq_true (by first | (with_reducible assumption) | assumption)
                        have q028 : (0 : Int) ≤ (t135 : Int) := of_decide_eq_true (by first | (with_reducible assumption) | assumption)
                        have hcut28 := cut_mid (P := Try.prog) 22 5 .i64 .i64 Try.underlying22 hi028 1 hsz28 Ao25 t136.length co25 t135 (ji21) q028 ql28 q28 hroom28
                        have hr28 := Kd.C_mid (lo := (t135 : Int).toNat) (hi := ((ji21) : Int).toNat) (c := co25) hC28 (by omega) (by omega) hroom28
                        obtain ⟨A28, hA28⟩ : ∃ A1, A1 = (if co25 = (t135 : Int).toNat then Ao25 else (Ao25 : Option Addr).map (·.add ((t135 : Int).toNat * 1))) := ⟨_, rfl⟩
                        obtain ⟨c28, hc28⟩ : ∃ c1, c1 = co25 - (t135 : Int).toNat := ⟨_, rfl⟩
                        have hy28 : y147.length = ((ji21) : Int).toNat - (t135 : Int).toNat := (by rw [Ny147.out, List.length_drop, List.length_take] <;> omega)
                        rw [show ((t136).take ((ji21) : Int).toNat).drop (t135 : Int).toNat = y147 from Ny147.out.symm] at hr28
                        replace hr28 : Kd.C (Kd.int .u8) _ A28 y147.length y147 := (by rw [hA28]; exact hr28)
                        rw [← hy28, ← hA28, ← hc28] at hcut28
                        have HR150 := Aside0.mk hr28
                        have HC150 := Aside0.mk (show y147.length ≤ c28 from by rw [hy28, hc28]; exact Nat.sub_le_sub_right (Nat.le_trans (by omega) hroom28) _)
                        clear hr28 hC28 hroom28 hi028 hsz28 hc28
                        have KY28 := Aside0.mk hy28
                        have KA28 := Aside0.mk hA28
                        clear hy28 hA28
                        have KL28 := Aside0.mk (show ((ji21) : Int).toNat ≤ t136.length from by omega)
                        have KM28 := Aside0.mk (show (t135 : Int).toNat ≤ ((ji21) : Int).toNat from by omega)
                        replace q28 := eq_true q28
                        refine start_ (n := 12) (S := fun w' => True) (ds := []) #[false, false, false, false, false, false, false, false, false, false, false, false] (by kernel_rfl) rfl rfl trivial (fun hHeld => ?_); refine with_tabW sum_Next.tab8 sum_Next.bits8 (fun HT_ HW_ => ?_)
                        generalize wc.drew = w26 at HO_6 HB HR143 HR150 hHeld ⊢
                        refine pure_ (i := 0) (N := some 30) (v := ?_) (a' := ?_) #[true, false, false, false, false, false, false, false, false, false, false, false] rfl rfl (any_of HT_.out (by kernel_rfl)) (fun _ _ _ h => h) (Or.inl ⟨by rfl, ?_⟩) ?_ ?_
                        rotate_left
                        · intro w'
                          go_simp
                          with_reducible rfl
                        rotate_left
                        · simp only [Act.put, List.setIfInBounds_toArray, List.set_cons_zero, List.set_cons_succ, i64_w, i32_w]
                          rfl
                        refine pure_ (i := 1) (N := some 31) (v := ?_) (a' := ?_) #[true, true, false, false, false, false, false, false, false, false, false, false] rfl rfl (any_of HT_.out (by kernel_rfl)) (fun _ _ _ h => h) (Or.inl ⟨by rfl, ?_⟩) ?_ ?_
                        rotate_left
                        · intro w'
                          go_simp
                          with_reducible rfl
                        rotate_left
                        · simp only [Act.put, List.setIfInBounds_toArray, List.set_cons_zero, List.set_cons_succ, i64_w, i32_w]
                          rfl
                        refine pure_ (i := 2) (N := some 32) (v := ?_) (a' := ?_) #[true, true, true, false, false, false, false, false, false, false, false, false] rfl rfl (any_of HT_.out (by kernel_rfl)) (fun _ _ _ h => h) (Or.inl ⟨by rfl, ?_⟩) ?_ ?_
                        rotate_left
                        · intro w'
                          go_simp
                          with_reducible rfl
                        rotate_left
                        · simp only [Act.put, List.setIfInBounds_toArray, List.set_cons_zero, List.set_cons_succ, i64_w, i32_w]
                          rfl
                        refine pure_ (i := 4) (N := some 34) (v := ?_) (a' := ?_) #[true, true, true, false, true, false, false, false, false, false, false, false] rfl rfl (any_of HT_.out (by kernel_rfl)) (fun _ _ _ h => h) (Or.inl ⟨by rfl, ?_⟩) ?_ ?_
                        rotate_left
                        · intro w'
                          go_simp
                          with_reducible rfl
                        rotate_left
                        · simp only [Act.put, List.setIfInBounds_toArray, List.set_cons_zero, List.set_cons_succ, i64_w, i32_w]
                          rfl
                        refine pure_ (i := 5) (N := some 35) (v := ?_) (a' := ?_) #[true, true, true, false, true, true, false, false, false, false, false, false] rfl rfl (any_of HT_.out (by kernel_rfl)) (fun _ _ _ h => h) (Or.inl ⟨by rfl, ?_⟩) ?_ ?_
                        rotate_left
                        · intro w'
                          go_simp
                          with_reducible rfl
                        rotate_left
                        · simp only [Act.put, List.setIfInBounds_toArray, List.set_cons_zero, List.set_cons_succ, i64_w, i32_w]
                          rfl
                        refine pure_ (i := 6) (N := some 36) (v := ?_) (a' := ?_) #[true, true, true, false, true, true, true, false, false, false, false, false] rfl rfl (any_of HT_.out (by kernel_rfl)) (fun _ _ _ h => h) (Or.inl ⟨by rfl, ?_⟩) ?_ ?_
                        rotate_left
                        · intro w'
                          go_simp
                          with_reducible rfl
                        rotate_left
                        · simp only [Act.put, List.setIfInBounds_toArray, List.set_cons_zero, List.set_cons_succ, i64_w, i32_w]
                          rfl
                        refine pure_ (i := 7) (N := some 37) (v := ?_) (a' := ?_) #[true, true, true, false, true, true, true, true, false, false, false, false] rfl rfl (any_of HT_.out (by kernel_rfl)) (fun _ _ _ h => h) (Or.inl ⟨by rfl, ?_⟩) ?_ ?_
                        rotate_left
                        · intro w'
                          go_simp
                          with_reducible rfl
                        rotate_left
                        · simp only [Act.put, List.setIfInBounds_toArray, List.set_cons_zero, List.set_cons_succ, i64_w, i32_w]
                          rfl
                        refine pure_ (i := 8) (N := some 38) (v := ?_) (a' := ?_) #[true, true, true, false, true, true, true, true, true, false, false, false] rfl rfl (any_of HT_.out (by kernel_rfl)) (fun _ _ _ h => h) (Or.inl ⟨by rfl, ?_⟩) ?_ ?_
                        rotate_left
                        · intro w'
                          go_simp
                          with_reducible rfl
                        rotate_left
                        · simp only [Act.put, List.setIfInBounds_toArray, List.set_cons_zero, List.set_cons_succ, i64_w, i32_w]
                          rfl
                        refine one_ (i := 3) (N := some 33) #[true, true, true, true, true, true, true, true, true, false, false, false] rfl rfl (one_of HT_.out (by kernel_rfl)) (by decide) (fun K hK => ?_)
                        refine goes_ Try.func23 (by kernel_rfl) rfl #[.slice Ao25 y140.length co25] (by rfl) rfl rfl (by (try simp only [List.map_toArray, List.map_cons, List.map_nil]); first | done | rfl | (simp only [List.length_drop, List.length_take]; rfl)) ?_
                        with_reducible refine (sum_ending.calls kj4 _ _ y140 t144 _ ?side1 ?side2 A13.out).mono ?_
                        (case side1 => repeat (first | exact (by repeat (first | (with_reducible exact HR143.out) | (with_reducible refine Kd.C_alloc ?_ _) | (with_reducible refine Kd.C_drewN ?_ _) | (with_reducible refine Kd.C_drew ?_) | exact HR143.out)) | (with_reducible refine Kd.C_alloc ?_ _) | (with_reducible refine Kd.C_drewN ?_ _) | (with_reducible refine Kd.C_drew ?_)))
                        (case side2 => exact HC143.out)
                        rintro e w29 ⟨v145, rfl, ho0, hb⟩
                        refine ⟨_, rfl, ?_⟩
                        have n0_ := Aside0.mk (Kd.R_elder' (by (with_reducible repeat (first | apply Kd.R_alloc | apply Kd.R_drewN | apply Kd.R_drew)); exact HO_6.out) (Kd.R_base ho0) hb)
                        have n1_ := Aside0.mk (Kd.R_lower (Kd.R_new' (Kd.R_newM (M := fun k_ => (w.heap.size ≤ k_)) ho0 (below_size (by repeat (first | (with_reducible first | exact HB.out | apply below_alloc | apply pw_below_drewN | apply below_drew1) | exact HB.out))) (fun k_ h_ => h_)) (Kd.R_lt (by (with_reducible repeat (first | apply Kd.R_alloc | apply Kd.R_drewN | apply Kd.R_drew)); exact HO_6.out))) (below_size (by repeat (first | (with_reducible first | exact HB.out | apply below_alloc | apply pw_below_drewN | apply below_drew1) | exact HB.out))))
                        have n2_ := Aside0.mk (Kd.C_below (by repeat (first | (with_reducible exact HR143.out) | (with_reducible refine Kd.C_alloc ?_ _) | (with_reducible refine Kd.C_drewN ?_ _) | (with_reducible refine Kd.C_drew ?_) | exact HR143.out)) hb)
                        have n3_ := Aside0.mk (Kd.C_below (by repeat (first | (with_reducible exact HR150.out) | (with_reducible refine Kd.C_alloc ?_ _) | (with_reducible refine Kd.C_drewN ?_ _) | (with_reducible refine Kd.C_drew ?_) | exact HR150.out)) hb)
                        have n4_ := Aside0.mk (below_step (by repeat (first | (with_reducible first | exact HB.out | apply below_alloc | apply pw_below_drewN | apply below_drew1) | exact HB.out)) hb)
                        clear HO_6
                        clear HR143
                        clear HR150
                        clear HB
                        have HO_6 := n0_
                        have HO146 := n1_
                        have HR143 := n2_
                        have HR150 := n3_
                        have HB := n4_
                        clear n0_ n1_ n2_ n3_ n4_
                        (try clear hb)
                        (try clear hb2)
                        (try clear hk)
                        (try clear hi)
                        (try clear ho0)
                        obtain ⟨Ao30, co30, eo30⟩ := Kd.R_slice HO146.out
                        (first | subst eo30 | (injection eo30 with f1_ f2_ f3_; have f4_ := f1_.symm; have f5_ := f3_.symm; clear f1_ f2_ f3_; subst f4_; subst f5_))
                        refine hK.out _ _ trivial (fun hHeld => ?_)
                        clear hK K
                        refine norm_ (a' := ?_) ?_ ?_
                        rotate_left
                        · show Act.put _ (some 33) _ = _
                          simp only [Act.put, List.setIfInBounds_toArray, List.set_cons_zero, List.set_cons_succ, i64_w, i32_w]
                          rfl
                        refine one_ (i := 9) (N := some 39) #[true, true, true, true, true, true, true, true, true, true, false, false] rfl rfl (one_of HT_.out (by kernel_rfl)) (by decide) (fun K hK => ?_)
                        refine goes_ Try.func26 (by kernel_rfl) rfl #[.slice Ao30 t144.length co30, .slice A28 y147.length c28] (by rfl) rfl rfl (by (try simp only [List.map_toArray, List.map_cons, List.map_nil]); first | done | rfl | (simp only [List.length_drop, List.length_take]; rfl)) ?_
                        with_reducible refine (bytes_Equal.calls _ _ t144 _ _ y147 true _ ?side1 ?side2 ?side3 ?side4 A17.out).mono ?_
                        (case side1 => repeat (first | exact (Kd.R_reads' HO146.out).2.2 | (with_reducible refine Kd.C_alloc ?_ _) | (with_reducible refine Kd.C_drewN ?_ _) | (with_reducible refine Kd.C_drew ?_)))
                        (case side2 => exact (Kd.R_reads' HO146.out).2.1)
                        (case side3 => repeat (first | exact (by repeat (first | (with_reducible exact HR150.out) | (with_reducible refine Kd.C_alloc ?_ _) | (with_reducible refine Kd.C_drewN ?_ _) | (with_reducible refine Kd.C_drew ?_) | exact HR150.out)) | (with_reducible refine Kd.C_alloc ?_ _) | (with_reducible refine Kd.C_drewN ?_ _) | (with_reducible refine Kd.C_drew ?_)))
                        (case side4 => exact HC150.out)
                        rintro e w' ⟨rfl, ⟨nd, rfl⟩⟩
                        refine ⟨_, rfl, ?_⟩
                        refine hK.out _ _ trivial (fun hHeld => ?_)
                        clear hK K
                        refine norm_ (a' := ?_) ?_ ?_
                        rotate_left
                        · show Act.put _ (some 39) _ = _
                          simp only [Act.put, List.setIfInBounds_toArray, List.set_cons_zero, List.set_cons_succ, i64_w, i32_w]
                          rfl
                        refine pure_ (i := 10) (N := some 40) (v := ?_) (a' := ?_) #[true, true, true, true, true, true, true, true, true, true, true, false] rfl rfl (any_of HT_.out (by kernel_rfl)) (fun _ _ _ h => h) (Or.inl ⟨by rfl, ?_⟩) ?_ ?_
                        rotate_left
                        · intro w'
                          go_simp
                          with_reducible rfl
                        rotate_left
                        · simp only [Act.put, List.setIfInBounds_toArray, List.set_cons_zero, List.set_cons_succ, i64_w, i32_w]
                          rfl
                        refine pure_ (i := 11) (N := some 29) (v := ?_) (a' := ?_) #[true, true, true, true, true, true, true, true, true, true, true, true] rfl rfl (any_of HT_.out (by kernel_rfl)) (fun _ _ _ h => h) (Or.inl ⟨by rfl, ?_⟩) ?_ ?_
                        rotate_left
                        · intro w'
                          go_simp
                          with_reducible rfl
                        rotate_left
                        · simp only [Act.put, List.setIfInBounds_toArray, List.set_cons_zero, List.set_cons_succ, i64_w, i32_w]
                          rfl
                        refine done_ (done_of HT_.out (by kernel_rfl)) ?_
                        try go_wp2
                        (try (rw [drewN_self w29]; generalize hq_ : World.drewN w29 _ = w29; have n0_ : Aside0 (Kd.R (Kd.int .u8) 5 w29 w.heap.size (fun k_ => (w.heap.size ≤ k_) ∧ some k_ ≠ (.slice Ao25 t136.length co25 : Value).ownBlock) (.slice Ao30 t144.length co30) t144) := ⟨by rw [← hq_]; exact (by (with_reducible repeat (first | apply Kd.R_alloc | apply Kd.R_drewN | apply Kd.R_drew)); exact Kd.R_mono HO146.out (fun _ hk => ⟨hk.1.1, hk.2⟩))⟩; have n1_ : Aside0 (Kd.R (Kd.int .u8) 5 w29 w.heap.size (fun k_ => (w.heap.size ≤ k_) ∧ some k_ ≠ (.slice Ao30 t144.length co30 : Value).ownBlock) (.slice Ao25 t136.length co25) t136) := ⟨by rw [← hq_]; exact (by (with_reducible repeat (first | apply Kd.R_alloc | apply Kd.R_drewN | apply Kd.R_drew)); exact HO_6.out)⟩; have n2_ : Aside0 (Below w.heap.size w w29) := ⟨by rw [← hq_]; exact (by repeat (first | (with_reducible first | exact HB.out | apply below_alloc | apply pw_below_drewN | apply below_drew1) | exact HB.out))⟩; have n3_ : Aside0 (Kd.C (Kd.int .u8) w29 Ao25 y140.length y140) := ⟨by rw [← hq_]; exact (by repeat (first | (with_reducible exact HR143.out) | (with_reducible refine Kd.C_alloc ?_ _) | (with_reducible refine Kd.C_drewN ?_ _) | (with_reducible refine Kd.C_drew ?_) | exact HR143.out))⟩; have n4_ : Aside0 (Kd.C (Kd.int .u8) w29 A28 y147.length y147) := ⟨by rw [← hq_]; exact (by repeat (first | (with_reducible exact HR150.out) | (with_reducible refine Kd.C_alloc ?_ _) | (with_reducible refine Kd.C_drewN ?_ _) | (with_reducible refine Kd.C_drew ?_) | exact HR150.out))⟩; clear HO146 HO_6 HB HR143 HR150 hq_; have HO146 := n0_; have HO_6 := n1_; have HB := n2_; have HR143 := n3_; have HR150 := n4_; clear n0_ n1_ n2_ n3_ n4_))
                        have n0_ := Aside0.mk (Kd.R_drew HO_6.out)
                        have n1_ := Aside0.mk (Kd.R_drew HO146.out)
                        have n2_ := Aside0.mk (Kd.C_drew HR143.out)
                        have n3_ := Aside0.mk (Kd.C_drew HR150.out)
                        have n4_ := Aside0.mk (below_drew1 HB.out)
                        clear HO_6
                        clear HO146
                        clear HR143
                        clear HR150
                        clear HB
                        have HO_6 := n0_
                        have HO146 := n1_
                        have HR143 := n2_
                        have HR150 := n3_
                        have HB := n4_
                        clear n0_ n1_ n2_ n3_ n4_
                        have q32 : (t135 : Int) ≤ ((t136.length : Int) : Int) := of_decide_eq_true (by first | (with_reducible assumption) | assumption)
                        obtain ⟨i032, hi032, _, hsz32, _⟩ := info_parts info5
                        have hroom32 : t136.length ≤ co25 := (Kd.R_reads' HO_6.out).2.1
                        have hC32 : Kd.F (Kd.int .u8) _ _ Ao25 t136.length t136 := (Kd.V_at (base := w.heap.size) (Kd.R_V HO_6.out)).2.2
                        have hcut32 := cut_cap (P := Try.prog) 22 5 .i64 .i64 Try.underlying22 hi032 Ao25 t136.length co25 t135 (of_decide_eq_true (by first | (with_reducible assumption) | assumption)) q32 hroom32
                        have hr32 := Kd.F_take (m := (t135 : Int).toNat) hC32 (by omega)
                        have hy32 : y152.length = (t135 : Int).toNat := (by rw [Ny152.out, List.length_take]; omega)
                        rw [← Ny152.out] at hr32
                        rw [← hy32] at hcut32
                        have HO156 := Aside0.mk (show Kd.V (Kd.int .u8) 5 _ w.heap.size _ (.slice Ao25 y152.length y152.length) y152 from Kd.V_mk (by omega) hr32)
                        have HC156 := Aside0.mk (show y152.length ≤ y152.length from by omega)
                        clear hr32 hC32 hroom32 hi032 hsz32
                        have KY32 := Aside0.mk hy32
                        clear hy32
                        replace q32 := eq_true q32
                        have q33 : ((ji21) : Int) ≤ ((t136.length : Int) : Int) := of_decide_eq_true (by first | (with_reducible assumption) | assumption)
                        obtain ⟨i033, hi033, _, hsz33, _⟩ := info_parts info5
                        have hroom33 : t136.length ≤ co25 := (Kd.R_reads' HO_6.out).2.1
                        have hC33 : Kd.C (Kd.int .u8) _ Ao25 t136.length t136 := (Kd.R_reads' HO_6.out).2.2
                        have q033 : (0 : Int) ≤ ((ji21) : Int) := of_decide_eq_true (by first | (with_reducible assumption) | assumption)
                        have hcut33 := cut_from (P := Try.prog) 22 5 .i64 Try.underlying22 hi033 1 hsz33 Ao25 t136.length co25 (ji21) q033 q33
                        have hr33 := Kd.C_drop (m := ((ji21) : Int).toNat) (c := co25) hC33 (by omega) hroom33
                        obtain ⟨A33, hA33⟩ : ∃ A1, A1 = (if co25 = ((ji21) : Int).toNat then Ao25 else (Ao25 : Option Addr).map (·.add (((ji21) : Int).toNat * 1))) := ⟨_, rfl⟩
                        obtain ⟨c33, hc33⟩ : ∃ c1, c1 = co25 - ((ji21) : Int).toNat := ⟨_, rfl⟩
                        have hy33 : y157.length = t136.length - ((ji21) : Int).toNat := (by rw [Ny157.out, List.length_drop] <;> omega)
                        rw [show (t136).drop ((ji21) : Int).toNat = y157 from Ny157.out.symm] at hr33
                        replace hr33 : Kd.C (Kd.int .u8) _ A33 y157.length y157 := (by rw [hA33]; exact hr33)
                        rw [← hy33, ← hA33, ← hc33] at hcut33
                        have HR160 := Aside0.mk hr33
                        have HC160 := Aside0.mk (show y157.length ≤ c33 from by rw [hy33, hc33]; exact Nat.sub_le_sub_right hroom33 _)
                        clear hr33 hC33 hroom33 hi033 hsz33 hc33
                        have KY33 := Aside0.mk hy33
                        have KA33 := Aside0.mk hA33
                        clear hy33 hA33
                        have KL33 := Aside0.mk (show ((ji21) : Int).toNat ≤ t136.length from by omega)
                        replace q33 := eq_true q33
                        refine start_ (n := 12) (S := fun w' => True) (ds := []) #[false, false, false, false, false, false, false, false, false, false, false, false] (by kernel_rfl) rfl rfl trivial (fun hHeld => ?_); refine with_tabW sum_Next.tab10 sum_Next.bits10 (fun HT_ HW_ => ?_)
                        generalize w29.drew = w31 at HO_6 HO146 HR143 HR150 HB HO156 HR160 hHeld ⊢
                        refine pure_ (i := 0) (N := some 41) (v := ?_) (a' := ?_) #[true, false, false, false, false, false, false, false, false, false, false, false] rfl rfl (any_of HT_.out (by kernel_rfl)) (fun _ _ _ h => h) (Or.inl ⟨by rfl, ?_⟩) ?_ ?_
                        rotate_left
                        · intro w'
                          go_simp
                          with_reducible rfl
                        rotate_left
                        · simp only [Act.put, List.setIfInBounds_toArray, List.set_cons_zero, List.set_cons_succ, i64_w, i32_w]
                          rfl
                        refine pure_ (i := 1) (N := some 42) (v := ?_) (a' := ?_) #[true, true, false, false, false, false, false, false, false, false, false, false] rfl rfl (any_of HT_.out (by kernel_rfl)) (fun _ _ _ h => h) (Or.inl ⟨by rfl, ?_⟩) ?_ ?_
                        rotate_left
                        · intro w'
                          go_simp
                          with_reducible rfl
                        rotate_left
                        · simp only [Act.put, List.setIfInBounds_toArray, List.set_cons_zero, List.set_cons_succ, i64_w, i32_w]
                          rfl
                        refine pure_ (i := 2) (N := some 43) (v := ?_) (a' := ?_) #[true, true, true, false, false, false, false, false, false, false, false, false] rfl rfl (any_of HT_.out (by kernel_rfl)) (fun _ _ _ h => h) (Or.inl ⟨by rfl, ?_⟩) ?_ ?_
                        rotate_left
                        · intro w'
                          go_simp
                          with_reducible rfl
                        rotate_left
                        · simp only [Act.put, List.setIfInBounds_toArray, List.set_cons_zero, List.set_cons_succ, i64_w, i32_w]
                          rfl
                        refine pure_ (i := 3) (N := some 44) (v := ?_) (a' := ?_) #[true, true, true, true, false, false, false, false, false, false, false, false] rfl rfl (any_of HT_.out (by kernel_rfl)) (fun _ _ _ h => h) (Or.inl ⟨by rfl, ?_⟩) ?_ ?_
                        rotate_left
                        · intro w'
                          go_simp
                          with_reducible rfl
                        rotate_left
                        · simp only [Act.put, List.setIfInBounds_toArray, List.set_cons_zero, List.set_cons_succ, i64_w, i32_w]
                          rfl
                        refine pure_ (i := 4) (N := some 45) (v := ?_) (a' := ?_) #[true, true, true, true, true, false, false, false, false, false, false, false] rfl rfl (any_of HT_.out (by kernel_rfl)) (fun _ _ _ h => h) (Or.inl ⟨by rfl, ?_⟩) ?_ ?_
                        rotate_left
                        · intro w'
                          go_simp
                          with_reducible rfl
                        rotate_left
                        · simp only [Act.put, List.setIfInBounds_toArray, List.set_cons_zero, List.set_cons_succ, i64_w, i32_w]
                          rfl
                        refine pure_ (i := 5) (N := some 46) (v := ?_) (a' := ?_) #[true, true, true, true, true, true, false, false, false, false, false, false] rfl rfl (any_of HT_.out (by kernel_rfl)) (fun _ _ _ h => h) (Or.inl ⟨by rfl, ?_⟩) ?_ ?_
                        rotate_left
                        · intro w'
                          go_simp
                          with_reducible rfl
                        rotate_left
                        · simp only [Act.put, List.setIfInBounds_toArray, List.set_cons_zero, List.set_cons_succ, i64_w, i32_w]
                          rfl
                        refine pure_ (i := 6) (N := some 47) (v := ?_) (a' := ?_) #[true, true, true, true, true, true, true, false, false, false, false, false] rfl rfl (any_of HT_.out (by kernel_rfl)) (fun _ _ _ h => h) (Or.inl ⟨by rfl, ?_⟩) ?_ ?_
                        rotate_left
                        · intro w'
                          go_simp
                          with_reducible rfl
                        rotate_left
                        · simp only [Act.put, List.setIfInBounds_toArray, List.set_cons_zero, List.set_cons_succ, i64_w, i32_w]
                          rfl
                        refine pure_ (i := 7) (N := some 48) (v := ?_) (a' := ?_) #[true, true, true, true, true, true, true, true, false, false, false, false] rfl rfl (any_of HT_.out (by kernel_rfl)) (fun _ _ _ h => h) (Or.inl ⟨by rfl, ?_⟩) ?_ ?_
                        rotate_left
                        · intro w'
                          go_simp
                          with_reducible rfl
                        rotate_left
                        · simp only [Act.put, List.setIfInBounds_toArray, List.set_cons_zero, List.set_cons_succ, i64_w, i32_w]
                          rfl
                        refine one_ (i := 8) (N := some 49) #[true, true, true, true, true, true, true, true, true, false, false, false] rfl rfl (one_of HT_.out (by kernel_rfl)) (by decide) (fun K hK => ?_)
                        refine goes_ Try.func27 (by kernel_rfl) rfl #[.slice A33 y157.length c33] (by rfl) rfl rfl (by (try simp only [List.map_toArray, List.map_cons, List.map_nil]); first | done | rfl | (simp only [List.length_drop, List.length_take]; rfl)) ?_
                        with_reducible refine (slices_Clone_byte_byte.calls _ _ y157 t161 _ ?side1 ?side2 A24.out).mono ?_
                        (case side1 => repeat (first | exact (by repeat (first | (with_reducible exact HR160.out) | (with_reducible refine Kd.C_alloc ?_ _) | (with_reducible refine Kd.C_drewN ?_ _) | (with_reducible refine Kd.C_drew ?_) | exact HR160.out)) | (with_reducible refine Kd.C_alloc ?_ _) | (with_reducible refine Kd.C_drewN ?_ _) | (with_reducible refine Kd.C_drew ?_)))
                        (case side2 => exact HC160.out)
                        rintro e w34 ⟨v162, rfl, ho0, hb⟩
                        refine ⟨_, rfl, ?_⟩
                        have n0_ := Aside0.mk (Kd.R_elder' (by (with_reducible repeat (first | apply Kd.R_alloc | apply Kd.R_drewN | apply Kd.R_drew)); exact HO_6.out) (Kd.R_base ho0) hb)
                        have n1_ := Aside0.mk (Kd.R_elder' (by (with_reducible repeat (first | apply Kd.R_alloc | apply Kd.R_drewN | apply Kd.R_drew)); exact HO146.out) (Kd.R_base ho0) hb)
                        have n2_ := Aside0.mk (Kd.V_elder' (by (with_reducible repeat (first | apply Kd.V_alloc | apply Kd.V_drewN | apply Kd.V_drew)); exact HO156.out) (Kd.R_base ho0) hb)
                        have n3_ := Aside0.mk (Kd.R_lower (Kd.R_new' (Kd.R_new' (Kd.R_newM (M := fun k_ => (w.heap.size ≤ k_)) ho0 (below_size (by repeat (first | (with_reducible first | exact HB.out | apply below_alloc | apply pw_below_drewN | apply below_drew1) | exact HB.out))) (fun k_ h_ => h_)) (Kd.R_lt (by (with_reducible repeat (first | apply Kd.R_alloc | apply Kd.R_drewN | apply Kd.R_drew)); exact HO_6.out))) (Kd.R_lt (by (with_reducible repeat (first | apply Kd.R_alloc | apply Kd.R_drewN | apply Kd.R_drew)); exact HO146.out))) (below_size (by repeat (first | (with_reducible first | exact HB.out | apply below_alloc | apply pw_below_drewN | apply below_drew1) | exact HB.out))))
                        have n4_ := Aside0.mk (Kd.C_below (by repeat (first | (with_reducible exact HR143.out) | (with_reducible refine Kd.C_alloc ?_ _) | (with_reducible refine Kd.C_drewN ?_ _) | (with_reducible refine Kd.C_drew ?_) | exact HR143.out)) hb)
                        have n5_ := Aside0.mk (Kd.C_below (by repeat (first | (with_reducible exact HR150.out) | (with_reducible refine Kd.C_alloc ?_ _) | (with_reducible refine Kd.C_drewN ?_ _) | (with_reducible refine Kd.C_drew ?_) | exact HR150.out)) hb)
                        have n6_ := Aside0.mk (Kd.C_below (by repeat (first | (with_reducible exact HR160.out) | (with_reducible refine Kd.C_alloc ?_ _) | (with_reducible refine Kd.C_drewN ?_ _) | (with_reducible refine Kd.C_drew ?_) | exact HR160.out)) hb)
                        have n7_ := Aside0.mk (below_step (by repeat (first | (with_reducible first | exact HB.out | apply below_alloc | apply pw_below_drewN | apply below_drew1) | exact HB.out)) hb)
                        clear HO_6
                        clear HO146
                        clear HO156
                        clear HR143
                        clear HR150
                        clear HR160
                        clear HB
                        have HO_6 := n0_
                        have HO146 := n1_
                        have HO156 := n2_
                        have HO163 := n3_
                        have HR143 := n4_
                        have HR150 := n5_
                        have HR160 := n6_
                        have HB := n7_
                        clear n0_ n1_ n2_ n3_ n4_ n5_ n6_ n7_
                        (try clear hb)
                        (try clear hb2)
                        (try clear hk)
                        (try clear hi)
                        (try clear ho0)
                        refine hK.out _ _ trivial (fun hHeld => ?_)
                        clear hK K
                        refine norm_ (a' := ?_) ?_ ?_
                        rotate_left
                        · show Act.put _ (some 49) _ = _
                          simp only [Act.put, List.setIfInBounds_toArray, List.set_cons_zero, List.set_cons_succ, i64_w, i32_w]
                          rfl
                        refine pure_ (i := 9) (N := some 2) (v := ?_) (a' := ?_) #[true, true, true, true, true, true, true, true, true, true, false, false] rfl rfl (any_of HT_.out (by kernel_rfl)) (fun _ _ _ h => h) (Or.inl ⟨by rfl, ?_⟩) ?_ ?_
                        rotate_left
                        · intro w'
                          go_simp
                          with_reducible rfl
                        rotate_left
                        · simp only [Act.put, List.setIfInBounds_toArray, List.set_cons_zero, List.set_cons_succ, i64_w, i32_w]
                          rfl
                        refine pure_ (i := 10) (N := some 3) (v := ?_) (a' := ?_) #[true, true, true, true, true, true, true, true, true, true, true, false] rfl rfl (any_of HT_.out (by kernel_rfl)) (fun _ _ _ h => h) (Or.inl ⟨by rfl, ?_⟩) ?_ ?_
                        rotate_left
                        · intro w'
                          go_simp
                          with_reducible rfl
                        rotate_left
                        · simp only [Act.put, List.setIfInBounds_toArray, List.set_cons_zero, List.set_cons_succ, i64_w, i32_w]
                          rfl
                        refine pure_ (i := 11) (N := some 4) (v := ?_) (a' := ?_) #[true, true, true, true, true, true, true, true, true, true, true, true] rfl rfl (any_of HT_.out (by kernel_rfl)) (fun _ _ _ h => h) (Or.inl ⟨by rfl, ?_⟩) ?_ ?_
                        rotate_left
                        · intro w'
                          go_simp
                          with_reducible rfl
                        rotate_left
                        · simp only [Act.put, List.setIfInBounds_toArray, List.set_cons_zero, List.set_cons_succ, i64_w, i32_w]
                          rfl
                        refine done_ (done_of HT_.out (by kernel_rfl)) ?_
                        try go_wp2
                        go_ret3
                        exact ⟨_, _, by first | rfl | (simp [errW_none, errW_some] <;> rfl) | (simp only [← hji21]; first | rfl | (simp [errW_none, errW_some] <;> rfl)) | (simp [*, errW_none, errW_some] <;> rfl), by (with_reducible repeat (first | apply Kd.V_alloc | apply Kd.V_drewN | apply Kd.V_drew)); exact Kd.V_mono HO156.out (fun _ hk => ⟨hk.1.1, hk.2⟩), by (with_reducible repeat (first | apply Kd.R_alloc | apply Kd.R_drewN | apply Kd.R_drew)); exact Kd.R_mono HO163.out (fun _ hk => hk.1.1.1), by repeat (first | (with_reducible first | exact HB.out | apply below_alloc | apply pw_below_drewN | apply below_drew1) | exact HB.out)⟩
                      · rw [if_neg c22] at H
                        exact absurd H (by simp)
                    · replace c18 := Bool.eq_false_iff.mpr c18
                      subst c18
                      have H1 : (some (([] : List Int), ([] : List Int), 2)) = some (r1, r2, r3) := by rw [if_neg (show ¬ (false = true) by decide)] at H; exact H
                      clear H
                      have H := H1
                      clear H1
                      simp only [Option.some.injEq, Prod.mk.injEq] at H
                      obtain ⟨rfl, rfl, rfl⟩ := H
                      obtain ⟨Ao35, co35, eo35⟩ := Kd.R_slice HO_6.out
                      subst eo35
                      try go_wp2
                      have n0_ := Aside0.mk (Kd.R_drew HO_6.out)
                      have n1_ := Aside0.mk (below_drew1 HB.out)
                      clear HO_6
                      clear HB
                      have HO_6 := n0_
                      have HB := n1_
                      clear n0_ n1_
                      have q37 : (t135 : Int) ≤ ((t136.length : Int) : Int) := of_decide_eq_true (by first | (with_reducible assumption) | assumption)
                      obtain ⟨i037, hi037, _, hsz37, _⟩ := info_parts info5
                      have hroom37 : t136.length ≤ co35 := (Kd.R_reads' HO_6.out).2.1
                      have hC37 : Kd.C (Kd.int .u8) _ Ao35 t136.length t136 := (Kd.R_reads' HO_6.out).2.2
                      have hcut37 := cut_to (P := Try.prog) 22 5 .i64 Try.underlying22 hi037 Ao35 t136.length co35 t135 (of_decide_eq_true (by first | (with_reducible assumption) | assumption)) q37 hroom37
                      have hr37 := Kd.C_take (m := (t135 : Int).toNat) hC37 (by omega)
                      have hy37 : y140.length = (t135 : Int).toNat := (by rw [Ny140.out, List.length_take]; omega)
                      rw [← Ny140.out] at hr37
                      rw [← hy37] at hcut37
                      have HR143 := Aside0.mk hr37
                      have HC143 := Aside0.mk (show y140.length ≤ co35 from by omega)
                      clear hr37 hC37 hroom37 hi037 hsz37
                      have KY37 := Aside0.mk hy37
                      clear hy37
                      have KL37 := Aside0.mk (show (t135 : Int).toNat ≤ t136.length from by omega)
                      replace q37 := eq_true q37
                      have q38 : ((wrap64 (t135 + 4)) : Int) ≤ ((t136.length : Int) : Int) := of_decide_eq_true (by first | (with_reducible assumption) | assumption)
                      obtain ⟨i038, hi038, _, hsz38, _⟩ := info_parts info5
                      have hroom38 : t136.length ≤ co35 := (Kd.R_reads' HO_6.out).2.1
                      have hC38 : Kd.C (Kd.int .u8) _ Ao35 t136.length t136 := (Kd.R_reads' HO_6.out).2.2
                      have ql38 : (t135 : Int) ≤ ((wrap64 (t135 + 4)) : Int) := of_decide_eq_true (by first | (with_reducible assumption) | assumption)
                      have q038 : (0 : Int) ≤ (t135 : Int) := of_decide_eq_true (by first | (with_reducible assumption) | assumption)
                      have hcut38 := cut_mid (P := Try.prog) 22 5 .i64 .i64 Try.underlying22 hi038 1 hsz38 Ao35 t136.length co35 t135 (wrap64 (t135 + 4)) q038 ql38 q38 hroom38
                      have hr38 := Kd.C_mid (lo := (t135 : Int).toNat) (hi := ((wrap64 (t135 + 4)) : Int).toNat) (c := co35) hC38 (by omega) (by omega) hroom38
                      obtain ⟨A38, hA38⟩ : ∃ A1, A1 = (if co35 = (t135 : Int).toNat then Ao35 else (Ao35 : Option Addr).map (·.add ((t135 : Int).toNat * 1))) := ⟨_, rfl⟩
                      obtain ⟨c38, hc38⟩ : ∃ c1, c1 = co35 - (t135 : Int).toNat := ⟨_, rfl⟩
                      have hy38 : y147.length = ((wrap64 (t135 + 4)) : Int).toNat - (t135 : Int).toNat := (by rw [Ny147.out, List.length_drop, List.length_take] <;> omega)
                      rw [show ((t136).take ((wrap64 (t135 + 4)) : Int).toNat).drop (t135 : Int).toNat = y147 from Ny147.out.symm] at hr38
                      replace hr38 : Kd.C (Kd.int .u8) _ A38 y147.length y147 := (by rw [hA38]; exact hr38)
                      rw [← hy38, ← hA38, ← hc38] at hcut38
                      have HR150 := Aside0.mk hr38
                      have HC150 := Aside0.mk (show y147.length ≤ c38 from by rw [hy38, hc38]; exact Nat.sub_le_sub_right (Nat.le_trans (by omega) hroom38) _)
                      clear hr38 hC38 hroom38 hi038 hsz38 hc38
                      have KY38 := Aside0.mk hy38
                      have KA38 := Aside0.mk hA38
                      clear hy38 hA38
                      have KL38 := Aside0.mk (show ((wrap64 (t135 + 4)) : Int).toNat ≤ t136.length from by omega)
                      have KM38 := Aside0.mk (show (t135 : Int).toNat ≤ ((wrap64 (t135 + 4)) : Int).toNat from by omega)
                      replace q38 := eq_true q38
                      refine start_ (n := 12) (S := fun w' => True) (ds := []) #[false, false, false, false, false, false, false, false, false, false, false, false] (by kernel_rfl) rfl rfl trivial (fun hHeld => ?_); refine with_tabW sum_Next.tab8 sum_Next.bits8 (fun HT_ HW_ => ?_)
                      generalize wc.drew = w36 at HO_6 HB HR143 HR150 hHeld ⊢
                      refine pure_ (i := 0) (N := some 30) (v := ?_) (a' := ?_) #[true, false, false, false, false, false, false, false, false, false, false, false] rfl rfl (any_of HT_.out (by kernel_rfl)) (fun _ _ _ h => h) (Or.inl ⟨by rfl, ?_⟩) ?_ ?_
                      rotate_left
                      · intro w'
                        go_simp
                        with_reducible rfl
                      rotate_left
                      · simp only [Act.put, List.setIfInBounds_toArray, List.set_cons_zero, List.set_cons_succ, i64_w, i32_w]
                        rfl
                      refine pure_ (i := 1) (N := some 31) (v := ?_) (a' := ?_) #[true, true, false, false, false, false, false, false, false, false, false, false] rfl rfl (any_of HT_.out (by kernel_rfl)) (fun _ _ _ h => h) (Or.inl ⟨by rfl, ?_⟩) ?_ ?_
                      rotate_left
                      · intro w'
                        go_simp
                        with_reducible rfl
                      rotate_left
                      · simp only [Act.put, List.setIfInBounds_toArray, List.set_cons_zero, List.set_cons_succ, i64_w, i32_w]
                        rfl
                      refine pure_ (i := 2) (N := some 32) (v := ?_) (a' := ?_) #[true, true, true, false, false, false, false, false, false, false, false, false] rfl rfl (any_of HT_.out (by kernel_rfl)) (fun _ _ _ h => h) (Or.inl ⟨by rfl, ?_⟩) ?_ ?_
                      rotate_left
                      · intro w'
                        go_simp
                        with_reducible rfl
                      rotate_left
                      · simp only [Act.put, List.setIfInBounds_toArray, List.set_cons_zero, List.set_cons_succ, i64_w, i32_w]
                        rfl
                      refine pure_ (i := 4) (N := some 34) (v := ?_) (a' := ?_) #[true, true, true, false, true, false, false, false, false, false, false, false] rfl rfl (any_of HT_.out (by kernel_rfl)) (fun _ _ _ h => h) (Or.inl ⟨by rfl, ?_⟩) ?_ ?_
                      rotate_left
                      · intro w'
                        go_simp
                        with_reducible rfl
                      rotate_left
                      · simp only [Act.put, List.setIfInBounds_toArray, List.set_cons_zero, List.set_cons_succ, i64_w, i32_w]
                        rfl
                      refine pure_ (i := 5) (N := some 35) (v := ?_) (a' := ?_) #[true, true, true, false, true, true, false, false, false, false, false, false] rfl rfl (any_of HT_.out (by kernel_rfl)) (fun _ _ _ h => h) (Or.inl ⟨by rfl, ?_⟩) ?_ ?_
                      rotate_left
                      · intro w'
                        go_simp
                        with_reducible rfl
                      rotate_left
                      · simp only [Act.put, List.setIfInBounds_toArray, List.set_cons_zero, List.set_cons_succ, i64_w, i32_w]
                        rfl
                      refine pure_ (i := 6) (N := some 36) (v := ?_) (a' := ?_) #[true, true, true, false, true, true, true, false, false, false, false, false] rfl rfl (any_of HT_.out (by kernel_rfl)) (fun _ _ _ h => h) (Or.inl ⟨by rfl, ?_⟩) ?_ ?_
                      rotate_left
                      · intro w'
                        go_simp
                        with_reducible rfl
                      rotate_left
                      · simp only [Act.put, List.setIfInBounds_toArray, List.set_cons_zero, List.set_cons_succ, i64_w, i32_w]
                        rfl
                      refine pure_ (i := 7) (N := some 37) (v := ?_) (a' := ?_) #[true, true, true, false, true, true, true, true, false, false, false, false] rfl rfl (any_of HT_.out (by kernel_rfl)) (fun _ _ _ h => h) (Or.inl ⟨by rfl, ?_⟩) ?_ ?_
                      rotate_left
                      · intro w'
                        go_simp
                        with_reducible rfl
                      rotate_left
                      · simp only [Act.put, List.setIfInBounds_toArray, List.set_cons_zero, List.set_cons_succ, i64_w, i32_w]
                        rfl
                      refine pure_ (i := 8) (N := some 38) (v := ?_) (a' := ?_) #[true, true, true, false, true, true, true, true, true, false, false, false] rfl rfl (any_of HT_.out (by kernel_rfl)) (fun _ _ _ h => h) (Or.inl ⟨by rfl, ?_⟩) ?_ ?_
                      rotate_left
                      · intro w'
                        go_simp
                        with_reducible rfl
                      rotate_left
                      · simp only [Act.put, List.setIfInBounds_toArray, List.set_cons_zero, List.set_cons_succ, i64_w, i32_w]
                        rfl
                      refine one_ (i := 3) (N := some 33) #[true, true, true, true, true, true, true, true, true, false, false, false] rfl rfl (one_of HT_.out (by kernel_rfl)) (by decide) (fun K hK => ?_)
                      refine goes_ Try.func23 (by kernel_rfl) rfl #[.slice Ao35 y140.length co35] (by rfl) rfl rfl (by (try simp only [List.map_toArray, List.map_cons, List.map_nil]); first | done | rfl | (simp only [List.length_drop, List.length_take]; rfl)) ?_
                      with_reducible refine (sum_ending.calls kj4 _ _ y140 t144 _ ?side1 ?side2 A13.out).mono ?_
                      (case side1 => repeat (first | exact (by repeat (first | (with_reducible exact HR143.out) | (with_reducible refine Kd.C_alloc ?_ _) | (with_reducible refine Kd.C_drewN ?_ _) | (with_reducible refine Kd.C_drew ?_) | exact HR143.out)) | (with_reducible refine Kd.C_alloc ?_ _) | (with_reducible refine Kd.C_drewN ?_ _) | (with_reducible refine Kd.C_drew ?_)))
                      (case side2 => exact HC143.out)
                      rintro e w39 ⟨v145, rfl, ho0, hb⟩
                      refine ⟨_, rfl, ?_⟩
                      have n0_ := Aside0.mk (Kd.R_elder' (by (with_reducible repeat (first | apply Kd.R_alloc | apply Kd.R_drewN | apply Kd.R_drew)); exact HO_6.out) (Kd.R_base ho0) hb)
                      have n1_ := Aside0.mk (Kd.R_lower (Kd.R_new' (Kd.R_newM (M := fun k_ => (w.heap.size ≤ k_)) ho0 (below_size (by repeat (first | (with_reducible first | exact HB.out | apply below_alloc | apply pw_below_drewN | apply below_drew1) | exact HB.out))) (fun k_ h_ => h_)) (Kd.R_lt (by (with_reducible repeat (first | apply Kd.R_alloc | apply Kd.R_drewN | apply Kd.R_drew)); exact HO_6.out))) (below_size (by repeat (first | (with_reducible first | exact HB.out | apply below_alloc | apply pw_below_drewN | apply below_drew1) | exact HB.out))))
                      have n2_ := Aside0.mk (Kd.C_below (by repeat (first | (with_reducible exact HR143.out) | (with_reducible refine Kd.C_alloc ?_ _) | (with_reducible refine Kd.C_drewN ?_ _) | (with_reducible refine Kd.C_drew ?_) | exact HR143.out)) hb)
                      have n3_ := Aside0.mk (Kd.C_below (by repeat (first | (with_reducible exact HR150.out) | (with_reducible refine Kd.C_alloc ?_ _) | (with_reducible refine Kd.C_drewN ?_ _) | (with_reducible refine Kd.C_drew ?_) | exact HR150.out)) hb)
                      have n4_ := Aside0.mk (below_step (by repeat (first | (with_reducible first | exact HB.out | apply below_alloc | apply pw_below_drewN | apply below_drew1) | exact HB.out)) hb)
                      clear HO_6
                      clear HR143
                      clear HR150
                      clear HB
                      have HO_6 := n0_
                      have HO146 := n1_
                      have HR143 := n2_
                      have HR150 := n3_
                      have HB := n4_
                      clear n0_ n1_ n2_ n3_ n4_
                      (try clear hb)
                      (try clear hb2)
                      (try clear hk)
                      (try clear hi)
                      (try clear ho0)
                      obtain ⟨Ao40, co40, eo40⟩ := Kd.R_slice HO146.out
                      (first | subst eo40 | (injection eo40 with f1_ f2_ f3_; have f4_ := f1_.symm; have f5_ := f3_.symm; clear f1_ f2_ f3_; subst f4_; subst f5_))
                      refine hK.out _ _ trivial (fun hHeld => ?_)
                      clear hK K
                      refine norm_ (a' := ?_) ?_ ?_
                      rotate_left
                      · show Act.put _ (some 33) _ = _
                        simp only [Act.put, List.setIfInBounds_toArray, List.set_cons_zero, List.set_cons_succ, i64_w, i32_w]
                        rfl
                      refine one_ (i := 9) (N := some 39) #[true, true, true, true, true, true, true, true, true, true, false, false] rfl rfl (one_of HT_.out (by kernel_rfl)) (by decide) (fun K hK => ?_)
                      refine goes_ Try.func26 (by kernel_rfl) rfl #[.slice Ao40 t144.length co40, .slice A38 y147.length c38] (by rfl) rfl rfl (by (try simp only [List.map_toArray, List.map_cons, List.map_nil]); first | done | rfl | (simp only [List.length_drop, List.length_take]; rfl)) ?_
                      with_reducible refine (bytes_Equal.calls _ _ t144 _ _ y147 false _ ?side1 ?side2 ?side3 ?side4 A17.out).mono ?_
                      (case side1 => repeat (first | exact (Kd.R_reads' HO146.out).2.2 | (with_reducible refine Kd.C_alloc ?_ _) | (with_reducible refine Kd.C_drewN ?_ _) | (with_reducible refine Kd.C_drew ?_)))
                      (case side2 => exact (Kd.R_reads' HO146.out).2.1)
                      (case side3 => repeat (first | exact (by repeat (first | (with_reducible exact HR150.out) | (with_reducible refine Kd.C_alloc ?_ _) | (with_reducible refine Kd.C_drewN ?_ _) | (with_reducible refine Kd.C_drew ?_) | exact HR150.out)) | (with_reducible refine Kd.C_alloc ?_ _) | (with_reducible refine Kd.C_drewN ?_ _) | (with_reducible refine Kd.C_drew ?_)))
                      (case side4 => exact HC150.out)
                      rintro e w' ⟨rfl, ⟨nd, rfl⟩⟩
                      refine ⟨_, rfl, ?_⟩
                      refine hK.out _ _ trivial (fun hHeld => ?_)
                      clear hK K
                      refine norm_ (a' := ?_) ?_ ?_
                      rotate_left
                      · show Act.put _ (some 39) _ = _
                        simp only [Act.put, List.setIfInBounds_toArray, List.set_cons_zero, List.set_cons_succ, i64_w, i32_w]
                        rfl
                      refine pure_ (i := 10) (N := some 40) (v := ?_) (a' := ?_) #[true, true, true, true, true, true, true, true, true, true, true, false] rfl rfl (any_of HT_.out (by kernel_rfl)) (fun _ _ _ h => h) (Or.inl ⟨by rfl, ?_⟩) ?_ ?_
                      rotate_left
                      · intro w'
                        go_simp
                        with_reducible rfl
                      rotate_left
                      · simp only [Act.put, List.setIfInBounds_toArray, List.set_cons_zero, List.set_cons_succ, i64_w, i32_w]
                        rfl
                      refine pure_ (i := 11) (N := some 29) (v := ?_) (a' := ?_) #[true, true, true, true, true, true, true, true, true, true, true, true] rfl rfl (any_of HT_.out (by kernel_rfl)) (fun _ _ _ h => h) (Or.inl ⟨by rfl, ?_⟩) ?_ ?_
                      rotate_left
                      · intro w'
                        go_simp
                        with_reducible rfl
                      rotate_left
                      · simp only [Act.put, List.setIfInBounds_toArray, List.set_cons_zero, List.set_cons_succ, i64_w, i32_w]
                        rfl
                      refine done_ (done_of HT_.out (by kernel_rfl)) ?_
                      try go_wp2
                      go_ret3
                      exact ⟨_, _, by first | rfl | (simp [errW_none, errW_some] <;> rfl) | (simp [*, errW_none, errW_some] <;> rfl), (by first | exact Kd.V_nil _ _ _ _ _ | exact Kd.R_nil _ _ _ _ _ | exact Kd.N_nil _ _ _ _ _ | exact Kd.V_nil _ _ _ _ _ | exact Kd.Q_nil _ _ _ _ _ | exact Kd.S_nil _ _ _ _ _), by first | exact Kd.R_nil _ _ _ _ _ | exact Kd.N_nil _ _ _ _ _ | exact Kd.V_nil _ _ _ _ _ | exact Kd.Q_nil _ _ _ _ _ | exact Kd.S_nil _ _ _ _ _, by repeat (first | (with_reducible first | exact HB.out | apply below_alloc | apply pw_below_drewN | apply below_drew1) | exact HB.out)⟩
                  · rw [if_neg c16] at H
                    exact absurd H (by simp)
                · rw [if_neg c15] at H
                  exact absurd H (by simp)
              · rw [if_neg c12] at H
                exact absurd H (by simp)
            · rw [if_neg c11] at H
              exact absurd H (by simp)

end Go.Proofs.Ytjfmnjhkpkcakaa.Q
