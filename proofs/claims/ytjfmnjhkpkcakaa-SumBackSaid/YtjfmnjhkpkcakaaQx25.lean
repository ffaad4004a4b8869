-- Written by a program of this session, out of Lean's print of the loaded program (a patched copy of the kit's print).
import Derived.Test.YtjfmnjhkpkcakaaQx0
import Derived.Test.YtjfmnjhkpkcakaaQx14
import Derived.Test.YtjfmnjhkpkcakaaQx18
import Derived.Test.YtjfmnjhkpkcakaaQx19
import Derived.Test.YtjfmnjhkpkcakaaQx21
import Derived.Test.YtjfmnjhkpkcakaaQx23
import Derived.Test.YtjfmnjhkpkcakaaQx24
namespace Go.Proofs.Ytjfmnjhkpkcakaa.Q
open Go.RowKit Go.Proofs.YtjfmnjhkpkcakaaW.PrintWords Go.Proofs.YtjfmnjhkpkcakaaW.PrintLast Go.Proofs.YtjfmnjhkpkcakaaW.PrintMore
attribute [local go_sem] max2_int min2_int max_two min_two max_three min_three max_four min_four   -- for this text's walks alone
set_option linter.unusedVariables false
set_option linter.unusedSimpArgs false

/-! ### joistref04_Next: function 14 -/
def joistref04_Next.j0 : Nat → Int → List Int → Bool → Option (List Int × List Int × Int)
  | 0, _, _, _ => none
  | k + 1, x5, x6, x21 => if x21 = true then (some (([] : List Int), ([] : List Int), 2)) else (if (x6.length : Int) < (wrap64 (x5 + 4)) then (some (([] : List Int), ([] : List Int), 1)) else (if 0 ≤ x5 then (if x5 ≤ (x6.length : Int) then ((joistref04_Sum.f k (x6.take (x5 : Int).toNat)).bind fun t252 => ((joistref04_four.f t252).bind fun t253 => (if x5 ≤ (wrap64 (x5 + 4)) then (if (wrap64 (x5 + 4)) ≤ (x6.length : Int) then ((joistref00_SameBytes.f k t253 ((x6.take ((wrap64 (x5 + 4)) : Int).toNat).drop (x5 : Int).toNat)).bind fun t260 => (if t260 = true then ((joistref00_CopyBytes.f (x6.take (x5 : Int).toNat)).bind fun t265 => (if 0 ≤ (wrap64 (x5 + 4)) then ((joistref00_CopyBytes.f (x6.drop ((wrap64 (x5 + 4)) : Int).toNat)).bind fun t272 => (some (t265, t272, 0))) else (none))) else (some (([] : List Int), ([] : List Int), 2)))) else (none)) else (none)))) else (none)) else (none)))
def joistref04_Next.f (k : Nat) (l0 : List Int) : Option (List Int × List Int × Int) := (joistref04_open.f k l0).bind fun t242 => (if t242 = true then (some (([] : List Int), ([] : List Int), 1)) else ((joistref03_Take.f k l0).bind fun bt243 => (if bt243.2.2 = true then (joistref04_Next.j0 k bt243.1 bt243.2.1 (decide (bt243.1 > 65536))) else (joistref04_Next.j0 k bt243.1 bt243.2.1 true))))
theorem joistref04_Next.mono_l : ∀ k, (∀ y0 y1 y2, LeO (joistref04_Next.j0 k y0 y1 y2) (joistref04_Next.j0 (k + 1) y0 y1 y2))
  | 0 => fun _ _ _ r h => by simp [joistref04_Next.j0] at h
  | k + 1 => by
    have ih0 := joistref04_Next.mono_l k
    · intro y0 y1 y2
      unfold joistref04_Next.j0
      repeat' first
      | (with_reducible exact ih0 _ _ _)
      | (with_reducible exact joistref00_SameBytes.mono _ _ _)
      | (with_reducible exact joistref03_Take.mono _ _)
      | (with_reducible exact joistref04_Sum.mono _ _)
      | (with_reducible exact joistref04_open.mono _ _)
      | (with_reducible exact LeO.refl _)
      | (with_reducible exact LeO.none _)
      | (with_reducible refine LeO.ite ?_ ?_)
      | (with_reducible refine LeO.bind ?_ (fun _ => ?_))
      | exact ih0 _ _ _
      | exact joistref00_SameBytes.mono _ _ _
      | exact joistref03_Take.mono _ _
      | exact joistref04_Sum.mono _ _
      | exact joistref04_open.mono _ _
      | exact LeO.none _
      | refine LeO.ite ?_ ?_
      | refine LeO.bind ?_ (fun _ => ?_)
theorem joistref04_Next.mono : ∀ a0 k, LeO (joistref04_Next.f k a0) (joistref04_Next.f (k + 1) a0) := by
  intro a0 k
  have ih0 := joistref04_Next.mono_l k
  unfold joistref04_Next.f
  repeat' first
      | (with_reducible exact ih0 _ _ _)
      | (with_reducible exact joistref00_SameBytes.mono _ _ _)
      | (with_reducible exact joistref03_Take.mono _ _)
      | (with_reducible exact joistref04_Sum.mono _ _)
      | (with_reducible exact joistref04_open.mono _ _)
      | (with_reducible exact LeO.refl _)
      | (with_reducible exact LeO.none _)
      | (with_reducible refine LeO.ite ?_ ?_)
      | (with_reducible refine LeO.bind ?_ (fun _ => ?_))
      | exact ih0 _ _ _
      | exact joistref00_SameBytes.mono _ _ _
      | exact joistref03_Take.mono _ _
      | exact joistref04_Sum.mono _ _
      | exact joistref04_open.mono _ _
      | exact LeO.none _
      | refine LeO.ite ?_ ?_
      | refine LeO.bind ?_ (fun _ => ?_)
def joistref04_Next.T8 : Bool × List (List Nat × List Nat) := (true, [([], []), ([], []), ([0, 1], [0, 1]), ([2], [2]), ([3, 3], [3]), ([], []), ([], []), ([], []), ([7], [7]), ([5, 6, 8], [5, 6, 8]), ([4, 9, 4], [4, 9]), ([10], [10])])
def joistref04_Next.B8 : List Nat := [0, 0, 3, 7, 15, 0, 0, 0, 128, 480, 1023, 2047]
theorem joistref04_Next.tab8 : rtab .any (opsOf Try.f14 8) = joistref04_Next.T8 := by kernel_rfl
theorem joistref04_Next.bits8 : waitsOk joistref04_Next.T8.2 joistref04_Next.B8 = true := by kernel_rfl
def joistref04_Next.T10 : Bool × List (List Nat × List Nat) := (true, [([], []), ([], []), ([0, 1], [0, 1]), ([2], [2]), ([], []), ([], []), ([5], [5]), ([4, 6], [4, 6]), ([7, 3], [7]), ([3, 8, 0, 1, 2, 3], [3]), ([8, 9, 0, 1, 2, 3, 4, 5, 6, 7, 8, 9], [8]), ([10, 0, 1, 2, 3, 4, 5, 6, 7, 8, 9, 10], [])])
def joistref04_Next.B10 : List Nat := [0, 0, 3, 7, 0, 0, 32, 112, 255, 511, 1023, 2047]
theorem joistref04_Next.tab10 : rtab .any (opsOf Try.f14 10) = joistref04_Next.T10 := by kernel_rfl
theorem joistref04_Next.bits10 : waitsOk joistref04_Next.T10.2 joistref04_Next.B10 = true := by kernel_rfl
set_option maxHeartbeats 8000000 in
set_option maxRecDepth 100000 in
theorem joistref04_Next.calls (k : Nat) (A0 : Option Addr) (c0 : Nat) (l0 : List Int) (r1 : List Int) (r2 : List Int) (r3 : Int) (w : World) (hr0 : Kd.C (Kd.int .u8) w A0 l0.length l0) (hc0 : l0.length ≤ c0) (h : joistref04_Next.f k l0 = some (r1, r2, r3)) :
    Calls Try.prog 14 #[.slice A0 l0.length c0] w fun e w' => ∃ v0_ v1_ : Value, e = .returned (.tuple #[v0_, v1_, .int .i64 r3]) ∧ Kd.R (Kd.int .u8) 5 w' w.heap.size (fun k_ => some k_ ≠ (v1_ : Value).ownBlock) v0_ r1 ∧ Kd.R (Kd.int .u8) 5 w' w.heap.size (fun k_ => some k_ ≠ (v0_ : Value).ownBlock) v1_ r2 ∧ Below w.heap.size w w' := by
  have HR0 := Aside0.mk hr0
  have HC0 := Aside0.mk hc0
  clear hr0 hc0
  have HB := Aside0.mk (Below.refl w.heap.size w)
  have H : ((joistref04_open.f k l0).bind fun t242 => (if t242 = true then (some (([] : List Int), ([] : List Int), 1)) else ((joistref03_Take.f k l0).bind fun bt243 => (if bt243.2.2 = true then (joistref04_Next.j0 k bt243.1 bt243.2.1 (decide (bt243.1 > 65536))) else (joistref04_Next.j0 k bt243.1 bt243.2.1 true))))) = some (r1, r2, r3) := h
  clear h
  replace H := Option.bind_eq_some_iff.mp H
  obtain ⟨t242, A20, H⟩ := H
  replace H : (if t242 = true then (some (([] : List Int), ([] : List Int), 1)) else ((joistref03_Take.f k l0).bind fun bt243 => (if bt243.2.2 = true then (joistref04_Next.j0 k bt243.1 bt243.2.1 (decide (bt243.1 > 65536))) else (joistref04_Next.j0 k bt243.1 bt243.2.1 true)))) = some (r1, r2, r3) := H
  have A2 := Aside0.mk A20
  clear A20
  by_cases c3 : t242 = true
  · subst c3
    have H1 : (some (([] : List Int), ([] : List Int), 1)) = some (r1, r2, r3) := by rw [if_pos rfl] at H; exact H
    clear H
    have H := H1
    clear H1
    simp only [Option.some.injEq, Prod.mk.injEq] at H
    obtain ⟨rfl, rfl, rfl⟩ := H
    go_enter Try.func14, Try.ntmps14
    go_wp2_with (first | ((with_reducible refine gate_callee (f := 30) rfl ?_); refine goesL_ (some 9) rfl rfl Try.func30 (by kernel_rfl) rfl #[.slice A0 l0.length c0] rfl (by (try simp only [List.map_toArray, List.map_cons, List.map_nil]); first | done | rfl | (simp only [List.length_drop, List.length_take]; rfl)) ?_; (with_reducible refine (joistref04_open.calls k _ _ l0 true _ ?side1 ?side2 A2.out).mono ?_); (case side1 => repeat (first | exact HR0.out | (with_reducible refine Kd.C_alloc ?_ _) | (with_reducible refine Kd.C_drewN ?_ _) | (with_reducible refine Kd.C_drew ?_))); (case side2 => exact HC0.out); rintro e w' ⟨rfl, ⟨nd, rfl⟩⟩; refine ⟨_, rfl, ?_⟩))
    go_ret3
    exact ⟨_, _, by first | rfl | (simp [errW_none, errW_some] <;> rfl) | (simp [*, errW_none, errW_some] <;> rfl), by first | exact Kd.R_nil _ _ _ _ _ | exact Kd.N_nil _ _ _ _ _ | exact Kd.V_nil _ _ _ _ _ | exact Kd.Q_nil _ _ _ _ _ | exact Kd.S_nil _ _ _ _ _, by first | exact Kd.R_nil _ _ _ _ _ | exact Kd.N_nil _ _ _ _ _ | exact Kd.V_nil _ _ _ _ _ | exact Kd.Q_nil _ _ _ _ _ | exact Kd.S_nil _ _ _ _ _, by repeat (first | (with_reducible first | exact HB.out | apply below_alloc | apply pw_below_drewN | apply below_drew1) | exact HB.out)⟩
  · replace c3 := Bool.eq_false_iff.mpr c3
    subst c3
    have H1 : ((joistref03_Take.f k l0).bind fun bt243 => (if bt243.2.2 = true then (joistref04_Next.j0 k bt243.1 bt243.2.1 (decide (bt243.1 > 65536))) else (joistref04_Next.j0 k bt243.1 bt243.2.1 true))) = some (r1, r2, r3) := by rw [if_neg (show ¬ (false = true) by decide)] at H; exact H
    clear H
    have H := H1
    clear H1
    replace H := Option.bind_eq_some_iff.mp H
    obtain ⟨⟨t243, t244, t245⟩, A40, H⟩ := H
    replace H : (if t245 = true then (joistref04_Next.j0 k t243 t244 (decide (t243 > 65536))) else (joistref04_Next.j0 k t243 t244 true)) = some (r1, r2, r3) := H
    have A4 := Aside0.mk A40
    clear A40
    have HC5 := Aside0.mk H
    clear H
    go_enter Try.func14, Try.ntmps14
    go_upto_region 4 with (first | ((with_reducible refine gate_callee (f := 30) rfl ?_); refine goesL_ (some 9) rfl rfl Try.func30 (by kernel_rfl) rfl #[.slice A0 l0.length c0] rfl (by (try simp only [List.map_toArray, List.map_cons, List.map_nil]); first | done | rfl | (simp only [List.length_drop, List.length_take]; rfl)) ?_; (with_reducible refine (joistref04_open.calls k _ _ l0 false _ ?side1 ?side2 A2.out).mono ?_); (case side1 => repeat (first | exact HR0.out | (with_reducible refine Kd.C_alloc ?_ _) | (with_reducible refine Kd.C_drewN ?_ _) | (with_reducible refine Kd.C_drew ?_))); (case side2 => exact HC0.out); rintro e w' ⟨rfl, ⟨nd, rfl⟩⟩; refine ⟨_, rfl, ?_⟩) | ((with_reducible refine gate_callee (f := 31) rfl ?_); refine goesL_ (some 12) rfl rfl Try.func31 (by kernel_rfl) rfl #[.slice A0 l0.length c0] rfl (by (try simp only [List.map_toArray, List.map_cons, List.map_nil]); first | done | rfl | (simp only [List.length_drop, List.length_take]; rfl)) ?_; (with_reducible refine (joistref03_Take.calls k _ _ l0 t243 t244 t245 _ ?side1 ?side2 A4.out).mono ?_); (case side1 => repeat (first | exact HR0.out | (with_reducible refine Kd.C_alloc ?_ _) | (with_reducible refine Kd.C_drewN ?_ _) | (with_reducible refine Kd.C_drew ?_))); (case side2 => exact HC0.out); rintro e w6 ⟨v246, rfl, ho0, hb⟩; refine ⟨_, rfl, ?_⟩; have n0_ := Aside0.mk (Kd.R_lower ho0 (below_size (by repeat (first | (with_reducible first | exact HB.out | apply below_alloc | apply pw_below_drewN | apply below_drew1) | exact HB.out)))); have n1_ := Aside0.mk (below_step (by repeat (first | (with_reducible first | exact HB.out | apply below_alloc | apply pw_below_drewN | apply below_drew1) | exact HB.out)) hb); clear HB; have HO247 := n0_; have HB := n1_; clear n0_ n1_; (try clear hb); (try clear hb2); (try clear hk); (try clear hi); (try clear ho0)))
    (try simp only [Act.put, List.setIfInBounds_toArray, List.set_cons_zero, List.set_cons_succ])
    go_cut [21] (fun v21 wc => ∃ (kq : Nat) (x21_4 : Bool), v21 = .bool x21_4 ∧ Aside0 (joistref04_Next.j0 kq t243 t244 x21_4 = some (r1, r2, r3)) ∧ Aside0 (kq ≤ k) ∧ Aside0 (Kd.R (Kd.int .u8) 5 wc w.heap.size (fun _ => True) v246 t244) ∧ Aside0 (Below w.heap.size w wc))
    case first =>
      have H := HC5.out
      clear HC5
      by_cases c7 : t245 = true
      · subst c7
        have H1 : (joistref04_Next.j0 k t243 t244 (decide (t243 > 65536))) = some (r1, r2, r3) := by rw [if_pos rfl] at H; exact H
        clear H
        have H := H1
        clear H1
        have H' := Aside0.mk H
        clear H
        go_wp2
        go_meet
        case rel => exact ⟨_, (decide (t243 > 65536)), (by first | rfl | (simp; done) | (simp [*]; done)), H', ⟨by first | omega | exact Nat.le_refl _⟩, ⟨by (with_reducible repeat (first | apply Kd.R_alloc | apply Kd.R_drewN | apply Kd.R_drew)); exact HO247.out⟩, ⟨by repeat (first | (with_reducible first | exact HB.out | apply below_alloc | apply pw_below_drewN | apply below_drew1) | exact HB.out)⟩⟩
      · replace c7 := Bool.eq_false_iff.mpr c7
        subst c7
        have H1 : (joistref04_Next.j0 k t243 t244 true) = some (r1, r2, r3) := by rw [if_neg (show ¬ (false = true) by decide)] at H; exact H
        clear H
        have H := H1
        clear H1
        have H' := Aside0.mk H
        clear H
        go_wp2
        go_meet
        case rel => exact ⟨_, (true), (by first | rfl | (simp; done) | (simp [*]; done)), H', ⟨by first | omega | exact Nat.le_refl _⟩, ⟨by (with_reducible repeat (first | apply Kd.R_alloc | apply Kd.R_drewN | apply Kd.R_drew)); exact HO247.out⟩, ⟨by repeat (first | (with_reducible first | exact HB.out | apply below_alloc | apply pw_below_drewN | apply below_drew1) | exact HB.out)⟩⟩
    case rest =>
      clear HC5
      try clear c1
      try clear p2
      try clear c3
      try clear c7
      obtain ⟨kq, x21_4, rfl, HA, HJ4, HO_6, HB⟩ := hcut
      cases kq with
      | zero => exact absurd HA.out (by simp [joistref04_Next.j0])
      | succ kj4 =>
        have H := HA.out
        clear HA
        simp only [joistref04_Next.j0] at H
        by_cases c8 : x21_4 = true
        · subst c8
          have H1 : (some (([] : List Int), ([] : List Int), 2)) = some (r1, r2, r3) := by rw [if_pos rfl] at H; exact H
          clear H
          have H := H1
          clear H1
          simp only [Option.some.injEq, Prod.mk.injEq] at H
          obtain ⟨rfl, rfl, rfl⟩ := H
          go_wp2
          go_ret3
          exact ⟨_, _, by first | rfl | (simp [errW_none, errW_some] <;> rfl) | (simp [*, errW_none, errW_some] <;> rfl), by first | exact Kd.R_nil _ _ _ _ _ | exact Kd.N_nil _ _ _ _ _ | exact Kd.V_nil _ _ _ _ _ | exact Kd.Q_nil _ _ _ _ _ | exact Kd.S_nil _ _ _ _ _, by first | exact Kd.R_nil _ _ _ _ _ | exact Kd.N_nil _ _ _ _ _ | exact Kd.V_nil _ _ _ _ _ | exact Kd.Q_nil _ _ _ _ _ | exact Kd.S_nil _ _ _ _ _, by repeat (first | (with_reducible first | exact HB.out | apply below_alloc | apply pw_below_drewN | apply below_drew1) | exact HB.out)⟩
        · replace c8 := Bool.eq_false_iff.mpr c8
          subst c8
          have H1 : (if (t244.length : Int) < (wrap64 (t243 + 4)) then (some (([] : List Int), ([] : List Int), 1)) else (if 0 ≤ t243 then (if t243 ≤ (t244.length : Int) then ((joistref04_Sum.f kj4 (t244.take (t243 : Int).toNat)).bind fun t252 => ((joistref04_four.f t252).bind fun t253 => (if t243 ≤ (wrap64 (t243 + 4)) then (if (wrap64 (t243 + 4)) ≤ (t244.length : Int) then ((joistref00_SameBytes.f kj4 t253 ((t244.take ((wrap64 (t243 + 4)) : Int).toNat).drop (t243 : Int).toNat)).bind fun t260 => (if t260 = true then ((joistref00_CopyBytes.f (t244.take (t243 : Int).toNat)).bind fun t265 => (if 0 ≤ (wrap64 (t243 + 4)) then ((joistref00_CopyBytes.f (t244.drop ((wrap64 (t243 + 4)) : Int).toNat)).bind fun t272 => (some (t265, t272, 0))) else (none))) else (some (([] : List Int), ([] : List Int), 2)))) else (none)) else (none)))) else (none)) else (none))) = some (r1, r2, r3) := by rw [if_neg (show ¬ (false = true) by decide)] at H; exact H
          clear H
          have H := H1
          clear H1
          by_cases c9 : (t244.length : Int) < (wrap64 (t243 + 4))
          · rw [if_pos c9] at H
            have c9b0 : decide ((t244.length : Int) < (wrap64 (t243 + 4))) = true := decide_eq_true c9
            clear c9
            simp only [Option.some.injEq, Prod.mk.injEq] at H
            obtain ⟨rfl, rfl, rfl⟩ := H
            obtain ⟨Ao10, co10, eo10⟩ := Kd.R_slice HO_6.out
            subst eo10
            go_wp2
            go_ret3
            exact ⟨_, _, by first | rfl | (simp [errW_none, errW_some] <;> rfl) | (simp [*, errW_none, errW_some] <;> rfl), by first | exact Kd.R_nil _ _ _ _ _ | exact Kd.N_nil _ _ _ _ _ | exact Kd.V_nil _ _ _ _ _ | exact Kd.Q_nil _ _ _ _ _ | exact Kd.S_nil _ _ _ _ _, by first | exact Kd.R_nil _ _ _ _ _ | exact Kd.N_nil _ _ _ _ _ | exact Kd.V_nil _ _ _ _ _ | exact Kd.Q_nil _ _ _ _ _ | exact Kd.S_nil _ _ _ _ _, by repeat (first | (with_reducible first | exact HB.out | apply below_alloc | apply pw_below_drewN | apply below_drew1) | exact HB.out)⟩
          · rw [if_neg c9] at H
            have c9b0 : decide ((t244.length : Int) < (wrap64 (t243 + 4))) = false := decide_eq_false c9
            clear c9
            by_cases c11 : 0 ≤ t243
            · rw [if_pos c11] at H
              have c11b0 := eq_true c11
              have c11b1 : decide (0 ≤ t243) = true := decide_eq_true c11
              clear c11
              by_cases c12 : t243 ≤ (t244.length : Int)
              · rw [if_pos c12] at H
                have c12b0 := eq_true c12
                have c12b1 : decide (t243 ≤ (t244.length : Int)) = true := decide_eq_true c12
                clear c12
                obtain ⟨y248, hy248⟩ : ∃ y_ : List Int, y_ = (t244.take (t243 : Int).toNat) := ⟨_, rfl⟩
                replace H : ((joistref04_Sum.f kj4 y248).bind fun t252 => ((joistref04_four.f t252).bind fun t253 => (if t243 ≤ (wrap64 (t243 + 4)) then (if (wrap64 (t243 + 4)) ≤ (t244.length : Int) then ((joistref00_SameBytes.f kj4 t253 ((t244.take ((wrap64 (t243 + 4)) : Int).toNat).drop (t243 : Int).toNat)).bind fun t260 => (if t260 = true then ((joistref00_CopyBytes.f (t244.take (t243 : Int).toNat)).bind fun t265 => (if 0 ≤ (wrap64 (t243 + 4)) then ((joistref00_CopyBytes.f (t244.drop ((wrap64 (t243 + 4)) : Int).toNat)).bind fun t272 => (some (t265, t272, 0))) else (none))) else (some (([] : List Int), ([] : List Int), 2)))) else (none)) else (none)))) = some (r1, r2, r3) := by first | (rw [hy248]; with_reducible exact H) | (have H2_ := (Option.bind_some _ _).symm.trans H; rw [hy248]; with_reducible exact H2_) | (have H2_ := (Option.bind_some _ _).symm.trans H; with_reducible exact H2_) | with_reducible exact H | (rw [hy248]; exact H) | exact H
                have Ny248 := Aside0.mk hy248
                clear hy248
                replace H := Option.bind_eq_some_iff.mp H
                obtain ⟨t252, A130, H⟩ := H
                replace H : ((joistref04_four.f t252).bind fun t253 => (if t243 ≤ (wrap64 (t243 + 4)) then (if (wrap64 (t243 + 4)) ≤ (t244.length : Int) then ((joistref00_SameBytes.f kj4 t253 ((t244.take ((wrap64 (t243 + 4)) : Int).toNat).drop (t243 : Int).toNat)).bind fun t260 => (if t260 = true then ((joistref00_CopyBytes.f (t244.take (t243 : Int).toNat)).bind fun t265 => (if 0 ≤ (wrap64 (t243 + 4)) then ((joistref00_CopyBytes.f (t244.drop ((wrap64 (t243 + 4)) : Int).toNat)).bind fun t272 => (some (t265, t272, 0))) else (none))) else (some (([] : List Int), ([] : List Int), 2)))) else (none)) else (none))) = some (r1, r2, r3) := H
                have A13 := Aside0.mk A130
                clear A130
                replace H := Option.bind_eq_some_iff.mp H
                obtain ⟨t253, A140, H⟩ := H
                replace H : (if t243 ≤ (wrap64 (t243 + 4)) then (if (wrap64 (t243 + 4)) ≤ (t244.length : Int) then ((joistref00_SameBytes.f kj4 t253 ((t244.take ((wrap64 (t243 + 4)) : Int).toNat).drop (t243 : Int).toNat)).bind fun t260 => (if t260 = true then ((joistref00_CopyBytes.f (t244.take (t243 : Int).toNat)).bind fun t265 => (if 0 ≤ (wrap64 (t243 + 4)) then ((joistref00_CopyBytes.f (t244.drop ((wrap64 (t243 + 4)) : Int).toNat)).bind fun t272 => (some (t265, t272, 0))) else (none))) else (some (([] : List Int), ([] : List Int), 2)))) else (none)) else (none)) = some (r1, r2, r3) := H
                have A14 := Aside0.mk A140
                clear A140
                have c15b0 := eq_true (of_decide_eq_true (by first | (with_reducible assumption) | assumption) : 0 ≤ t243)
                by_cases c16 : t243 ≤ (wrap64 (t243 + 4))
                · rw [if_pos c16] at H
                  have c16b0 := eq_true c16
                  have c16b1 : decide (t243 ≤ (wrap64 (t243 + 4))) = true := decide_eq_true c16
                  by_cases c17 : (wrap64 (t243 + 4)) ≤ (t244.length : Int)
                  · rw [if_pos c17] at H
                    have c17b0 := eq_true c17
                    have c17b1 : decide ((wrap64 (t243 + 4)) ≤ (t244.length : Int)) = true := decide_eq_true c17
                    obtain ⟨y256, hy256⟩ : ∃ y_ : List Int, y_ = ((t244.take ((wrap64 (t243 + 4)) : Int).toNat).drop (t243 : Int).toNat) := ⟨_, rfl⟩
                    replace H : ((joistref00_SameBytes.f kj4 t253 y256).bind fun t260 => (if t260 = true then ((joistref00_CopyBytes.f (t244.take (t243 : Int).toNat)).bind fun t265 => (if 0 ≤ (wrap64 (t243 + 4)) then ((joistref00_CopyBytes.f (t244.drop ((wrap64 (t243 + 4)) : Int).toNat)).bind fun t272 => (some (t265, t272, 0))) else (none))) else (some (([] : List Int), ([] : List Int), 2)))) = some (r1, r2, r3) := by first | (rw [hy256]; with_reducible exact H) | (have H2_ := (Option.bind_some _ _).symm.trans H; rw [hy256]; with_reducible exact H2_) | (have H2_ := (Option.bind_some _ _).symm.trans H; with_reducible exact H2_) | with_reducible exact H | (rw [hy256]; exact H) | exact H
                    have Ny256 := Aside0.mk hy256
                    clear hy256
                    replace H := Option.bind_eq_some_iff.mp H
                    obtain ⟨t260, A180, H⟩ := H
                    replace H : (if t260 = true then ((joistref00_CopyBytes.f (t244.take (t243 : Int).toNat)).bind fun t265 => (if 0 ≤ (wrap64 (t243 + 4)) then ((joistref00_CopyBytes.f (t244.drop ((wrap64 (t243 + 4)) : Int).toNat)).bind fun t272 => (some (t265, t272, 0))) else (none))) else (some (([] : List Int), ([] : List Int), 2))) = some (r1, r2, r3) := H
                    have A18 := Aside0.mk A180
                    clear A180
                    by_cases c19 : t260 = true
                    · subst c19
                      have H1 : ((joistref00_CopyBytes.f (t244.take (t243 : Int).toNat)).bind fun t265 => (if 0 ≤ (wrap64 (t243 + 4)) then ((joistref00_CopyBytes.f (t244.drop ((wrap64 (t243 + 4)) : Int).toNat)).bind fun t272 => (some (t265, t272, 0))) else (none))) = some (r1, r2, r3) := by rw [if_pos rfl] at H; exact H
                      clear H
                      have H := H1
                      clear H1
                      have c20b0 := eq_true (of_decide_eq_true (by first | (with_reducible assumption) | assumption) : 0 ≤ t243)
                      have c21b0 := eq_true (of_decide_eq_true (by first | (with_reducible assumption) | assumption) : t243 ≤ (t244.length : Int))
                      obtain ⟨y261, hy261⟩ : ∃ y_ : List Int, y_ = (t244.take (t243 : Int).toNat) := ⟨_, rfl⟩
                      replace H : ((joistref00_CopyBytes.f y261).bind fun t265 => (if 0 ≤ (wrap64 (t243 + 4)) then ((joistref00_CopyBytes.f (t244.drop ((wrap64 (t243 + 4)) : Int).toNat)).bind fun t272 => (some (t265, t272, 0))) else (none))) = some (r1, r2, r3) := by first | (rw [hy261]; with_reducible exact H) | (have H2_ := (Option.bind_some _ _).symm.trans H; rw [hy261]; with_reducible exact H2_) | (have H2_ := (Option.bind_some _ _).symm.trans H; with_reducible exact H2_) | with_reducible exact H | (rw [hy261]; exact H) | exact H
                      have Ny261 := Aside0.mk hy261
                      clear hy261
                      replace H := Option.bind_eq_some_iff.mp H
                      obtain ⟨t265, A220, H⟩ := H
                      replace H : (if 0 ≤ (wrap64 (t243 + 4)) then ((joistref00_CopyBytes.f (t244.drop ((wrap64 (t243 + 4)) : Int).toNat)).bind fun t272 => (some (t265, t272, 0))) else (none)) = some (r1, r2, r3) := H
                      have A22 := Aside0.mk A220
                      clear A220
                      obtain ⟨ji23, hji23⟩ : ∃ j_ : Int, (wrap64 (t243 + 4)) = j_ := ⟨_, rfl⟩
                      replace H : (if 0 ≤ (ji23) then ((joistref00_CopyBytes.f (t244.drop ((ji23) : Int).toNat)).bind fun t272 => (some (t265, t272, 0))) else (none)) = some (r1, r2, r3) := by first | (rw [hji23] at H; exact H) | (simp only [hji23] at H ⊢; exact H)
                      (try rw [hji23] at c9b0)
                      (try rw [hji23] at c16b0)
                      (try rw [hji23] at c16b1)
                      (try rw [hji23] at c16)
                      (try rw [hji23] at c17b0)
                      (try rw [hji23] at c17b1)
                      (try rw [hji23] at c17)
                      (try rw [hji23] at A13)
                      (try rw [hji23] at A14)
                      (try rw [hji23] at Ny256)
                      (try rw [hji23] at A18)
                      (try rw [hji23] at A22)
                      have hji23w : (IntKind.i64.wrap (t243 + 4)) = ji23 := (i64_w _).trans hji23
                      by_cases c24 : 0 ≤ (ji23)
                      · rw [if_pos c24] at H
                        have c24b0 := eq_true c24
                        have c24b1 : decide (0 ≤ (ji23)) = true := decide_eq_true c24
                        clear c24
                        have c25b0 := eq_true (of_decide_eq_true (by first | (with_reducible assumption) | assumption) : (ji23) ≤ (t244.length : Int))
                        obtain ⟨y268, hy268⟩ : ∃ y_ : List Int, y_ = (t244.drop ((ji23) : Int).toNat) := ⟨_, rfl⟩
                        replace H : ((joistref00_CopyBytes.f y268).bind fun t272 => (some (t265, t272, 0))) = some (r1, r2, r3) := by first | (rw [hy268]; with_reducible exact H) | (have H2_ := (Option.bind_some _ _).symm.trans H; rw [hy268]; with_reducible exact H2_) | (have H2_ := (Option.bind_some _ _).symm.trans H; with_reducible exact H2_) | with_reducible exact H | (rw [hy268]; exact H) | exact H
                        have Ny268 := Aside0.mk hy268
                        clear hy268
                        replace H := Option.bind_eq_some_iff.mp H
                        obtain ⟨t272, A260, H⟩ := H
                        replace H : (some (t265, t272, 0)) = some (r1, r2, r3) := H
                        have A26 := Aside0.mk A260
                        clear A260
                        simp only [Option.some.injEq, Prod.mk.injEq] at H
                        obtain ⟨rfl, rfl, rfl⟩ := H
                        obtain ⟨Ao27, co27, eo27⟩ := Kd.R_slice HO_6.out
                        subst eo27
                        try go_wp2
                        have n0_ := Aside0.mk (Kd.R_drew HO_6.out)
                        have n1_ := Aside0.mk (below_drew1 HB.out)
                        clear HO_6
                        clear HB
                        have HO_6 := n0_
                        have HB := n1_
                        clear n0_ n1_
                        have q29 : (t243 : Int) ≤ ((t244.length : Int) : Int) := of_decide_eq_true (by first | (with_reducible assumption) | assumption)
                        obtain ⟨i029, hi029, _, hsz29, _⟩ := info_parts info5
                        have hroom29 : t244.length ≤ co27 := (Kd.R_reads' HO_6.out).2.1
                        have hC29 : Kd.C (Kd.int .u8) _ Ao27 t244.length t244 := (Kd.R_reads' HO_6.out).2.2
                        have hcut29 := cut_to (P := Try.prog) 22 5 .i64 Try.underlying22 hi029 Ao27 t244.length co27 t243 (of_decide_eq_true (by first | (with_reducible assumption) | assumption)) q29 hroom29
                        have hr29 := Kd.C_take (m := (t243 : Int).toNat) hC29 (by omega)
                        have hy29 : y248.length = (t243 : Int).toNat := (by rw [Ny248.out, List.length_take]; omega)
                        rw [← Ny248.out] at hr29
                        rw [← hy29] at hcut29
                        have HR251 := Aside0.mk hr29
                        have HC251 := Aside0.mk (show y248.length ≤ co27 from by omega)
                        clear hr29 hC29 hroom29 hi029 hsz29
                        have KY29 := Aside0.mk hy29
                        clear hy29
                        have KL29 := Aside0.mk (show (t243 : Int).toNat ≤ t244.length from by omega)
                        replace q29 := eq_true q29
                        have q30 : ((ji23) : Int) ≤ ((t244.length : Int) : Int) := of_decide_eq_true (by first | (with_reducible assumption) | assumption)
                        obtain ⟨i030, hi030, _, hsz30, _⟩ := info_parts info5
                        have hroom30 : t244.length ≤ co27 := (Kd.R_reads' HO_6.out).2.1
                        have hC30 : Kd.C (Kd.int .u8) _ Ao27 t244.length t244 := (Kd.R_reads' HO_6.out).2.2
                        have ql30 : (t243 : Int) ≤ ((ji23) : Int) := of_decide_eq_true (by first | (with_reducible assumption) | assumption)
                        have q030 : (0 : Int) ≤ (t243 : Int) := of_decide_eq_true (by first | (with_reducible assumption) | assumption)
                        have hcut30 := cut_mid (P := Try.prog) 22 5 .i64 .i64 Try.underlying22 hi030 1 hsz30 Ao27 t244.length co27 t243 (ji23) q030 ql30 q30 hroom30
                        have hr30 := Kd.C_mid (lo := (t243 : Int).toNat) (hi := ((ji23) : Int).toNat) (c := co27) hC30 (by omega) (by omega) hroom30
                        obtain ⟨A30, hA30⟩ : ∃ A1, A1 = (if co27 = (t243 : Int).toNat then Ao27 else (Ao27 : Option Addr).map (·.add ((t243 : Int).toNat * 1))) := ⟨_, rfl⟩
                        obtain ⟨c30, hc30⟩ : ∃ c1, c1 = co27 - (t243 : Int).toNat := ⟨_, rfl⟩
                        have hy30 : y256.length = ((ji23) : Int).toNat - (t243 : Int).toNat := (by rw [Ny256.out, List.length_drop, List.length_take] <;> omega)
                        rw [show ((t244).take ((ji23) : Int).toNat).drop (t243 : Int).toNat = y256 from Ny256.out.symm] at hr30
                        replace hr30 : Kd.C (Kd.int .u8) _ A30 y256.length y256 := (by rw [hA30]; exact hr30)
                        rw [← hy30, ← hA30, ← hc30] at hcut30
                        have HR259 := Aside0.mk hr30
                        have HC259 := Aside0.mk (show y256.length ≤ c30 from by rw [hy30, hc30]; exact Nat.sub_le_sub_right (Nat.le_trans (by omega) hroom30) _)
                        clear hr30 hC30 hroom30 hi030 hsz30 hc30
                        have KY30 := Aside0.mk hy30
                        have KA30 := Aside0.mk hA30
                        clear hy30 hA30
                        have KL30 := Aside0.mk (show ((ji23) : Int).toNat ≤ t244.length from by omega)
                        have KM30 := Aside0.mk (show (t243 : Int).toNat ≤ ((ji23) : Int).toNat from by omega)
                        replace q30 := eq_true q30
                        refine start_ (n := 12) (S := fun w' => True) (ds := []) #[false, false, false, false, false, false, false, false, false, false, false, false] (by kernel_rfl) rfl rfl trivial (fun hHeld => ?_); refine with_tabW joistref04_Next.tab8 joistref04_Next.bits8 (fun HT_ HW_ => ?_)
                        generalize wc.drew = w28 at HO_6 HB HR251 HR259 hHeld ⊢
                        refine pure_ (i := 0) (N := some 27) (v := ?_) (a' := ?_) #[true, false, false, false, false, false, false, false, false, false, false, false] rfl rfl (any_of HT_.out (by kernel_rfl)) (fun _ _ _ h => h) (Or.inl ⟨by rfl, ?_⟩) ?_ ?_
                        rotate_left
                        · intro w'
                          go_simp
                          with_reducible rfl
                        rotate_left
                        · simp only [Act.put, List.setIfInBounds_toArray, List.set_cons_zero, List.set_cons_succ, i64_w, i32_w]
                          rfl
                        refine pure_ (i := 1) (N := some 28) (v := ?_) (a' := ?_) #[true, true, false, false, false, false, false, false, false, false, false, false] rfl rfl (any_of HT_.out (by kernel_rfl)) (fun _ _ _ h => h) (Or.inl ⟨by rfl, ?_⟩) ?_ ?_
                        rotate_left
                        · intro w'
                          go_simp
                          with_reducible rfl
                        rotate_left
                        · simp only [Act.put, List.setIfInBounds_toArray, List.set_cons_zero, List.set_cons_succ, i64_w, i32_w]
                          rfl
                        refine pure_ (i := 2) (N := some 29) (v := ?_) (a' := ?_) #[true, true, true, false, false, false, false, false, false, false, false, false] rfl rfl (any_of HT_.out (by kernel_rfl)) (fun _ _ _ h => h) (Or.inl ⟨by rfl, ?_⟩) ?_ ?_
                        rotate_left
                        · intro w'
                          go_simp
                          with_reducible rfl
                        rotate_left
                        · simp only [Act.put, List.setIfInBounds_toArray, List.set_cons_zero, List.set_cons_succ, i64_w, i32_w]
                          rfl
                        refine pure_ (i := 5) (N := some 32) (v := ?_) (a' := ?_) #[true, true, true, false, false, true, false, false, false, false, false, false] rfl rfl (any_of HT_.out (by kernel_rfl)) (fun _ _ _ h => h) (Or.inl ⟨by rfl, ?_⟩) ?_ ?_
                        rotate_left
                        · intro w'
                          go_simp
                          with_reducible rfl
                        rotate_left
                        · simp only [Act.put, List.setIfInBounds_toArray, List.set_cons_zero, List.set_cons_succ, i64_w, i32_w]
                          rfl
                        refine pure_ (i := 6) (N := some 33) (v := ?_) (a' := ?_) #[true, true, true, false, false, true, true, false, false, false, false, false] rfl rfl (any_of HT_.out (by kernel_rfl)) (fun _ _ _ h => h) (Or.inl ⟨by rfl, ?_⟩) ?_ ?_
                        rotate_left
                        · intro w'
                          go_simp
                          with_reducible rfl
                        rotate_left
                        · simp only [Act.put, List.setIfInBounds_toArray, List.set_cons_zero, List.set_cons_succ, i64_w, i32_w]
                          rfl
                        refine pure_ (i := 7) (N := some 34) (v := ?_) (a' := ?_) #[true, true, true, false, false, true, true, true, false, false, false, false] rfl rfl (any_of HT_.out (by kernel_rfl)) (fun _ _ _ h => h) (Or.inl ⟨by rfl, ?_⟩) ?_ ?_
                        rotate_left
                        · intro w'
                          go_simp
                          with_reducible rfl
                        rotate_left
                        · simp only [Act.put, List.setIfInBounds_toArray, List.set_cons_zero, List.set_cons_succ, i64_w, i32_w]
                          rfl
                        refine pure_ (i := 8) (N := some 35) (v := ?_) (a' := ?_) #[true, true, true, false, false, true, true, true, true, false, false, false] rfl rfl (any_of HT_.out (by kernel_rfl)) (fun _ _ _ h => h) (Or.inl ⟨by rfl, ?_⟩) ?_ ?_
                        rotate_left
                        · intro w'
                          go_simp
                          with_reducible rfl
                        rotate_left
                        · simp only [Act.put, List.setIfInBounds_toArray, List.set_cons_zero, List.set_cons_succ, i64_w, i32_w]
                          rfl
                        refine pure_ (i := 9) (N := some 36) (v := ?_) (a' := ?_) #[true, true, true, false, false, true, true, true, true, true, false, false] rfl rfl (any_of HT_.out (by kernel_rfl)) (fun _ _ _ h => h) (Or.inl ⟨by rfl, ?_⟩) ?_ ?_
                        rotate_left
                        · intro w'
                          go_simp
                          with_reducible rfl
                        rotate_left
                        · simp only [Act.put, List.setIfInBounds_toArray, List.set_cons_zero, List.set_cons_succ, i64_w, i32_w]
                          rfl
                        refine one_ (i := 3) (N := some 30) #[true, true, true, true, false, true, true, true, true, true, false, false] rfl rfl (one_of HT_.out (by kernel_rfl)) (by decide) (fun K hK => ?_)
                        refine goes_ Try.func18 (by kernel_rfl) rfl #[.slice Ao27 y248.length co27] (by rfl) rfl rfl (by (try simp only [List.map_toArray, List.map_cons, List.map_nil]); first | done | rfl | (simp only [List.length_drop, List.length_take]; rfl)) ?_
                        with_reducible refine (joistref04_Sum.calls kj4 _ _ y248 t252 _ ?side1 ?side2 A13.out).mono ?_
                        (case side1 => repeat (first | exact (by repeat (first | (with_reducible exact HR251.out) | (with_reducible refine Kd.C_alloc ?_ _) | (with_reducible refine Kd.C_drewN ?_ _) | (with_reducible refine Kd.C_drew ?_) | exact HR251.out)) | (with_reducible refine Kd.C_alloc ?_ _) | (with_reducible refine Kd.C_drewN ?_ _) | (with_reducible refine Kd.C_drew ?_)))
                        (case side2 => exact HC251.out)
                        rintro e w' ⟨rfl, ⟨nd, rfl⟩⟩
                        refine ⟨_, rfl, ?_⟩
                        refine hK.out _ _ trivial (fun hHeld => ?_)
                        clear hK K
                        refine norm_ (a' := ?_) ?_ ?_
                        rotate_left
                        · show Act.put _ (some 30) _ = _
                          simp only [Act.put, List.setIfInBounds_toArray, List.set_cons_zero, List.set_cons_succ, i64_w, i32_w]
                          rfl
                        refine one_ (i := 4) (N := some 31) #[true, true, true, true, true, true, true, true, true, true, false, false] rfl rfl (one_of HT_.out (by kernel_rfl)) (by decide) (fun K hK => ?_)
                        refine goes_ Try.func29 (by kernel_rfl) rfl #[.int .i64 t252] (by rfl) rfl rfl (by (try simp only [List.map_toArray, List.map_cons, List.map_nil]); first | done | rfl | (simp only [List.length_drop, List.length_take]; rfl)) ?_
                        with_reducible refine (joistref04_four.calls t252 t253 _ A14.out).mono ?_
                        rintro e w31 ⟨v254, rfl, ho0, hb⟩
                        refine ⟨_, rfl, ?_⟩
                        have n0_ := Aside0.mk (Kd.R_elder' (by (with_reducible repeat (first | apply Kd.R_alloc | apply Kd.R_drewN | apply Kd.R_drew)); exact HO_6.out) (Kd.R_base ho0) hb)
                        have n1_ := Aside0.mk (Kd.R_lower (Kd.R_new' ho0 (Kd.R_lt (by (with_reducible repeat (first | apply Kd.R_alloc | apply Kd.R_drewN | apply Kd.R_drew)); exact HO_6.out))) (below_size (by repeat (first | (with_reducible first | exact HB.out | apply below_alloc | apply pw_below_drewN | apply below_drew1) | exact HB.out))))
                        have n2_ := Aside0.mk (Kd.C_below (by repeat (first | (with_reducible exact HR251.out) | (with_reducible refine Kd.C_alloc ?_ _) | (with_reducible refine Kd.C_drewN ?_ _) | (with_reducible refine Kd.C_drew ?_) | exact HR251.out)) hb)
                        have n3_ := Aside0.mk (Kd.C_below (by repeat (first | (with_reducible exact HR259.out) | (with_reducible refine Kd.C_alloc ?_ _) | (with_reducible refine Kd.C_drewN ?_ _) | (with_reducible refine Kd.C_drew ?_) | exact HR259.out)) hb)
                        have n4_ := Aside0.mk (below_step (by repeat (first | (with_reducible first | exact HB.out | apply below_alloc | apply pw_below_drewN | apply below_drew1) | exact HB.out)) hb)
                        clear HO_6
                        clear HR251
                        clear HR259
                        clear HB
                        have HO_6 := n0_
                        have HO255 := n1_
                        have HR251 := n2_
                        have HR259 := n3_
                        have HB := n4_
                        clear n0_ n1_ n2_ n3_ n4_
                        (try clear hb)
                        (try clear hb2)
                        (try clear hk)
                        (try clear hi)
                        (try clear ho0)
                        obtain ⟨Ao32, co32, eo32⟩ := Kd.R_slice HO255.out
                        (first | subst eo32 | (injection eo32 with f1_ f2_ f3_; have f4_ := f1_.symm; have f5_ := f3_.symm; clear f1_ f2_ f3_; subst f4_; subst f5_))
                        refine hK.out _ _ trivial (fun hHeld => ?_)
                        clear hK K
                        refine norm_ (a' := ?_) ?_ ?_
                        rotate_left
                        · show Act.put _ (some 31) _ = _
                          simp only [Act.put, List.setIfInBounds_toArray, List.set_cons_zero, List.set_cons_succ, i64_w, i32_w]
                          rfl
                        refine one_ (i := 10) (N := some 37) #[true, true, true, true, true, true, true, true, true, true, true, false] rfl rfl (one_of HT_.out (by kernel_rfl)) (by decide) (fun K hK => ?_)
                        refine goes_ Try.func11 (by kernel_rfl) rfl #[.slice Ao32 t253.length co32, .slice A30 y256.length c30] (by rfl) rfl rfl (by (try simp only [List.map_toArray, List.map_cons, List.map_nil]); first | done | rfl | (simp only [List.length_drop, List.length_take]; rfl)) ?_
                        with_reducible refine (joistref00_SameBytes.calls kj4 _ _ t253 _ _ y256 true _ ?side1 ?side2 ?side3 ?side4 A18.out).mono ?_
                        (case side1 => repeat (first | exact (Kd.R_reads' HO255.out).2.2 | (with_reducible refine Kd.C_alloc ?_ _) | (with_reducible refine Kd.C_drewN ?_ _) | (with_reducible refine Kd.C_drew ?_)))
                        (case side2 => exact (Kd.R_reads' HO255.out).2.1)
                        (case side3 => repeat (first | exact (by repeat (first | (with_reducible exact HR259.out) | (with_reducible refine Kd.C_alloc ?_ _) | (with_reducible refine Kd.C_drewN ?_ _) | (with_reducible refine Kd.C_drew ?_) | exact HR259.out)) | (with_reducible refine Kd.C_alloc ?_ _) | (with_reducible refine Kd.C_drewN ?_ _) | (with_reducible refine Kd.C_drew ?_)))
                        (case side4 => exact HC259.out)
                        rintro e w' ⟨rfl, ⟨nd, rfl⟩⟩
                        refine ⟨_, rfl, ?_⟩
                        refine hK.out _ _ trivial (fun hHeld => ?_)
                        clear hK K
                        refine norm_ (a' := ?_) ?_ ?_
                        rotate_left
                        · show Act.put _ (some 37) _ = _
                          simp only [Act.put, List.setIfInBounds_toArray, List.set_cons_zero, List.set_cons_succ, i64_w, i32_w]
                          rfl
                        refine pure_ (i := 11) (N := some 38) (v := ?_) (a' := ?_) #[true, true, true, true, true, true, true, true, true, true, true, true] rfl rfl (any_of HT_.out (by kernel_rfl)) (fun _ _ _ h => h) (Or.inl ⟨by rfl, ?_⟩) ?_ ?_
                        rotate_left
                        · intro w'
                          go_simp
                          with_reducible rfl
                        rotate_left
                        · simp only [Act.put, List.setIfInBounds_toArray, List.set_cons_zero, List.set_cons_succ, i64_w, i32_w]
                          rfl
                        refine done_ (done_of HT_.out (by kernel_rfl)) ?_
                        try go_wp2
                        (try (rw [drewN_self w31]; generalize hq_ : World.drewN w31 _ = w31; have n0_ : Aside0 (Kd.R (Kd.int .u8) 5 w31 w.heap.size (fun k_ => some k_ ≠ (.slice Ao27 t244.length co27 : Value).ownBlock) (.slice Ao32 t253.length co32) t253) := ⟨by rw [← hq_]; exact (by (with_reducible repeat (first | apply Kd.R_alloc | apply Kd.R_drewN | apply Kd.R_drew)); exact Kd.R_mono HO255.out (fun _ hk => hk.2))⟩; have n1_ : Aside0 (Kd.R (Kd.int .u8) 5 w31 w.heap.size (fun k_ => some k_ ≠ (.slice Ao32 t253.length co32 : Value).ownBlock) (.slice Ao27 t244.length co27) t244) := ⟨by rw [← hq_]; exact (by (with_reducible repeat (first | apply Kd.R_alloc | apply Kd.R_drewN | apply Kd.R_drew)); exact Kd.R_mono HO_6.out (fun _ hk => hk.2))⟩; have n2_ : Aside0 (Below w.heap.size w w31) := ⟨by rw [← hq_]; exact (by repeat (first | (with_reducible first | exact HB.out | apply below_alloc | apply pw_below_drewN | apply below_drew1) | exact HB.out))⟩; have n3_ : Aside0 (Kd.C (Kd.int .u8) w31 Ao27 y248.length y248) := ⟨by rw [← hq_]; exact (by repeat (first | (with_reducible exact HR251.out) | (with_reducible refine Kd.C_alloc ?_ _) | (with_reducible refine Kd.C_drewN ?_ _) | (with_reducible refine Kd.C_drew ?_) | exact HR251.out))⟩; have n4_ : Aside0 (Kd.C (Kd.int .u8) w31 A30 y256.length y256) := ⟨by rw [← hq_]; exact (by repeat (first | (with_reducible exact HR259.out) | (with_reducible refine Kd.C_alloc ?_ _) | (with_reducible refine Kd.C_drewN ?_ _) | (with_reducible refine Kd.C_drew ?_) | exact HR259.out))⟩; clear HO255 HO_6 HB HR251 HR259 hq_; have HO255 := n0_; have HO_6 := n1_; have HB := n2_; have HR251 := n3_; have HR259 := n4_; clear n0_ n1_ n2_ n3_ n4_))
                        have n0_ := Aside0.mk (Kd.R_drew HO_6.out)
                        have n1_ := Aside0.mk (Kd.R_drew HO255.out)
                        have n2_ := Aside0.mk (Kd.C_drew HR251.out)
                        have n3_ := Aside0.mk (Kd.C_drew HR259.out)
                        have n4_ := Aside0.mk (below_drew1 HB.out)
                        clear HO_6
                        clear HO255
                        clear HR251
                        clear HR259
                        clear HB
                        have HO_6 := n0_
                        have HO255 := n1_
                        have HR251 := n2_
                        have HR259 := n3_
                        have HB := n4_
                        clear n0_ n1_ n2_ n3_ n4_
                        have q34 : (t243 : Int) ≤ ((t244.length : Int) : Int) := of_decide_eq_true (by first | (with_reducible assumption) | assumption)
                        obtain ⟨i034, hi034, _, hsz34, _⟩ := info_parts info5
                        have hroom34 : t244.length ≤ co27 := (Kd.R_reads' HO_6.out).2.1
                        have hC34 : Kd.C (Kd.int .u8) _ Ao27 t244.length t244 := (Kd.R_reads' HO_6.out).2.2
                        have hcut34 := cut_to (P := Try.prog) 22 5 .i64 Try.underlying22 hi034 Ao27 t244.length co27 t243 (of_decide_eq_true (by first | (with_reducible assumption) | assumption)) q34 hroom34
                        have hr34 := Kd.C_take (m := (t243 : Int).toNat) hC34 (by omega)
                        have hy34 : y261.length = (t243 : Int).toNat := (by rw [Ny261.out, List.length_take]; omega)
                        rw [← Ny261.out] at hr34
                        rw [← hy34] at hcut34
                        have HR264 := Aside0.mk hr34
                        have HC264 := Aside0.mk (show y261.length ≤ co27 from by omega)
                        clear hr34 hC34 hroom34 hi034 hsz34
                        have KY34 := Aside0.mk hy34
                        clear hy34
                        have KL34 := Aside0.mk (show (t243 : Int).toNat ≤ t244.length from by omega)
                        replace q34 := eq_true q34
                        have q35 : ((ji23) : Int) ≤ ((t244.length : Int) : Int) := of_decide_eq_true (by first | (with_reducible assumption) | assumption)
                        obtain ⟨i035, hi035, _, hsz35, _⟩ := info_parts info5
                        have hroom35 : t244.length ≤ co27 := (Kd.R_reads' HO_6.out).2.1
                        have hC35 : Kd.C (Kd.int .u8) _ Ao27 t244.length t244 := (Kd.R_reads' HO_6.out).2.2
                        have q035 : (0 : Int) ≤ ((ji23) : Int) := of_decide_eq_true (by first | (with_reducible assumption) | assumption)
                        have hcut35 := cut_from (P := Try.prog) 22 5 .i64 Try.underlying22 hi035 1 hsz35 Ao27 t244.length co27 (ji23) q035 q35
                        have hr35 := Kd.C_drop (m := ((ji23) : Int).toNat) (c := co27) hC35 (by omega) hroom35
                        obtain ⟨A35, hA35⟩ : ∃ A1, A1 = (if co27 = ((ji23) : Int).toNat then Ao27 else (Ao27 : Option Addr).map (·.add (((ji23) : Int).toNat * 1))) := ⟨_, rfl⟩
                        obtain ⟨c35, hc35⟩ : ∃ c1, c1 = co27 - ((ji23) : Int).toNat := ⟨_, rfl⟩
                        have hy35 : y268.length = t244.length - ((ji23) : Int).toNat := (by rw [Ny268.out, List.length_drop] <;> omega)
                        rw [show (t244).drop ((ji23) : Int).toNat = y268 from Ny268.out.symm] at hr35
                        replace hr35 : Kd.C (Kd.int .u8) _ A35 y268.length y268 := (by rw [hA35]; exact hr35)
                        rw [← hy35, ← hA35, ← hc35] at hcut35
                        have HR271 := Aside0.mk hr35
                        have HC271 := Aside0.mk (show y268.length ≤ c35 from by rw [hy35, hc35]; exact Nat.sub_le_sub_right hroom35 _)
                        clear hr35 hC35 hroom35 hi035 hsz35 hc35
                        have KY35 := Aside0.mk hy35
                        have KA35 := Aside0.mk hA35
                        clear hy35 hA35
                        have KL35 := Aside0.mk (show ((ji23) : Int).toNat ≤ t244.length from by omega)
                        replace q35 := eq_true q35
                        refine start_ (n := 12) (S := fun w' => True) (ds := []) #[false, false, false, false, false, false, false, false, false, false, false, false] (by kernel_rfl) rfl rfl trivial (fun hHeld => ?_); refine with_tabW joistref04_Next.tab10 joistref04_Next.bits10 (fun HT_ HW_ => ?_)
                        generalize w31.drew = w33 at HO_6 HO255 HR251 HR259 HB HR264 HR271 hHeld ⊢
                        refine pure_ (i := 0) (N := some 39) (v := ?_) (a' := ?_) #[true, false, false, false, false, false, false, false, false, false, false, false] rfl rfl (any_of HT_.out (by kernel_rfl)) (fun _ _ _ h => h) (Or.inl ⟨by rfl, ?_⟩) ?_ ?_
                        rotate_left
                        · intro w'
                          go_simp
                          with_reducible rfl
                        rotate_left
                        · simp only [Act.put, List.setIfInBounds_toArray, List.set_cons_zero, List.set_cons_succ, i64_w, i32_w]
                          rfl
                        refine pure_ (i := 1) (N := some 40) (v := ?_) (a' := ?_) #[true, true, false, false, false, false, false, false, false, false, false, false] rfl rfl (any_of HT_.out (by kernel_rfl)) (fun _ _ _ h => h) (Or.inl ⟨by rfl, ?_⟩) ?_ ?_
                        rotate_left
                        · intro w'
                          go_simp
                          with_reducible rfl
                        rotate_left
                        · simp only [Act.put, List.setIfInBounds_toArray, List.set_cons_zero, List.set_cons_succ, i64_w, i32_w]
                          rfl
                        refine pure_ (i := 2) (N := some 41) (v := ?_) (a' := ?_) #[true, true, true, false, false, false, false, false, false, false, false, false] rfl rfl (any_of HT_.out (by kernel_rfl)) (fun _ _ _ h => h) (Or.inl ⟨by rfl, ?_⟩) ?_ ?_
                        rotate_left
                        · intro w'
                          go_simp
                          with_reducible rfl
                        rotate_left
                        · simp only [Act.put, List.setIfInBounds_toArray, List.set_cons_zero, List.set_cons_succ, i64_w, i32_w]
                          rfl
                        refine pure_ (i := 4) (N := some 43) (v := ?_) (a' := ?_) #[true, true, true, false, true, false, false, false, false, false, false, false] rfl rfl (any_of HT_.out (by kernel_rfl)) (fun _ _ _ h => h) (Or.inl ⟨by rfl, ?_⟩) ?_ ?_
                        rotate_left
                        · intro w'
                          go_simp
                          with_reducible rfl
                        rotate_left
                        · simp only [Act.put, List.setIfInBounds_toArray, List.set_cons_zero, List.set_cons_succ, i64_w, i32_w]
                          rfl
                        refine pure_ (i := 5) (N := some 44) (v := ?_) (a' := ?_) #[true, true, true, false, true, true, false, false, false, false, false, false] rfl rfl (any_of HT_.out (by kernel_rfl)) (fun _ _ _ h => h) (Or.inl ⟨by rfl, ?_⟩) ?_ ?_
                        rotate_left
                        · intro w'
                          go_simp
                          with_reducible rfl
                        rotate_left
                        · simp only [Act.put, List.setIfInBounds_toArray, List.set_cons_zero, List.set_cons_succ, i64_w, i32_w]
                          rfl
                        refine pure_ (i := 6) (N := some 45) (v := ?_) (a' := ?_) #[true, true, true, false, true, true, true, false, false, false, false, false] rfl rfl (any_of HT_.out (by kernel_rfl)) (fun _ _ _ h => h) (Or.inl ⟨by rfl, ?_⟩) ?_ ?_
                        rotate_left
                        · intro w'
                          go_simp
                          with_reducible rfl
                        rotate_left
                        · simp only [Act.put, List.setIfInBounds_toArray, List.set_cons_zero, List.set_cons_succ, i64_w, i32_w]
                          rfl
                        refine pure_ (i := 7) (N := some 46) (v := ?_) (a' := ?_) #[true, true, true, false, true, true, true, true, false, false, false, false] rfl rfl (any_of HT_.out (by kernel_rfl)) (fun _ _ _ h => h) (Or.inl ⟨by rfl, ?_⟩) ?_ ?_
                        rotate_left
                        · intro w'
                          go_simp
                          with_reducible rfl
                        rotate_left
                        · simp only [Act.put, List.setIfInBounds_toArray, List.set_cons_zero, List.set_cons_succ, i64_w, i32_w]
                          rfl
                        refine one_ (i := 3) (N := some 42) #[true, true, true, true, true, true, true, true, false, false, false, false] rfl rfl (one_of HT_.out (by kernel_rfl)) (by decide) (fun K hK => ?_)
                        refine goes_ Try.func12 (by kernel_rfl) rfl #[.slice Ao27 y261.length co27] (by rfl) rfl rfl (by (try simp only [List.map_toArray, List.map_cons, List.map_nil]); first | done | rfl | (simp only [List.length_drop, List.length_take]; rfl) | (rw [show y261.length = y248.length from by rw [Ny261.out, Ny248.out]]; rfl)) ?_
                        with_reducible refine (joistref00_CopyBytes.calls _ _ y261 t265 _ ?side1 ?side2 A22.out).mono ?_
                        (case side1 => repeat (first | exact (by repeat (first | (with_reducible exact HR264.out) | (with_reducible refine Kd.C_alloc ?_ _) | (with_reducible refine Kd.C_drewN ?_ _) | (with_reducible refine Kd.C_drew ?_) | exact HR264.out)) | (with_reducible refine Kd.C_alloc ?_ _) | (with_reducible refine Kd.C_drewN ?_ _) | (with_reducible refine Kd.C_drew ?_)))
                        (case side2 => exact HC264.out)
                        rintro e w36 ⟨v266, rfl, ho0, hb⟩
                        refine ⟨_, rfl, ?_⟩
                        have n0_ := Aside0.mk (Kd.R_elder' (by (with_reducible repeat (first | apply Kd.R_alloc | apply Kd.R_drewN | apply Kd.R_drew)); exact HO_6.out) (Kd.R_base ho0) hb)
                        have n1_ := Aside0.mk (Kd.R_elder' (by (with_reducible repeat (first | apply Kd.R_alloc | apply Kd.R_drewN | apply Kd.R_drew)); exact HO255.out) (Kd.R_base ho0) hb)
                        have n2_ := Aside0.mk (Kd.R_lower (Kd.R_new' (Kd.R_new' ho0 (Kd.R_lt (by (with_reducible repeat (first | apply Kd.R_alloc | apply Kd.R_drewN | apply Kd.R_drew)); exact HO_6.out))) (Kd.R_lt (by (with_reducible repeat (first | apply Kd.R_alloc | apply Kd.R_drewN | apply Kd.R_drew)); exact HO255.out))) (below_size (by repeat (first | (with_reducible first | exact HB.out | apply below_alloc | apply pw_below_drewN | apply below_drew1) | exact HB.out))))
                        have n3_ := Aside0.mk (Kd.C_below (by repeat (first | (with_reducible exact HR251.out) | (with_reducible refine Kd.C_alloc ?_ _) | (with_reducible refine Kd.C_drewN ?_ _) | (with_reducible refine Kd.C_drew ?_) | exact HR251.out)) hb)
                        have n4_ := Aside0.mk (Kd.C_below (by repeat (first | (with_reducible exact HR259.out) | (with_reducible refine Kd.C_alloc ?_ _) | (with_reducible refine Kd.C_drewN ?_ _) | (with_reducible refine Kd.C_drew ?_) | exact HR259.out)) hb)
                        have n5_ := Aside0.mk (Kd.C_below (by repeat (first | (with_reducible exact HR264.out) | (with_reducible refine Kd.C_alloc ?_ _) | (with_reducible refine Kd.C_drewN ?_ _) | (with_reducible refine Kd.C_drew ?_) | exact HR264.out)) hb)
                        have n6_ := Aside0.mk (Kd.C_below (by repeat (first | (with_reducible exact HR271.out) | (with_reducible refine Kd.C_alloc ?_ _) | (with_reducible refine Kd.C_drewN ?_ _) | (with_reducible refine Kd.C_drew ?_) | exact HR271.out)) hb)
                        have n7_ := Aside0.mk (below_step (by repeat (first | (with_reducible first | exact HB.out | apply below_alloc | apply pw_below_drewN | apply below_drew1) | exact HB.out)) hb)
                        clear HO_6
                        clear HO255
                        clear HR251
                        clear HR259
                        clear HR264
                        clear HR271
                        clear HB
                        have HO_6 := n0_
                        have HO255 := n1_
                        have HO267 := n2_
                        have HR251 := n3_
                        have HR259 := n4_
                        have HR264 := n5_
                        have HR271 := n6_
                        have HB := n7_
                        clear n0_ n1_ n2_ n3_ n4_ n5_ n6_ n7_
                        (try clear hb)
                        (try clear hb2)
                        (try clear hk)
                        (try clear hi)
                        (try clear ho0)
                        refine hK.out _ _ trivial (fun hHeld => ?_)
                        clear hK K
                        refine norm_ (a' := ?_) ?_ ?_
                        rotate_left
                        · show Act.put _ (some 42) _ = _
                          simp only [Act.put, List.setIfInBounds_toArray, List.set_cons_zero, List.set_cons_succ, i64_w, i32_w]
                          rfl
                        refine one_ (i := 8) (N := some 47) #[true, true, true, true, true, true, true, true, true, false, false, false] rfl rfl (one_of HT_.out (by kernel_rfl)) (by decide) (fun K hK => ?_)
                        refine goes_ Try.func12 (by kernel_rfl) rfl #[.slice A35 y268.length c35] (by rfl) rfl rfl (by (try simp only [List.map_toArray, List.map_cons, List.map_nil]); first | done | rfl | (simp only [List.length_drop, List.length_take]; rfl)) ?_
                        with_reducible refine (joistref00_CopyBytes.calls _ _ y268 t272 _ ?side1 ?side2 A26.out).mono ?_
                        (case side1 => repeat (first | exact (by repeat (first | (with_reducible exact HR271.out) | (with_reducible refine Kd.C_alloc ?_ _) | (with_reducible refine Kd.C_drewN ?_ _) | (with_reducible refine Kd.C_drew ?_) | exact HR271.out)) | (with_reducible refine Kd.C_alloc ?_ _) | (with_reducible refine Kd.C_drewN ?_ _) | (with_reducible refine Kd.C_drew ?_)))
                        (case side2 => exact HC271.out)
                        rintro e w37 ⟨v273, rfl, ho0, hb⟩
                        refine ⟨_, rfl, ?_⟩
                        have n0_ := Aside0.mk (Kd.R_elder' (by (with_reducible repeat (first | apply Kd.R_alloc | apply Kd.R_drewN | apply Kd.R_drew)); exact HO_6.out) (Kd.R_base ho0) hb)
                        have n1_ := Aside0.mk (Kd.R_elder' (by (with_reducible repeat (first | apply Kd.R_alloc | apply Kd.R_drewN | apply Kd.R_drew)); exact HO255.out) (Kd.R_base ho0) hb)
                        have n2_ := Aside0.mk (Kd.R_elder' (by (with_reducible repeat (first | apply Kd.R_alloc | apply Kd.R_drewN | apply Kd.R_drew)); exact HO267.out) (Kd.R_base ho0) hb)
                        have n3_ := Aside0.mk (Kd.R_lower (Kd.R_new' (Kd.R_new' (Kd.R_new' ho0 (Kd.R_lt (by (with_reducible repeat (first | apply Kd.R_alloc | apply Kd.R_drewN | apply Kd.R_drew)); exact HO_6.out))) (Kd.R_lt (by (with_reducible repeat (first | apply Kd.R_alloc | apply Kd.R_drewN | apply Kd.R_drew)); exact HO255.out))) (Kd.R_lt (by (with_reducible repeat (first | apply Kd.R_alloc | apply Kd.R_drewN | apply Kd.R_drew)); exact HO267.out))) (below_size (by repeat (first | (with_reducible first | exact HB.out | apply below_alloc | apply pw_below_drewN | apply below_drew1) | exact HB.out))))
                        have n4_ := Aside0.mk (Kd.C_below (by repeat (first | (with_reducible exact HR251.out) | (with_reducible refine Kd.C_alloc ?_ _) | (with_reducible refine Kd.C_drewN ?_ _) | (with_reducible refine Kd.C_drew ?_) | exact HR251.out)) hb)
                        have n5_ := Aside0.mk (Kd.C_below (by repeat (first | (with_reducible exact HR259.out) | (with_reducible refine Kd.C_alloc ?_ _) | (with_reducible refine Kd.C_drewN ?_ _) | (with_reducible refine Kd.C_drew ?_) | exact HR259.out)) hb)
                        have n6_ := Aside0.mk (Kd.C_below (by repeat (first | (with_reducible exact HR264.out) | (with_reducible refine Kd.C_alloc ?_ _) | (with_reducible refine Kd.C_drewN ?_ _) | (with_reducible refine Kd.C_drew ?_) | exact HR264.out)) hb)
                        have n7_ := Aside0.mk (Kd.C_below (by repeat (first | (with_reducible exact HR271.out) | (with_reducible refine Kd.C_alloc ?_ _) | (with_reducible refine Kd.C_drewN ?_ _) | (with_reducible refine Kd.C_drew ?_) | exact HR271.out)) hb)
                        have n8_ := Aside0.mk (below_step (by repeat (first | (with_reducible first | exact HB.out | apply below_alloc | apply pw_below_drewN | apply below_drew1) | exact HB.out)) hb)
                        clear HO_6
                        clear HO255
                        clear HO267
                        clear HR251
                        clear HR259
                        clear HR264
                        clear HR271
                        clear HB
                        have HO_6 := n0_
                        have HO255 := n1_
                        have HO267 := n2_
                        have HO274 := n3_
                        have HR251 := n4_
                        have HR259 := n5_
                        have HR264 := n6_
                        have HR271 := n7_
                        have HB := n8_
                        clear n0_ n1_ n2_ n3_ n4_ n5_ n6_ n7_ n8_
                        (try clear hb)
                        (try clear hb2)
                        (try clear hk)
                        (try clear hi)
                        (try clear ho0)
                        refine hK.out _ _ trivial (fun hHeld => ?_)
                        clear hK K
                        refine norm_ (a' := ?_) ?_ ?_
                        rotate_left
                        · show Act.put _ (some 47) _ = _
                          simp only [Act.put, List.setIfInBounds_toArray, List.set_cons_zero, List.set_cons_succ, i64_w, i32_w]
                          rfl
                        refine pure_ (i := 9) (N := some 2) (v := ?_) (a' := ?_) #[true, true, true, true, true, true, true, true, true, true, false, false] rfl rfl (any_of HT_.out (by kernel_rfl)) (fun _ _ _ h => h) (Or.inl ⟨by rfl, ?_⟩) ?_ ?_
                        rotate_left
                        · intro w'
                          go_simp
                          with_reducible rfl
                        rotate_left
                        · simp only [Act.put, List.setIfInBounds_toArray, List.set_cons_zero, List.set_cons_succ, i64_w, i32_w]
                          rfl
                        refine pure_ (i := 10) (N := some 3) (v := ?_) (a' := ?_) #[true, true, true, true, true, true, true, true, true, true, true, false] rfl rfl (any_of HT_.out (by kernel_rfl)) (fun _ _ _ h => h) (Or.inl ⟨by rfl, ?_⟩) ?_ ?_
                        rotate_left
                        · intro w'
                          go_simp
                          with_reducible rfl
                        rotate_left
                        · simp only [Act.put, List.setIfInBounds_toArray, List.set_cons_zero, List.set_cons_succ, i64_w, i32_w]
                          rfl
                        refine pure_ (i := 11) (N := some 4) (v := ?_) (a' := ?_) #[true, true, true, true, true, true, true, true, true, true, true, true] rfl rfl (any_of HT_.out (by kernel_rfl)) (fun _ _ _ h => h) (Or.inl ⟨by rfl, ?_⟩) ?_ ?_
                        rotate_left
                        · intro w'
                          go_simp
                          with_reducible rfl
                        rotate_left
                        · simp only [Act.put, List.setIfInBounds_toArray, List.set_cons_zero, List.set_cons_succ, i64_w, i32_w]
                          rfl
                        refine done_ (done_of HT_.out (by kernel_rfl)) ?_
                        try go_wp2
                        go_ret3
                        exact ⟨_, _, by first | rfl | (simp [errW_none, errW_some] <;> rfl) | (simp only [← hji23]; first | rfl | (simp [errW_none, errW_some] <;> rfl)) | (simp [*, errW_none, errW_some] <;> rfl), by (with_reducible repeat (first | apply Kd.R_alloc | apply Kd.R_drewN | apply Kd.R_drew)); exact Kd.R_mono HO267.out (fun _ hk => hk.2), by (with_reducible repeat (first | apply Kd.R_alloc | apply Kd.R_drewN | apply Kd.R_drew)); exact Kd.R_mono HO274.out (fun _ hk => hk.2), by repeat (first | (with_reducible first | exact HB.out | apply below_alloc | apply pw_below_drewN | apply below_drew1) | exact HB.out)⟩
                      · rw [if_neg c24] at H
                        exact absurd H (by simp)
                    · replace c19 := Bool.eq_false_iff.mpr c19
                      subst c19
                      have H1 : (some (([] : List Int), ([] : List Int), 2)) = some (r1, r2, r3) := by rw [if_neg (show ¬ (false = true) by decide)] at H; exact H
                      clear H
                      have H := H1
                      clear H1
                      simp only [Option.some.injEq, Prod.mk.injEq] at H
                      obtain ⟨rfl, rfl, rfl⟩ := H
                      obtain ⟨Ao38, co38, eo38⟩ := Kd.R_slice HO_6.out
                      subst eo38
                      try go_wp2
                      have n0_ := Aside0.mk (Kd.R_drew HO_6.out)
                      have n1_ := Aside0.mk (below_drew1 HB.out)
                      clear HO_6
                      clear HB
                      have HO_6 := n0_
                      have HB := n1_
                      clear n0_ n1_
                      have q40 : (t243 : Int) ≤ ((t244.length : Int) : Int) := of_decide_eq_true (by first | (with_reducible assumption) | assumption)
                      obtain ⟨i040, hi040, _, hsz40, _⟩ := info_parts info5
                      have hroom40 : t244.length ≤ co38 := (Kd.R_reads' HO_6.out).2.1
                      have hC40 : Kd.C (Kd.int .u8) _ Ao38 t244.length t244 := (Kd.R_reads' HO_6.out).2.2
                      have hcut40 := cut_to (P := Try.prog) 22 5 .i64 Try.underlying22 hi040 Ao38 t244.length co38 t243 (of_decide_eq_true (by first | (with_reducible assumption) | assumption)) q40 hroom40
                      have hr40 := Kd.C_take (m := (t243 : Int).toNat) hC40 (by omega)
                      have hy40 : y248.length = (t243 : Int).toNat := (by rw [Ny248.out, List.length_take]; omega)
                      rw [← Ny248.out] at hr40
                      rw [← hy40] at hcut40
                      have HR251 := Aside0.mk hr40
                      have HC251 := Aside0.mk (show y248.length ≤ co38 from by omega)
                      clear hr40 hC40 hroom40 hi040 hsz40
                      have KY40 := Aside0.mk hy40
                      clear hy40
                      have KL40 := Aside0.mk (show (t243 : Int).toNat ≤ t244.length from by omega)
                      replace q40 := eq_true q40
                      have q41 : ((wrap64 (t243 + 4)) : Int) ≤ ((t244.length : Int) : Int) := of_decide_eq_true (by first | (with_reducible assumption) | assumption)
                      obtain ⟨i041, hi041, _, hsz41, _⟩ := info_parts info5
                      have hroom41 : t244.length ≤ co38 := (Kd.R_reads' HO_6.out).2.1
                      have hC41 : Kd.C (Kd.int .u8) _ Ao38 t244.length t244 := (Kd.R_reads' HO_6.out).2.2
                      have ql41 : (t243 : Int) ≤ ((wrap64 (t243 + 4)) : Int) := of_decide_eq_true (by first | (with_reducible assumption) | assumption)
                      have q041 : (0 : Int) ≤ (t243 : Int) := of_decide_eq_true (by first | (with_reducible assumption) | assumption)
                      have hcut41 := cut_mid (P := Try.prog) 22 5 .i64 .i64 Try.underlying22 hi041 1 hsz41 Ao38 t244.length co38 t243 (wrap64 (t243 + 4)) q041 ql41 q41 hroom41
                      have hr41 := Kd.C_mid (lo := (t243 : Int).toNat) (hi := ((wrap64 (t243 + 4)) : Int).toNat) (c := co38) hC41 (by omega) (by omega) hroom41
                      obtain ⟨A41, hA41⟩ : ∃ A1, A1 = (if co38 = (t243 : Int).toNat then Ao38 else (Ao38 : Option Addr).map (·.add ((t243 : Int).toNat * 1))) := ⟨_, rfl⟩
                      obtain ⟨c41, hc41⟩ : ∃ c1, c1 = co38 - (t243 : Int).toNat := ⟨_, rfl⟩
                      have hy41 : y256.length = ((wrap64 (t243 + 4)) : Int).toNat - (t243 : Int).toNat := (by rw [Ny256.out, List.length_drop, List.length_take] <;> omega)
                      rw [show ((t244).take ((wrap64 (t243 + 4)) : Int).toNat).drop (t243 : Int).toNat = y256 from Ny256.out.symm] at hr41
                      replace hr41 : Kd.C (Kd.int .u8) _ A41 y256.length y256 := (by rw [hA41]; exact hr41)
                      rw [← hy41, ← hA41, ← hc41] at hcut41
                      have HR259 := Aside0.mk hr41
                      have HC259 := Aside0.mk (show y256.length ≤ c41 from by rw [hy41, hc41]; exact Nat.sub_le_sub_right (Nat.le_trans (by omega) hroom41) _)
                      clear hr41 hC41 hroom41 hi041 hsz41 hc41
                      have KY41 := Aside0.mk hy41
                      have KA41 := Aside0.mk hA41
                      clear hy41 hA41
                      have KL41 := Aside0.mk (show ((wrap64 (t243 + 4)) : Int).toNat ≤ t244.length from by omega)
                      have KM41 := Aside0.mk (show (t243 : Int).toNat ≤ ((wrap64 (t243 + 4)) : Int).toNat from by omega)
                      replace q41 := eq_true q41
                      refine start_ (n := 12) (S := fun w' => True) (ds := []) #[false, false, false, false, false, false, false, false, false, false, false, false] (by kernel_rfl) rfl rfl trivial (fun hHeld => ?_); refine with_tabW joistref04_Next.tab8 joistref04_Next.bits8 (fun HT_ HW_ => ?_)
                      generalize wc.drew = w39 at HO_6 HB HR251 HR259 hHeld ⊢
                      refine pure_ (i := 0) (N := some 27) (v := ?_) (a' := ?_) #[true, false, false, false, false, false, false, false, false, false, false, false] rfl rfl (any_of HT_.out (by kernel_rfl)) (fun _ _ _ h => h) (Or.inl ⟨by rfl, ?_⟩) ?_ ?_
                      rotate_left
                      · intro w'
                        go_simp
                        with_reducible rfl
                      rotate_left
                      · simp only [Act.put, List.setIfInBounds_toArray, List.set_cons_zero, List.set_cons_succ, i64_w, i32_w]
                        rfl
                      refine pure_ (i := 1) (N := some 28) (v := ?_) (a' := ?_) #[true, true, false, false, false, false, false, false, false, false, false, false] rfl rfl (any_of HT_.out (by kernel_rfl)) (fun _ _ _ h => h) (Or.inl ⟨by rfl, ?_⟩) ?_ ?_
                      rotate_left
                      · intro w'
                        go_simp
                        with_reducible rfl
                      rotate_left
                      · simp only [Act.put, List.setIfInBounds_toArray, List.set_cons_zero, List.set_cons_succ, i64_w, i32_w]
                        rfl
                      refine pure_ (i := 2) (N := some 29) (v := ?_) (a' := ?_) #[true, true, true, false, false, false, false, false, false, false, false, false] rfl rfl (any_of HT_.out (by kernel_rfl)) (fun _ _ _ h => h) (Or.inl ⟨by rfl, ?_⟩) ?_ ?_
                      rotate_left
                      · intro w'
                        go_simp
                        with_reducible rfl
                      rotate_left
                      · simp only [Act.put, List.setIfInBounds_toArray, List.set_cons_zero, List.set_cons_succ, i64_w, i32_w]
                        rfl
                      refine pure_ (i := 5) (N := some 32) (v := ?_) (a' := ?_) #[true, true, true, false, false, true, false, false, false, false, false, false] rfl rfl (any_of HT_.out (by kernel_rfl)) (fun _ _ _ h => h) (Or.inl ⟨by rfl, ?_⟩) ?_ ?_
                      rotate_left
                      · intro w'
                        go_simp
                        with_reducible rfl
                      rotate_left
                      · simp only [Act.put, List.setIfInBounds_toArray, List.set_cons_zero, List.set_cons_succ, i64_w, i32_w]
                        rfl
                      refine pure_ (i := 6) (N := some 33) (v := ?_) (a' := ?_) #[true, true, true, false, false, true, true, false, false, false, false, false] rfl rfl (any_of HT_.out (by kernel_rfl)) (fun _ _ _ h => h) (Or.inl ⟨by rfl, ?_⟩) ?_ ?_
                      rotate_left
                      · intro w'
                        go_simp
                        with_reducible rfl
                      rotate_left
                      · simp only [Act.put, List.setIfInBounds_toArray, List.set_cons_zero, List.set_cons_succ, i64_w, i32_w]
                        rfl
                      refine pure_ (i := 7) (N := some 34) (v := ?_) (a' := ?_) #[true, true, true, false, false, true, true, true, false, false, false, false] rfl rfl (any_of HT_.out (by kernel_rfl)) (fun _ _ _ h => h) (Or.inl ⟨by rfl, ?_⟩) ?_ ?_
                      rotate_left
                      · intro w'
                        go_simp
                        with_reducible rfl
                      rotate_left
                      · simp only [Act.put, List.setIfInBounds_toArray, List.set_cons_zero, List.set_cons_succ, i64_w, i32_w]
                        rfl
                      refine pure_ (i := 8) (N := some 35) (v := ?_) (a' := ?_) #[true, true, true, false, false, true, true, true, true, false, false, false] rfl rfl (any_of HT_.out (by kernel_rfl)) (fun _ _ _ h => h) (Or.inl ⟨by rfl, ?_⟩) ?_ ?_
                      rotate_left
                      · intro w'
                        go_simp
                        with_reducible rfl
                      rotate_left
                      · simp only [Act.put, List.setIfInBounds_toArray, List.set_cons_zero, List.set_cons_succ, i64_w, i32_w]
                        rfl
                      refine pure_ (i := 9) (N := some 36) (v := ?_) (a' := ?_) #[true, true, true, false, false, true, true, true, true, true, false, false] rfl rfl (any_of HT_.out (by kernel_rfl)) (fun _ _ _ h => h) (Or.inl ⟨by rfl, ?_⟩) ?_ ?_
                      rotate_left
                      · intro w'
                        go_simp
                        with_reducible rfl
                      rotate_left
                      · simp only [Act.put, List.setIfInBounds_toArray, List.set_cons_zero, List.set_cons_succ, i64_w, i32_w]
                        rfl
                      refine one_ (i := 3) (N := some 30) #[true, true, true, true, false, true, true, true, true, true, false, false] rfl rfl (one_of HT_.out (by kernel_rfl)) (by decide) (fun K hK => ?_)
                      refine goes_ Try.func18 (by kernel_rfl) rfl #[.slice Ao38 y248.length co38] (by rfl) rfl rfl (by (try simp only [List.map_toArray, List.map_cons, List.map_nil]); first | done | rfl | (simp only [List.length_drop, List.length_take]; rfl)) ?_
                      with_reducible refine (joistref04_Sum.calls kj4 _ _ y248 t252 _ ?side1 ?side2 A13.out).mono ?_
                      (case side1 => repeat (first | exact (by repeat (first | (with_reducible exact HR251.out) | (with_reducible refine Kd.C_alloc ?_ _) | (with_reducible refine Kd.C_drewN ?_ _) | (with_reducible refine Kd.C_drew ?_) | exact HR251.out)) | (with_reducible refine Kd.C_alloc ?_ _) | (with_reducible refine Kd.C_drewN ?_ _) | (with_reducible refine Kd.C_drew ?_)))
                      (case side2 => exact HC251.out)
                      rintro e w' ⟨rfl, ⟨nd, rfl⟩⟩
                      refine ⟨_, rfl, ?_⟩
                      refine hK.out _ _ trivial (fun hHeld => ?_)
                      clear hK K
                      refine norm_ (a' := ?_) ?_ ?_
                      rotate_left
                      · show Act.put _ (some 30) _ = _
                        simp only [Act.put, List.setIfInBounds_toArray, List.set_cons_zero, List.set_cons_succ, i64_w, i32_w]
                        rfl
                      refine one_ (i := 4) (N := some 31) #[true, true, true, true, true, true, true, true, true, true, false, false] rfl rfl (one_of HT_.out (by kernel_rfl)) (by decide) (fun K hK => ?_)
                      refine goes_ Try.func29 (by kernel_rfl) rfl #[.int .i64 t252] (by rfl) rfl rfl (by (try simp only [List.map_toArray, List.map_cons, List.map_nil]); first | done | rfl | (simp only [List.length_drop, List.length_take]; rfl)) ?_
                      with_reducible refine (joistref04_four.calls t252 t253 _ A14.out).mono ?_
                      rintro e w42 ⟨v254, rfl, ho0, hb⟩
                      refine ⟨_, rfl, ?_⟩
                      have n0_ := Aside0.mk (Kd.R_elder' (by (with_reducible repeat (first | apply Kd.R_alloc | apply Kd.R_drewN | apply Kd.R_drew)); exact HO_6.out) (Kd.R_base ho0) hb)
                      have n1_ := Aside0.mk (Kd.R_lower (Kd.R_new' ho0 (Kd.R_lt (by (with_reducible repeat (first | apply Kd.R_alloc | apply Kd.R_drewN | apply Kd.R_drew)); exact HO_6.out))) (below_size (by repeat (first | (with_reducible first | exact HB.out | apply below_alloc | apply pw_below_drewN | apply below_drew1) | exact HB.out))))
                      have n2_ := Aside0.mk (Kd.C_below (by repeat (first | (with_reducible exact HR251.out) | (with_reducible refine Kd.C_alloc ?_ _) | (with_reducible refine Kd.C_drewN ?_ _) | (with_reducible refine Kd.C_drew ?_) | exact HR251.out)) hb)
                      have n3_ := Aside0.mk (Kd.C_below (by repeat (first | (with_reducible exact HR259.out) | (with_reducible refine Kd.C_alloc ?_ _) | (with_reducible refine Kd.C_drewN ?_ _) | (with_reducible refine Kd.C_drew ?_) | exact HR259.out)) hb)
                      have n4_ := Aside0.mk (below_step (by repeat (first | (with_reducible first | exact HB.out | apply below_alloc | apply pw_below_drewN | apply below_drew1) | exact HB.out)) hb)
                      clear HO_6
                      clear HR251
                      clear HR259
                      clear HB
                      have HO_6 := n0_
                      have HO255 := n1_
                      have HR251 := n2_
                      have HR259 := n3_
                      have HB := n4_
                      clear n0_ n1_ n2_ n3_ n4_
                      (try clear hb)
                      (try clear hb2)
                      (try clear hk)
                      (try clear hi)
                      (try clear ho0)
                      obtain ⟨Ao43, co43, eo43⟩ := Kd.R_slice HO255.out
                      (first | subst eo43 | (injection eo43 with f1_ f2_ f3_; have f4_ := f1_.symm; have f5_ := f3_.symm; clear f1_ f2_ f3_; subst f4_; subst f5_))
                      refine hK.out _ _ trivial (fun hHeld => ?_)
                      clear hK K
                      refine norm_ (a' := ?_) ?_ ?_
                      rotate_left
                      · show Act.put _ (some 31) _ = _
                        simp only [Act.put, List.setIfInBounds_toArray, List.set_cons_zero, List.set_cons_succ, i64_w, i32_w]
                        rfl
                      refine one_ (i := 10) (N := some 37) #[true, true, true, true, true, true, true, true, true, true, true, false] rfl rfl (one_of HT_.out (by kernel_rfl)) (by decide) (fun K hK => ?_)
                      refine goes_ Try.func11 (by kernel_rfl) rfl #[.slice Ao43 t253.length co43, .slice A41 y256.length c41] (by rfl) rfl rfl (by (try simp only [List.map_toArray, List.map_cons, List.map_nil]); first | done | rfl | (simp only [List.length_drop, List.length_take]; rfl)) ?_
                      with_reducible refine (joistref00_SameBytes.calls kj4 _ _ t253 _ _ y256 false _ ?side1 ?side2 ?side3 ?side4 A18.out).mono ?_
                      (case side1 => repeat (first | exact (Kd.R_reads' HO255.out).2.2 | (with_reducible refine Kd.C_alloc ?_ _) | (with_reducible refine Kd.C_drewN ?_ _) | (with_reducible refine Kd.C_drew ?_)))
                      (case side2 => exact (Kd.R_reads' HO255.out).2.1)
                      (case side3 => repeat (first | exact (by repeat (first | (with_reducible exact HR259.out) | (with_reducible refine Kd.C_alloc ?_ _) | (with_reducible refine Kd.C_drewN ?_ _) | (with_reducible refine Kd.C_drew ?_) | exact HR259.out)) | (with_reducible refine Kd.C_alloc ?_ _) | (with_reducible refine Kd.C_drewN ?_ _) | (with_reducible refine Kd.C_drew ?_)))
                      (case side4 => exact HC259.out)
                      rintro e w' ⟨rfl, ⟨nd, rfl⟩⟩
                      refine ⟨_, rfl, ?_⟩
                      refine hK.out _ _ trivial (fun hHeld => ?_)
                      clear hK K
                      refine norm_ (a' := ?_) ?_ ?_
                      rotate_left
                      · show Act.put _ (some 37) _ = _
                        simp only [Act.put, List.setIfInBounds_toArray, List.set_cons_zero, List.set_cons_succ, i64_w, i32_w]
                        rfl
                      refine pure_ (i := 11) (N := some 38) (v := ?_) (a' := ?_) #[true, true, true, true, true, true, true, true, true, true, true, true] rfl rfl (any_of HT_.out (by kernel_rfl)) (fun _ _ _ h => h) (Or.inl ⟨by rfl, ?_⟩) ?_ ?_
                      rotate_left
                      · intro w'
                        go_simp
                        with_reducible rfl
                      rotate_left
                      · simp only [Act.put, List.setIfInBounds_toArray, List.set_cons_zero, List.set_cons_succ, i64_w, i32_w]
                        rfl
                      refine done_ (done_of HT_.out (by kernel_rfl)) ?_
                      try go_wp2
                      go_ret3
                      exact ⟨_, _, by first | rfl | (simp [errW_none, errW_some] <;> rfl) | (simp [*, errW_none, errW_some] <;> rfl), by first | exact Kd.R_nil _ _ _ _ _ | exact Kd.N_nil _ _ _ _ _ | exact Kd.V_nil _ _ _ _ _ | exact Kd.Q_nil _ _ _ _ _ | exact Kd.S_nil _ _ _ _ _, by first | exact Kd.R_nil _ _ _ _ _ | exact Kd.N_nil _ _ _ _ _ | exact Kd.V_nil _ _ _ _ _ | exact Kd.Q_nil _ _ _ _ _ | exact Kd.S_nil _ _ _ _ _, by repeat (first | (with_reducible first | exact HB.out | apply below_alloc | apply pw_below_drewN | apply below_drew1) | exact HB.out)⟩
                  · rw [if_neg c17] at H
                    exact absurd H (by simp)
                · rw [if_neg c16] at H
                  exact absurd H (by simp)
              · rw [if_neg c12] at H
                exact absurd H (by simp)
            · rw [if_neg c11] at H
              exact absurd H (by simp)

end Go.Proofs.Ytjfmnjhkpkcakaa.Q
