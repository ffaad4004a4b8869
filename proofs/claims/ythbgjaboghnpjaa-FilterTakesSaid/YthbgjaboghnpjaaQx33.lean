-- Written by a program of this session, out of Lean's print of the loaded program (a patched copy of the kit's print).
import Derived.Test.YthbgjaboghnpjaaQx0
import Derived.Test.YthbgjaboghnpjaaQx30
import Derived.Test.YthbgjaboghnpjaaQx32
namespace Go.Proofs.Ythbgjaboghnpjaa.Q
open Go.RowKit Go.Proofs.YthbgjaboghnpjaaW.PrintWords Go.Proofs.YthbgjaboghnpjaaW.PrintLast Go.Proofs.YthbgjaboghnpjaaW.PrintMore
attribute [local go_sem] max2_int min2_int max_two min_two max_three min_three max_four min_four   -- for this text's walks alone
set_option linter.unusedVariables false
set_option linter.unusedSimpArgs false

/-! ### joistref06_Sort: function 25 -/
mutual
def joistref06_Sort.l0 : Nat → List (S29) → List (S29) → Int → Option ((List (S29)))
  | 0, _, _, _ => none
  | k + 1, x0, x3, x4 => if x4 < (x0.length : Int) then (if 0 ≤ x4 then ((joistref03_Right.f k ((rd_T29 x0 x4).f0) ((rd_T29 x0 x4).f1) ((rd_T29 x0 x4).f2) ((rd_T29 x0 x4).f3) ((rd_T29 x0 x4).f4) ((rd_T29 x0 x4).f5.f0) ((rd_T29 x0 x4).f5.f1) ((rd_T29 x0 x4).f5.f2)).bind fun t157 => (if t157 = true then (joistref06_Sort.l1 k x0 x3 x4 (([] : List (S29))) false 0) else (joistref06_Sort.l0 k x0 x3 (wrap64 (x4 + 1))))) else (none)) else (some x3)
def joistref06_Sort.l1 : Nat → List (S29) → List (S29) → Int → List (S29) → Bool → Int → Option ((List (S29)))
  | 0, _, _, _, _, _, _ => none
  | k + 1, x0, x3, x4, x5, x6, x7 => if x7 < (x3.length : Int) then (if 0 ≤ x4 then (if x4 < (x0.length : Int) then (if 0 ≤ x7 then ((joistref03_Order.f k ((rd_T29 x0 x4).f0) ((rd_T29 x0 x4).f1) ((rd_T29 x0 x4).f2) ((rd_T29 x0 x4).f3) ((rd_T29 x0 x4).f4) ((rd_T29 x0 x4).f5.f0) ((rd_T29 x0 x4).f5.f1) ((rd_T29 x0 x4).f5.f2) ((rd_T29 x3 x7).f0) ((rd_T29 x3 x7).f1) ((rd_T29 x3 x7).f2) ((rd_T29 x3 x7).f3) ((rd_T29 x3 x7).f4) ((rd_T29 x3 x7).f5.f0) ((rd_T29 x3 x7).f5.f1) ((rd_T29 x3 x7).f5.f2)).bind fun t167 => (if x6 = true then (joistref06_Sort.j2 k x0 x3 x4 x5 x6 x7 t167 false) else (joistref06_Sort.j2 k x0 x3 x4 x5 x6 x7 t167 (decide (t167 ≤ 0))))) else (none)) else (none)) else (none)) else (if x6 = true then (joistref06_Sort.l0 k x0 x5 (wrap64 (x4 + 1))) else (if 0 ≤ x4 then (if x4 < (x0.length : Int) then (if x5.length < 1466015503701 then (joistref06_Sort.l0 k x0 (x5 ++ [(⟨(rd_T29 x0 x4).f0, (rd_T29 x0 x4).f1, (rd_T29 x0 x4).f2, (rd_T29 x0 x4).f3, (rd_T29 x0 x4).f4, (⟨(rd_T29 x0 x4).f5.f0, (rd_T29 x0 x4).f5.f1, (rd_T29 x0 x4).f5.f2⟩ : S27)⟩ : S29)]) (wrap64 (x4 + 1))) else (none)) else (none)) else (none)))
def joistref06_Sort.j2 : Nat → List (S29) → List (S29) → Int → List (S29) → Bool → Int → Int → Bool → Option ((List (S29)))
  | 0, _, _, _, _, _, _, _, _ => none
  | k + 1, x0, x3, x4, x5, x6, x7, x8, x43 => if x43 = true then (if 0 ≤ x4 then (if x4 < (x0.length : Int) then (if x5.length < 1466015503701 then ((some (x5 ++ [(⟨(rd_T29 x0 x4).f0, (rd_T29 x0 x4).f1, (rd_T29 x0 x4).f2, (rd_T29 x0 x4).f3, (rd_T29 x0 x4).f4, (⟨(rd_T29 x0 x4).f5.f0, (rd_T29 x0 x4).f5.f1, (rd_T29 x0 x4).f5.f2⟩ : S27)⟩ : S29)] : List (S29))).bind fun y169 => (if x8 = 0 then (joistref06_Sort.l1 k x0 x3 x4 y169 true (wrap64 (x7 + 1))) else (if 0 ≤ x7 then (if x7 < (x3.length : Int) then (if y169.length < 1466015503701 then (joistref06_Sort.l1 k x0 x3 x4 (y169 ++ [(⟨(rd_T29 x3 x7).f0, (rd_T29 x3 x7).f1, (rd_T29 x3 x7).f2, (rd_T29 x3 x7).f3, (rd_T29 x3 x7).f4, (⟨(rd_T29 x3 x7).f5.f0, (rd_T29 x3 x7).f5.f1, (rd_T29 x3 x7).f5.f2⟩ : S27)⟩ : S29)]) true (wrap64 (x7 + 1))) else (none)) else (none)) else (none)))) else (none)) else (none)) else (none)) else (if x8 = 0 then (joistref06_Sort.l1 k x0 x3 x4 x5 x6 (wrap64 (x7 + 1))) else (if 0 ≤ x7 then (if x7 < (x3.length : Int) then (if x5.length < 1466015503701 then (joistref06_Sort.l1 k x0 x3 x4 (x5 ++ [(⟨(rd_T29 x3 x7).f0, (rd_T29 x3 x7).f1, (rd_T29 x3 x7).f2, (rd_T29 x3 x7).f3, (rd_T29 x3 x7).f4, (⟨(rd_T29 x3 x7).f5.f0, (rd_T29 x3 x7).f5.f1, (rd_T29 x3 x7).f5.f2⟩ : S27)⟩ : S29)]) x6 (wrap64 (x7 + 1))) else (none)) else (none)) else (none)))
end
def joistref06_Sort.f (k : Nat) (l0 : List (S29)) : Option ((List (S29))) := joistref06_Sort.l0 k l0 (([] : List (S29))) 0
theorem joistref06_Sort.mono_l : ∀ k, (∀ y0 y1 y2, LeO (joistref06_Sort.l0 k y0 y1 y2) (joistref06_Sort.l0 (k + 1) y0 y1 y2)) ∧ (∀ y0 y1 y2 y3 y4 y5, LeO (joistref06_Sort.l1 k y0 y1 y2 y3 y4 y5) (joistref06_Sort.l1 (k + 1) y0 y1 y2 y3 y4 y5)) ∧ (∀ y0 y1 y2 y3 y4 y5 y6 y7, LeO (joistref06_Sort.j2 k y0 y1 y2 y3 y4 y5 y6 y7) (joistref06_Sort.j2 (k + 1) y0 y1 y2 y3 y4 y5 y6 y7))
  | 0 => ⟨fun _ _ _ r h => by simp [joistref06_Sort.l0] at h, fun _ _ _ _ _ _ r h => by simp [joistref06_Sort.l1] at h, fun _ _ _ _ _ _ _ _ r h => by simp [joistref06_Sort.j2] at h⟩
  | k + 1 => by
    obtain ⟨ih0, ih1, ih2⟩ := joistref06_Sort.mono_l k
    refine ⟨?_, ?_, ?_⟩
    · intro y0 y1 y2
      unfold joistref06_Sort.l0
      repeat' first
      | (with_reducible exact ih0 _ _ _)
      | (with_reducible exact ih1 _ _ _ _ _ _)
      | (with_reducible exact ih2 _ _ _ _ _ _ _ _)
      | (with_reducible exact joistref03_Order.mono _ _ _ _ _ _ _ _ _ _ _ _ _ _ _ _ _)
      | (with_reducible exact joistref03_Right.mono _ _ _ _ _ _ _ _ _)
      | (with_reducible exact LeO.refl _)
      | (with_reducible exact LeO.none _)
      | (with_reducible refine LeO.ite ?_ ?_)
      | (with_reducible refine LeO.bind ?_ (fun _ => ?_))
      | exact ih0 _ _ _
      | exact ih1 _ _ _ _ _ _
      | exact ih2 _ _ _ _ _ _ _ _
      | exact joistref03_Order.mono _ _ _ _ _ _ _ _ _ _ _ _ _ _ _ _ _
      | exact joistref03_Right.mono _ _ _ _ _ _ _ _ _
      | exact LeO.none _
      | refine LeO.ite ?_ ?_
      | refine LeO.bind ?_ (fun _ => ?_)
    · intro y0 y1 y2 y3 y4 y5
      unfold joistref06_Sort.l1
      repeat' first
      | (with_reducible exact ih0 _ _ _)
      | (with_reducible exact ih1 _ _ _ _ _ _)
      | (with_reducible exact ih2 _ _ _ _ _ _ _ _)
      | (with_reducible exact joistref03_Order.mono _ _ _ _ _ _ _ _ _ _ _ _ _ _ _ _ _)
      | (with_reducible exact joistref03_Right.mono _ _ _ _ _ _ _ _ _)
      | (with_reducible exact LeO.refl _)
      | (with_reducible exact LeO.none _)
      | (with_reducible refine LeO.ite ?_ ?_)
      | (with_reducible refine LeO.bind ?_ (fun _ => ?_))
      | exact ih0 _ _ _
      | exact ih1 _ _ _ _ _ _
      | exact ih2 _ _ _ _ _ _ _ _
      | exact joistref03_Order.mono _ _ _ _ _ _ _ _ _ _ _ _ _ _ _ _ _
      | exact joistref03_Right.mono _ _ _ _ _ _ _ _ _
      | exact LeO.none _
      | refine LeO.ite ?_ ?_
      | refine LeO.bind ?_ (fun _ => ?_)
    · intro y0 y1 y2 y3 y4 y5 y6 y7
      unfold joistref06_Sort.j2
      repeat' first
      | (with_reducible exact ih0 _ _ _)
      | (with_reducible exact ih1 _ _ _ _ _ _)
      | (with_reducible exact ih2 _ _ _ _ _ _ _ _)
      | (with_reducible exact joistref03_Order.mono _ _ _ _ _ _ _ _ _ _ _ _ _ _ _ _ _)
      | (with_reducible exact joistref03_Right.mono _ _ _ _ _ _ _ _ _)
      | (with_reducible exact LeO.refl _)
      | (with_reducible exact LeO.none _)
      | (with_reducible refine LeO.ite ?_ ?_)
      | (with_reducible refine LeO.bind ?_ (fun _ => ?_))
      | exact ih0 _ _ _
      | exact ih1 _ _ _ _ _ _
      | exact ih2 _ _ _ _ _ _ _ _
      | exact joistref03_Order.mono _ _ _ _ _ _ _ _ _ _ _ _ _ _ _ _ _
      | exact joistref03_Right.mono _ _ _ _ _ _ _ _ _
      | exact LeO.none _
      | refine LeO.ite ?_ ?_
      | refine LeO.bind ?_ (fun _ => ?_)
theorem joistref06_Sort.mono : ∀ a0 k, LeO (joistref06_Sort.f k a0) (joistref06_Sort.f (k + 1) a0) := by
  intro a0 k
  obtain ⟨ih0, ih1, ih2⟩ := joistref06_Sort.mono_l k
  unfold joistref06_Sort.f
  repeat' first
      | (with_reducible exact ih0 _ _ _)
      | (with_reducible exact ih1 _ _ _ _ _ _)
      | (with_reducible exact ih2 _ _ _ _ _ _ _ _)
      | (with_reducible exact joistref03_Order.mono _ _ _ _ _ _ _ _ _ _ _ _ _ _ _ _ _)
      | (with_reducible exact joistref03_Right.mono _ _ _ _ _ _ _ _ _)
      | (with_reducible exact LeO.refl _)
      | (with_reducible exact LeO.none _)
      | (with_reducible refine LeO.ite ?_ ?_)
      | (with_reducible refine LeO.bind ?_ (fun _ => ?_))
      | exact ih0 _ _ _
      | exact ih1 _ _ _ _ _ _
      | exact ih2 _ _ _ _ _ _ _ _
      | exact joistref03_Order.mono _ _ _ _ _ _ _ _ _ _ _ _ _ _ _ _ _
      | exact joistref03_Right.mono _ _ _ _ _ _ _ _ _
      | exact LeO.none _
      | refine LeO.ite ?_ ?_
      | refine LeO.bind ?_ (fun _ => ?_)
def joistref06_Sort.T11 : Bool × List (List Nat × List Nat) := (true, [([], []), ([], []), ([0, 1], [0, 1]), ([2], [2]), ([], []), ([], []), ([4, 5], [4, 5]), ([6], [6]), ([3, 7], [3, 7]), ([8, 8, 0, 1, 2, 3, 4, 5, 6, 7, 8], [8])])
def joistref06_Sort.B11 : List Nat := [0, 0, 3, 7, 0, 0, 48, 112, 255, 511]
theorem joistref06_Sort.tab11 : rtab .any (opsOf Try.f25 11) = joistref06_Sort.T11 := by kernel_rfl
theorem joistref06_Sort.bits11 : waitsOk joistref06_Sort.T11.2 joistref06_Sort.B11 = true := by kernel_rfl
set_option maxHeartbeats 8000000 in
set_option maxRecDepth 100000 in
theorem joistref06_Sort.calls (k : Nat) (A0 : Option Addr) (c0 : Nat) (l0 : List (S29)) (r : List (S29)) (w : World) (hr0 : Kd.C k29 w A0 l0.length l0) (hc0 : l0.length ≤ c0) (h : joistref06_Sort.f k l0 = some r) :
    Calls Try.prog 25 #[.slice A0 l0.length c0] w fun e w' => ∃ v0_ : Value, e = .returned (v0_) ∧ Kd.R k29 29 w' w.heap.size (fun _ => True) v0_ r ∧ Below w.heap.size w w' := by
  have hu29 := Try.underlying29
  have HR0 := Aside0.mk hr0
  have HC0 := Aside0.mk hc0
  clear hr0 hc0
  have HB := Aside0.mk (Below.refl w.heap.size w)
  have H : (joistref06_Sort.l0 k l0 (([] : List (S29))) 0) = some r := h
  clear h
  obtain ⟨y153, hy153⟩ : ∃ y_ : List (S29), y_ = (([] : List (S29))) := ⟨_, rfl⟩
  replace H : (joistref06_Sort.l0 k l0 y153 0) = some r := by first | (rw [hy153]; with_reducible exact H) | (have H2_ := (Option.bind_some _ _).symm.trans H; rw [hy153]; with_reducible exact H2_) | (have H2_ := (Option.bind_some _ _).symm.trans H; with_reducible exact H2_) | with_reducible exact H | (rw [hy153]; exact H) | exact H
  have Ny153 := Aside0.mk hy153
  clear hy153
  have H' := Aside0.mk H
  clear H
  go_enter Try.func25, Try.ntmps25
  go_wp2_with (first | ((with_reducible refine gate_dst (N := 9) rfl ?_); refine Kd.R_lit k29 _ 29 ?hg (N := 9) ?hd (xs := ([] : List (S29))) (inner := []) (ok := fun _ => True) (okp := fun _ => True) ?hr ?hp (fun _ hk => hk) trivial (Below.refl _ _) (Nat.le_refl _) (by simp) ?_; (case hd => rfl); (case hg => rfl); (case hr => first | (go_simp; done) | (go_simp; rfl)); (case hp => exact (Reps.none _ _)); intro v154 w2 ho3 hb hg_ hnew_; clear hg_ hnew_; (first | rw [← Ny153.out] at ho3 | (simp only [Int.reduceToNat] at ho3; rw [← Ny153.out] at ho3)); have n0_ := Aside0.mk (Kd.R_lower ho3 (below_size (by repeat (first | (with_reducible first | exact HB.out | apply below_alloc | apply pw_below_drewN | apply below_drew1) | exact HB.out)))); have n1_ := Aside0.mk (below_step (by repeat (first | (with_reducible first | exact HB.out | apply below_alloc | apply pw_below_drewN | apply below_drew1) | exact HB.out)) hb); clear HB; have HO155 := n0_; have HB := n1_; clear n0_ n1_; clear hb ho3))
  go_loopg [3, 4] k (fun kq v3 v4 w' => ∃ (x3_1 : List (S29)) (x4_1 : Int), v4 = .int .i64 x4_1 ∧ Aside0 (joistref06_Sort.l0 kq l0 x3_1 x4_1 = some r) ∧ Aside0 (kq ≤ k) ∧ Aside0 (Kd.R k29 29 w' w.heap.size (fun _ => True) v3 x3_1) ∧ Aside0 (Below w.heap.size w w'))
  case atStart => exact ⟨(y153), (0), (by first | rfl | (simp; done) | (simp [*]; done)), H', ⟨Nat.le_refl _⟩, ⟨by (with_reducible repeat (first | apply Kd.R_alloc | apply Kd.R_drewN | apply Kd.R_drew)); exact HO155.out⟩, ⟨by repeat (first | (with_reducible first | exact HB.out | apply below_alloc | apply pw_below_drewN | apply below_drew1) | exact HB.out)⟩⟩
  case round =>
    clear H'
    try clear c2
    try clear p2
    obtain ⟨x3_1, x4_1, rfl, HA, HK1, HO_3, HB⟩ := hrel
    cases gk with
    | zero => exact absurd HA.out (by simp [joistref06_Sort.l0])
    | succ k1 =>
      have H := HA.out
      clear HA
      simp only [joistref06_Sort.l0] at H
      by_cases c4 : x4_1 < (l0.length : Int)
      · rw [if_pos c4] at H
        have c4b0 : decide (x4_1 < (l0.length : Int)) = true := decide_eq_true c4
        clear c4
        by_cases c5 : 0 ≤ x4_1
        · rw [if_pos c5] at H
          have c5b0 : decide (0 ≤ x4_1) = true := decide_eq_true c5
          clear c5
          replace H := Option.bind_eq_some_iff.mp H
          obtain ⟨t157, A60, H⟩ := H
          replace H : (if t157 = true then (joistref06_Sort.l1 k1 l0 x3_1 x4_1 (([] : List (S29))) false 0) else (joistref06_Sort.l0 k1 l0 x3_1 (wrap64 (x4_1 + 1)))) = some r := H
          have A6 := Aside0.mk A60
          clear A60
          by_cases c7 : t157 = true
          · subst c7
            have H1 : (joistref06_Sort.l1 k1 l0 x3_1 x4_1 (([] : List (S29))) false 0) = some r := by rw [if_pos rfl] at H; exact H
            clear H
            have H := H1
            clear H1
            obtain ⟨y158, hy158⟩ : ∃ y_ : List (S29), y_ = (([] : List (S29))) := ⟨_, rfl⟩
            replace H : (joistref06_Sort.l1 k1 l0 x3_1 x4_1 y158 false 0) = some r := by first | (rw [hy158]; with_reducible exact H) | (have H2_ := (Option.bind_some _ _).symm.trans H; rw [hy158]; with_reducible exact H2_) | (have H2_ := (Option.bind_some _ _).symm.trans H; with_reducible exact H2_) | with_reducible exact H | (rw [hy158]; exact H) | exact H
            have Ny158 := Aside0.mk hy158
            clear hy158
            have H' := Aside0.mk H
            clear H
            have p156 : 0 ≤ (x4_1 : Int) := of_decide_eq_true (by first | (with_reducible assumption) | assumption)
            have q156 : x4_1 < (l0.length : Int) := of_decide_eq_true (by first | (with_reducible assumption) | assumption)
            obtain ⟨ad156, e156, hx156_0, hx156_1, hx156_2, hx156_3, hx156_4, hx156_5, hx156_6, hx156_7⟩ := at_T29 HR0.out x4_1 p156 q156
            cases e156
            replace hx156_0 := (HB.out.cell (World.block_lt_of_cell? w _ hx156_0)).trans hx156_0
            replace hx156_1 := (HB.out.cell (World.block_lt_of_cell? w _ hx156_1)).trans hx156_1
            replace hx156_2 := (HB.out.cell (World.block_lt_of_cell? w _ hx156_2)).trans hx156_2
            replace hx156_3 := (HB.out.cell (World.block_lt_of_cell? w _ hx156_3)).trans hx156_3
            replace hx156_4 := (HB.out.cell (World.block_lt_of_cell? w _ hx156_4)).trans hx156_4
            replace hx156_5 := (HB.out.cell (World.block_lt_of_cell? w _ hx156_5)).trans hx156_5
            replace hx156_6 := (HB.out.cell (World.block_lt_of_cell? w _ hx156_6)).trans hx156_6
            replace hx156_7 := (HB.out.cell (World.block_lt_of_cell? w _ hx156_7)).trans hx156_7
            replace p156 := eq_true p156
            replace q156 := eq_true q156
            go_wp2_with (first | ((with_reducible refine gate_callee (f := 39) rfl ?_); refine goesL_ (some 20) rfl rfl Try.func39 (by kernel_rfl) rfl #[.agg #[.string ((rd_T29 l0 x4_1).f0), .string ((rd_T29 l0 x4_1).f1), .string ((rd_T29 l0 x4_1).f2), .int .i64 ((rd_T29 l0 x4_1).f3), .int .i64 ((rd_T29 l0 x4_1).f4), .int .i64 ((rd_T29 l0 x4_1).f5.f0), .int .i64 ((rd_T29 l0 x4_1).f5.f1), .string ((rd_T29 l0 x4_1).f5.f2)]] rfl (by (try simp only [List.map_toArray, List.map_cons, List.map_nil]); first | done | rfl | (simp only [List.length_drop, List.length_take]; rfl)) ?_; (with_reducible refine (joistref03_Right.calls k1 ((rd_T29 l0 x4_1).f0) ((rd_T29 l0 x4_1).f1) ((rd_T29 l0 x4_1).f2) ((rd_T29 l0 x4_1).f3) ((rd_T29 l0 x4_1).f4) ((rd_T29 l0 x4_1).f5.f0) ((rd_T29 l0 x4_1).f5.f1) ((rd_T29 l0 x4_1).f5.f2) true _ A6.out).mono ?_); rintro e w8 ⟨rfl, hb⟩; refine ⟨_, rfl, ?_⟩; have n0_ := Aside0.mk (Kd.R_below (by (with_reducible repeat (first | apply Kd.R_alloc | apply Kd.R_drewN | apply Kd.R_drew)); exact HO_3.out) hb); have n1_ := Aside0.mk (below_step (by repeat (first | (with_reducible first | exact HB.out | apply below_alloc | apply pw_below_drewN | apply below_drew1) | exact HB.out)) hb); clear HO_3; clear HB; have HO_3 := n0_; have HB := n1_; clear n0_ n1_; (try clear hb); (try clear hb2); (try clear hk); (try clear hi)) | ((with_reducible refine gate_dst (N := 22) rfl ?_); refine Kd.R_lit k29 _ 29 ?hg (N := 22) ?hd (xs := ([] : List (S29))) (inner := []) (ok := fun _ => True) (okp := fun _ => True) ?hr ?hp (fun _ hk => hk) trivial (Below.refl _ _) (Nat.le_refl _) (by simp) ?_; (case hd => rfl); (case hg => rfl); (case hr => first | (go_simp; done) | (go_simp; rfl)); (case hp => exact (Reps.none _ _)); intro v159 w9 ho10 hb hg_ hnew_; clear hg_ hnew_; (first | rw [← Ny158.out] at ho10 | (simp only [Int.reduceToNat] at ho10; rw [← Ny158.out] at ho10)); have n0_ := Aside0.mk (Kd.R_elder' (by (with_reducible repeat (first | apply Kd.R_alloc | apply Kd.R_drewN | apply Kd.R_drew)); exact HO_3.out) (Kd.R_base ho10) hb); have n1_ := Aside0.mk (Kd.R_lower (Kd.R_new' ho10 (Kd.R_lt (by (with_reducible repeat (first | apply Kd.R_alloc | apply Kd.R_drewN | apply Kd.R_drew)); exact HO_3.out))) (below_size (by repeat (first | (with_reducible first | exact HB.out | apply below_alloc | apply pw_below_drewN | apply below_drew1) | exact HB.out)))); have n2_ := Aside0.mk (below_step (by repeat (first | (with_reducible first | exact HB.out | apply below_alloc | apply pw_below_drewN | apply below_drew1) | exact HB.out)) hb); clear HO_3; clear HB; have HO_3 := n0_; have HO160 := n1_; have HB := n2_; clear n0_ n1_ n2_; clear hb ho10))
            go_loopg [5, 6, 7] k1 (fun kq v5 v6 v7 w' => ∃ (x5_2 : List (S29)) (x6_2 : Bool) (x7_2 : Int), v6 = .bool x6_2 ∧ v7 = .int .i64 x7_2 ∧ Aside0 (joistref06_Sort.l1 kq l0 x3_1 x4_1 x5_2 x6_2 x7_2 = some r) ∧ Aside0 (kq ≤ k1) ∧ Aside0 (Kd.R k29 29 w' w.heap.size (fun k_ => some k_ ≠ (v5 : Value).ownBlock) u3 x3_1) ∧ Aside0 (Kd.R k29 29 w' w.heap.size (fun k_ => some k_ ≠ (u3 : Value).ownBlock) v5 x5_2) ∧ Aside0 (Below w.heap.size w w'))
            case atStart => exact ⟨(y158), (false), (0), (by first | rfl | (simp; done) | (simp [*]; done)), (by first | rfl | (simp; done) | (simp [*]; done)), H', ⟨Nat.le_refl _⟩, ⟨by (with_reducible repeat (first | apply Kd.R_alloc | apply Kd.R_drewN | apply Kd.R_drew)); exact Kd.R_mono HO_3.out (fun _ hk => hk.2)⟩, ⟨by (with_reducible repeat (first | apply Kd.R_alloc | apply Kd.R_drewN | apply Kd.R_drew)); exact Kd.R_mono HO160.out (fun _ hk => hk.2)⟩, ⟨by repeat (first | (with_reducible first | exact HB.out | apply below_alloc | apply pw_below_drewN | apply below_drew1) | exact HB.out)⟩⟩
            case round =>
              clear H'
              try clear p1
              try clear q1
              try clear hx1
              try clear c2
              try clear p2
              try clear c3
              try clear c4
              try clear c4b0
              try clear c5
              try clear c5b0
              try clear p6
              try clear c7
              try clear hx156_0
              try clear hx156_1
              try clear hx156_2
              try clear hx156_3
              try clear hx156_4
              try clear hx156_5
              try clear hx156_6
              try clear hx156_7
              try clear p156
              try clear p2
              try clear q156
              obtain ⟨x5_2, x6_2, x7_2, rfl, rfl, HA, HK2, HO_3, HO_5, HB⟩ := hrel
              cases gk with
              | zero => exact absurd HA.out (by simp [joistref06_Sort.l1])
              | succ k2 =>
                have H := HA.out
                clear HA
                simp only [joistref06_Sort.l1] at H
                by_cases c11 : x7_2 < (x3_1.length : Int)
                · rw [if_pos c11] at H
                  have c11b0 : decide (x7_2 < (x3_1.length : Int)) = true := decide_eq_true c11
                  clear c11
                  by_cases c12 : 0 ≤ x4_1
                  · rw [if_pos c12] at H
                    have c12b0 : decide (0 ≤ x4_1) = true := decide_eq_true c12
                    clear c12
                    by_cases c13 : x4_1 < (l0.length : Int)
                    · rw [if_pos c13] at H
                      have c13b0 : decide (x4_1 < (l0.length : Int)) = true := decide_eq_true c13
                      clear c13
                      by_cases c14 : 0 ≤ x7_2
                      · rw [if_pos c14] at H
                        have c14b0 : decide (0 ≤ x7_2) = true := decide_eq_true c14
                        clear c14
                        replace H := Option.bind_eq_some_iff.mp H
                        obtain ⟨t167, A150, H⟩ := H
                        replace H : (if x6_2 = true then (joistref06_Sort.j2 k2 l0 x3_1 x4_1 x5_2 x6_2 x7_2 t167 false) else (joistref06_Sort.j2 k2 l0 x3_1 x4_1 x5_2 x6_2 x7_2 t167 (decide (t167 ≤ 0)))) = some r := H
                        have A15 := Aside0.mk A150
                        clear A150
                        have HC16 := Aside0.mk H
                        clear H
                        obtain ⟨Ao17, co17, eo17⟩ := Kd.R_slice HO_3.out
                        subst eo17
                        try go_wp2
                        have n0_ := Aside0.mk (Kd.R_drew HO_3.out)
                        have n1_ := Aside0.mk (Kd.R_drew HO_5.out)
                        have n2_ := Aside0.mk (below_drew1 HB.out)
                        clear HO_3
                        clear HO_5
                        clear HB
                        have HO_3 := n0_
                        have HO_5 := n1_
                        have HB := n2_
                        clear n0_ n1_ n2_
                        have p165 : 0 ≤ (x4_1 : Int) := of_decide_eq_true (by first | (with_reducible assumption) | assumption)
                        have q165 : x4_1 < (l0.length : Int) := of_decide_eq_true (by first | (with_reducible assumption) | assumption)
                        obtain ⟨ad165, e165, hx165_0, hx165_1, hx165_2, hx165_3, hx165_4, hx165_5, hx165_6, hx165_7⟩ := at_T29 HR0.out x4_1 p165 q165
                        have hw165_7 := hx165_7
                        have hw165_6 := hx165_6
                        have hw165_5 := hx165_5
                        have hw165_4 := hx165_4
                        have hw165_3 := hx165_3
                        have hw165_2 := hx165_2
                        have hw165_1 := hx165_1
                        have hw165_0 := hx165_0
                        obtain rfl : ad156 = ad165 := (by injection e165)
                        replace hx165_0 := (HB.out.cell (World.block_lt_of_cell? w _ hx165_0)).trans hx165_0
                        replace hx165_1 := (HB.out.cell (World.block_lt_of_cell? w _ hx165_1)).trans hx165_1
                        replace hx165_2 := (HB.out.cell (World.block_lt_of_cell? w _ hx165_2)).trans hx165_2
                        replace hx165_3 := (HB.out.cell (World.block_lt_of_cell? w _ hx165_3)).trans hx165_3
                        replace hx165_4 := (HB.out.cell (World.block_lt_of_cell? w _ hx165_4)).trans hx165_4
                        replace hx165_5 := (HB.out.cell (World.block_lt_of_cell? w _ hx165_5)).trans hx165_5
                        replace hx165_6 := (HB.out.cell (World.block_lt_of_cell? w _ hx165_6)).trans hx165_6
                        replace hx165_7 := (HB.out.cell (World.block_lt_of_cell? w _ hx165_7)).trans hx165_7
                        replace p165 := eq_true p165
                        replace q165 := eq_true q165
                        have p166 : 0 ≤ (x7_2 : Int) := of_decide_eq_true (by first | (with_reducible assumption) | assumption)
                        have q166 : x7_2 < (x3_1.length : Int) := of_decide_eq_true (by first | (with_reducible assumption) | assumption)
                        obtain ⟨ad166, e166, hx166_0, hx166_1, hx166_2, hx166_3, hx166_4, hx166_5, hx166_6, hx166_7⟩ := at_T29 (Kd.R_reads' HO_3.out).2.2 x7_2 p166 q166
                        cases e166
                        replace p166 := eq_true p166
                        replace q166 := eq_true q166
                        refine start_ (n := 10) (S := fun w' => w'.cell? (ad156.add ((x4_1).toNat * 8)) = some (.string ((rd_T29 l0 x4_1).f0)) ∧ w'.cell? ⟨(ad156.add ((x4_1).toNat * 8)).block, (ad156.add ((x4_1).toNat * 8)).off + 1, none⟩ = some (.string ((rd_T29 l0 x4_1).f1)) ∧ w'.cell? ⟨(ad156.add ((x4_1).toNat * 8)).block, (ad156.add ((x4_1).toNat * 8)).off + 2, none⟩ = some (.string ((rd_T29 l0 x4_1).f2)) ∧ w'.cell? ⟨(ad156.add ((x4_1).toNat * 8)).block, (ad156.add ((x4_1).toNat * 8)).off + 3, none⟩ = some (.int .i64 ((rd_T29 l0 x4_1).f3)) ∧ w'.cell? ⟨(ad156.add ((x4_1).toNat * 8)).block, (ad156.add ((x4_1).toNat * 8)).off + 4, none⟩ = some (.int .i64 ((rd_T29 l0 x4_1).f4)) ∧ w'.cell? ⟨(ad156.add ((x4_1).toNat * 8)).block, (ad156.add ((x4_1).toNat * 8)).off + 5, none⟩ = some (.int .i64 ((rd_T29 l0 x4_1).f5.f0)) ∧ w'.cell? ⟨(ad156.add ((x4_1).toNat * 8)).block, (ad156.add ((x4_1).toNat * 8)).off + 6, none⟩ = some (.int .i64 ((rd_T29 l0 x4_1).f5.f1)) ∧ w'.cell? ⟨(ad156.add ((x4_1).toNat * 8)).block, (ad156.add ((x4_1).toNat * 8)).off + 7, none⟩ = some (.string ((rd_T29 l0 x4_1).f5.f2)) ∧ w'.cell? (ad166.add ((x7_2).toNat * 8)) = some (.string ((rd_T29 x3_1 x7_2).f0)) ∧ w'.cell? ⟨(ad166.add ((x7_2).toNat * 8)).block, (ad166.add ((x7_2).toNat * 8)).off + 1, none⟩ = some (.string ((rd_T29 x3_1 x7_2).f1)) ∧ w'.cell? ⟨(ad166.add ((x7_2).toNat * 8)).block, (ad166.add ((x7_2).toNat * 8)).off + 2, none⟩ = some (.string ((rd_T29 x3_1 x7_2).f2)) ∧ w'.cell? ⟨(ad166.add ((x7_2).toNat * 8)).block, (ad166.add ((x7_2).toNat * 8)).off + 3, none⟩ = some (.int .i64 ((rd_T29 x3_1 x7_2).f3)) ∧ w'.cell? ⟨(ad166.add ((x7_2).toNat * 8)).block, (ad166.add ((x7_2).toNat * 8)).off + 4, none⟩ = some (.int .i64 ((rd_T29 x3_1 x7_2).f4)) ∧ w'.cell? ⟨(ad166.add ((x7_2).toNat * 8)).block, (ad166.add ((x7_2).toNat * 8)).off + 5, none⟩ = some (.int .i64 ((rd_T29 x3_1 x7_2).f5.f0)) ∧ w'.cell? ⟨(ad166.add ((x7_2).toNat * 8)).block, (ad166.add ((x7_2).toNat * 8)).off + 6, none⟩ = some (.int .i64 ((rd_T29 x3_1 x7_2).f5.f1)) ∧ w'.cell? ⟨(ad166.add ((x7_2).toNat * 8)).block, (ad166.add ((x7_2).toNat * 8)).off + 7, none⟩ = some (.string ((rd_T29 x3_1 x7_2).f5.f2))) (ds := []) #[false, false, false, false, false, false, false, false, false, false] (by kernel_rfl) rfl rfl ⟨((HB.out.cell (World.block_lt_of_cell? w _ hw165_0)).trans hw165_0), ((HB.out.cell (World.block_lt_of_cell? w _ hw165_1)).trans hw165_1), ((HB.out.cell (World.block_lt_of_cell? w _ hw165_2)).trans hw165_2), ((HB.out.cell (World.block_lt_of_cell? w _ hw165_3)).trans hw165_3), ((HB.out.cell (World.block_lt_of_cell? w _ hw165_4)).trans hw165_4), ((HB.out.cell (World.block_lt_of_cell? w _ hw165_5)).trans hw165_5), ((HB.out.cell (World.block_lt_of_cell? w _ hw165_6)).trans hw165_6), ((HB.out.cell (World.block_lt_of_cell? w _ hw165_7)).trans hw165_7), hx166_0, hx166_1, hx166_2, hx166_3, hx166_4, hx166_5, hx166_6, hx166_7⟩ (fun hHeld => ?_); refine with_tabW joistref06_Sort.tab11 joistref06_Sort.bits11 (fun HT_ HW_ => ?_)
                        generalize wr.drew = w18 at HO_3 HO_5 HB hx165_0 hx165_1 hx165_2 hx165_3 hx165_4 hx165_5 hx165_6 hx165_7 hx166_0 hx166_1 hx166_2 hx166_3 hx166_4 hx166_5 hx166_6 hx166_7 hHeld ⊢
                        refine pure_ (i := 0) (N := some 29) (v := ?_) (a' := ?_) #[true, false, false, false, false, false, false, false, false, false] rfl rfl (any_of HT_.out (by kernel_rfl)) (fun _ _ _ h => h) (Or.inl ⟨by rfl, ?_⟩) ?_ ?_
                        rotate_left
                        · intro w'
                          go_simp
                          with_reducible rfl
                        rotate_left
                        · simp only [Act.put, List.setIfInBounds_toArray, List.set_cons_zero, List.set_cons_succ, i64_w, i32_w]
                          rfl
                        refine pure_ (i := 1) (N := some 30) (v := ?_) (a' := ?_) #[true, true, false, false, false, false, false, false, false, false] rfl rfl (any_of HT_.out (by kernel_rfl)) (fun _ _ _ h => h) (Or.inl ⟨by rfl, ?_⟩) ?_ ?_
                        rotate_left
                        · intro w'
                          go_simp
                          with_reducible rfl
                        rotate_left
                        · simp only [Act.put, List.setIfInBounds_toArray, List.set_cons_zero, List.set_cons_succ, i64_w, i32_w]
                          rfl
                        refine pure_ (i := 2) (N := some 31) (v := ?_) (a' := ?_) #[true, true, true, false, false, false, false, false, false, false] rfl rfl (any_of HT_.out (by kernel_rfl)) (fun _ _ _ h => h) (Or.inl ⟨by rfl, ?_⟩) ?_ ?_
                        rotate_left
                        · intro w'
                          go_simp
                          with_reducible rfl
                        rotate_left
                        · simp only [Act.put, List.setIfInBounds_toArray, List.set_cons_zero, List.set_cons_succ, i64_w, i32_w]
                          rfl
                        refine pure_ (i := 4) (N := some 33) (v := ?_) (a' := ?_) #[true, true, true, false, true, false, false, false, false, false] rfl rfl (any_of HT_.out (by kernel_rfl)) (fun _ _ _ h => h) (Or.inl ⟨by rfl, ?_⟩) ?_ ?_
                        rotate_left
                        · intro w'
                          go_simp
                          with_reducible rfl
                        rotate_left
                        · simp only [Act.put, List.setIfInBounds_toArray, List.set_cons_zero, List.set_cons_succ, i64_w, i32_w]
                          rfl
                        refine pure_ (i := 5) (N := some 34) (v := ?_) (a' := ?_) #[true, true, true, false, true, true, false, false, false, false] rfl rfl (any_of HT_.out (by kernel_rfl)) (fun _ _ _ h => h) (Or.inl ⟨by rfl, ?_⟩) ?_ ?_
                        rotate_left
                        · intro w'
                          go_simp
                          with_reducible rfl
                        rotate_left
                        · simp only [Act.put, List.setIfInBounds_toArray, List.set_cons_zero, List.set_cons_succ, i64_w, i32_w]
                          rfl
                        refine pure_ (i := 6) (N := some 35) (v := ?_) (a' := ?_) #[true, true, true, false, true, true, true, false, false, false] rfl rfl (any_of HT_.out (by kernel_rfl)) (fun _ _ _ h => h) (Or.inl ⟨by rfl, ?_⟩) ?_ ?_
                        rotate_left
                        · intro w'
                          go_simp
                          with_reducible rfl
                        rotate_left
                        · simp only [Act.put, List.setIfInBounds_toArray, List.set_cons_zero, List.set_cons_succ, i64_w, i32_w]
                          rfl
                        refine take_ (i := 3) (N := some 32) (v := ?_) (a' := ?_) #[true, true, true, true, true, true, true, false, false, false] rfl rfl (take_ofW HT_.out HW_.out (by kernel_rfl)) (fun _ _ _ h => h) (Or.inl ⟨by rfl, ?_⟩) hHeld ?_ ?_
                        rotate_left
                        · rintro w' ⟨s0, s1, s2, s3, s4, s5, s6, s7, s8, s9, s10, s11, s12, s13, s14, s15⟩
                          go_simp
                          with_reducible rfl
                        rotate_left
                        · simp only [Act.put, List.setIfInBounds_toArray, List.set_cons_zero, List.set_cons_succ, i64_w, i32_w]
                          rfl
                        refine take_ (i := 7) (N := some 36) (v := ?_) (a' := ?_) #[true, true, true, true, true, true, true, true, false, false] rfl rfl (take_ofW HT_.out HW_.out (by kernel_rfl)) (fun _ _ _ h => h) (Or.inl ⟨by rfl, ?_⟩) hHeld ?_ ?_
                        rotate_left
                        · rintro w' ⟨s0, s1, s2, s3, s4, s5, s6, s7, s8, s9, s10, s11, s12, s13, s14, s15⟩
                          go_simp
                          with_reducible rfl
                        rotate_left
                        · simp only [Act.put, List.setIfInBounds_toArray, List.set_cons_zero, List.set_cons_succ, i64_w, i32_w]
                          rfl
                        refine one_ (i := 8) (N := some 37) #[true, true, true, true, true, true, true, true, true, false] rfl rfl (one_of HT_.out (by kernel_rfl)) (by decide) (fun K hK => ?_)
                        refine goes_ Try.func40 (by kernel_rfl) rfl #[.agg #[.string ((rd_T29 l0 x4_1).f0), .string ((rd_T29 l0 x4_1).f1), .string ((rd_T29 l0 x4_1).f2), .int .i64 ((rd_T29 l0 x4_1).f3), .int .i64 ((rd_T29 l0 x4_1).f4), .int .i64 ((rd_T29 l0 x4_1).f5.f0), .int .i64 ((rd_T29 l0 x4_1).f5.f1), .string ((rd_T29 l0 x4_1).f5.f2)], .agg #[.string ((rd_T29 x3_1 x7_2).f0), .string ((rd_T29 x3_1 x7_2).f1), .string ((rd_T29 x3_1 x7_2).f2), .int .i64 ((rd_T29 x3_1 x7_2).f3), .int .i64 ((rd_T29 x3_1 x7_2).f4), .int .i64 ((rd_T29 x3_1 x7_2).f5.f0), .int .i64 ((rd_T29 x3_1 x7_2).f5.f1), .string ((rd_T29 x3_1 x7_2).f5.f2)]] (by rfl) rfl rfl (by (try simp only [List.map_toArray, List.map_cons, List.map_nil]); first | done | rfl | (simp only [List.length_drop, List.length_take]; rfl)) ?_
                        with_reducible refine (joistref03_Order.calls k2 ((rd_T29 l0 x4_1).f0) ((rd_T29 l0 x4_1).f1) ((rd_T29 l0 x4_1).f2) ((rd_T29 l0 x4_1).f3) ((rd_T29 l0 x4_1).f4) ((rd_T29 l0 x4_1).f5.f0) ((rd_T29 l0 x4_1).f5.f1) ((rd_T29 l0 x4_1).f5.f2) ((rd_T29 x3_1 x7_2).f0) ((rd_T29 x3_1 x7_2).f1) ((rd_T29 x3_1 x7_2).f2) ((rd_T29 x3_1 x7_2).f3) ((rd_T29 x3_1 x7_2).f4) ((rd_T29 x3_1 x7_2).f5.f0) ((rd_T29 x3_1 x7_2).f5.f1) ((rd_T29 x3_1 x7_2).f5.f2) t167 _ A15.out).mono ?_
                        rintro e w19 ⟨rfl, hb⟩
                        have HS8_ := (hb.cell (World.block_lt_of_cell? _ _ (hHeld.2.2.2.2.2.2.2.2.1))).trans (hHeld.2.2.2.2.2.2.2.2.1)
                        have HS9_ := (hb.cell (World.block_lt_of_cell? _ _ (hHeld.2.2.2.2.2.2.2.2.2.1))).trans (hHeld.2.2.2.2.2.2.2.2.2.1)
                        have HS10_ := (hb.cell (World.block_lt_of_cell? _ _ (hHeld.2.2.2.2.2.2.2.2.2.2.1))).trans (hHeld.2.2.2.2.2.2.2.2.2.2.1)
                        have HS11_ := (hb.cell (World.block_lt_of_cell? _ _ (hHeld.2.2.2.2.2.2.2.2.2.2.2.1))).trans (hHeld.2.2.2.2.2.2.2.2.2.2.2.1)
                        have HS12_ := (hb.cell (World.block_lt_of_cell? _ _ (hHeld.2.2.2.2.2.2.2.2.2.2.2.2.1))).trans (hHeld.2.2.2.2.2.2.2.2.2.2.2.2.1)
                        have HS13_ := (hb.cell (World.block_lt_of_cell? _ _ (hHeld.2.2.2.2.2.2.2.2.2.2.2.2.2.1))).trans (hHeld.2.2.2.2.2.2.2.2.2.2.2.2.2.1)
                        have HS14_ := (hb.cell (World.block_lt_of_cell? _ _ (hHeld.2.2.2.2.2.2.2.2.2.2.2.2.2.2.1))).trans (hHeld.2.2.2.2.2.2.2.2.2.2.2.2.2.2.1)
                        have HS15_ := (hb.cell (World.block_lt_of_cell? _ _ (hHeld.2.2.2.2.2.2.2.2.2.2.2.2.2.2.2))).trans (hHeld.2.2.2.2.2.2.2.2.2.2.2.2.2.2.2)
                        refine ⟨_, rfl, ?_⟩
                        have n0_ := Aside0.mk (Kd.R_below (by (with_reducible repeat (first | apply Kd.R_alloc | apply Kd.R_drewN | apply Kd.R_drew)); exact HO_3.out) hb)
                        have n1_ := Aside0.mk (Kd.R_below (by (with_reducible repeat (first | apply Kd.R_alloc | apply Kd.R_drewN | apply Kd.R_drew)); exact HO_5.out) hb)
                        have n2_ := Aside0.mk (below_step (by repeat (first | (with_reducible first | exact HB.out | apply below_alloc | apply pw_below_drewN | apply below_drew1) | exact HB.out)) hb)
                        clear HO_3
                        clear HO_5
                        clear HB
                        have HO_3 := n0_
                        have HO_5 := n1_
                        have HB := n2_
                        clear n0_ n1_ n2_
                        (try clear hb)
                        (try clear hb2)
                        (try clear hk)
                        (try clear hi)
                        refine hK.out _ _ ⟨((HB.out.cell (World.block_lt_of_cell? w _ hw165_0)).trans hw165_0), ((HB.out.cell (World.block_lt_of_cell? w _ hw165_1)).trans hw165_1), ((HB.out.cell (World.block_lt_of_cell? w _ hw165_2)).trans hw165_2), ((HB.out.cell (World.block_lt_of_cell? w _ hw165_3)).trans hw165_3), ((HB.out.cell (World.block_lt_of_cell? w _ hw165_4)).trans hw165_4), ((HB.out.cell (World.block_lt_of_cell? w _ hw165_5)).trans hw165_5), ((HB.out.cell (World.block_lt_of_cell? w _ hw165_6)).trans hw165_6), ((HB.out.cell (World.block_lt_of_cell? w _ hw165_7)).trans hw165_7), HS8_, HS9_, HS10_, HS11_, HS12_, HS13_, HS14_, HS15_⟩ (fun hHeld => ?_)
                        clear hK K
                        refine norm_ (a' := ?_) ?_ ?_
                        rotate_left
                        · show Act.put _ (some 37) _ = _
                          simp only [Act.put, List.setIfInBounds_toArray, List.set_cons_zero, List.set_cons_succ, i64_w, i32_w]
                          rfl
                        refine pure_ (i := 9) (N := some 8) (v := ?_) (a' := ?_) #[true, true, true, true, true, true, true, true, true, true] rfl rfl (any_of HT_.out (by kernel_rfl)) (fun _ _ _ h => h) (Or.inl ⟨by rfl, ?_⟩) ?_ ?_
                        rotate_left
                        · intro w'
                          go_simp
                          with_reducible rfl
                        rotate_left
                        · simp only [Act.put, List.setIfInBounds_toArray, List.set_cons_zero, List.set_cons_succ, i64_w, i32_w]
                          rfl
                        refine done_ (done_of HT_.out (by kernel_rfl)) ?_
                        go_upto_region 12 with (fail)
                        go_cut [43] (fun v43 wc => ∃ (kq : Nat) (x43_15 : Bool), v43 = .bool x43_15 ∧ Aside0 (joistref06_Sort.j2 kq l0 x3_1 x4_1 x5_2 x6_2 x7_2 t167 x43_15 = some r) ∧ Aside0 (kq ≤ k2) ∧ Aside0 (Kd.R k29 29 wc w.heap.size (fun k_ => some k_ ≠ (u5 : Value).ownBlock) (.slice (some ad166) x3_1.length co17) x3_1) ∧ Aside0 (Kd.R k29 29 wc w.heap.size (fun k_ => some k_ ≠ ((.slice (some ad166) x3_1.length co17) : Value).ownBlock) u5 x5_2) ∧ Aside0 (Below w.heap.size w wc))
                        case first =>
                          have H := HC16.out
                          clear HC16
                          by_cases c20 : x6_2 = true
                          · subst c20
                            have H1 : (joistref06_Sort.j2 k2 l0 x3_1 x4_1 x5_2 true x7_2 t167 false) = some r := by rw [if_pos rfl] at H; exact H
                            clear H
                            have H := H1
                            clear H1
                            have H' := Aside0.mk H
                            clear H
                            go_wp2
                            go_meet
                            case rel => exact ⟨_, (false), (by first | rfl | (simp; done) | (simp [*]; done)), H', ⟨by have := HK1.out; have := HK2.out; first | omega | exact Nat.le_refl _⟩, ⟨by (with_reducible repeat (first | apply Kd.R_alloc | apply Kd.R_drewN | apply Kd.R_drew)); exact HO_3.out⟩, ⟨by (with_reducible repeat (first | apply Kd.R_alloc | apply Kd.R_drewN | apply Kd.R_drew)); exact HO_5.out⟩, ⟨by repeat (first | (with_reducible first | exact HB.out | apply below_alloc | apply pw_below_drewN | apply below_drew1) | exact HB.out)⟩⟩
                          · replace c20 := Bool.eq_false_iff.mpr c20
                            subst c20
                            have H1 : (joistref06_Sort.j2 k2 l0 x3_1 x4_1 x5_2 false x7_2 t167 (decide (t167 ≤ 0))) = some r := by rw [if_neg (show ¬ (false = true) by decide)] at H; exact H
                            clear H
                            have H := H1
                            clear H1
                            have H' := Aside0.mk H
                            clear H
                            go_wp2
                            go_meet
                            case rel => exact ⟨_, (decide (t167 ≤ 0)), (by first | rfl | (simp; done) | (simp [*]; done)), H', ⟨by have := HK1.out; have := HK2.out; first | omega | exact Nat.le_refl _⟩, ⟨by (with_reducible repeat (first | apply Kd.R_alloc | apply Kd.R_drewN | apply Kd.R_drew)); exact HO_3.out⟩, ⟨by (with_reducible repeat (first | apply Kd.R_alloc | apply Kd.R_drewN | apply Kd.R_drew)); exact HO_5.out⟩, ⟨by repeat (first | (with_reducible first | exact HB.out | apply below_alloc | apply pw_below_drewN | apply below_drew1) | exact HB.out)⟩⟩
                        case rest =>
                          clear HC16
                          try clear c1
                          try clear p1
                          try clear q1
                          try clear hx1
                          try clear c2
                          try clear p2
                          try clear c3
                          try clear c4
                          try clear c4b0
                          try clear c5
                          try clear c5b0
                          try clear p6
                          try clear c7
                          try clear c11
                          try clear c11b0
                          try clear c12
                          try clear c12b0
                          try clear c13
                          try clear c13b0
                          try clear c14
                          try clear c14b0
                          try clear p15
                          try clear q15
                          try clear hx15
                          try clear p16
                          try clear q16
                          try clear hx16
                          try clear c20
                          try clear hx156_0
                          try clear hx156_1
                          try clear hx156_2
                          try clear hx156_3
                          try clear hx156_4
                          try clear hx156_5
                          try clear hx156_6
                          try clear hx156_7
                          try clear hx165_0
                          try clear hx165_1
                          try clear hx165_2
                          try clear hx165_3
                          try clear hx165_4
                          try clear hx165_5
                          try clear hx165_6
                          try clear hx165_7
                          try clear hx166_0
                          try clear hx166_1
                          try clear hx166_2
                          try clear hx166_3
                          try clear hx166_4
                          try clear hx166_5
                          try clear hx166_6
                          try clear hx166_7
                          try clear p1
                          try clear p156
                          try clear p165
                          try clear p166
                          try clear p2
                          try clear p6
                          try clear q1
                          try clear q156
                          try clear q165
                          try clear q166
                          obtain ⟨kq, x43_15, rfl, HA, HJ15, HO_3, HO_5, HB⟩ := hcut
                          cases kq with
                          | zero => exact absurd HA.out (by simp [joistref06_Sort.j2])
                          | succ kj15 =>
                            have H := HA.out
                            clear HA
                            simp only [joistref06_Sort.j2] at H
                            by_cases c21 : x43_15 = true
                            · subst c21
                              have H1 : (if 0 ≤ x4_1 then (if x4_1 < (l0.length : Int) then (if x5_2.length < 1466015503701 then ((some (x5_2 ++ [(⟨(rd_T29 l0 x4_1).f0, (rd_T29 l0 x4_1).f1, (rd_T29 l0 x4_1).f2, (rd_T29 l0 x4_1).f3, (rd_T29 l0 x4_1).f4, (⟨(rd_T29 l0 x4_1).f5.f0, (rd_T29 l0 x4_1).f5.f1, (rd_T29 l0 x4_1).f5.f2⟩ : S27)⟩ : S29)] : List (S29))).bind fun y169 => (if t167 = 0 then (joistref06_Sort.l1 kj15 l0 x3_1 x4_1 y169 true (wrap64 (x7_2 + 1))) else (if 0 ≤ x7_2 then (if x7_2 < (x3_1.length : Int) then (if y169.length < 1466015503701 then (joistref06_Sort.l1 kj15 l0 x3_1 x4_1 (y169 ++ [(⟨(rd_T29 x3_1 x7_2).f0, (rd_T29 x3_1 x7_2).f1, (rd_T29 x3_1 x7_2).f2, (rd_T29 x3_1 x7_2).f3, (rd_T29 x3_1 x7_2).f4, (⟨(rd_T29 x3_1 x7_2).f5.f0, (rd_T29 x3_1 x7_2).f5.f1, (rd_T29 x3_1 x7_2).f5.f2⟩ : S27)⟩ : S29)]) true (wrap64 (x7_2 + 1))) else (none)) else (none)) else (none)))) else (none)) else (none)) else (none)) = some r := by rw [if_pos rfl] at H; exact H
                              clear H
                              have H := H1
                              clear H1
                              by_cases c22 : 0 ≤ x4_1
                              · rw [if_pos c22] at H
                                have c22b0 : decide (0 ≤ x4_1) = true := decide_eq_true c22
                                clear c22
                                by_cases c23 : x4_1 < (l0.length : Int)
                                · rw [if_pos c23] at H
                                  have c23b0 : decide (x4_1 < (l0.length : Int)) = true := decide_eq_true c23
                                  clear c23
                                  by_cases c24 : x5_2.length < 1466015503701
                                  · rw [if_pos c24] at H
                                    have LMc24 := Aside0.mk c24
                                    clear c24
                                    obtain ⟨y169, hy169⟩ : ∃ y_ : List (S29), y_ = (x5_2 ++ [(⟨(rd_T29 l0 x4_1).f0, (rd_T29 l0 x4_1).f1, (rd_T29 l0 x4_1).f2, (rd_T29 l0 x4_1).f3, (rd_T29 l0 x4_1).f4, (⟨(rd_T29 l0 x4_1).f5.f0, (rd_T29 l0 x4_1).f5.f1, (rd_T29 l0 x4_1).f5.f2⟩ : S27)⟩ : S29)]) := ⟨_, rfl⟩
                                    replace H : (if t167 = 0 then (joistref06_Sort.l1 kj15 l0 x3_1 x4_1 y169 true (wrap64 (x7_2 + 1))) else (if 0 ≤ x7_2 then (if x7_2 < (x3_1.length : Int) then (if y169.length < 1466015503701 then (joistref06_Sort.l1 kj15 l0 x3_1 x4_1 (y169 ++ [(⟨(rd_T29 x3_1 x7_2).f0, (rd_T29 x3_1 x7_2).f1, (rd_T29 x3_1 x7_2).f2, (rd_T29 x3_1 x7_2).f3, (rd_T29 x3_1 x7_2).f4, (⟨(rd_T29 x3_1 x7_2).f5.f0, (rd_T29 x3_1 x7_2).f5.f1, (rd_T29 x3_1 x7_2).f5.f2⟩ : S27)⟩ : S29)]) true (wrap64 (x7_2 + 1))) else (none)) else (none)) else (none))) = some r := by first | (rw [hy169]; with_reducible exact H) | (have H2_ := (Option.bind_some _ _).symm.trans H; rw [hy169]; with_reducible exact H2_) | (have H2_ := (Option.bind_some _ _).symm.trans H; with_reducible exact H2_) | with_reducible exact H | (rw [hy169]; exact H) | exact H
                                    have Ny169 := Aside0.mk hy169
                                    clear hy169
                                    by_cases c25 : t167 = 0
                                    · rw [if_pos c25] at H
                                      have c25b0 : (t167 == 0) = true := beq_iff_eq.mpr c25
                                      have c25b1 : (t167 != 0) = false := bne_eq_false_iff_eq.mpr c25
                                      clear c25
                                      have H' := Aside0.mk H
                                      clear H
                                      have p168 : 0 ≤ (x4_1 : Int) := of_decide_eq_true (by first | (with_reducible assumption) | assumption)
                                      have q168 : x4_1 < (l0.length : Int) := of_decide_eq_true (by first | (with_reducible assumption) | assumption)
                                      obtain ⟨ad168, e168, hx168_0, hx168_1, hx168_2, hx168_3, hx168_4, hx168_5, hx168_6, hx168_7⟩ := at_T29 HR0.out x4_1 p168 q168
                                      obtain rfl : ad156 = ad168 := (by injection e168)
                                      replace hx168_0 := (HB.out.cell (World.block_lt_of_cell? w _ hx168_0)).trans hx168_0
                                      replace hx168_1 := (HB.out.cell (World.block_lt_of_cell? w _ hx168_1)).trans hx168_1
                                      replace hx168_2 := (HB.out.cell (World.block_lt_of_cell? w _ hx168_2)).trans hx168_2
                                      replace hx168_3 := (HB.out.cell (World.block_lt_of_cell? w _ hx168_3)).trans hx168_3
                                      replace hx168_4 := (HB.out.cell (World.block_lt_of_cell? w _ hx168_4)).trans hx168_4
                                      replace hx168_5 := (HB.out.cell (World.block_lt_of_cell? w _ hx168_5)).trans hx168_5
                                      replace hx168_6 := (HB.out.cell (World.block_lt_of_cell? w _ hx168_6)).trans hx168_6
                                      replace hx168_7 := (HB.out.cell (World.block_lt_of_cell? w _ hx168_7)).trans hx168_7
                                      replace p168 := eq_true p168
                                      replace q168 := eq_true q168
                                      go_wp2_with (first | ((with_reducible refine gate_builtin (b := .append) (xs := #[.tmp 44, .tmp 49]) rfl ?_); at_builtin; refine Kd.R_append k29 (w0 := w) w.heap.size rfl (.tmp 44) (.tmp 49) 25 29 (.agg #[(.string ⟨#[]⟩), (.string ⟨#[]⟩), (.string ⟨#[]⟩), (.int .i64 0), (.int .i64 0), (.int .i64 0), (.int .i64 0), (.string ⟨#[]⟩)]) 96 rfl Try.underlying25 info29 rfl (by decide) (by omega) u5 x5_2 (⟨(rd_T29 l0 x4_1).f0, (rd_T29 l0 x4_1).f1, (rd_T29 l0 x4_1).f2, (rd_T29 l0 x4_1).f3, (rd_T29 l0 x4_1).f4, (⟨(rd_T29 l0 x4_1).f5.f0, (rd_T29 l0 x4_1).f5.f1, (rd_T29 l0 x4_1).f5.f2⟩ : S27)⟩ : S29) [.string ((rd_T29 l0 x4_1).f0), .string ((rd_T29 l0 x4_1).f1), .string ((rd_T29 l0 x4_1).f2), .int .i64 ((rd_T29 l0 x4_1).f3), .int .i64 ((rd_T29 l0 x4_1).f4), .int .i64 ((rd_T29 l0 x4_1).f5.f0), .int .i64 ((rd_T29 l0 x4_1).f5.f1), .string ((rd_T29 l0 x4_1).f5.f2)] (fun k_ => some k_ ≠ (.slice (some ad166) x3_1.length co17 : Value).ownBlock) (fun _ => False) rfl rfl ?aP (fun _ hk => hk.elim) ?aF ?aO ?aB ?aS ?aL ?_; (case aP => exact k29_mkM _ _ _ (⟨(rd_T29 l0 x4_1).f0, (rd_T29 l0 x4_1).f1, (rd_T29 l0 x4_1).f2, (rd_T29 l0 x4_1).f3, (rd_T29 l0 x4_1).f4, (⟨(rd_T29 l0 x4_1).f5.f0, (rd_T29 l0 x4_1).f5.f1, (rd_T29 l0 x4_1).f5.f2⟩ : S27)⟩ : S29)); (case aB => exact (by repeat (first | (with_reducible first | exact HB.out | apply below_alloc | apply pw_below_drewN | apply below_drew1) | exact HB.out))); (case aF => exact (fun k_ hk => Kd.fresh' (Kd.R_lt (by (with_reducible repeat (first | apply Kd.R_alloc | apply Kd.R_drewN | apply Kd.R_drew)); exact HO_3.out)) k_ hk)); (case aO => exact (by (with_reducible repeat (first | apply Kd.R_alloc | apply Kd.R_drewN | apply Kd.R_drew)); exact HO_5.out)); (case aS => exact (below_size (by repeat (first | (with_reducible first | exact HB.out | apply below_alloc | apply pw_below_drewN | apply below_drew1) | exact HB.out)))); (case aL => have := LMc24.out; omega); intro v170 w26 ho hb hg hat; rw [← Ny169.out] at ho; have n0_ := Aside0.mk (Kd.R_after (ok := (fun _ => True)) (by (with_reducible repeat (first | apply Kd.R_alloc | apply Kd.R_drewN | apply Kd.R_drew)); exact Kd.R_mono HO_3.out (fun _ hk => ⟨trivial, hk⟩)) hg hat); have n1_ := Aside0.mk (hb); have n2_ := Aside0.mk (ho); clear HO_3; clear HB; clear HO_5; have HO_3 := n0_; have HB := n1_; have HO171 := n2_; clear n0_ n1_ n2_; clear ho hb hg hat))
                                      go_roundg kj15
                                      case measure => have := HK1.out; have := HK2.out; have := HJ15.out; omega
                                      case rel => exact ⟨(y169), (true), (wrap64 (x7_2 + 1)), (by first | rfl | (simp; done) | (simp [*]; done)), (by first | rfl | (simp; done) | (simp [*]; done)), H', ⟨by have := HK1.out; have := HK2.out; have := HJ15.out; omega⟩, ⟨by (with_reducible repeat (first | apply Kd.R_alloc | apply Kd.R_drewN | apply Kd.R_drew)); exact Kd.R_mono HO_3.out (fun _ hk => hk.2)⟩, ⟨by (with_reducible repeat (first | apply Kd.R_alloc | apply Kd.R_drewN | apply Kd.R_drew)); exact HO171.out⟩, ⟨by repeat (first | (with_reducible first | exact HB.out | apply below_alloc | apply pw_below_drewN | apply below_drew1) | exact HB.out)⟩⟩
                                    · rw [if_neg c25] at H
                                      have c25b0 : (t167 == 0) = false := beq_eq_false_iff_ne.mpr c25
                                      have c25b1 : (t167 != 0) = true := bne_iff_ne.mpr c25
                                      by_cases c27 : 0 ≤ x7_2
                                      · rw [if_pos c27] at H
                                        have c27b0 : decide (0 ≤ x7_2) = true := decide_eq_true c27
                                        clear c27
                                        by_cases c28 : x7_2 < (x3_1.length : Int)
                                        · rw [if_pos c28] at H
                                          have c28b0 : decide (x7_2 < (x3_1.length : Int)) = true := decide_eq_true c28
                                          clear c28
                                          by_cases c29 : y169.length < 1466015503701
                                          · rw [if_pos c29] at H
                                            have LMc29 := Aside0.mk c29
                                            clear c29
                                            obtain ⟨y173, hy173⟩ : ∃ y_ : List (S29), y_ = (y169 ++ [(⟨(rd_T29 x3_1 x7_2).f0, (rd_T29 x3_1 x7_2).f1, (rd_T29 x3_1 x7_2).f2, (rd_T29 x3_1 x7_2).f3, (rd_T29 x3_1 x7_2).f4, (⟨(rd_T29 x3_1 x7_2).f5.f0, (rd_T29 x3_1 x7_2).f5.f1, (rd_T29 x3_1 x7_2).f5.f2⟩ : S27)⟩ : S29)]) := ⟨_, rfl⟩
                                            replace H : (joistref06_Sort.l1 kj15 l0 x3_1 x4_1 y173 true (wrap64 (x7_2 + 1))) = some r := by first | (rw [hy173]; with_reducible exact H) | (have H2_ := (Option.bind_some _ _).symm.trans H; rw [hy173]; with_reducible exact H2_) | (have H2_ := (Option.bind_some _ _).symm.trans H; with_reducible exact H2_) | with_reducible exact H | (rw [hy173]; exact H) | exact H
                                            have Ny173 := Aside0.mk hy173
                                            clear hy173
                                            have H' := Aside0.mk H
                                            clear H
                                            have p168 : 0 ≤ (x4_1 : Int) := of_decide_eq_true (by first | (with_reducible assumption) | assumption)
                                            have q168 : x4_1 < (l0.length : Int) := of_decide_eq_true (by first | (with_reducible assumption) | assumption)
                                            obtain ⟨ad168, e168, hx168_0, hx168_1, hx168_2, hx168_3, hx168_4, hx168_5, hx168_6, hx168_7⟩ := at_T29 HR0.out x4_1 p168 q168
                                            obtain rfl : ad156 = ad168 := (by injection e168)
                                            replace hx168_0 := (HB.out.cell (World.block_lt_of_cell? w _ hx168_0)).trans hx168_0
                                            replace hx168_1 := (HB.out.cell (World.block_lt_of_cell? w _ hx168_1)).trans hx168_1
                                            replace hx168_2 := (HB.out.cell (World.block_lt_of_cell? w _ hx168_2)).trans hx168_2
                                            replace hx168_3 := (HB.out.cell (World.block_lt_of_cell? w _ hx168_3)).trans hx168_3
                                            replace hx168_4 := (HB.out.cell (World.block_lt_of_cell? w _ hx168_4)).trans hx168_4
                                            replace hx168_5 := (HB.out.cell (World.block_lt_of_cell? w _ hx168_5)).trans hx168_5
                                            replace hx168_6 := (HB.out.cell (World.block_lt_of_cell? w _ hx168_6)).trans hx168_6
                                            replace hx168_7 := (HB.out.cell (World.block_lt_of_cell? w _ hx168_7)).trans hx168_7
                                            replace p168 := eq_true p168
                                            replace q168 := eq_true q168
                                            go_wp2_with (first | ((with_reducible refine gate_builtin (b := .append) (xs := #[.tmp 44, .tmp 49]) rfl ?_); at_builtin; refine Kd.R_append k29 (w0 := w) w.heap.size rfl (.tmp 44) (.tmp 49) 25 29 (.agg #[(.string ⟨#[]⟩), (.string ⟨#[]⟩), (.string ⟨#[]⟩), (.int .i64 0), (.int .i64 0), (.int .i64 0), (.int .i64 0), (.string ⟨#[]⟩)]) 96 rfl Try.underlying25 info29 rfl (by decide) (by omega) u5 x5_2 (⟨(rd_T29 l0 x4_1).f0, (rd_T29 l0 x4_1).f1, (rd_T29 l0 x4_1).f2, (rd_T29 l0 x4_1).f3, (rd_T29 l0 x4_1).f4, (⟨(rd_T29 l0 x4_1).f5.f0, (rd_T29 l0 x4_1).f5.f1, (rd_T29 l0 x4_1).f5.f2⟩ : S27)⟩ : S29) [.string ((rd_T29 l0 x4_1).f0), .string ((rd_T29 l0 x4_1).f1), .string ((rd_T29 l0 x4_1).f2), .int .i64 ((rd_T29 l0 x4_1).f3), .int .i64 ((rd_T29 l0 x4_1).f4), .int .i64 ((rd_T29 l0 x4_1).f5.f0), .int .i64 ((rd_T29 l0 x4_1).f5.f1), .string ((rd_T29 l0 x4_1).f5.f2)] (fun k_ => some k_ ≠ (.slice (some ad166) x3_1.length co17 : Value).ownBlock) (fun _ => False) rfl rfl ?aP (fun _ hk => hk.elim) ?aF ?aO ?aB ?aS ?aL ?_; (case aP => exact k29_mkM _ _ _ (⟨(rd_T29 l0 x4_1).f0, (rd_T29 l0 x4_1).f1, (rd_T29 l0 x4_1).f2, (rd_T29 l0 x4_1).f3, (rd_T29 l0 x4_1).f4, (⟨(rd_T29 l0 x4_1).f5.f0, (rd_T29 l0 x4_1).f5.f1, (rd_T29 l0 x4_1).f5.f2⟩ : S27)⟩ : S29)); (case aB => exact (by repeat (first | (with_reducible first | exact HB.out | apply below_alloc | apply pw_below_drewN | apply below_drew1) | exact HB.out))); (case aF => exact (fun k_ hk => Kd.fresh' (Kd.R_lt (by (with_reducible repeat (first | apply Kd.R_alloc | apply Kd.R_drewN | apply Kd.R_drew)); exact HO_3.out)) k_ hk)); (case aO => exact (by (with_reducible repeat (first | apply Kd.R_alloc | apply Kd.R_drewN | apply Kd.R_drew)); exact HO_5.out)); (case aS => exact (below_size (by repeat (first | (with_reducible first | exact HB.out | apply below_alloc | apply pw_below_drewN | apply below_drew1) | exact HB.out)))); (case aL => have := LMc24.out; omega); intro v170 w30 ho hb hg hat; rw [← Ny169.out] at ho; have n0_ := Aside0.mk (Kd.R_after (ok := (fun _ => True)) (by (with_reducible repeat (first | apply Kd.R_alloc | apply Kd.R_drewN | apply Kd.R_drew)); exact Kd.R_mono HO_3.out (fun _ hk => ⟨trivial, hk⟩)) hg hat); have n1_ := Aside0.mk (hb); have n2_ := Aside0.mk (ho); clear HO_3; clear HB; clear HO_5; have HO_3 := n0_; have HB := n1_; have HO171 := n2_; clear n0_ n1_ n2_; clear ho hb hg hat; have p172 : 0 ≤ (x7_2 : Int) := of_decide_eq_true (by first | (with_reducible assumption) | assumption); have q172 : x7_2 < (x3_1.length : Int) := of_decide_eq_true (by first | (with_reducible assumption) | assumption); obtain ⟨ad172, e172, hx172_0, hx172_1, hx172_2, hx172_3, hx172_4, hx172_5, hx172_6, hx172_7⟩ := at_T29 (Kd.R_reads' HO_3.out).2.2 x7_2 p172 q172; obtain rfl : ad166 = ad172 := (by injection e172); replace p172 := eq_true p172; replace q172 := eq_true q172) | ((with_reducible refine gate_builtin (b := .append) (xs := #[.tmp 53, .tmp 58]) rfl ?_); at_builtin; refine Kd.R_append k29 (w0 := w) w.heap.size rfl (.tmp 53) (.tmp 58) 25 29 (.agg #[(.string ⟨#[]⟩), (.string ⟨#[]⟩), (.string ⟨#[]⟩), (.int .i64 0), (.int .i64 0), (.int .i64 0), (.int .i64 0), (.string ⟨#[]⟩)]) 96 rfl Try.underlying25 info29 rfl (by decide) (by omega) v170 y169 (⟨(rd_T29 x3_1 x7_2).f0, (rd_T29 x3_1 x7_2).f1, (rd_T29 x3_1 x7_2).f2, (rd_T29 x3_1 x7_2).f3, (rd_T29 x3_1 x7_2).f4, (⟨(rd_T29 x3_1 x7_2).f5.f0, (rd_T29 x3_1 x7_2).f5.f1, (rd_T29 x3_1 x7_2).f5.f2⟩ : S27)⟩ : S29) [.string ((rd_T29 x3_1 x7_2).f0), .string ((rd_T29 x3_1 x7_2).f1), .string ((rd_T29 x3_1 x7_2).f2), .int .i64 ((rd_T29 x3_1 x7_2).f3), .int .i64 ((rd_T29 x3_1 x7_2).f4), .int .i64 ((rd_T29 x3_1 x7_2).f5.f0), .int .i64 ((rd_T29 x3_1 x7_2).f5.f1), .string ((rd_T29 x3_1 x7_2).f5.f2)] (fun k_ => some k_ ≠ (.slice (some ad166) x3_1.length co17 : Value).ownBlock) (fun _ => False) rfl rfl ?aP (fun _ hk => hk.elim) ?aF ?aO ?aB ?aS ?aL ?_; (case aP => exact k29_mkM _ _ _ (⟨(rd_T29 x3_1 x7_2).f0, (rd_T29 x3_1 x7_2).f1, (rd_T29 x3_1 x7_2).f2, (rd_T29 x3_1 x7_2).f3, (rd_T29 x3_1 x7_2).f4, (⟨(rd_T29 x3_1 x7_2).f5.f0, (rd_T29 x3_1 x7_2).f5.f1, (rd_T29 x3_1 x7_2).f5.f2⟩ : S27)⟩ : S29)); (case aB => exact (by repeat (first | (with_reducible first | exact HB.out | apply below_alloc | apply pw_below_drewN | apply below_drew1) | exact HB.out))); (case aF => exact (fun k_ hk => Kd.fresh' (Kd.R_lt (by (with_reducible repeat (first | apply Kd.R_alloc | apply Kd.R_drewN | apply Kd.R_drew)); exact HO_3.out)) k_ hk)); (case aO => exact (by (with_reducible repeat (first | apply Kd.R_alloc | apply Kd.R_drewN | apply Kd.R_drew)); exact HO171.out)); (case aS => exact (below_size (by repeat (first | (with_reducible first | exact HB.out | apply below_alloc | apply pw_below_drewN | apply below_drew1) | exact HB.out)))); (case aL => have := LMc29.out; omega); intro v174 w31 ho hb hg hat; rw [← Ny173.out] at ho; have n0_ := Aside0.mk (Kd.R_after (ok := (fun _ => True)) (by (with_reducible repeat (first | apply Kd.R_alloc | apply Kd.R_drewN | apply Kd.R_drew)); exact HO_3.out) hg hat); have n1_ := Aside0.mk (hb); have n2_ := Aside0.mk (ho); clear HO_3; clear HB; clear HO171; have HO_3 := n0_; have HB := n1_; have HO175 := n2_; clear n0_ n1_ n2_; clear ho hb hg hat))
                                            go_roundg kj15
                                            case measure => have := HK1.out; have := HK2.out; have := HJ15.out; omega
                                            case rel => exact ⟨(y173), (true), (wrap64 (x7_2 + 1)), (by first | rfl | (simp; done) | (simp [*]; done)), (by first | rfl | (simp; done) | (simp [*]; done)), H', ⟨by have := HK1.out; have := HK2.out; have := HJ15.out; omega⟩, ⟨by (with_reducible repeat (first | apply Kd.R_alloc | apply Kd.R_drewN | apply Kd.R_drew)); exact Kd.R_mono HO_3.out (fun _ hk => hk.2)⟩, ⟨by (with_reducible repeat (first | apply Kd.R_alloc | apply Kd.R_drewN | apply Kd.R_drew)); exact HO175.out⟩, ⟨by repeat (first | (with_reducible first | exact HB.out | apply below_alloc | apply pw_below_drewN | apply below_drew1) | exact HB.out)⟩⟩
                                          · rw [if_neg c29] at H
                                            exact absurd H (by simp)
                                        · rw [if_neg c28] at H
                                          exact absurd H (by simp)
                                      · rw [if_neg c27] at H
                                        exact absurd H (by simp)
                                  · rw [if_neg c24] at H
                                    exact absurd H (by simp)
                                · rw [if_neg c23] at H
                                  exact absurd H (by simp)
                              · rw [if_neg c22] at H
                                exact absurd H (by simp)
                            · replace c21 := Bool.eq_false_iff.mpr c21
                              subst c21
                              have H1 : (if t167 = 0 then (joistref06_Sort.l1 kj15 l0 x3_1 x4_1 x5_2 x6_2 (wrap64 (x7_2 + 1))) else (if 0 ≤ x7_2 then (if x7_2 < (x3_1.length : Int) then (if x5_2.length < 1466015503701 then (joistref06_Sort.l1 kj15 l0 x3_1 x4_1 (x5_2 ++ [(⟨(rd_T29 x3_1 x7_2).f0, (rd_T29 x3_1 x7_2).f1, (rd_T29 x3_1 x7_2).f2, (rd_T29 x3_1 x7_2).f3, (rd_T29 x3_1 x7_2).f4, (⟨(rd_T29 x3_1 x7_2).f5.f0, (rd_T29 x3_1 x7_2).f5.f1, (rd_T29 x3_1 x7_2).f5.f2⟩ : S27)⟩ : S29)]) x6_2 (wrap64 (x7_2 + 1))) else (none)) else (none)) else (none))) = some r := by rw [if_neg (show ¬ (false = true) by decide)] at H; exact H
                              clear H
                              have H := H1
                              clear H1
                              by_cases c32 : t167 = 0
                              · rw [if_pos c32] at H
                                have c32b0 : (t167 == 0) = true := beq_iff_eq.mpr c32
                                have c32b1 : (t167 != 0) = false := bne_eq_false_iff_eq.mpr c32
                                clear c32
                                have H' := Aside0.mk H
                                clear H
                                go_wp2
                                go_roundg kj15
                                case measure => have := HK1.out; have := HK2.out; have := HJ15.out; omega
                                case rel => exact ⟨(x5_2), (x6_2), (wrap64 (x7_2 + 1)), (by first | rfl | (simp; done) | (simp [*]; done)), (by first | rfl | (simp; done) | (simp [*]; done)), H', ⟨by have := HK1.out; have := HK2.out; have := HJ15.out; omega⟩, ⟨by (with_reducible repeat (first | apply Kd.R_alloc | apply Kd.R_drewN | apply Kd.R_drew)); exact HO_3.out⟩, ⟨by (with_reducible repeat (first | apply Kd.R_alloc | apply Kd.R_drewN | apply Kd.R_drew)); exact HO_5.out⟩, ⟨by repeat (first | (with_reducible first | exact HB.out | apply below_alloc | apply pw_below_drewN | apply below_drew1) | exact HB.out)⟩⟩
                              · rw [if_neg c32] at H
                                have c32b0 : (t167 == 0) = false := beq_eq_false_iff_ne.mpr c32
                                have c32b1 : (t167 != 0) = true := bne_iff_ne.mpr c32
                                by_cases c33 : 0 ≤ x7_2
                                · rw [if_pos c33] at H
                                  have c33b0 : decide (0 ≤ x7_2) = true := decide_eq_true c33
                                  clear c33
                                  by_cases c34 : x7_2 < (x3_1.length : Int)
                                  · rw [if_pos c34] at H
                                    have c34b0 : decide (x7_2 < (x3_1.length : Int)) = true := decide_eq_true c34
                                    clear c34
                                    by_cases c35 : x5_2.length < 1466015503701
                                    · rw [if_pos c35] at H
                                      have LMc35 := Aside0.mk c35
                                      clear c35
                                      obtain ⟨y177, hy177⟩ : ∃ y_ : List (S29), y_ = (x5_2 ++ [(⟨(rd_T29 x3_1 x7_2).f0, (rd_T29 x3_1 x7_2).f1, (rd_T29 x3_1 x7_2).f2, (rd_T29 x3_1 x7_2).f3, (rd_T29 x3_1 x7_2).f4, (⟨(rd_T29 x3_1 x7_2).f5.f0, (rd_T29 x3_1 x7_2).f5.f1, (rd_T29 x3_1 x7_2).f5.f2⟩ : S27)⟩ : S29)]) := ⟨_, rfl⟩
                                      replace H : (joistref06_Sort.l1 kj15 l0 x3_1 x4_1 y177 x6_2 (wrap64 (x7_2 + 1))) = some r := by first | (rw [hy177]; with_reducible exact H) | (have H2_ := (Option.bind_some _ _).symm.trans H; rw [hy177]; with_reducible exact H2_) | (have H2_ := (Option.bind_some _ _).symm.trans H; with_reducible exact H2_) | with_reducible exact H | (rw [hy177]; exact H) | exact H
                                      have Ny177 := Aside0.mk hy177
                                      clear hy177
                                      have H' := Aside0.mk H
                                      clear H
                                      have p176 : 0 ≤ (x7_2 : Int) := of_decide_eq_true (by first | (with_reducible assumption) | assumption)
                                      have q176 : x7_2 < (x3_1.length : Int) := of_decide_eq_true (by first | (with_reducible assumption) | assumption)
                                      obtain ⟨ad176, e176, hx176_0, hx176_1, hx176_2, hx176_3, hx176_4, hx176_5, hx176_6, hx176_7⟩ := at_T29 (Kd.R_reads' HO_3.out).2.2 x7_2 p176 q176
                                      obtain rfl : ad166 = ad176 := (by injection e176)
                                      replace p176 := eq_true p176
                                      replace q176 := eq_true q176
                                      go_wp2_with (first | ((with_reducible refine gate_builtin (b := .append) (xs := #[.tmp 53, .tmp 58]) rfl ?_); at_builtin; refine Kd.R_append k29 (w0 := w) w.heap.size rfl (.tmp 53) (.tmp 58) 25 29 (.agg #[(.string ⟨#[]⟩), (.string ⟨#[]⟩), (.string ⟨#[]⟩), (.int .i64 0), (.int .i64 0), (.int .i64 0), (.int .i64 0), (.string ⟨#[]⟩)]) 96 rfl Try.underlying25 info29 rfl (by decide) (by omega) u5 x5_2 (⟨(rd_T29 x3_1 x7_2).f0, (rd_T29 x3_1 x7_2).f1, (rd_T29 x3_1 x7_2).f2, (rd_T29 x3_1 x7_2).f3, (rd_T29 x3_1 x7_2).f4, (⟨(rd_T29 x3_1 x7_2).f5.f0, (rd_T29 x3_1 x7_2).f5.f1, (rd_T29 x3_1 x7_2).f5.f2⟩ : S27)⟩ : S29) [.string ((rd_T29 x3_1 x7_2).f0), .string ((rd_T29 x3_1 x7_2).f1), .string ((rd_T29 x3_1 x7_2).f2), .int .i64 ((rd_T29 x3_1 x7_2).f3), .int .i64 ((rd_T29 x3_1 x7_2).f4), .int .i64 ((rd_T29 x3_1 x7_2).f5.f0), .int .i64 ((rd_T29 x3_1 x7_2).f5.f1), .string ((rd_T29 x3_1 x7_2).f5.f2)] (fun k_ => some k_ ≠ (.slice (some ad166) x3_1.length co17 : Value).ownBlock) (fun _ => False) rfl rfl ?aP (fun _ hk => hk.elim) ?aF ?aO ?aB ?aS ?aL ?_; (case aP => exact k29_mkM _ _ _ (⟨(rd_T29 x3_1 x7_2).f0, (rd_T29 x3_1 x7_2).f1, (rd_T29 x3_1 x7_2).f2, (rd_T29 x3_1 x7_2).f3, (rd_T29 x3_1 x7_2).f4, (⟨(rd_T29 x3_1 x7_2).f5.f0, (rd_T29 x3_1 x7_2).f5.f1, (rd_T29 x3_1 x7_2).f5.f2⟩ : S27)⟩ : S29)); (case aB => exact (by repeat (first | (with_reducible first | exact HB.out | apply below_alloc | apply pw_below_drewN | apply below_drew1) | exact HB.out))); (case aF => exact (fun k_ hk => Kd.fresh' (Kd.R_lt (by (with_reducible repeat (first | apply Kd.R_alloc | apply Kd.R_drewN | apply Kd.R_drew)); exact HO_3.out)) k_ hk)); (case aO => exact (by (with_reducible repeat (first | apply Kd.R_alloc | apply Kd.R_drewN | apply Kd.R_drew)); exact HO_5.out)); (case aS => exact (below_size (by repeat (first | (with_reducible first | exact HB.out | apply below_alloc | apply pw_below_drewN | apply below_drew1) | exact HB.out)))); (case aL => have := LMc35.out; omega); intro v178 w36 ho hb hg hat; rw [← Ny177.out] at ho; have n0_ := Aside0.mk (Kd.R_after (ok := (fun _ => True)) (by (with_reducible repeat (first | apply Kd.R_alloc | apply Kd.R_drewN | apply Kd.R_drew)); exact Kd.R_mono HO_3.out (fun _ hk => ⟨trivial, hk⟩)) hg hat); have n1_ := Aside0.mk (hb); have n2_ := Aside0.mk (ho); clear HO_3; clear HB; clear HO_5; have HO_3 := n0_; have HB := n1_; have HO179 := n2_; clear n0_ n1_ n2_; clear ho hb hg hat))
                                      go_roundg kj15
                                      case measure => have := HK1.out; have := HK2.out; have := HJ15.out; omega
                                      case rel => exact ⟨(y177), (x6_2), (wrap64 (x7_2 + 1)), (by first | rfl | (simp; done) | (simp [*]; done)), (by first | rfl | (simp; done) | (simp [*]; done)), H', ⟨by have := HK1.out; have := HK2.out; have := HJ15.out; omega⟩, ⟨by (with_reducible repeat (first | apply Kd.R_alloc | apply Kd.R_drewN | apply Kd.R_drew)); exact Kd.R_mono HO_3.out (fun _ hk => hk.2)⟩, ⟨by (with_reducible repeat (first | apply Kd.R_alloc | apply Kd.R_drewN | apply Kd.R_drew)); exact HO179.out⟩, ⟨by repeat (first | (with_reducible first | exact HB.out | apply below_alloc | apply pw_below_drewN | apply below_drew1) | exact HB.out)⟩⟩
                                    · rw [if_neg c35] at H
                                      exact absurd H (by simp)
                                  · rw [if_neg c34] at H
                                    exact absurd H (by simp)
                                · rw [if_neg c33] at H
                                  exact absurd H (by simp)
                      · rw [if_neg c14] at H
                        exact absurd H (by simp)
                    · rw [if_neg c13] at H
                      exact absurd H (by simp)
                  · rw [if_neg c12] at H
                    exact absurd H (by simp)
                · rw [if_neg c11] at H
                  have c11b0 : decide (x7_2 < (x3_1.length : Int)) = false := decide_eq_false c11
                  clear c11
                  by_cases c37 : x6_2 = true
                  · subst c37
                    have H1 : (joistref06_Sort.l0 k2 l0 x5_2 (wrap64 (x4_1 + 1))) = some r := by rw [if_pos rfl] at H; exact H
                    clear H
                    have H := H1
                    clear H1
                    have H' := Aside0.mk H
                    clear H
                    obtain ⟨Ao38, co38, eo38⟩ := Kd.R_slice HO_3.out
                    subst eo38
                    go_wp2
                    go_roundg k2
                    case measure => have := HK1.out; have := HK2.out; omega
                    case rel => exact ⟨(x5_2), (wrap64 (x4_1 + 1)), (by first | rfl | (simp; done) | (simp [*]; done)), H', ⟨by have := HK1.out; have := HK2.out; omega⟩, ⟨by (with_reducible repeat (first | apply Kd.R_alloc | apply Kd.R_drewN | apply Kd.R_drew)); exact Kd.R_mono HO_5.out (fun _ hk => trivial)⟩, ⟨by repeat (first | (with_reducible first | exact HB.out | apply below_alloc | apply pw_below_drewN | apply below_drew1) | exact HB.out)⟩⟩
                  · replace c37 := Bool.eq_false_iff.mpr c37
                    subst c37
                    have H1 : (if 0 ≤ x4_1 then (if x4_1 < (l0.length : Int) then (if x5_2.length < 1466015503701 then (joistref06_Sort.l0 k2 l0 (x5_2 ++ [(⟨(rd_T29 l0 x4_1).f0, (rd_T29 l0 x4_1).f1, (rd_T29 l0 x4_1).f2, (rd_T29 l0 x4_1).f3, (rd_T29 l0 x4_1).f4, (⟨(rd_T29 l0 x4_1).f5.f0, (rd_T29 l0 x4_1).f5.f1, (rd_T29 l0 x4_1).f5.f2⟩ : S27)⟩ : S29)]) (wrap64 (x4_1 + 1))) else (none)) else (none)) else (none)) = some r := by rw [if_neg (show ¬ (false = true) by decide)] at H; exact H
                    clear H
                    have H := H1
                    clear H1
                    by_cases c39 : 0 ≤ x4_1
                    · rw [if_pos c39] at H
                      have c39b0 : decide (0 ≤ x4_1) = true := decide_eq_true c39
                      clear c39
                      by_cases c40 : x4_1 < (l0.length : Int)
                      · rw [if_pos c40] at H
                        have c40b0 : decide (x4_1 < (l0.length : Int)) = true := decide_eq_true c40
                        clear c40
                        by_cases c41 : x5_2.length < 1466015503701
                        · rw [if_pos c41] at H
                          have LMc41 := Aside0.mk c41
                          clear c41
                          obtain ⟨y162, hy162⟩ : ∃ y_ : List (S29), y_ = (x5_2 ++ [(⟨(rd_T29 l0 x4_1).f0, (rd_T29 l0 x4_1).f1, (rd_T29 l0 x4_1).f2, (rd_T29 l0 x4_1).f3, (rd_T29 l0 x4_1).f4, (⟨(rd_T29 l0 x4_1).f5.f0, (rd_T29 l0 x4_1).f5.f1, (rd_T29 l0 x4_1).f5.f2⟩ : S27)⟩ : S29)]) := ⟨_, rfl⟩
                          replace H : (joistref06_Sort.l0 k2 l0 y162 (wrap64 (x4_1 + 1))) = some r := by first | (rw [hy162]; with_reducible exact H) | (have H2_ := (Option.bind_some _ _).symm.trans H; rw [hy162]; with_reducible exact H2_) | (have H2_ := (Option.bind_some _ _).symm.trans H; with_reducible exact H2_) | with_reducible exact H | (rw [hy162]; exact H) | exact H
                          have Ny162 := Aside0.mk hy162
                          clear hy162
                          have H' := Aside0.mk H
                          clear H
                          obtain ⟨Ao42, co42, eo42⟩ := Kd.R_slice HO_3.out
                          subst eo42
                          have p161 : 0 ≤ (x4_1 : Int) := of_decide_eq_true (by first | (with_reducible assumption) | assumption)
                          have q161 : x4_1 < (l0.length : Int) := of_decide_eq_true (by first | (with_reducible assumption) | assumption)
                          obtain ⟨ad161, e161, hx161_0, hx161_1, hx161_2, hx161_3, hx161_4, hx161_5, hx161_6, hx161_7⟩ := at_T29 HR0.out x4_1 p161 q161
                          obtain rfl : ad156 = ad161 := (by injection e161)
                          replace hx161_0 := (HB.out.cell (World.block_lt_of_cell? w _ hx161_0)).trans hx161_0
                          replace hx161_1 := (HB.out.cell (World.block_lt_of_cell? w _ hx161_1)).trans hx161_1
                          replace hx161_2 := (HB.out.cell (World.block_lt_of_cell? w _ hx161_2)).trans hx161_2
                          replace hx161_3 := (HB.out.cell (World.block_lt_of_cell? w _ hx161_3)).trans hx161_3
                          replace hx161_4 := (HB.out.cell (World.block_lt_of_cell? w _ hx161_4)).trans hx161_4
                          replace hx161_5 := (HB.out.cell (World.block_lt_of_cell? w _ hx161_5)).trans hx161_5
                          replace hx161_6 := (HB.out.cell (World.block_lt_of_cell? w _ hx161_6)).trans hx161_6
                          replace hx161_7 := (HB.out.cell (World.block_lt_of_cell? w _ hx161_7)).trans hx161_7
                          replace p161 := eq_true p161
                          replace q161 := eq_true q161
                          go_wp2_with (first | ((with_reducible refine gate_builtin (b := .append) (xs := #[.tmp 62, .tmp 67]) rfl ?_); at_builtin; refine Kd.R_append k29 (w0 := w) w.heap.size rfl (.tmp 62) (.tmp 67) 25 29 (.agg #[(.string ⟨#[]⟩), (.string ⟨#[]⟩), (.string ⟨#[]⟩), (.int .i64 0), (.int .i64 0), (.int .i64 0), (.int .i64 0), (.string ⟨#[]⟩)]) 96 rfl Try.underlying25 info29 rfl (by decide) (by omega) u5 x5_2 (⟨(rd_T29 l0 x4_1).f0, (rd_T29 l0 x4_1).f1, (rd_T29 l0 x4_1).f2, (rd_T29 l0 x4_1).f3, (rd_T29 l0 x4_1).f4, (⟨(rd_T29 l0 x4_1).f5.f0, (rd_T29 l0 x4_1).f5.f1, (rd_T29 l0 x4_1).f5.f2⟩ : S27)⟩ : S29) [.string ((rd_T29 l0 x4_1).f0), .string ((rd_T29 l0 x4_1).f1), .string ((rd_T29 l0 x4_1).f2), .int .i64 ((rd_T29 l0 x4_1).f3), .int .i64 ((rd_T29 l0 x4_1).f4), .int .i64 ((rd_T29 l0 x4_1).f5.f0), .int .i64 ((rd_T29 l0 x4_1).f5.f1), .string ((rd_T29 l0 x4_1).f5.f2)] (fun k_ => some k_ ≠ (.slice Ao42 x3_1.length co42 : Value).ownBlock) (fun _ => False) rfl rfl ?aP (fun _ hk => hk.elim) ?aF ?aO ?aB ?aS ?aL ?_; (case aP => exact k29_mkM _ _ _ (⟨(rd_T29 l0 x4_1).f0, (rd_T29 l0 x4_1).f1, (rd_T29 l0 x4_1).f2, (rd_T29 l0 x4_1).f3, (rd_T29 l0 x4_1).f4, (⟨(rd_T29 l0 x4_1).f5.f0, (rd_T29 l0 x4_1).f5.f1, (rd_T29 l0 x4_1).f5.f2⟩ : S27)⟩ : S29)); (case aB => exact (by repeat (first | (with_reducible first | exact HB.out | apply below_alloc | apply pw_below_drewN | apply below_drew1) | exact HB.out))); (case aF => exact (fun k_ hk => Kd.fresh' (Kd.R_lt (by (with_reducible repeat (first | apply Kd.R_alloc | apply Kd.R_drewN | apply Kd.R_drew)); exact HO_3.out)) k_ hk)); (case aO => exact (by (with_reducible repeat (first | apply Kd.R_alloc | apply Kd.R_drewN | apply Kd.R_drew)); exact HO_5.out)); (case aS => exact (below_size (by repeat (first | (with_reducible first | exact HB.out | apply below_alloc | apply pw_below_drewN | apply below_drew1) | exact HB.out)))); (case aL => have := LMc41.out; omega); intro v163 w43 ho hb hg hat; rw [← Ny162.out] at ho; have n0_ := Aside0.mk (Kd.R_after (ok := (fun _ => True)) (by (with_reducible repeat (first | apply Kd.R_alloc | apply Kd.R_drewN | apply Kd.R_drew)); exact Kd.R_mono HO_3.out (fun _ hk => ⟨trivial, hk⟩)) hg hat); have n1_ := Aside0.mk (hb); have n2_ := Aside0.mk (ho); clear HO_3; clear HB; clear HO_5; have HO_3 := n0_; have HB := n1_; have HO164 := n2_; clear n0_ n1_ n2_; clear ho hb hg hat))
                          go_roundg k2
                          case measure => have := HK1.out; have := HK2.out; omega
                          case rel => exact ⟨(y162), (wrap64 (x4_1 + 1)), (by first | rfl | (simp; done) | (simp [*]; done)), H', ⟨by have := HK1.out; have := HK2.out; omega⟩, ⟨by (with_reducible repeat (first | apply Kd.R_alloc | apply Kd.R_drewN | apply Kd.R_drew)); exact Kd.R_mono HO164.out (fun _ hk => trivial)⟩, ⟨by repeat (first | (with_reducible first | exact HB.out | apply below_alloc | apply pw_below_drewN | apply below_drew1) | exact HB.out)⟩⟩
                        · rw [if_neg c41] at H
                          exact absurd H (by simp)
                      · rw [if_neg c40] at H
                        exact absurd H (by simp)
                    · rw [if_neg c39] at H
                      exact absurd H (by simp)
          · replace c7 := Bool.eq_false_iff.mpr c7
            subst c7
            have H1 : (joistref06_Sort.l0 k1 l0 x3_1 (wrap64 (x4_1 + 1))) = some r := by rw [if_neg (show ¬ (false = true) by decide)] at H; exact H
            clear H
            have H := H1
            clear H1
            have H' := Aside0.mk H
            clear H
            have p156 : 0 ≤ (x4_1 : Int) := of_decide_eq_true (by first | (with_reducible assumption) | assumption)
            have q156 : x4_1 < (l0.length : Int) := of_decide_eq_true (by first | (with_reducible assumption) | assumption)
            obtain ⟨ad156, e156, hx156_0, hx156_1, hx156_2, hx156_3, hx156_4, hx156_5, hx156_6, hx156_7⟩ := at_T29 HR0.out x4_1 p156 q156
            cases e156
            replace hx156_0 := (HB.out.cell (World.block_lt_of_cell? w _ hx156_0)).trans hx156_0
            replace hx156_1 := (HB.out.cell (World.block_lt_of_cell? w _ hx156_1)).trans hx156_1
            replace hx156_2 := (HB.out.cell (World.block_lt_of_cell? w _ hx156_2)).trans hx156_2
            replace hx156_3 := (HB.out.cell (World.block_lt_of_cell? w _ hx156_3)).trans hx156_3
            replace hx156_4 := (HB.out.cell (World.block_lt_of_cell? w _ hx156_4)).trans hx156_4
            replace hx156_5 := (HB.out.cell (World.block_lt_of_cell? w _ hx156_5)).trans hx156_5
            replace hx156_6 := (HB.out.cell (World.block_lt_of_cell? w _ hx156_6)).trans hx156_6
            replace hx156_7 := (HB.out.cell (World.block_lt_of_cell? w _ hx156_7)).trans hx156_7
            replace p156 := eq_true p156
            replace q156 := eq_true q156
            go_wp2_with (first | ((with_reducible refine gate_callee (f := 39) rfl ?_); refine goesL_ (some 20) rfl rfl Try.func39 (by kernel_rfl) rfl #[.agg #[.string ((rd_T29 l0 x4_1).f0), .string ((rd_T29 l0 x4_1).f1), .string ((rd_T29 l0 x4_1).f2), .int .i64 ((rd_T29 l0 x4_1).f3), .int .i64 ((rd_T29 l0 x4_1).f4), .int .i64 ((rd_T29 l0 x4_1).f5.f0), .int .i64 ((rd_T29 l0 x4_1).f5.f1), .string ((rd_T29 l0 x4_1).f5.f2)]] rfl (by (try simp only [List.map_toArray, List.map_cons, List.map_nil]); first | done | rfl | (simp only [List.length_drop, List.length_take]; rfl)) ?_; (with_reducible refine (joistref03_Right.calls k1 ((rd_T29 l0 x4_1).f0) ((rd_T29 l0 x4_1).f1) ((rd_T29 l0 x4_1).f2) ((rd_T29 l0 x4_1).f3) ((rd_T29 l0 x4_1).f4) ((rd_T29 l0 x4_1).f5.f0) ((rd_T29 l0 x4_1).f5.f1) ((rd_T29 l0 x4_1).f5.f2) false _ A6.out).mono ?_); rintro e w44 ⟨rfl, hb⟩; refine ⟨_, rfl, ?_⟩; have n0_ := Aside0.mk (Kd.R_below (by (with_reducible repeat (first | apply Kd.R_alloc | apply Kd.R_drewN | apply Kd.R_drew)); exact HO_3.out) hb); have n1_ := Aside0.mk (below_step (by repeat (first | (with_reducible first | exact HB.out | apply below_alloc | apply pw_below_drewN | apply below_drew1) | exact HB.out)) hb); clear HO_3; clear HB; have HO_3 := n0_; have HB := n1_; clear n0_ n1_; (try clear hb); (try clear hb2); (try clear hk); (try clear hi)))
            go_roundg k1
            case measure => have := HK1.out; omega
            case rel => exact ⟨(x3_1), (wrap64 (x4_1 + 1)), (by first | rfl | (simp; done) | (simp [*]; done)), H', ⟨by have := HK1.out; omega⟩, ⟨by (with_reducible repeat (first | apply Kd.R_alloc | apply Kd.R_drewN | apply Kd.R_drew)); exact HO_3.out⟩, ⟨by repeat (first | (with_reducible first | exact HB.out | apply below_alloc | apply pw_below_drewN | apply below_drew1) | exact HB.out)⟩⟩
        · rw [if_neg c5] at H
          exact absurd H (by simp)
      · rw [if_neg c4] at H
        have c4b0 : decide (x4_1 < (l0.length : Int)) = false := decide_eq_false c4
        clear c4
        obtain rfl := Option.some.inj H
        go_wp2
        go_ret
        exact ⟨_, by first | rfl | (simp [errW_none, errW_some] <;> rfl) | (simp [*, errW_none, errW_some] <;> rfl), by (with_reducible repeat (first | apply Kd.R_alloc | apply Kd.R_drewN | apply Kd.R_drew)); exact HO_3.out, by repeat (first | (with_reducible first | exact HB.out | apply below_alloc | apply pw_below_drewN | apply below_drew1) | exact HB.out)⟩

end Go.Proofs.Ythbgjaboghnpjaa.Q
