-- Written by a program of this session, out of Lean's print of the loaded program (a patched copy of the kit's print).
import Derived.Test.YtjfmnjhkpkcakaaQx0
import Derived.Test.YtjfmnjhkpkcakaaQx10
namespace Go.Proofs.Ytjfmnjhkpkcakaa.Q
open Go.RowKit Go.Proofs.YtjfmnjhkpkcakaaW.PrintWords Go.Proofs.YtjfmnjhkpkcakaaW.PrintLast Go.Proofs.YtjfmnjhkpkcakaaW.PrintMore
attribute [local go_sem] max2_int min2_int max_two min_two max_three min_three max_four min_four   -- for this text's walks alone
set_option linter.unusedVariables false
set_option linter.unusedSimpArgs false

/-! ### codec_Take: function 25 -/
def codec_Take.l0 : Nat → List Int → Int → List Int → Int → Int → Option (Int × List Int × Bool)
  | 0, _, _, _, _, _ => none
  | k + 1, x0, x5, x12, x13, x14 => if x14 < x13 then (if 0 ≤ x14 then (if x14 < (x12.length : Int) then (if 0 ≤ (wrap64 (7 * x14)) then (if (Go.bits .and .u8 (rd x12 x14) 128) = 0 then (if x14 > 0 then (if (rd x12 x14) = 0 then (some (0, ([] : List Int), false)) else (if 0 ≤ (wrap64 (x14 + 1)) then (if (wrap64 (x14 + 1)) ≤ (x0.length : Int) then ((slices_Clone_byte_byte.f (x0.drop ((wrap64 (x14 + 1)) : Int).toNat)).bind fun t127 => (some (Go.bits .or .i64 x5 (shl .i64 (wrap64 (Go.bits .and .u8 (rd x12 x14) 127)) (wrap64 (7 * x14))), t127, true))) else (none)) else (none))) else (if 0 ≤ (wrap64 (x14 + 1)) then (if (wrap64 (x14 + 1)) ≤ (x0.length : Int) then ((slices_Clone_byte_byte.f (x0.drop ((wrap64 (x14 + 1)) : Int).toNat)).bind fun t131 => (some (Go.bits .or .i64 x5 (shl .i64 (wrap64 (Go.bits .and .u8 (rd x12 x14) 127)) (wrap64 (7 * x14))), t131, true))) else (none)) else (none))) else (codec_Take.l0 k x0 (Go.bits .or .i64 x5 (shl .i64 (wrap64 (Go.bits .and .u8 (rd x12 x14) 127)) (wrap64 (7 * x14)))) x12 x13 (wrap64 (x14 + 1)))) else (none)) else (none)) else (none)) else (some (0, ([] : List Int), false))
def codec_Take.f (k : Nat) (l0 : List Int) : Option (Int × List Int × Bool) := if 0 ≤ (mn (l0.length : Int) 9) then (if (mn (l0.length : Int) 9) ≤ (l0.length : Int) then (codec_Take.l0 k l0 0 (l0.take ((mn (l0.length : Int) 9) : Int).toNat) ((l0.take ((mn (l0.length : Int) 9) : Int).toNat).length : Int) 0) else (none)) else (none)
theorem codec_Take.mono_l : ∀ k, (∀ y0 y1 y2 y3 y4, LeO (codec_Take.l0 k y0 y1 y2 y3 y4) (codec_Take.l0 (k + 1) y0 y1 y2 y3 y4))
  | 0 => fun _ _ _ _ _ r h => by simp [codec_Take.l0] at h
  | k + 1 => by
    have ih0 := codec_Take.mono_l k
    · intro y0 y1 y2 y3 y4
      unfold codec_Take.l0
      repeat' first
      | (with_reducible exact ih0 _ _ _ _ _)
      | (with_reducible exact LeO.refl _)
      | (with_reducible exact LeO.none _)
      | (with_reducible refine LeO.ite ?_ ?_)
      | (with_reducible refine LeO.bind ?_ (fun _ => ?_))
      | exact ih0 _ _ _ _ _
      | exact LeO.none _
      | refine LeO.ite ?_ ?_
      | refine LeO.bind ?_ (fun _ => ?_)
theorem codec_Take.mono : ∀ a0 k, LeO (codec_Take.f k a0) (codec_Take.f (k + 1) a0) := by
  intro a0 k
  have ih0 := codec_Take.mono_l k
  unfold codec_Take.f
  repeat' first
      | (with_reducible exact ih0 _ _ _ _ _)
      | (with_reducible exact LeO.refl _)
      | (with_reducible exact LeO.none _)
      | (with_reducible refine LeO.ite ?_ ?_)
      | (with_reducible refine LeO.bind ?_ (fun _ => ?_))
      | exact ih0 _ _ _ _ _
      | exact LeO.none _
      | refine LeO.ite ?_ ?_
      | refine LeO.bind ?_ (fun _ => ?_)
set_option maxHeartbeats 8000000 in
set_option maxRecDepth 100000 in
theorem codec_Take.calls (k : Nat) (A0 : Option Addr) (c0 : Nat) (l0 : List Int) (r1 : Int) (r2 : List Int) (r3 : Bool) (w : World) (hr0 : Kd.C (Kd.int .u8) w A0 l0.length l0) (hc0 : l0.length ≤ c0) (h : codec_Take.f k l0 = some (r1, r2, r3)) :
    Calls Try.prog 25 #[.slice A0 l0.length c0] w fun e w' => ∃ v1_ : Value, e = .returned (.tuple #[.int .i64 r1, v1_, .bool r3]) ∧ Kd.R (Kd.int .u8) 5 w' w.heap.size (fun _ => True) v1_ r2 ∧ Below w.heap.size w w' := by
  have HR0 := Aside0.mk hr0
  have HC0 := Aside0.mk hc0
  clear hr0 hc0
  have HB := Aside0.mk (Below.refl w.heap.size w)
  have H : (if 0 ≤ (mn (l0.length : Int) 9) then (if (mn (l0.length : Int) 9) ≤ (l0.length : Int) then (codec_Take.l0 k l0 0 (l0.take ((mn (l0.length : Int) 9) : Int).toNat) ((l0.take ((mn (l0.length : Int) 9) : Int).toNat).length : Int) 0) else (none)) else (none)) = some (r1, r2, r3) := h
  clear h
  obtain ⟨ji2, hji2⟩ : ∃ j_ : Int, (mn (l0.length : Int) 9) = j_ := ⟨_, rfl⟩
  replace H : (if 0 ≤ (ji2) then (if (ji2) ≤ (l0.length : Int) then (codec_Take.l0 k l0 0 (l0.take ((ji2) : Int).toNat) ((l0.take ((ji2) : Int).toNat).length : Int) 0) else (none)) else (none)) = some (r1, r2, r3) := by first | (rw [hji2] at H; exact H) | (simp only [hji2] at H ⊢; exact H)
  (try (have hji2h : ji2 ≤ 9 := by (rw [← hji2]; unfold mn; (repeat' split) <;> omega)))
  (try (have hji2g : ji2 ≤ 64 := by omega))
  (try (have hji2l : 0 ≤ ji2 := by (rw [← hji2]; unfold mn; (repeat' split) <;> omega)))
  (try (have hji2m : 0 ≤ ji2 := by omega))
  have hji2_ : (if 9 < (l0.length : Int) then 9 else (l0.length : Int)) = ji2 := hji2
  by_cases c3 : 0 ≤ (ji2)
  · rw [if_pos c3] at H
    have c3b0 := eq_true c3
    have c3b1 : decide (0 ≤ (ji2)) = true := decide_eq_true c3
    clear c3
    by_cases c4 : (ji2) ≤ (l0.length : Int)
    · rw [if_pos c4] at H
      have c4b0 := eq_true c4
      have c4b1 : decide ((ji2) ≤ (l0.length : Int)) = true := decide_eq_true c4
      clear c4
      have H' := Aside0.mk H
      clear H
      obtain ⟨i05, hi05, _, hsz5, _⟩ := info_parts info5
      obtain ⟨hcut5, hA5, hC5⟩ := print_take_of (P := Try.prog) (Value.int .u8) 0 22 5 .i64 Try.underlying22 hi05 hsz5 A0 c0 l0 (ji2) (of_decide_eq_true (by first | (with_reducible assumption) | assumption)) (of_decide_eq_true (by first | (with_reducible assumption) | assumption)) HC0.out
      have HR124 := Aside0.mk (Kd.C_of_reads (h1 := fun _ => rfl) (hA5 _ (Kd.reads_of_C HR0.out)))
      have HC124 := Aside0.mk hC5
      clear hA5 hC5 hi05 hsz5
      go_enter Try.func25, Try.ntmps25
      go_wp2
      go_loopg [5, 14] k (fun kq v5 v14 w' => ∃ (x5_1 : Int) (x14_1 : Int), v5 = .int .i64 x5_1 ∧ v14 = .int .i64 x14_1 ∧ Aside0 (codec_Take.l0 kq l0 x5_1 (l0.take ((ji2) : Int).toNat) ((l0.take ((ji2) : Int).toNat).length : Int) x14_1 = some (r1, r2, r3)) ∧ Aside0 (kq ≤ k) ∧ Aside0 (Below w.heap.size w w'))
      case atStart => exact ⟨(0), (0), (by first | rfl | (simp; done) | (simp [*]; done)), (by first | rfl | (simp; done) | (simp [*]; done)), H', ⟨Nat.le_refl _⟩, ⟨by repeat (first | (with_reducible first | exact HB.out | apply below_alloc | apply pw_below_drewN | apply below_drew1) | exact HB.out)⟩⟩
      case round =>
        clear H'
        try clear c2
        try clear p2
        try clear c3
        try clear c3b0
        try clear c3b1
        try clear c4
        try clear c4b0
        try clear c4b1
        obtain ⟨x5_1, x14_1, rfl, rfl, HA, HK1, HB⟩ := hrel
        cases gk with
        | zero => exact absurd HA.out (by simp [codec_Take.l0])
        | succ k1 =>
          have H := HA.out
          clear HA
          simp only [codec_Take.l0] at H
          by_cases c6 : x14_1 < ((l0.take ((ji2) : Int).toNat).length : Int)
          · rw [if_pos c6] at H
            have c6b0 : decide (x14_1 < ((l0.take ((ji2) : Int).toNat).length : Int)) = true := decide_eq_true c6
            have c6bm : decide (x14_1 < max ji2 0) = true := by
              have e_ : (((l0.take ((ji2) : Int).toNat).length : Nat) : Int) = max ji2 0 := by
                rw [List.length_take]; have h_ := hji2; unfold mn at h_; split at h_ <;> omega
              rw [← e_]; exact c6b0
            have c6bp := of_decide_eq_true c6bm
            clear c6
            by_cases c7 : 0 ≤ x14_1
            · rw [if_pos c7] at H
              have c7b0 : decide (0 ≤ x14_1) = true := decide_eq_true c7
              clear c7
              by_cases c8 : x14_1 < ((l0.take ((ji2) : Int).toNat).length : Int)
              · rw [if_pos c8] at H
                have c8b0 : decide (x14_1 < ((l0.take ((ji2) : Int).toNat).length : Int)) = true := decide_eq_true c8
                have c8bm : decide (x14_1 < max ji2 0) = true := by
                  have e_ : (((l0.take ((ji2) : Int).toNat).length : Nat) : Int) = max ji2 0 := by
                    rw [List.length_take]; have h_ := hji2; unfold mn at h_; split at h_ <;> omega
                  rw [← e_]; exact c8b0
                have c8bp := of_decide_eq_true c8bm
                clear c8
                obtain ⟨ji9, hji9⟩ : ∃ j_ : Int, (wrap64 (7 * x14_1)) = j_ := ⟨_, rfl⟩
                replace H : (if 0 ≤ (ji9) then (if (Go.bits .and .u8 (rd (l0.take ((ji2) : Int).toNat) x14_1) 128) = 0 then (if x14_1 > 0 then (if (rd (l0.take ((ji2) : Int).toNat) x14_1) = 0 then (some (0, ([] : List Int), false)) else (if 0 ≤ (wrap64 (x14_1 + 1)) then (if (wrap64 (x14_1 + 1)) ≤ (l0.length : Int) then ((slices_Clone_byte_byte.f (l0.drop ((wrap64 (x14_1 + 1)) : Int).toNat)).bind fun t127 => (some (Go.bits .or .i64 x5_1 (shl .i64 (wrap64 (Go.bits .and .u8 (rd (l0.take ((ji2) : Int).toNat) x14_1) 127)) (ji9)), t127, true))) else (none)) else (none))) else (if 0 ≤ (wrap64 (x14_1 + 1)) then (if (wrap64 (x14_1 + 1)) ≤ (l0.length : Int) then ((slices_Clone_byte_byte.f (l0.drop ((wrap64 (x14_1 + 1)) : Int).toNat)).bind fun t131 => (some (Go.bits .or .i64 x5_1 (shl .i64 (wrap64 (Go.bits .and .u8 (rd (l0.take ((ji2) : Int).toNat) x14_1) 127)) (ji9)), t131, true))) else (none)) else (none))) else (codec_Take.l0 k1 l0 (Go.bits .or .i64 x5_1 (shl .i64 (wrap64 (Go.bits .and .u8 (rd (l0.take ((ji2) : Int).toNat) x14_1) 127)) (ji9))) (l0.take ((ji2) : Int).toNat) ((l0.take ((ji2) : Int).toNat).length : Int) (wrap64 (x14_1 + 1)))) else (none)) = some (r1, r2, r3) := by first | (rw [hji9] at H; exact H) | (simp only [hji9] at H ⊢; exact H)
                have hji9w : (IntKind.i64.wrap (7 * x14_1)) = ji9 := (i64_w _).trans hji9
                by_cases c10 : 0 ≤ (ji9)
                · rw [if_pos c10] at H
                  have c10b0 := eq_true c10
                  have c10b1 : decide (0 ≤ (ji9)) = true := decide_eq_true c10
                  clear c10
                  obtain ⟨ji11, hji11⟩ : ∃ j_ : Int, (shl .i64 (wrap64 (Go.bits .and .u8 (rd (l0.take ((ji2) : Int).toNat) x14_1) 127)) (ji9)) = j_ := ⟨_, rfl⟩
                  replace H : (if (Go.bits .and .u8 (rd (l0.take ((ji2) : Int).toNat) x14_1) 128) = 0 then (if x14_1 > 0 then (if (rd (l0.take ((ji2) : Int).toNat) x14_1) = 0 then (some (0, ([] : List Int), false)) else (if 0 ≤ (wrap64 (x14_1 + 1)) then (if (wrap64 (x14_1 + 1)) ≤ (l0.length : Int) then ((slices_Clone_byte_byte.f (l0.drop ((wrap64 (x14_1 + 1)) : Int).toNat)).bind fun t127 => (some (Go.bits .or .i64 x5_1 (ji11), t127, true))) else (none)) else (none))) else (if 0 ≤ (wrap64 (x14_1 + 1)) then (if (wrap64 (x14_1 + 1)) ≤ (l0.length : Int) then ((slices_Clone_byte_byte.f (l0.drop ((wrap64 (x14_1 + 1)) : Int).toNat)).bind fun t131 => (some (Go.bits .or .i64 x5_1 (ji11), t131, true))) else (none)) else (none))) else (codec_Take.l0 k1 l0 (Go.bits .or .i64 x5_1 (ji11)) (l0.take ((ji2) : Int).toNat) ((l0.take ((ji2) : Int).toNat).length : Int) (wrap64 (x14_1 + 1)))) = some (r1, r2, r3) := by first | (rw [hji11] at H; exact H) | (simp only [hji11] at H ⊢; exact H)
                  have hji11_ : (IntKind.i64.wrap ((wrap64 (Go.bits .and .u8 (rd (l0.take ((ji2) : Int).toNat) x14_1) 127)) * 2 ^ min (ji9).toNat 64)) = ji11 := hji11
                  have hji11z : (ji9) ≤ 64 → (IntKind.i64.wrap ((wrap64 (Go.bits .and .u8 (rd (l0.take ((ji2) : Int).toNat) x14_1) 127)) * 2 ^ (ji9).toNat)) = ji11 := shl_small hji11
                  have hji11y : (wrap64 ((wrap64 (Go.bits .and .u8 (rd (l0.take ((ji2) : Int).toNat) x14_1) 127)) * 2 ^ min (ji9).toNat 64)) = ji11 := (i64_w _).symm.trans hji11_
                  have hji11x : (ji9) ≤ 64 → (wrap64 ((wrap64 (Go.bits .and .u8 (rd (l0.take ((ji2) : Int).toNat) x14_1) 127)) * 2 ^ (ji9).toNat)) = ji11 := fun h_ => (i64_w _).symm.trans (hji11z h_)
                  by_cases c12 : (Go.bits .and .u8 (rd (l0.take ((ji2) : Int).toNat) x14_1) 128) = 0
                  · rw [if_pos c12] at H
                    have c12b0 : ((Go.bits .and .u8 (rd (l0.take ((ji2) : Int).toNat) x14_1) 128) == 0) = true := beq_iff_eq.mpr c12
                    have c12b1 : ((Go.bits .and .u8 (rd (l0.take ((ji2) : Int).toNat) x14_1) 128) != 0) = false := bne_eq_false_iff_eq.mpr c12
                    clear c12
                    by_cases c13 : x14_1 > 0
                    · rw [if_pos c13] at H
                      have c13b0 : decide (0 < x14_1) = true := decide_eq_true c13
                      clear c13
                      by_cases c14 : (rd (l0.take ((ji2) : Int).toNat) x14_1) = 0
                      · rw [if_pos c14] at H
                        have c14b0 : ((rd (l0.take ((ji2) : Int).toNat) x14_1) == 0) = true := beq_iff_eq.mpr c14
                        have c14b1 : ((rd (l0.take ((ji2) : Int).toNat) x14_1) != 0) = false := bne_eq_false_iff_eq.mpr c14
                        clear c14
                        simp only [Option.some.injEq, Prod.mk.injEq] at H
                        obtain ⟨rfl, rfl, rfl⟩ := H
                        have p125 : 0 ≤ (x14_1 : Int) := of_decide_eq_true (by first | (with_reducible assumption) | assumption)
                        have q125 : x14_1 < ((l0.take ((ji2) : Int).toNat).length : Int) := of_decide_eq_true (by first | (with_reducible assumption) | assumption)
                        obtain ⟨ad125, e125, hx125_0⟩ := Kd.at_int HR124.out x14_1 p125 q125
                        cases e125
                        replace hx125_0 := (HB.out.cell (World.block_lt_of_cell? w _ hx125_0)).trans hx125_0
                        replace p125 := eq_true p125
                        replace q125 := eq_true q125
                        go_wp2
                        go_ret3
                        exact ⟨_, by first | rfl | (simp [errW_none, errW_some] <;> rfl) | (simp only [← hji2, ← hji9, ← hji11]; first | rfl | (simp [errW_none, errW_some] <;> rfl)) | (simp [*, errW_none, errW_some] <;> rfl), by first | exact Kd.R_nil _ _ _ _ _ | exact Kd.N_nil _ _ _ _ _ | exact Kd.V_nil _ _ _ _ _ | exact Kd.Q_nil _ _ _ _ _ | exact Kd.S_nil _ _ _ _ _, by repeat (first | (with_reducible first | exact HB.out | apply below_alloc | apply pw_below_drewN | apply below_drew1) | exact HB.out)⟩
                      · rw [if_neg c14] at H
                        have c14b0 : ((rd (l0.take ((ji2) : Int).toNat) x14_1) == 0) = false := beq_eq_false_iff_ne.mpr c14
                        have c14b1 : ((rd (l0.take ((ji2) : Int).toNat) x14_1) != 0) = true := bne_iff_ne.mpr c14
                        obtain ⟨ji15, hji15⟩ : ∃ j_ : Int, (wrap64 (x14_1 + 1)) = j_ := ⟨_, rfl⟩
                        replace H : (if 0 ≤ (ji15) then (if (ji15) ≤ (l0.length : Int) then ((slices_Clone_byte_byte.f (l0.drop ((ji15) : Int).toNat)).bind fun t127 => (some (Go.bits .or .i64 x5_1 (ji11), t127, true))) else (none)) else (none)) = some (r1, r2, r3) := by first | (rw [hji15] at H; exact H) | (simp only [hji15] at H ⊢; exact H)
                        have hji15w : (IntKind.i64.wrap (x14_1 + 1)) = ji15 := (i64_w _).trans hji15
                        by_cases c16 : 0 ≤ (ji15)
                        · rw [if_pos c16] at H
                          have c16b0 := eq_true c16
                          have c16b1 : decide (0 ≤ (ji15)) = true := decide_eq_true c16
                          clear c16
                          by_cases c17 : (ji15) ≤ (l0.length : Int)
                          · rw [if_pos c17] at H
                            have c17b0 := eq_true c17
                            have c17b1 : decide ((ji15) ≤ (l0.length : Int)) = true := decide_eq_true c17
                            clear c17
                            replace H := Option.bind_eq_some_iff.mp H
                            obtain ⟨t127, A180, H⟩ := H
                            replace H : (some (Go.bits .or .i64 x5_1 (ji11), t127, true)) = some (r1, r2, r3) := H
                            have A18 := Aside0.mk A180
                            clear A180
                            simp only [Option.some.injEq, Prod.mk.injEq] at H
                            obtain ⟨rfl, rfl, rfl⟩ := H
                            have p125 : 0 ≤ (x14_1 : Int) := of_decide_eq_true (by first | (with_reducible assumption) | assumption)
                            have q125 : x14_1 < ((l0.take ((ji2) : Int).toNat).length : Int) := of_decide_eq_true (by first | (with_reducible assumption) | assumption)
                            obtain ⟨ad125, e125, hx125_0⟩ := Kd.at_int HR124.out x14_1 p125 q125
                            cases e125
                            replace hx125_0 := (HB.out.cell (World.block_lt_of_cell? w _ hx125_0)).trans hx125_0
                            replace p125 := eq_true p125
                            replace q125 := eq_true q125
                            obtain ⟨i019, hi019, _, hsz19, _⟩ := info_parts info5
                            obtain ⟨A19, hcut19, hA19, hC19⟩ := print_drop_of (P := Try.prog) (Value.int .u8) 0 22 5 .i64 Try.underlying22 hi019 hsz19 (some ad125) c0 l0 (ji15) (of_decide_eq_true (by first | (with_reducible assumption) | assumption)) (of_decide_eq_true (by first | (with_reducible assumption) | assumption)) HC0.out
                            have HR126 := Aside0.mk (Kd.C_of_reads (h1 := fun _ => rfl) (hA19 _ (Kd.reads_of_C HR0.out)))
                            have HC126 := Aside0.mk hC19
                            clear hA19 hC19 hi019 hsz19
                            go_wp2_with (first | ((with_reducible refine gate_callee (f := 27) rfl ?_); refine goesL_ (some 41) rfl rfl Try.func27 (by kernel_rfl) rfl #[.slice A19 (l0.drop ((ji15) : Int).toNat).length (c0 - (ji15).toNat)] rfl (by (try simp only [List.map_toArray, List.map_cons, List.map_nil]); first | done | (rw [show (l0.drop ((ji15) : Int).toNat).length = (l0.length - (ji15).toNat) from List.length_drop] <;> rfl) | (simp only [hji15]; rfl) | rfl | (simp only [List.length_drop, List.length_take]; rfl)) ?_; (with_reducible refine (slices_Clone_byte_byte.calls _ _ (l0.drop ((ji15) : Int).toNat) t127 _ ?side1 ?side2 A18.out).mono ?_); (case side1 => repeat (first | exact (Kd.C_below HR126.out HB.out) | (with_reducible refine Kd.C_alloc ?_ _) | (with_reducible refine Kd.C_drewN ?_ _) | (with_reducible refine Kd.C_drew ?_))); (case side2 => exact HC126.out); rintro e w20 ⟨v128, rfl, ho0, hb⟩; refine ⟨_, rfl, ?_⟩; have n0_ := Aside0.mk (Kd.R_lower ho0 (below_size (by repeat (first | (with_reducible first | exact HB.out | apply below_alloc | apply pw_below_drewN | apply below_drew1) | exact HB.out)))); have n1_ := Aside0.mk (below_step (by repeat (first | (with_reducible first | exact HB.out | apply below_alloc | apply pw_below_drewN | apply below_drew1) | exact HB.out)) hb); clear HB; have HO129 := n0_; have HB := n1_; clear n0_ n1_; (try clear hb); (try clear hb2); (try clear hk); (try clear hi); (try clear ho0)))
                            go_ret3
                            exact ⟨_, by first | rfl | (simp [errW_none, errW_some] <;> rfl) | (simp only [← hji2, ← hji9, ← hji11, ← hji15]; first | rfl | (simp [errW_none, errW_some] <;> rfl)) | (simp [*, errW_none, errW_some] <;> rfl), by (with_reducible repeat (first | apply Kd.R_alloc | apply Kd.R_drewN | apply Kd.R_drew)); exact HO129.out, by repeat (first | (with_reducible first | exact HB.out | apply below_alloc | apply pw_below_drewN | apply below_drew1) | exact HB.out)⟩
                          · rw [if_neg c17] at H
                            exact absurd H (by simp)
                        · rw [if_neg c16] at H
                          exact absurd H (by simp)
                    · rw [if_neg c13] at H
                      have c13b0 : decide (0 < x14_1) = false := decide_eq_false c13
                      clear c13
                      obtain ⟨ji21, hji21⟩ : ∃ j_ : Int, (wrap64 (x14_1 + 1)) = j_ := ⟨_, rfl⟩
                      replace H : (if 0 ≤ (ji21) then (if (ji21) ≤ (l0.length : Int) then ((slices_Clone_byte_byte.f (l0.drop ((ji21) : Int).toNat)).bind fun t131 => (some (Go.bits .or .i64 x5_1 (ji11), t131, true))) else (none)) else (none)) = some (r1, r2, r3) := by first | (rw [hji21] at H; exact H) | (simp only [hji21] at H ⊢; exact H)
                      have hji21w : (IntKind.i64.wrap (x14_1 + 1)) = ji21 := (i64_w _).trans hji21
                      by_cases c22 : 0 ≤ (ji21)
                      · rw [if_pos c22] at H
                        have c22b0 := eq_true c22
                        have c22b1 : decide (0 ≤ (ji21)) = true := decide_eq_true c22
                        clear c22
                        by_cases c23 : (ji21) ≤ (l0.length : Int)
                        · rw [if_pos c23] at H
                          have c23b0 := eq_true c23
                          have c23b1 : decide ((ji21) ≤ (l0.length : Int)) = true := decide_eq_true c23
                          clear c23
                          replace H := Option.bind_eq_some_iff.mp H
                          obtain ⟨t131, A240, H⟩ := H
                          replace H : (some (Go.bits .or .i64 x5_1 (ji11), t131, true)) = some (r1, r2, r3) := H
                          have A24 := Aside0.mk A240
                          clear A240
                          simp only [Option.some.injEq, Prod.mk.injEq] at H
                          obtain ⟨rfl, rfl, rfl⟩ := H
                          have p125 : 0 ≤ (x14_1 : Int) := of_decide_eq_true (by first | (with_reducible assumption) | assumption)
                          have q125 : x14_1 < ((l0.take ((ji2) : Int).toNat).length : Int) := of_decide_eq_true (by first | (with_reducible assumption) | assumption)
                          obtain ⟨ad125, e125, hx125_0⟩ := Kd.at_int HR124.out x14_1 p125 q125
                          cases e125
                          replace hx125_0 := (HB.out.cell (World.block_lt_of_cell? w _ hx125_0)).trans hx125_0
                          replace p125 := eq_true p125
                          replace q125 := eq_true q125
                          obtain ⟨i025, hi025, _, hsz25, _⟩ := info_parts info5
                          obtain ⟨A25, hcut25, hA25, hC25⟩ := print_drop_of (P := Try.prog) (Value.int .u8) 0 22 5 .i64 Try.underlying22 hi025 hsz25 (some ad125) c0 l0 (ji21) (of_decide_eq_true (by first | (with_reducible assumption) | assumption)) (of_decide_eq_true (by first | (with_reducible assumption) | assumption)) HC0.out
                          have HR130 := Aside0.mk (Kd.C_of_reads (h1 := fun _ => rfl) (hA25 _ (Kd.reads_of_C HR0.out)))
                          have HC130 := Aside0.mk hC25
                          clear hA25 hC25 hi025 hsz25
                          go_wp2_with (first | ((with_reducible refine gate_callee (f := 27) rfl ?_); refine goesL_ (some 41) rfl rfl Try.func27 (by kernel_rfl) rfl #[.slice A25 (l0.drop ((ji21) : Int).toNat).length (c0 - (ji21).toNat)] rfl (by (try simp only [List.map_toArray, List.map_cons, List.map_nil]); first | done | (rw [show (l0.drop ((ji21) : Int).toNat).length = (l0.length - (ji21).toNat) from List.length_drop] <;> rfl) | (simp only [hji21]; rfl) | rfl | (simp only [List.length_drop, List.length_take]; rfl)) ?_; (with_reducible refine (slices_Clone_byte_byte.calls _ _ (l0.drop ((ji21) : Int).toNat) t131 _ ?side1 ?side2 A24.out).mono ?_); (case side1 => repeat (first | exact (Kd.C_below HR130.out HB.out) | (with_reducible refine Kd.C_alloc ?_ _) | (with_reducible refine Kd.C_drewN ?_ _) | (with_reducible refine Kd.C_drew ?_))); (case side2 => exact HC130.out); rintro e w26 ⟨v132, rfl, ho0, hb⟩; refine ⟨_, rfl, ?_⟩; have n0_ := Aside0.mk (Kd.R_lower ho0 (below_size (by repeat (first | (with_reducible first | exact HB.out | apply below_alloc | apply pw_below_drewN | apply below_drew1) | exact HB.out)))); have n1_ := Aside0.mk (below_step (by repeat (first | (with_reducible first | exact HB.out | apply below_alloc | apply pw_below_drewN | apply below_drew1) | exact HB.out)) hb); clear HB; have HO133 := n0_; have HB := n1_; clear n0_ n1_; (try clear hb); (try clear hb2); (try clear hk); (try clear hi); (try clear ho0)))
                          go_ret3
                          exact ⟨_, by first | rfl | (simp [errW_none, errW_some] <;> rfl) | (simp only [← hji2, ← hji9, ← hji11, ← hji21]; first | rfl | (simp [errW_none, errW_some] <;> rfl)) | (simp [*, errW_none, errW_some] <;> rfl), by (with_reducible repeat (first | apply Kd.R_alloc | apply Kd.R_drewN | apply Kd.R_drew)); exact HO133.out, by repeat (first | (with_reducible first | exact HB.out | apply below_alloc | apply pw_below_drewN | apply below_drew1) | exact HB.out)⟩
                        · rw [if_neg c23] at H
                          exact absurd H (by simp)
                      · rw [if_neg c22] at H
                        exact absurd H (by simp)
                  · rw [if_neg c12] at H
                    have c12b0 : ((Go.bits .and .u8 (rd (l0.take ((ji2) : Int).toNat) x14_1) 128) == 0) = false := beq_eq_false_iff_ne.mpr c12
                    have c12b1 : ((Go.bits .and .u8 (rd (l0.take ((ji2) : Int).toNat) x14_1) 128) != 0) = true := bne_iff_ne.mpr c12
                    have H' := Aside0.mk H
                    clear H
                    have p125 : 0 ≤ (x14_1 : Int) := of_decide_eq_true (by first | (with_reducible assumption) | assumption)
                    have q125 : x14_1 < ((l0.take ((ji2) : Int).toNat).length : Int) := of_decide_eq_true (by first | (with_reducible assumption) | assumption)
                    obtain ⟨ad125, e125, hx125_0⟩ := Kd.at_int HR124.out x14_1 p125 q125
                    cases e125
                    replace hx125_0 := (HB.out.cell (World.block_lt_of_cell? w _ hx125_0)).trans hx125_0
                    replace p125 := eq_true p125
                    replace q125 := eq_true q125
                    go_wp2
                    go_roundg k1
                    case measure => have := HK1.out; omega
                    case rel => exact ⟨(Go.bits .or .i64 x5_1 (ji11)), (wrap64 (x14_1 + 1)), (by first | rfl | (simp; done) | (simp only [← hji11] <;> (first | rfl | simp)) | (simp [*]; done)), (by first | rfl | (simp; done) | (simp [*]; done)), H', ⟨by have := HK1.out; omega⟩, ⟨by repeat (first | (with_reducible first | exact HB.out | apply below_alloc | apply pw_below_drewN | apply below_drew1) | exact HB.out)⟩⟩
                · rw [if_neg c10] at H
                  exact absurd H (by simp)
              · rw [if_neg c8] at H
                exact absurd H (by simp)
            · rw [if_neg c7] at H
              exact absurd H (by simp)
          · rw [if_neg c6] at H
            have c6b0 : decide (x14_1 < ((l0.take ((ji2) : Int).toNat).length : Int)) = false := decide_eq_false c6
            have c6bm : decide (x14_1 < max ji2 0) = false := by
              have e_ : (((l0.take ((ji2) : Int).toNat).length : Nat) : Int) = max ji2 0 := by
                rw [List.length_take]; have h_ := hji2; unfold mn at h_; split at h_ <;> omega
              rw [← e_]; exact c6b0
            clear c6
            simp only [Option.some.injEq, Prod.mk.injEq] at H
            obtain ⟨rfl, rfl, rfl⟩ := H
            go_wp2
            go_ret3
            exact ⟨_, by first | rfl | (simp [errW_none, errW_some] <;> rfl) | (simp only [← hji2]; first | rfl | (simp [errW_none, errW_some] <;> rfl)) | (simp [*, errW_none, errW_some] <;> rfl), by first | exact Kd.R_nil _ _ _ _ _ | exact Kd.N_nil _ _ _ _ _ | exact Kd.V_nil _ _ _ _ _ | exact Kd.Q_nil _ _ _ _ _ | exact Kd.S_nil _ _ _ _ _, by repeat (first | (with_reducible first | exact HB.out | apply below_alloc | apply pw_below_drewN | apply below_drew1) | exact HB.out)⟩
    · rw [if_neg c4] at H
      exact absurd H (by simp)
  · rw [if_neg c3] at H
    exact absurd H (by simp)

end Go.Proofs.Ytjfmnjhkpkcakaa.Q
