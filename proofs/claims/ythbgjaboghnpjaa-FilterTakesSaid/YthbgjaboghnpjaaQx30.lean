-- Written by a program of this session, out of Lean's print of the loaded program (a patched copy of the kit's print).
import Derived.Test.YthbgjaboghnpjaaQx0
import Derived.Test.YthbgjaboghnpjaaQx1
import Derived.Test.YthbgjaboghnpjaaQx22
import Derived.Test.YthbgjaboghnpjaaQx29
namespace Go.Proofs.Ythbgjaboghnpjaa.Q
open Go.RowKit Go.Proofs.YthbgjaboghnpjaaW.PrintWords Go.Proofs.YthbgjaboghnpjaaW.PrintLast Go.Proofs.YthbgjaboghnpjaaW.PrintMore
attribute [local go_sem] max2_int min2_int max_two min_two max_three min_three max_four min_four   -- for this text's walks alone
set_option linter.unusedVariables false
set_option linter.unusedSimpArgs false

attribute [local go_sem high] eqA27
/-! ### joistref03_Right: function 39 -/
mutual
def joistref03_Right.j0 : Nat → Bool → ByteArray → ByteArray → ByteArray → Int → Int → Int → Int → ByteArray → Option (Bool)
  | 0, _, _, _, _, _, _, _, _, _ => none
  | k + 1, x34, x138000, x138001, x138002, x138003, x138004, x138005, x138006, x138007 => if x34 = true then (some false) else (if x138004 = 1 then ((joistref02_Right.f k x138005 x138006 x138007).bind fun t139 => (some t139)) else (if x138004 = 2 then (joistref03_Right.j1 k x138004 (x138004 == 2) x138000 x138001 x138002 x138003 x138004 x138005 x138006 x138007) else (joistref03_Right.j1 k x138004 (x138004 == 3) x138000 x138001 x138002 x138003 x138004 x138005 x138006 x138007)))
def joistref03_Right.j1 : Nat → Int → Bool → ByteArray → ByteArray → ByteArray → Int → Int → Int → Int → ByteArray → Option (Bool)
  | 0, _, _, _, _, _, _, _, _, _, _ => none
  | k + 1, x36, x42, x138000, x138001, x138002, x138003, x138004, x138005, x138006, x138007 => if x42 = true then (some (x138005 == 0 && (x138006 == 0 && (x138007.toList == ([] : List UInt8))))) else (if x36 = 4 then (if (x138005 == 0 && (x138006 == 0 && (x138007.toList == ([] : List UInt8)))) = true then (some (x138002.toList == ([] : List UInt8))) else (some false)) else (some false))
end
def joistref03_Right.f (k : Nat) (a0_0 : ByteArray) (a0_1 : ByteArray) (a0_2 : ByteArray) (a0_3 : Int) (a0_4 : Int) (a0_5 : Int) (a0_6 : Int) (a0_7 : ByteArray) : Option (Bool) := if (a0_0.size : Int) < 1 then (joistref03_Right.j0 k true a0_0 a0_1 a0_2 a0_3 a0_4 a0_5 a0_6 a0_7) else (if (a0_0.size : Int) > 16 then (joistref03_Right.j0 k true a0_0 a0_1 a0_2 a0_3 a0_4 a0_5 a0_6 a0_7) else ((joistref03_Name.f k a0_1).bind fun t138 => (if t138 = true then (if (a0_2.size : Int) > 12 then (joistref03_Right.j0 k true a0_0 a0_1 a0_2 a0_3 a0_4 a0_5 a0_6 a0_7) else (if a0_3 < 0 then (joistref03_Right.j0 k true a0_0 a0_1 a0_2 a0_3 a0_4 a0_5 a0_6 a0_7) else (joistref03_Right.j0 k (decide (a0_3 > 1099511627776)) a0_0 a0_1 a0_2 a0_3 a0_4 a0_5 a0_6 a0_7))) else (joistref03_Right.j0 k true a0_0 a0_1 a0_2 a0_3 a0_4 a0_5 a0_6 a0_7))))
theorem joistref03_Right.mono_l : ∀ k, (∀ y0 y1 y2 y3 y4 y5 y6 y7 y8, LeO (joistref03_Right.j0 k y0 y1 y2 y3 y4 y5 y6 y7 y8) (joistref03_Right.j0 (k + 1) y0 y1 y2 y3 y4 y5 y6 y7 y8)) ∧ (∀ y0 y1 y2 y3 y4 y5 y6 y7 y8 y9, LeO (joistref03_Right.j1 k y0 y1 y2 y3 y4 y5 y6 y7 y8 y9) (joistref03_Right.j1 (k + 1) y0 y1 y2 y3 y4 y5 y6 y7 y8 y9))
  | 0 => ⟨fun _ _ _ _ _ _ _ _ _ r h => by simp [joistref03_Right.j0] at h, fun _ _ _ _ _ _ _ _ _ _ r h => by simp [joistref03_Right.j1] at h⟩
  | k + 1 => by
    obtain ⟨ih0, ih1⟩ := joistref03_Right.mono_l k
    refine ⟨?_, ?_⟩
    · intro y0 y1 y2 y3 y4 y5 y6 y7 y8
      unfold joistref03_Right.j0
      repeat' first
      | (with_reducible exact ih0 _ _ _ _ _ _ _ _ _)
      | (with_reducible exact ih1 _ _ _ _ _ _ _ _ _ _)
      | (with_reducible exact joistref02_Right.mono _ _ _ _)
      | (with_reducible exact joistref03_Name.mono _ _)
      | (with_reducible exact LeO.refl _)
      | (with_reducible exact LeO.none _)
      | (with_reducible refine LeO.ite ?_ ?_)
      | (with_reducible refine LeO.bind ?_ (fun _ => ?_))
      | exact ih0 _ _ _ _ _ _ _ _ _
      | exact ih1 _ _ _ _ _ _ _ _ _ _
      | exact joistref02_Right.mono _ _ _ _
      | exact joistref03_Name.mono _ _
      | exact LeO.none _
      | refine LeO.ite ?_ ?_
      | refine LeO.bind ?_ (fun _ => ?_)
    · intro y0 y1 y2 y3 y4 y5 y6 y7 y8 y9
      unfold joistref03_Right.j1
      repeat' first
      | (with_reducible exact ih0 _ _ _ _ _ _ _ _ _)
      | (with_reducible exact ih1 _ _ _ _ _ _ _ _ _ _)
      | (with_reducible exact joistref02_Right.mono _ _ _ _)
      | (with_reducible exact joistref03_Name.mono _ _)
      | (with_reducible exact LeO.refl _)
      | (with_reducible exact LeO.none _)
      | (with_reducible refine LeO.ite ?_ ?_)
      | (with_reducible refine LeO.bind ?_ (fun _ => ?_))
      | exact ih0 _ _ _ _ _ _ _ _ _
      | exact ih1 _ _ _ _ _ _ _ _ _ _
      | exact joistref02_Right.mono _ _ _ _
      | exact joistref03_Name.mono _ _
      | exact LeO.none _
      | refine LeO.ite ?_ ?_
      | refine LeO.bind ?_ (fun _ => ?_)
theorem joistref03_Right.mono : ∀ a0 a1 a2 a3 a4 a5 a6 a7 k, LeO (joistref03_Right.f k a0 a1 a2 a3 a4 a5 a6 a7) (joistref03_Right.f (k + 1) a0 a1 a2 a3 a4 a5 a6 a7) := by
  intro a0 a1 a2 a3 a4 a5 a6 a7 k
  obtain ⟨ih0, ih1⟩ := joistref03_Right.mono_l k
  unfold joistref03_Right.f
  repeat' first
      | (with_reducible exact ih0 _ _ _ _ _ _ _ _ _)
      | (with_reducible exact ih1 _ _ _ _ _ _ _ _ _ _)
      | (with_reducible exact joistref02_Right.mono _ _ _ _)
      | (with_reducible exact joistref03_Name.mono _ _)
      | (with_reducible exact LeO.refl _)
      | (with_reducible exact LeO.none _)
      | (with_reducible refine LeO.ite ?_ ?_)
      | (with_reducible refine LeO.bind ?_ (fun _ => ?_))
      | exact ih0 _ _ _ _ _ _ _ _ _
      | exact ih1 _ _ _ _ _ _ _ _ _ _
      | exact joistref02_Right.mono _ _ _ _
      | exact joistref03_Name.mono _ _
      | exact LeO.none _
      | refine LeO.ite ?_ ?_
      | refine LeO.bind ?_ (fun _ => ?_)
set_option maxHeartbeats 8000000 in
set_option maxRecDepth 100000 in
theorem joistref03_Right.calls (k : Nat) (a0_0 : ByteArray) (a0_1 : ByteArray) (a0_2 : ByteArray) (a0_3 : Int) (a0_4 : Int) (a0_5 : Int) (a0_6 : Int) (a0_7 : ByteArray) (r : Bool) (w : World) (h : joistref03_Right.f k a0_0 a0_1 a0_2 a0_3 a0_4 a0_5 a0_6 a0_7 = some r) :
    Calls Try.prog 39 #[.agg #[.string a0_0, .string a0_1, .string a0_2, .int .i64 a0_3, .int .i64 a0_4, .int .i64 a0_5, .int .i64 a0_6, .string a0_7]] w fun e w' => e = .returned (.bool r) ∧ Below w.heap.size w w' := by
  have hu29 := Try.underlying29
  have hu27 := Try.underlying27
  have HB := Aside0.mk (Below.refl w.heap.size w)
  have H : (if (a0_0.size : Int) < 1 then (joistref03_Right.j0 k true a0_0 a0_1 a0_2 a0_3 a0_4 a0_5 a0_6 a0_7) else (if (a0_0.size : Int) > 16 then (joistref03_Right.j0 k true a0_0 a0_1 a0_2 a0_3 a0_4 a0_5 a0_6 a0_7) else ((joistref03_Name.f k a0_1).bind fun t138 => (if t138 = true then (if (a0_2.size : Int) > 12 then (joistref03_Right.j0 k true a0_0 a0_1 a0_2 a0_3 a0_4 a0_5 a0_6 a0_7) else (if a0_3 < 0 then (joistref03_Right.j0 k true a0_0 a0_1 a0_2 a0_3 a0_4 a0_5 a0_6 a0_7) else (joistref03_Right.j0 k (decide (a0_3 > 1099511627776)) a0_0 a0_1 a0_2 a0_3 a0_4 a0_5 a0_6 a0_7))) else (joistref03_Right.j0 k true a0_0 a0_1 a0_2 a0_3 a0_4 a0_5 a0_6 a0_7))))) = some r := h
  clear h
  have HC2 := Aside0.mk H
  clear H
  go_enter Try.func39, Try.ntmps39
  go_upto_region 1 with (first | ((with_reducible refine gate_dst (N := 1) rfl ?_); (try (refine gate_guard (by rfl) ?_; dsimp only)); refine box_event ?hg (N := 1) ?hd (cs := #[.string a0_0, .string a0_1, .string a0_2, .int .i64 a0_3, .int .i64 a0_4, .int .i64 a0_5, .int .i64 a0_6, .string a0_7]) (t := 29) ?hr ?_; (case hd => rfl); (case hg => rfl); (case hr => first | (go_simp; done) | (go_simp; rfl)); intro gb137 hg w3 hbox hb; have n0_ := Aside0.mk (below_step (by repeat (first | (with_reducible first | exact HB.out | apply below_alloc | apply pw_below_drewN | apply below_drew1) | exact HB.out)) hb); have n1_ := Aside0.mk (hbox); have n2_ := Aside0.mk ((by rw [hg]; exact (below_size (by repeat (first | (with_reducible first | exact HB.out | apply below_alloc | apply pw_below_drewN | apply below_drew1) | exact HB.out))) : w.heap.size ≤ gb137)); have n3_ := Aside0.mk ((by rw [hg]; exact (below_size (by repeat (first | (with_reducible first | exact HB.out | apply below_alloc | apply pw_below_drewN | apply below_drew1) | exact HB.out))) : w.heap.size ≤ gb137)); clear HB; have HB := n0_; have BK137 := n1_; have GW137 := n2_; have GE137 := n3_; clear n0_ n1_ n2_ n3_; clear hb hbox hg))
  (try simp only [Act.put, List.setIfInBounds_toArray, List.set_cons_zero, List.set_cons_succ])
  go_cut [34] (fun v34 wc => ∃ (kq : Nat) (x34_1 : Bool), v34 = .bool x34_1 ∧ Aside0 (joistref03_Right.j0 kq x34_1 a0_0 a0_1 a0_2 a0_3 a0_4 a0_5 a0_6 a0_7 = some r) ∧ Aside0 (kq ≤ k) ∧ Aside0 (wc.heap[gb137]? = some (.cells #[.string a0_0, .string a0_1, .string a0_2, .int .i64 a0_3, .int .i64 a0_4, .int .i64 a0_5, .int .i64 a0_6, .string a0_7] 29 (0, 0))) ∧ Aside0 (Below w.heap.size w wc))
  case first =>
    have H := HC2.out
    clear HC2
    by_cases c4 : (a0_0.size : Int) < 1
    · rw [if_pos c4] at H
      have c4b0 : decide ((a0_0.size : Int) < 1) = true := decide_eq_true c4
      have c4b1 : decide (a0_0.size < 1) = true := decide_eq_true (by omega)
      clear c4
      (first | rw [c4b0] | (simp only [i64_w, i32_w]; rw [c4b0]) | skip)
      have H' := Aside0.mk H
      clear H
      have hcz5_0 : w3.cell? ⟨gb137, 0, none⟩ = some (.string a0_0) := (blk_cell BK137.out 0).trans rfl
      have hcz5_1 : w3.cell? ⟨gb137, 1, none⟩ = some (.string a0_1) := (blk_cell BK137.out 1).trans rfl
      have hcz5_2 : w3.cell? ⟨gb137, 2, none⟩ = some (.string a0_2) := (blk_cell BK137.out 2).trans rfl
      have hcz5_3 : w3.cell? ⟨gb137, 3, none⟩ = some (.int .i64 a0_3) := (blk_cell BK137.out 3).trans rfl
      have hcz5_4 : w3.cell? ⟨gb137, 4, none⟩ = some (.int .i64 a0_4) := (blk_cell BK137.out 4).trans rfl
      have hcz5_5 : w3.cell? ⟨gb137, 5, none⟩ = some (.int .i64 a0_5) := (blk_cell BK137.out 5).trans rfl
      have hcz5_6 : w3.cell? ⟨gb137, 6, none⟩ = some (.int .i64 a0_6) := (blk_cell BK137.out 6).trans rfl
      have hcz5_7 : w3.cell? ⟨gb137, 7, none⟩ = some (.string a0_7) := (blk_cell BK137.out 7).trans rfl
      have hfz5_0 := blk_frozen BK137.out 0
      have hfz5_1 := blk_frozen BK137.out 1
      have hfz5_2 := blk_frozen BK137.out 2
      have hfz5_3 := blk_frozen BK137.out 3
      have hfz5_4 := blk_frozen BK137.out 4
      have hfz5_5 := blk_frozen BK137.out 5
      have hfz5_6 := blk_frozen BK137.out 6
      have hfz5_7 := blk_frozen BK137.out 7
      go_wp2
      go_meet
      case rel => exact ⟨_, (true), (by first | rfl | (simp; done) | (simp [*]; done)), H', ⟨by first | omega | exact Nat.le_refl _⟩, ⟨by (with_reducible repeat (first | refine blk_drewN ?_ _ | refine blk_drew ?_ | refine blk_alloc ?_ _)); exact BK137.out⟩, ⟨by repeat (first | (with_reducible first | exact HB.out | apply below_alloc | apply pw_below_drewN | apply below_drew1 | refine below_set ?_ GE137.out) | exact HB.out)⟩⟩
    · rw [if_neg c4] at H
      have c4b0 : decide ((a0_0.size : Int) < 1) = false := decide_eq_false c4
      have c4b1 : decide (a0_0.size < 1) = false := decide_eq_false (by omega)
      clear c4
      (first | rw [c4b0] | (simp only [i64_w, i32_w]; rw [c4b0]) | skip)
      by_cases c6 : (a0_0.size : Int) > 16
      · rw [if_pos c6] at H
        have c6b0 : decide (16 < (a0_0.size : Int)) = true := decide_eq_true c6
        have c6b1 : decide (16 < a0_0.size) = true := decide_eq_true (by omega)
        clear c6
        have H' := Aside0.mk H
        clear H
        have hcz7_0 : w3.cell? ⟨gb137, 0, none⟩ = some (.string a0_0) := (blk_cell BK137.out 0).trans rfl
        have hcz7_1 : w3.cell? ⟨gb137, 1, none⟩ = some (.string a0_1) := (blk_cell BK137.out 1).trans rfl
        have hcz7_2 : w3.cell? ⟨gb137, 2, none⟩ = some (.string a0_2) := (blk_cell BK137.out 2).trans rfl
        have hcz7_3 : w3.cell? ⟨gb137, 3, none⟩ = some (.int .i64 a0_3) := (blk_cell BK137.out 3).trans rfl
        have hcz7_4 : w3.cell? ⟨gb137, 4, none⟩ = some (.int .i64 a0_4) := (blk_cell BK137.out 4).trans rfl
        have hcz7_5 : w3.cell? ⟨gb137, 5, none⟩ = some (.int .i64 a0_5) := (blk_cell BK137.out 5).trans rfl
        have hcz7_6 : w3.cell? ⟨gb137, 6, none⟩ = some (.int .i64 a0_6) := (blk_cell BK137.out 6).trans rfl
        have hcz7_7 : w3.cell? ⟨gb137, 7, none⟩ = some (.string a0_7) := (blk_cell BK137.out 7).trans rfl
        have hfz7_0 := blk_frozen BK137.out 0
        have hfz7_1 := blk_frozen BK137.out 1
        have hfz7_2 := blk_frozen BK137.out 2
        have hfz7_3 := blk_frozen BK137.out 3
        have hfz7_4 := blk_frozen BK137.out 4
        have hfz7_5 := blk_frozen BK137.out 5
        have hfz7_6 := blk_frozen BK137.out 6
        have hfz7_7 := blk_frozen BK137.out 7
        go_wp2
        go_meet
        case rel => exact ⟨_, (true), (by first | rfl | (simp; done) | (simp [*]; done)), H', ⟨by first | omega | exact Nat.le_refl _⟩, ⟨by (with_reducible repeat (first | refine blk_drewN ?_ _ | refine blk_drew ?_ | refine blk_alloc ?_ _)); exact BK137.out⟩, ⟨by repeat (first | (with_reducible first | exact HB.out | apply below_alloc | apply pw_below_drewN | apply below_drew1 | refine below_set ?_ GE137.out) | exact HB.out)⟩⟩
      · rw [if_neg c6] at H
        have c6b0 : decide (16 < (a0_0.size : Int)) = false := decide_eq_false c6
        have c6b1 : decide (16 < a0_0.size) = false := decide_eq_false (by omega)
        clear c6
        replace H := Option.bind_eq_some_iff.mp H
        obtain ⟨t138, A80, H⟩ := H
        replace H : (if t138 = true then (if (a0_2.size : Int) > 12 then (joistref03_Right.j0 k true a0_0 a0_1 a0_2 a0_3 a0_4 a0_5 a0_6 a0_7) else (if a0_3 < 0 then (joistref03_Right.j0 k true a0_0 a0_1 a0_2 a0_3 a0_4 a0_5 a0_6 a0_7) else (joistref03_Right.j0 k (decide (a0_3 > 1099511627776)) a0_0 a0_1 a0_2 a0_3 a0_4 a0_5 a0_6 a0_7))) else (joistref03_Right.j0 k true a0_0 a0_1 a0_2 a0_3 a0_4 a0_5 a0_6 a0_7)) = some r := H
        have A8 := Aside0.mk A80
        clear A80
        by_cases c9 : t138 = true
        · subst c9
          have H1 : (if (a0_2.size : Int) > 12 then (joistref03_Right.j0 k true a0_0 a0_1 a0_2 a0_3 a0_4 a0_5 a0_6 a0_7) else (if a0_3 < 0 then (joistref03_Right.j0 k true a0_0 a0_1 a0_2 a0_3 a0_4 a0_5 a0_6 a0_7) else (joistref03_Right.j0 k (decide (a0_3 > 1099511627776)) a0_0 a0_1 a0_2 a0_3 a0_4 a0_5 a0_6 a0_7))) = some r := by rw [if_pos rfl] at H; exact H
          clear H
          have H := H1
          clear H1
          by_cases c10 : (a0_2.size : Int) > 12
          · rw [if_pos c10] at H
            have c10b0 : decide (12 < (a0_2.size : Int)) = true := decide_eq_true c10
            have c10b1 : decide (12 < a0_2.size) = true := decide_eq_true (by omega)
            clear c10
            have H' := Aside0.mk H
            clear H
            have hcz11_0 : w3.cell? ⟨gb137, 0, none⟩ = some (.string a0_0) := (blk_cell BK137.out 0).trans rfl
            have hcz11_1 : w3.cell? ⟨gb137, 1, none⟩ = some (.string a0_1) := (blk_cell BK137.out 1).trans rfl
            have hcz11_2 : w3.cell? ⟨gb137, 2, none⟩ = some (.string a0_2) := (blk_cell BK137.out 2).trans rfl
            have hcz11_3 : w3.cell? ⟨gb137, 3, none⟩ = some (.int .i64 a0_3) := (blk_cell BK137.out 3).trans rfl
            have hcz11_4 : w3.cell? ⟨gb137, 4, none⟩ = some (.int .i64 a0_4) := (blk_cell BK137.out 4).trans rfl
            have hcz11_5 : w3.cell? ⟨gb137, 5, none⟩ = some (.int .i64 a0_5) := (blk_cell BK137.out 5).trans rfl
            have hcz11_6 : w3.cell? ⟨gb137, 6, none⟩ = some (.int .i64 a0_6) := (blk_cell BK137.out 6).trans rfl
            have hcz11_7 : w3.cell? ⟨gb137, 7, none⟩ = some (.string a0_7) := (blk_cell BK137.out 7).trans rfl
            have hfz11_0 := blk_frozen BK137.out 0
            have hfz11_1 := blk_frozen BK137.out 1
            have hfz11_2 := blk_frozen BK137.out 2
            have hfz11_3 := blk_frozen BK137.out 3
            have hfz11_4 := blk_frozen BK137.out 4
            have hfz11_5 := blk_frozen BK137.out 5
            have hfz11_6 := blk_frozen BK137.out 6
            have hfz11_7 := blk_frozen BK137.out 7
            go_wp2_with (first | (go_at_call 34; (with_reducible refine (joistref03_Name.calls k a0_1 true _ A8.out).mono ?_); rintro e w' ⟨rfl, ⟨nd, rfl⟩⟩))
            go_meet
            case rel => exact ⟨_, (true), (by first | rfl | (simp; done) | (simp [*]; done)), H', ⟨by first | omega | exact Nat.le_refl _⟩, ⟨by (with_reducible repeat (first | refine blk_drewN ?_ _ | refine blk_drew ?_ | refine blk_alloc ?_ _)); exact BK137.out⟩, ⟨by repeat (first | (with_reducible first | exact HB.out | apply below_alloc | apply pw_below_drewN | apply below_drew1 | refine below_set ?_ GE137.out) | exact HB.out)⟩⟩
          · rw [if_neg c10] at H
            have c10b0 : decide (12 < (a0_2.size : Int)) = false := decide_eq_false c10
            have c10b1 : decide (12 < a0_2.size) = false := decide_eq_false (by omega)
            clear c10
            by_cases c12 : a0_3 < 0
            · rw [if_pos c12] at H
              have c12b0 : decide (a0_3 < 0) = true := decide_eq_true c12
              clear c12
              have H' := Aside0.mk H
              clear H
              have hcz13_0 : w3.cell? ⟨gb137, 0, none⟩ = some (.string a0_0) := (blk_cell BK137.out 0).trans rfl
              have hcz13_1 : w3.cell? ⟨gb137, 1, none⟩ = some (.string a0_1) := (blk_cell BK137.out 1).trans rfl
              have hcz13_2 : w3.cell? ⟨gb137, 2, none⟩ = some (.string a0_2) := (blk_cell BK137.out 2).trans rfl
              have hcz13_3 : w3.cell? ⟨gb137, 3, none⟩ = some (.int .i64 a0_3) := (blk_cell BK137.out 3).trans rfl
              have hcz13_4 : w3.cell? ⟨gb137, 4, none⟩ = some (.int .i64 a0_4) := (blk_cell BK137.out 4).trans rfl
              have hcz13_5 : w3.cell? ⟨gb137, 5, none⟩ = some (.int .i64 a0_5) := (blk_cell BK137.out 5).trans rfl
              have hcz13_6 : w3.cell? ⟨gb137, 6, none⟩ = some (.int .i64 a0_6) := (blk_cell BK137.out 6).trans rfl
              have hcz13_7 : w3.cell? ⟨gb137, 7, none⟩ = some (.string a0_7) := (blk_cell BK137.out 7).trans rfl
              have hfz13_0 := blk_frozen BK137.out 0
              have hfz13_1 := blk_frozen BK137.out 1
              have hfz13_2 := blk_frozen BK137.out 2
              have hfz13_3 := blk_frozen BK137.out 3
              have hfz13_4 := blk_frozen BK137.out 4
              have hfz13_5 := blk_frozen BK137.out 5
              have hfz13_6 := blk_frozen BK137.out 6
              have hfz13_7 := blk_frozen BK137.out 7
              go_wp2_with (first | (go_at_call 34; (with_reducible refine (joistref03_Name.calls k a0_1 true _ A8.out).mono ?_); rintro e w' ⟨rfl, ⟨nd, rfl⟩⟩))
              go_meet
              case rel => exact ⟨_, (true), (by first | rfl | (simp; done) | (simp [*]; done)), H', ⟨by first | omega | exact Nat.le_refl _⟩, ⟨by (with_reducible repeat (first | refine blk_drewN ?_ _ | refine blk_drew ?_ | refine blk_alloc ?_ _)); exact BK137.out⟩, ⟨by repeat (first | (with_reducible first | exact HB.out | apply below_alloc | apply pw_below_drewN | apply below_drew1 | refine below_set ?_ GE137.out) | exact HB.out)⟩⟩
            · rw [if_neg c12] at H
              have c12b0 : decide (a0_3 < 0) = false := decide_eq_false c12
              clear c12
              have H' := Aside0.mk H
              clear H
              have hcz14_0 : w3.cell? ⟨gb137, 0, none⟩ = some (.string a0_0) := (blk_cell BK137.out 0).trans rfl
              have hcz14_1 : w3.cell? ⟨gb137, 1, none⟩ = some (.string a0_1) := (blk_cell BK137.out 1).trans rfl
              have hcz14_2 : w3.cell? ⟨gb137, 2, none⟩ = some (.string a0_2) := (blk_cell BK137.out 2).trans rfl
              have hcz14_3 : w3.cell? ⟨gb137, 3, none⟩ = some (.int .i64 a0_3) := (blk_cell BK137.out 3).trans rfl
              have hcz14_4 : w3.cell? ⟨gb137, 4, none⟩ = some (.int .i64 a0_4) := (blk_cell BK137.out 4).trans rfl
              have hcz14_5 : w3.cell? ⟨gb137, 5, none⟩ = some (.int .i64 a0_5) := (blk_cell BK137.out 5).trans rfl
              have hcz14_6 : w3.cell? ⟨gb137, 6, none⟩ = some (.int .i64 a0_6) := (blk_cell BK137.out 6).trans rfl
              have hcz14_7 : w3.cell? ⟨gb137, 7, none⟩ = some (.string a0_7) := (blk_cell BK137.out 7).trans rfl
              have hfz14_0 := blk_frozen BK137.out 0
              have hfz14_1 := blk_frozen BK137.out 1
              have hfz14_2 := blk_frozen BK137.out 2
              have hfz14_3 := blk_frozen BK137.out 3
              have hfz14_4 := blk_frozen BK137.out 4
              have hfz14_5 := blk_frozen BK137.out 5
              have hfz14_6 := blk_frozen BK137.out 6
              have hfz14_7 := blk_frozen BK137.out 7
              go_wp2_with (first | (go_at_call 34; (with_reducible refine (joistref03_Name.calls k a0_1 true _ A8.out).mono ?_); rintro e w' ⟨rfl, ⟨nd, rfl⟩⟩))
              go_meet
              case rel => exact ⟨_, (decide (a0_3 > 1099511627776)), (by first | rfl | (simp; done) | (simp [*]; done)), H', ⟨by first | omega | exact Nat.le_refl _⟩, ⟨by (with_reducible repeat (first | refine blk_drewN ?_ _ | refine blk_drew ?_ | refine blk_alloc ?_ _)); exact BK137.out⟩, ⟨by repeat (first | (with_reducible first | exact HB.out | apply below_alloc | apply pw_below_drewN | apply below_drew1 | refine below_set ?_ GE137.out) | exact HB.out)⟩⟩
        · replace c9 := Bool.eq_false_iff.mpr c9
          subst c9
          have H1 : (joistref03_Right.j0 k true a0_0 a0_1 a0_2 a0_3 a0_4 a0_5 a0_6 a0_7) = some r := by rw [if_neg (show ¬ (false = true) by decide)] at H; exact H
          clear H
          have H := H1
          clear H1
          have H' := Aside0.mk H
          clear H
          have hcz15_0 : w3.cell? ⟨gb137, 0, none⟩ = some (.string a0_0) := (blk_cell BK137.out 0).trans rfl
          have hcz15_1 : w3.cell? ⟨gb137, 1, none⟩ = some (.string a0_1) := (blk_cell BK137.out 1).trans rfl
          have hcz15_2 : w3.cell? ⟨gb137, 2, none⟩ = some (.string a0_2) := (blk_cell BK137.out 2).trans rfl
          have hcz15_3 : w3.cell? ⟨gb137, 3, none⟩ = some (.int .i64 a0_3) := (blk_cell BK137.out 3).trans rfl
          have hcz15_4 : w3.cell? ⟨gb137, 4, none⟩ = some (.int .i64 a0_4) := (blk_cell BK137.out 4).trans rfl
          have hcz15_5 : w3.cell? ⟨gb137, 5, none⟩ = some (.int .i64 a0_5) := (blk_cell BK137.out 5).trans rfl
          have hcz15_6 : w3.cell? ⟨gb137, 6, none⟩ = some (.int .i64 a0_6) := (blk_cell BK137.out 6).trans rfl
          have hcz15_7 : w3.cell? ⟨gb137, 7, none⟩ = some (.string a0_7) := (blk_cell BK137.out 7).trans rfl
          have hfz15_0 := blk_frozen BK137.out 0
          have hfz15_1 := blk_frozen BK137.out 1
          have hfz15_2 := blk_frozen BK137.out 2
          have hfz15_3 := blk_frozen BK137.out 3
          have hfz15_4 := blk_frozen BK137.out 4
          have hfz15_5 := blk_frozen BK137.out 5
          have hfz15_6 := blk_frozen BK137.out 6
          have hfz15_7 := blk_frozen BK137.out 7
          go_wp2_with (first | (go_at_call 34; (with_reducible refine (joistref03_Name.calls k a0_1 false _ A8.out).mono ?_); rintro e w' ⟨rfl, ⟨nd, rfl⟩⟩))
          go_meet
          case rel => exact ⟨_, (true), (by first | rfl | (simp; done) | (simp [*]; done)), H', ⟨by first | omega | exact Nat.le_refl _⟩, ⟨by (with_reducible repeat (first | refine blk_drewN ?_ _ | refine blk_drew ?_ | refine blk_alloc ?_ _)); exact BK137.out⟩, ⟨by repeat (first | (with_reducible first | exact HB.out | apply below_alloc | apply pw_below_drewN | apply below_drew1 | refine below_set ?_ GE137.out) | exact HB.out)⟩⟩
  case rest =>
    clear HC2
    try clear c1
    try clear p2
    try clear c3
    try clear c4
    try clear c4b0
    try clear c4b1
    try clear c6
    try clear c6b0
    try clear c6b1
    try clear c9
    try clear c10
    try clear c10b0
    try clear c10b1
    try clear c12
    try clear c12b0
    try clear hcz11_0
    try clear hcz11_1
    try clear hcz11_2
    try clear hcz11_3
    try clear hcz11_4
    try clear hcz11_5
    try clear hcz11_6
    try clear hcz11_7
    try clear hcz13_0
    try clear hcz13_1
    try clear hcz13_2
    try clear hcz13_3
    try clear hcz13_4
    try clear hcz13_5
    try clear hcz13_6
    try clear hcz13_7
    try clear hcz14_0
    try clear hcz14_1
    try clear hcz14_2
    try clear hcz14_3
    try clear hcz14_4
    try clear hcz14_5
    try clear hcz14_6
    try clear hcz14_7
    try clear hcz15_0
    try clear hcz15_1
    try clear hcz15_2
    try clear hcz15_3
    try clear hcz15_4
    try clear hcz15_5
    try clear hcz15_6
    try clear hcz15_7
    try clear hcz5_0
    try clear hcz5_1
    try clear hcz5_2
    try clear hcz5_3
    try clear hcz5_4
    try clear hcz5_5
    try clear hcz5_6
    try clear hcz5_7
    try clear hcz7_0
    try clear hcz7_1
    try clear hcz7_2
    try clear hcz7_3
    try clear hcz7_4
    try clear hcz7_5
    try clear hcz7_6
    try clear hcz7_7
    try clear hfz11_0
    try clear hfz11_1
    try clear hfz11_2
    try clear hfz11_3
    try clear hfz11_4
    try clear hfz11_5
    try clear hfz11_6
    try clear hfz11_7
    try clear hfz13_0
    try clear hfz13_1
    try clear hfz13_2
    try clear hfz13_3
    try clear hfz13_4
    try clear hfz13_5
    try clear hfz13_6
    try clear hfz13_7
    try clear hfz14_0
    try clear hfz14_1
    try clear hfz14_2
    try clear hfz14_3
    try clear hfz14_4
    try clear hfz14_5
    try clear hfz14_6
    try clear hfz14_7
    try clear hfz15_0
    try clear hfz15_1
    try clear hfz15_2
    try clear hfz15_3
    try clear hfz15_4
    try clear hfz15_5
    try clear hfz15_6
    try clear hfz15_7
    try clear hfz5_0
    try clear hfz5_1
    try clear hfz5_2
    try clear hfz5_3
    try clear hfz5_4
    try clear hfz5_5
    try clear hfz5_6
    try clear hfz5_7
    try clear hfz7_0
    try clear hfz7_1
    try clear hfz7_2
    try clear hfz7_3
    try clear hfz7_4
    try clear hfz7_5
    try clear hfz7_6
    try clear hfz7_7
    obtain ⟨kq, x34_1, rfl, HA, HJ1, BK137, HB⟩ := hcut
    cases kq with
    | zero => exact absurd HA.out (by simp [joistref03_Right.j0])
    | succ kj1 =>
      have H := HA.out
      clear HA
      simp only [joistref03_Right.j0] at H
      by_cases c16 : x34_1 = true
      · subst c16
        have H1 : (some false) = some r := by rw [if_pos rfl] at H; exact H
        clear H
        have H := H1
        clear H1
        obtain rfl := Option.some.inj H
        go_wp2
        go_ret
        exact ⟨by first | rfl | (simp [errW_none, errW_some] <;> rfl) | (simp [*, errW_none, errW_some] <;> rfl), by repeat (first | (with_reducible first | exact HB.out | apply below_alloc | apply pw_below_drewN | apply below_drew1 | refine below_set ?_ GE137.out) | exact HB.out)⟩
      · replace c16 := Bool.eq_false_iff.mpr c16
        subst c16
        have H1 : (if a0_4 = 1 then ((joistref02_Right.f kj1 a0_5 a0_6 a0_7).bind fun t139 => (some t139)) else (if a0_4 = 2 then (joistref03_Right.j1 kj1 a0_4 (a0_4 == 2) a0_0 a0_1 a0_2 a0_3 a0_4 a0_5 a0_6 a0_7) else (joistref03_Right.j1 kj1 a0_4 (a0_4 == 3) a0_0 a0_1 a0_2 a0_3 a0_4 a0_5 a0_6 a0_7))) = some r := by rw [if_neg (show ¬ (false = true) by decide)] at H; exact H
        clear H
        have H := H1
        clear H1
        by_cases c17 : a0_4 = 1
        · rw [if_pos c17] at H
          have c17b0 : (a0_4 == 1) = true := beq_iff_eq.mpr c17
          have c17b1 : (a0_4 != 1) = false := bne_eq_false_iff_eq.mpr c17
          clear c17
          replace H := Option.bind_eq_some_iff.mp H
          obtain ⟨t139, A180, H⟩ := H
          replace H : (some t139) = some r := H
          have A18 := Aside0.mk A180
          clear A180
          obtain rfl := Option.some.inj H
          have hcz19_0 : wc.cell? ⟨gb137, 0, none⟩ = some (.string a0_0) := (blk_cell BK137.out 0).trans rfl
          have hcz19_1 : wc.cell? ⟨gb137, 1, none⟩ = some (.string a0_1) := (blk_cell BK137.out 1).trans rfl
          have hcz19_2 : wc.cell? ⟨gb137, 2, none⟩ = some (.string a0_2) := (blk_cell BK137.out 2).trans rfl
          have hcz19_3 : wc.cell? ⟨gb137, 3, none⟩ = some (.int .i64 a0_3) := (blk_cell BK137.out 3).trans rfl
          have hcz19_4 : wc.cell? ⟨gb137, 4, none⟩ = some (.int .i64 a0_4) := (blk_cell BK137.out 4).trans rfl
          have hcz19_5 : wc.cell? ⟨gb137, 5, none⟩ = some (.int .i64 a0_5) := (blk_cell BK137.out 5).trans rfl
          have hcz19_6 : wc.cell? ⟨gb137, 6, none⟩ = some (.int .i64 a0_6) := (blk_cell BK137.out 6).trans rfl
          have hcz19_7 : wc.cell? ⟨gb137, 7, none⟩ = some (.string a0_7) := (blk_cell BK137.out 7).trans rfl
          have hfz19_0 := blk_frozen BK137.out 0
          have hfz19_1 := blk_frozen BK137.out 1
          have hfz19_2 := blk_frozen BK137.out 2
          have hfz19_3 := blk_frozen BK137.out 3
          have hfz19_4 := blk_frozen BK137.out 4
          have hfz19_5 := blk_frozen BK137.out 5
          have hfz19_6 := blk_frozen BK137.out 6
          have hfz19_7 := blk_frozen BK137.out 7
          go_wp2_with (first | ((with_reducible refine gate_callee (f := 45) rfl ?_); refine goesL_ (some 41) rfl rfl Try.func45 (by kernel_rfl) rfl #[.agg #[.int .i64 a0_5, .int .i64 a0_6, .string a0_7]] rfl (by (try simp only [List.map_toArray, List.map_cons, List.map_nil]); first | done | rfl | (simp only [List.length_drop, List.length_take]; rfl)) ?_; (with_reducible refine (joistref02_Right.calls kj1 a0_5 a0_6 a0_7 t139 _ A18.out).mono ?_); rintro e w20 ⟨rfl, hb⟩; refine ⟨_, rfl, ?_⟩; have n0_ := Aside0.mk (blk_below (g := gb137) (o := .cells #[.string a0_0, .string a0_1, .string a0_2, .int .i64 a0_3, .int .i64 a0_4, .int .i64 a0_5, .int .i64 a0_6, .string a0_7] 29 (0, 0)) (by (with_reducible repeat (first | refine blk_drewN ?_ _ | refine blk_drew ?_ | refine blk_alloc ?_ _)); exact BK137.out) hb); have n1_ := Aside0.mk (below_step (by repeat (first | (with_reducible first | exact HB.out | apply below_alloc | apply pw_below_drewN | apply below_drew1 | refine below_set ?_ GE137.out) | exact HB.out)) hb); clear BK137; clear HB; have BK137 := n0_; have HB := n1_; clear n0_ n1_; (try clear hb); (try clear hb2); (try clear hk); (try clear hi)))
          go_ret
          exact ⟨by first | rfl | (simp [errW_none, errW_some] <;> rfl) | (simp [*, errW_none, errW_some] <;> rfl), by repeat (first | (with_reducible first | exact HB.out | apply below_alloc | apply pw_below_drewN | apply below_drew1 | refine below_set ?_ GE137.out) | exact HB.out)⟩
        · rw [if_neg c17] at H
          have c17b0 : (a0_4 == 1) = false := beq_eq_false_iff_ne.mpr c17
          have c17b1 : (a0_4 != 1) = true := bne_iff_ne.mpr c17
          have HC21 := Aside0.mk H
          clear H
          have hcz22_0 : wc.cell? ⟨gb137, 0, none⟩ = some (.string a0_0) := (blk_cell BK137.out 0).trans rfl
          have hcz22_1 : wc.cell? ⟨gb137, 1, none⟩ = some (.string a0_1) := (blk_cell BK137.out 1).trans rfl
          have hcz22_2 : wc.cell? ⟨gb137, 2, none⟩ = some (.string a0_2) := (blk_cell BK137.out 2).trans rfl
          have hcz22_3 : wc.cell? ⟨gb137, 3, none⟩ = some (.int .i64 a0_3) := (blk_cell BK137.out 3).trans rfl
          have hcz22_4 : wc.cell? ⟨gb137, 4, none⟩ = some (.int .i64 a0_4) := (blk_cell BK137.out 4).trans rfl
          have hcz22_5 : wc.cell? ⟨gb137, 5, none⟩ = some (.int .i64 a0_5) := (blk_cell BK137.out 5).trans rfl
          have hcz22_6 : wc.cell? ⟨gb137, 6, none⟩ = some (.int .i64 a0_6) := (blk_cell BK137.out 6).trans rfl
          have hcz22_7 : wc.cell? ⟨gb137, 7, none⟩ = some (.string a0_7) := (blk_cell BK137.out 7).trans rfl
          have hfz22_0 := blk_frozen BK137.out 0
          have hfz22_1 := blk_frozen BK137.out 1
          have hfz22_2 := blk_frozen BK137.out 2
          have hfz22_3 := blk_frozen BK137.out 3
          have hfz22_4 := blk_frozen BK137.out 4
          have hfz22_5 := blk_frozen BK137.out 5
          have hfz22_6 := blk_frozen BK137.out 6
          have hfz22_7 := blk_frozen BK137.out 7
          go_upto_if 42 with (fail)
          go_cut [42] (fun v42 wc => ∃ (kq : Nat) (x42_20 : Bool), v42 = .bool x42_20 ∧ Aside0 (joistref03_Right.j1 kq a0_4 x42_20 a0_0 a0_1 a0_2 a0_3 a0_4 a0_5 a0_6 a0_7 = some r) ∧ Aside0 (kq ≤ kj1) ∧ Aside0 (wc.heap[gb137]? = some (.cells #[.string a0_0, .string a0_1, .string a0_2, .int .i64 a0_3, .int .i64 a0_4, .int .i64 a0_5, .int .i64 a0_6, .string a0_7] 29 (0, 0))) ∧ Aside0 (Below w.heap.size w wc))
          case first =>
            have H := HC21.out
            clear HC21
            by_cases c23 : a0_4 = 2
            · rw [if_pos c23] at H
              have c23b0 : (a0_4 == 2) = true := beq_iff_eq.mpr c23
              have c23b1 : (a0_4 != 2) = false := bne_eq_false_iff_eq.mpr c23
              clear c23
              (first | rw [c23b0] | (simp only [i64_w, i32_w]; rw [c23b0]) | skip)
              have H' := Aside0.mk H
              clear H
              go_wp2
              go_meet
              case rel => exact ⟨_, ((a0_4 == 2)), (by first | rfl | (simp; done) | (simp [*]; done)), H', ⟨by have := HJ1.out; first | omega | exact Nat.le_refl _⟩, ⟨by (with_reducible repeat (first | refine blk_drewN ?_ _ | refine blk_drew ?_ | refine blk_alloc ?_ _)); exact BK137.out⟩, ⟨by repeat (first | (with_reducible first | exact HB.out | apply below_alloc | apply pw_below_drewN | apply below_drew1 | refine below_set ?_ GE137.out) | exact HB.out)⟩⟩
            · rw [if_neg c23] at H
              have c23b0 : (a0_4 == 2) = false := beq_eq_false_iff_ne.mpr c23
              have c23b1 : (a0_4 != 2) = true := bne_iff_ne.mpr c23
              (first | rw [c23b0] | (simp only [i64_w, i32_w]; rw [c23b0]) | skip)
              have H' := Aside0.mk H
              clear H
              go_wp2
              go_meet
              case rel => exact ⟨_, ((a0_4 == 3)), (by first | rfl | (simp; done) | (simp [*]; done)), H', ⟨by have := HJ1.out; first | omega | exact Nat.le_refl _⟩, ⟨by (with_reducible repeat (first | refine blk_drewN ?_ _ | refine blk_drew ?_ | refine blk_alloc ?_ _)); exact BK137.out⟩, ⟨by repeat (first | (with_reducible first | exact HB.out | apply below_alloc | apply pw_below_drewN | apply below_drew1 | refine below_set ?_ GE137.out) | exact HB.out)⟩⟩
          case rest =>
            clear HC21
            try clear c1
            try clear c2
            try clear p2
            try clear c3
            try clear c4
            try clear c4b0
            try clear c4b1
            try clear c6
            try clear c6b0
            try clear c6b1
            try clear c9
            try clear c10
            try clear c10b0
            try clear c10b1
            try clear c12
            try clear c12b0
            try clear c16
            try clear c17
            try clear c17b0
            try clear c17b1
            try clear c23
            try clear c23b0
            try clear c23b1
            try clear hcz11_0
            try clear hcz11_1
            try clear hcz11_2
            try clear hcz11_3
            try clear hcz11_4
            try clear hcz11_5
            try clear hcz11_6
            try clear hcz11_7
            try clear hcz13_0
            try clear hcz13_1
            try clear hcz13_2
            try clear hcz13_3
            try clear hcz13_4
            try clear hcz13_5
            try clear hcz13_6
            try clear hcz13_7
            try clear hcz14_0
            try clear hcz14_1
            try clear hcz14_2
            try clear hcz14_3
            try clear hcz14_4
            try clear hcz14_5
            try clear hcz14_6
            try clear hcz14_7
            try clear hcz15_0
            try clear hcz15_1
            try clear hcz15_2
            try clear hcz15_3
            try clear hcz15_4
            try clear hcz15_5
            try clear hcz15_6
            try clear hcz15_7
            try clear hcz19_0
            try clear hcz19_1
            try clear hcz19_2
            try clear hcz19_3
            try clear hcz19_4
            try clear hcz19_5
            try clear hcz19_6
            try clear hcz19_7
            try clear hcz22_0
            try clear hcz22_1
            try clear hcz22_2
            try clear hcz22_3
            try clear hcz22_4
            try clear hcz22_5
            try clear hcz22_6
            try clear hcz22_7
            try clear hcz5_0
            try clear hcz5_1
            try clear hcz5_2
            try clear hcz5_3
            try clear hcz5_4
            try clear hcz5_5
            try clear hcz5_6
            try clear hcz5_7
            try clear hcz7_0
            try clear hcz7_1
            try clear hcz7_2
            try clear hcz7_3
            try clear hcz7_4
            try clear hcz7_5
            try clear hcz7_6
            try clear hcz7_7
            try clear hfz11_0
            try clear hfz11_1
            try clear hfz11_2
            try clear hfz11_3
            try clear hfz11_4
            try clear hfz11_5
            try clear hfz11_6
            try clear hfz11_7
            try clear hfz13_0
            try clear hfz13_1
            try clear hfz13_2
            try clear hfz13_3
            try clear hfz13_4
            try clear hfz13_5
            try clear hfz13_6
            try clear hfz13_7
            try clear hfz14_0
            try clear hfz14_1
            try clear hfz14_2
            try clear hfz14_3
            try clear hfz14_4
            try clear hfz14_5
            try clear hfz14_6
            try clear hfz14_7
            try clear hfz15_0
            try clear hfz15_1
            try clear hfz15_2
            try clear hfz15_3
            try clear hfz15_4
            try clear hfz15_5
            try clear hfz15_6
            try clear hfz15_7
            try clear hfz19_0
            try clear hfz19_1
            try clear hfz19_2
            try clear hfz19_3
            try clear hfz19_4
            try clear hfz19_5
            try clear hfz19_6
            try clear hfz19_7
            try clear hfz22_0
            try clear hfz22_1
            try clear hfz22_2
            try clear hfz22_3
            try clear hfz22_4
            try clear hfz22_5
            try clear hfz22_6
            try clear hfz22_7
            try clear hfz5_0
            try clear hfz5_1
            try clear hfz5_2
            try clear hfz5_3
            try clear hfz5_4
            try clear hfz5_5
            try clear hfz5_6
            try clear hfz5_7
            try clear hfz7_0
            try clear hfz7_1
            try clear hfz7_2
            try clear hfz7_3
            try clear hfz7_4
            try clear hfz7_5
            try clear hfz7_6
            try clear hfz7_7
            try clear p2
            obtain ⟨kq, x42_20, rfl, HA, HJ20, BK137, HB⟩ := hcut
            cases kq with
            | zero => exact absurd HA.out (by simp [joistref03_Right.j1])
            | succ kj20 =>
              have H := HA.out
              clear HA
              simp only [joistref03_Right.j1] at H
              by_cases c24 : x42_20 = true
              · subst c24
                have H1 : (some (a0_5 == 0 && (a0_6 == 0 && (a0_7.toList == ([] : List UInt8))))) = some r := by rw [if_pos rfl] at H; exact H
                clear H
                have H := H1
                clear H1
                obtain rfl := Option.some.inj H
                have hcz25_0 : wc.cell? ⟨gb137, 0, none⟩ = some (.string a0_0) := (blk_cell BK137.out 0).trans rfl
                have hcz25_1 : wc.cell? ⟨gb137, 1, none⟩ = some (.string a0_1) := (blk_cell BK137.out 1).trans rfl
                have hcz25_2 : wc.cell? ⟨gb137, 2, none⟩ = some (.string a0_2) := (blk_cell BK137.out 2).trans rfl
                have hcz25_3 : wc.cell? ⟨gb137, 3, none⟩ = some (.int .i64 a0_3) := (blk_cell BK137.out 3).trans rfl
                have hcz25_4 : wc.cell? ⟨gb137, 4, none⟩ = some (.int .i64 a0_4) := (blk_cell BK137.out 4).trans rfl
                have hcz25_5 : wc.cell? ⟨gb137, 5, none⟩ = some (.int .i64 a0_5) := (blk_cell BK137.out 5).trans rfl
                have hcz25_6 : wc.cell? ⟨gb137, 6, none⟩ = some (.int .i64 a0_6) := (blk_cell BK137.out 6).trans rfl
                have hcz25_7 : wc.cell? ⟨gb137, 7, none⟩ = some (.string a0_7) := (blk_cell BK137.out 7).trans rfl
                have hfz25_0 := blk_frozen BK137.out 0
                have hfz25_1 := blk_frozen BK137.out 1
                have hfz25_2 := blk_frozen BK137.out 2
                have hfz25_3 := blk_frozen BK137.out 3
                have hfz25_4 := blk_frozen BK137.out 4
                have hfz25_5 := blk_frozen BK137.out 5
                have hfz25_6 := blk_frozen BK137.out 6
                have hfz25_7 := blk_frozen BK137.out 7
                go_wp2
                go_ret
                exact ⟨by first | rfl | (simp [errW_none, errW_some] <;> rfl) | (simp [*, errW_none, errW_some] <;> rfl), by repeat (first | (with_reducible first | exact HB.out | apply below_alloc | apply pw_below_drewN | apply below_drew1 | refine below_set ?_ GE137.out) | exact HB.out)⟩
              · replace c24 := Bool.eq_false_iff.mpr c24
                subst c24
                have H1 : (if a0_4 = 4 then (if (a0_5 == 0 && (a0_6 == 0 && (a0_7.toList == ([] : List UInt8)))) = true then (some (a0_2.toList == ([] : List UInt8))) else (some false)) else (some false)) = some r := by rw [if_neg (show ¬ (false = true) by decide)] at H; exact H
                clear H
                have H := H1
                clear H1
                by_cases c26 : a0_4 = 4
                · rw [if_pos c26] at H
                  have c26b0 : (a0_4 == 4) = true := beq_iff_eq.mpr c26
                  have c26b1 : (a0_4 != 4) = false := bne_eq_false_iff_eq.mpr c26
                  clear c26
                  by_cases c27 : (a0_5 == 0 && (a0_6 == 0 && (a0_7.toList == ([] : List UInt8)))) = true
                  · rw [if_pos c27] at H
                    have c27b0 : (a0_5 == 0 && (a0_6 == 0 && (a0_7.toList == ([] : List UInt8)))) = true := c27
                    have c27k : a0_5 = 0 ∧ a0_6 = 0 ∧ a0_7.toList = [] := by simpa using c27
                    obtain ⟨c27k1, c27k2, c27k3⟩ := c27k
                    (try (have c27b1 : decide (a0_5 = 0 && (a0_6 == 0 && (a0_7.toList == ([] : List UInt8)))) = true := by simpa using c27))
                    (try (have c27b2 : (a0_5 == 0 && (a0_6 == 0 && (a0_7.toList == ([] : List UInt8)))) = true := by simpa using c27))
                    clear c27
                    obtain rfl := Option.some.inj H
                    have hcz28_0 : wc.cell? ⟨gb137, 0, none⟩ = some (.string a0_0) := (blk_cell BK137.out 0).trans rfl
                    have hcz28_1 : wc.cell? ⟨gb137, 1, none⟩ = some (.string a0_1) := (blk_cell BK137.out 1).trans rfl
                    have hcz28_2 : wc.cell? ⟨gb137, 2, none⟩ = some (.string a0_2) := (blk_cell BK137.out 2).trans rfl
                    have hcz28_3 : wc.cell? ⟨gb137, 3, none⟩ = some (.int .i64 a0_3) := (blk_cell BK137.out 3).trans rfl
                    have hcz28_4 : wc.cell? ⟨gb137, 4, none⟩ = some (.int .i64 a0_4) := (blk_cell BK137.out 4).trans rfl
                    have hcz28_5 : wc.cell? ⟨gb137, 5, none⟩ = some (.int .i64 a0_5) := (blk_cell BK137.out 5).trans rfl
                    have hcz28_6 : wc.cell? ⟨gb137, 6, none⟩ = some (.int .i64 a0_6) := (blk_cell BK137.out 6).trans rfl
                    have hcz28_7 : wc.cell? ⟨gb137, 7, none⟩ = some (.string a0_7) := (blk_cell BK137.out 7).trans rfl
                    have hfz28_0 := blk_frozen BK137.out 0
                    have hfz28_1 := blk_frozen BK137.out 1
                    have hfz28_2 := blk_frozen BK137.out 2
                    have hfz28_3 := blk_frozen BK137.out 3
                    have hfz28_4 := blk_frozen BK137.out 4
                    have hfz28_5 := blk_frozen BK137.out 5
                    have hfz28_6 := blk_frozen BK137.out 6
                    have hfz28_7 := blk_frozen BK137.out 7
                    go_wp2
                    go_ret
                    exact ⟨by first | rfl | (simp [errW_none, errW_some] <;> rfl) | (simp [*, errW_none, errW_some] <;> rfl), by repeat (first | (with_reducible first | exact HB.out | apply below_alloc | apply pw_below_drewN | apply below_drew1 | refine below_set ?_ GE137.out) | exact HB.out)⟩
                  · rw [if_neg c27] at H
                    have c27b0 : (a0_5 == 0 && (a0_6 == 0 && (a0_7.toList == ([] : List UInt8)))) = false := by simpa using c27
                    have c27k : ¬ (a0_5 = 0 ∧ a0_6 = 0 ∧ a0_7.toList = []) := by simpa using c27
                    (try (have c27b1 : decide (a0_5 = 0 && (a0_6 == 0 && (a0_7.toList == ([] : List UInt8)))) = false := by simpa using c27))
                    (try (have c27b2 : (a0_5 == 0 && (a0_6 == 0 && (a0_7.toList == ([] : List UInt8)))) = false := by simpa using c27))
                    (try (have c27b3 : ¬ (a0_5 = 0 && (a0_6 == 0 && (a0_7.toList == ([] : List UInt8)))) := by simpa using c27))
                    clear c27
                    obtain rfl := Option.some.inj H
                    have hcz29_0 : wc.cell? ⟨gb137, 0, none⟩ = some (.string a0_0) := (blk_cell BK137.out 0).trans rfl
                    have hcz29_1 : wc.cell? ⟨gb137, 1, none⟩ = some (.string a0_1) := (blk_cell BK137.out 1).trans rfl
                    have hcz29_2 : wc.cell? ⟨gb137, 2, none⟩ = some (.string a0_2) := (blk_cell BK137.out 2).trans rfl
                    have hcz29_3 : wc.cell? ⟨gb137, 3, none⟩ = some (.int .i64 a0_3) := (blk_cell BK137.out 3).trans rfl
                    have hcz29_4 : wc.cell? ⟨gb137, 4, none⟩ = some (.int .i64 a0_4) := (blk_cell BK137.out 4).trans rfl
                    have hcz29_5 : wc.cell? ⟨gb137, 5, none⟩ = some (.int .i64 a0_5) := (blk_cell BK137.out 5).trans rfl
                    have hcz29_6 : wc.cell? ⟨gb137, 6, none⟩ = some (.int .i64 a0_6) := (blk_cell BK137.out 6).trans rfl
                    have hcz29_7 : wc.cell? ⟨gb137, 7, none⟩ = some (.string a0_7) := (blk_cell BK137.out 7).trans rfl
                    have hfz29_0 := blk_frozen BK137.out 0
                    have hfz29_1 := blk_frozen BK137.out 1
                    have hfz29_2 := blk_frozen BK137.out 2
                    have hfz29_3 := blk_frozen BK137.out 3
                    have hfz29_4 := blk_frozen BK137.out 4
                    have hfz29_5 := blk_frozen BK137.out 5
                    have hfz29_6 := blk_frozen BK137.out 6
                    have hfz29_7 := blk_frozen BK137.out 7
                    go_wp2
                    go_ret
                    exact ⟨by first | rfl | (simp [errW_none, errW_some] <;> rfl) | (simp [*, errW_none, errW_some] <;> rfl), by repeat (first | (with_reducible first | exact HB.out | apply below_alloc | apply pw_below_drewN | apply below_drew1 | refine below_set ?_ GE137.out) | exact HB.out)⟩
                · rw [if_neg c26] at H
                  have c26b0 : (a0_4 == 4) = false := beq_eq_false_iff_ne.mpr c26
                  have c26b1 : (a0_4 != 4) = true := bne_iff_ne.mpr c26
                  obtain rfl := Option.some.inj H
                  go_wp2
                  go_ret
                  exact ⟨by first | rfl | (simp [errW_none, errW_some] <;> rfl) | (simp [*, errW_none, errW_some] <;> rfl), by repeat (first | (with_reducible first | exact HB.out | apply below_alloc | apply pw_below_drewN | apply below_drew1 | refine below_set ?_ GE137.out) | exact HB.out)⟩

end Go.Proofs.Ythbgjaboghnpjaa.Q
