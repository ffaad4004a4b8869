-- Written by a program of this session, out of Lean's print of the loaded program (a patched copy of the kit's print).
import Derived.Test.YthbgjaboghnpjaaQx0
import Derived.Test.YthbgjaboghnpjaaQx24
import Derived.Test.YthbgjaboghnpjaaQx31
namespace Go.Proofs.Ythbgjaboghnpjaa.Q
open Go.RowKit Go.Proofs.YthbgjaboghnpjaaW.PrintWords Go.Proofs.YthbgjaboghnpjaaW.PrintLast Go.Proofs.YthbgjaboghnpjaaW.PrintMore
attribute [local go_sem] max2_int min2_int max_two min_two max_three min_three max_four min_four   -- for this text's walks alone
set_option linter.unusedVariables false
set_option linter.unusedSimpArgs false

/-! ### joistref03_Order: function 40 -/
mutual
def joistref03_Order.j0 : Nat → Int → Int → ByteArray → ByteArray → ByteArray → Int → Int → Int → Int → ByteArray → ByteArray → ByteArray → ByteArray → Int → Int → Int → Int → ByteArray → Option (Int)
  | 0, _, _, _, _, _, _, _, _, _, _, _, _, _, _, _, _, _, _ => none
  | k + 1, x5, x6, x141000, x141001, x141002, x141003, x141004, x141005, x141006, x141007, x142000, x142001, x142002, x142003, x142004, x142005, x142006, x142007 => if x142004 = 4 then (joistref03_Order.j1 k x5 0 x141000 x141001 x141002 x141003 x141004 x141005 x141006 x141007 x142000 x142001 x142002 x142003 x142004 x142005 x142006 x142007) else (joistref03_Order.j1 k x5 x6 x141000 x141001 x141002 x141003 x141004 x141005 x141006 x141007 x142000 x142001 x142002 x142003 x142004 x142005 x142006 x142007)
def joistref03_Order.j1 : Nat → Int → Int → ByteArray → ByteArray → ByteArray → Int → Int → Int → Int → ByteArray → ByteArray → ByteArray → ByteArray → Int → Int → Int → Int → ByteArray → Option (Int)
  | 0, _, _, _, _, _, _, _, _, _, _, _, _, _, _, _, _, _, _ => none
  | k + 1, x5, x6, x141000, x141001, x141002, x141003, x141004, x141005, x141006, x141007, x142000, x142001, x142002, x142003, x142004, x142005, x142006, x142007 => (joistref00_Texts.f k x141000 x142000).bind fun t142 => ((joistref00_Texts.f k x141001 x142001).bind fun t143 => ((joistref03_cmp.f x5 x6).bind fun t144 => ((joistref00_Texts.f k x141002 x142002).bind fun t145 => ((joistref03_cmp.f x142003 x141003).bind fun t146 => ((joistref03_cmp.f x142004 x141004).bind fun t147 => (joistref03_Order.l0 k (([t142, t143, t144, t145, t146, t147] : List Int)) 0))))))
def joistref03_Order.l0 : Nat → List Int → Int → Option (Int)
  | 0, _, _ => none
  | k + 1, x7, x8 => if x8 < (x7.length : Int) then (if 0 ≤ x8 then (if (rd x7 x8) = 0 then (joistref03_Order.l0 k x7 (wrap64 (x8 + 1))) else (some (rd x7 x8))) else (none)) else (some 0)
end
def joistref03_Order.f (k : Nat) (a0_0 : ByteArray) (a0_1 : ByteArray) (a0_2 : ByteArray) (a0_3 : Int) (a0_4 : Int) (a0_5 : Int) (a0_6 : Int) (a0_7 : ByteArray) (a1_0 : ByteArray) (a1_1 : ByteArray) (a1_2 : ByteArray) (a1_3 : Int) (a1_4 : Int) (a1_5 : Int) (a1_6 : Int) (a1_7 : ByteArray) : Option (Int) := if a0_4 = 4 then (joistref03_Order.j0 k 0 1 a0_0 a0_1 a0_2 a0_3 a0_4 a0_5 a0_6 a0_7 a1_0 a1_1 a1_2 a1_3 a1_4 a1_5 a1_6 a1_7) else (joistref03_Order.j0 k 1 1 a0_0 a0_1 a0_2 a0_3 a0_4 a0_5 a0_6 a0_7 a1_0 a1_1 a1_2 a1_3 a1_4 a1_5 a1_6 a1_7)
theorem joistref03_Order.mono_l : ∀ k, (∀ y0 y1 y2 y3 y4 y5 y6 y7 y8 y9 y10 y11 y12 y13 y14 y15 y16 y17, LeO (joistref03_Order.j0 k y0 y1 y2 y3 y4 y5 y6 y7 y8 y9 y10 y11 y12 y13 y14 y15 y16 y17) (joistref03_Order.j0 (k + 1) y0 y1 y2 y3 y4 y5 y6 y7 y8 y9 y10 y11 y12 y13 y14 y15 y16 y17)) ∧ (∀ y0 y1 y2 y3 y4 y5 y6 y7 y8 y9 y10 y11 y12 y13 y14 y15 y16 y17, LeO (joistref03_Order.j1 k y0 y1 y2 y3 y4 y5 y6 y7 y8 y9 y10 y11 y12 y13 y14 y15 y16 y17) (joistref03_Order.j1 (k + 1) y0 y1 y2 y3 y4 y5 y6 y7 y8 y9 y10 y11 y12 y13 y14 y15 y16 y17)) ∧ (∀ y0 y1, LeO (joistref03_Order.l0 k y0 y1) (joistref03_Order.l0 (k + 1) y0 y1))
  | 0 => ⟨fun _ _ _ _ _ _ _ _ _ _ _ _ _ _ _ _ _ _ r h => by simp [joistref03_Order.j0] at h, fun _ _ _ _ _ _ _ _ _ _ _ _ _ _ _ _ _ _ r h => by simp [joistref03_Order.j1] at h, fun _ _ r h => by simp [joistref03_Order.l0] at h⟩
  | k + 1 => by
    obtain ⟨ih0, ih1, ih2⟩ := joistref03_Order.mono_l k
    refine ⟨?_, ?_, ?_⟩
    · intro y0 y1 y2 y3 y4 y5 y6 y7 y8 y9 y10 y11 y12 y13 y14 y15 y16 y17
      unfold joistref03_Order.j0
      repeat' first
      | (with_reducible exact ih0 _ _ _ _ _ _ _ _ _ _ _ _ _ _ _ _ _ _)
      | (with_reducible exact ih1 _ _ _ _ _ _ _ _ _ _ _ _ _ _ _ _ _ _)
      | (with_reducible exact ih2 _ _)
      | (with_reducible exact joistref00_Texts.mono _ _ _)
      | (with_reducible exact LeO.refl _)
      | (with_reducible exact LeO.none _)
      | (with_reducible refine LeO.ite ?_ ?_)
      | (with_reducible refine LeO.bind ?_ (fun _ => ?_))
      | exact ih0 _ _ _ _ _ _ _ _ _ _ _ _ _ _ _ _ _ _
      | exact ih1 _ _ _ _ _ _ _ _ _ _ _ _ _ _ _ _ _ _
      | exact ih2 _ _
      | exact joistref00_Texts.mono _ _ _
      | exact LeO.none _
      | refine LeO.ite ?_ ?_
      | refine LeO.bind ?_ (fun _ => ?_)
    · intro y0 y1 y2 y3 y4 y5 y6 y7 y8 y9 y10 y11 y12 y13 y14 y15 y16 y17
      unfold joistref03_Order.j1
      repeat' first
      | (with_reducible exact ih0 _ _ _ _ _ _ _ _ _ _ _ _ _ _ _ _ _ _)
      | (with_reducible exact ih1 _ _ _ _ _ _ _ _ _ _ _ _ _ _ _ _ _ _)
      | (with_reducible exact ih2 _ _)
      | (with_reducible exact joistref00_Texts.mono _ _ _)
      | (with_reducible exact LeO.refl _)
      | (with_reducible exact LeO.none _)
      | (with_reducible refine LeO.ite ?_ ?_)
      | (with_reducible refine LeO.bind ?_ (fun _ => ?_))
      | exact ih0 _ _ _ _ _ _ _ _ _ _ _ _ _ _ _ _ _ _
      | exact ih1 _ _ _ _ _ _ _ _ _ _ _ _ _ _ _ _ _ _
      | exact ih2 _ _
      | exact joistref00_Texts.mono _ _ _
      | exact LeO.none _
      | refine LeO.ite ?_ ?_
      | refine LeO.bind ?_ (fun _ => ?_)
    · intro y0 y1
      unfold joistref03_Order.l0
      repeat' first
      | (with_reducible exact ih0 _ _ _ _ _ _ _ _ _ _ _ _ _ _ _ _ _ _)
      | (with_reducible exact ih1 _ _ _ _ _ _ _ _ _ _ _ _ _ _ _ _ _ _)
      | (with_reducible exact ih2 _ _)
      | (with_reducible exact joistref00_Texts.mono _ _ _)
      | (with_reducible exact LeO.refl _)
      | (with_reducible exact LeO.none _)
      | (with_reducible refine LeO.ite ?_ ?_)
      | (with_reducible refine LeO.bind ?_ (fun _ => ?_))
      | exact ih0 _ _ _ _ _ _ _ _ _ _ _ _ _ _ _ _ _ _
      | exact ih1 _ _ _ _ _ _ _ _ _ _ _ _ _ _ _ _ _ _
      | exact ih2 _ _
      | exact joistref00_Texts.mono _ _ _
      | exact LeO.none _
      | refine LeO.ite ?_ ?_
      | refine LeO.bind ?_ (fun _ => ?_)
theorem joistref03_Order.mono : ∀ a0 a1 a2 a3 a4 a5 a6 a7 a8 a9 a10 a11 a12 a13 a14 a15 k, LeO (joistref03_Order.f k a0 a1 a2 a3 a4 a5 a6 a7 a8 a9 a10 a11 a12 a13 a14 a15) (joistref03_Order.f (k + 1) a0 a1 a2 a3 a4 a5 a6 a7 a8 a9 a10 a11 a12 a13 a14 a15) := by
  intro a0 a1 a2 a3 a4 a5 a6 a7 a8 a9 a10 a11 a12 a13 a14 a15 k
  obtain ⟨ih0, ih1, ih2⟩ := joistref03_Order.mono_l k
  unfold joistref03_Order.f
  repeat' first
      | (with_reducible exact ih0 _ _ _ _ _ _ _ _ _ _ _ _ _ _ _ _ _ _)
      | (with_reducible exact ih1 _ _ _ _ _ _ _ _ _ _ _ _ _ _ _ _ _ _)
      | (with_reducible exact ih2 _ _)
      | (with_reducible exact joistref00_Texts.mono _ _ _)
      | (with_reducible exact LeO.refl _)
      | (with_reducible exact LeO.none _)
      | (with_reducible refine LeO.ite ?_ ?_)
      | (with_reducible refine LeO.bind ?_ (fun _ => ?_))
      | exact ih0 _ _ _ _ _ _ _ _ _ _ _ _ _ _ _ _ _ _
      | exact ih1 _ _ _ _ _ _ _ _ _ _ _ _ _ _ _ _ _ _
      | exact ih2 _ _
      | exact joistref00_Texts.mono _ _ _
      | exact LeO.none _
      | refine LeO.ite ?_ ?_
      | refine LeO.bind ?_ (fun _ => ?_)
def joistref03_Order.T7 : Bool × List (List Nat × List Nat) := (true, [([], []), ([0], [0]), ([], []), ([2], [2]), ([1, 3], [1, 3]), ([], []), ([5], [5]), ([], []), ([7], [7]), ([6, 8, 4], [6, 8]), ([], []), ([], []), ([10, 11, 9], [10, 11]), ([], []), ([13], [13]), ([], []), ([15], [15]), ([14, 16, 12], [14, 16]), ([], []), ([18], [18]), ([], []), ([20], [20]), ([19, 21, 17], [19, 21]), ([], []), ([23], [23]), ([], []), ([25], [25]), ([24, 26, 22], [24, 26]), ([4, 9, 12, 17, 22, 27], [4, 9, 12, 17, 22, 27]), ([28, 27, 0, 1, 2, 3, 4, 5, 6, 7, 8, 9, 10, 11, 12, 13, 14, 15, 16, 17, 18, 19, 20, 21, 22, 23, 24, 25, 26, 27, 28], [28])])
def joistref03_Order.B7 : List Nat := [0, 1, 0, 4, 15, 0, 32, 0, 128, 511, 0, 0, 4095, 0, 8192, 0, 32768, 131071, 0, 262144, 0, 1048576, 4194303, 0, 8388608, 0, 33554432, 134217727, 268435455, 536870911]
theorem joistref03_Order.tab7 : rtab .any (opsOf Try.f40 7) = joistref03_Order.T7 := by kernel_rfl
theorem joistref03_Order.bits7 : waitsOk joistref03_Order.T7.2 joistref03_Order.B7 = true := by kernel_rfl
set_option maxHeartbeats 8000000 in
set_option maxRecDepth 100000 in
theorem joistref03_Order.calls (k : Nat) (a0_0 : ByteArray) (a0_1 : ByteArray) (a0_2 : ByteArray) (a0_3 : Int) (a0_4 : Int) (a0_5 : Int) (a0_6 : Int) (a0_7 : ByteArray) (a1_0 : ByteArray) (a1_1 : ByteArray) (a1_2 : ByteArray) (a1_3 : Int) (a1_4 : Int) (a1_5 : Int) (a1_6 : Int) (a1_7 : ByteArray) (r : Int) (w : World) (h : joistref03_Order.f k a0_0 a0_1 a0_2 a0_3 a0_4 a0_5 a0_6 a0_7 a1_0 a1_1 a1_2 a1_3 a1_4 a1_5 a1_6 a1_7 = some r) :
    Calls Try.prog 40 #[.agg #[.string a0_0, .string a0_1, .string a0_2, .int .i64 a0_3, .int .i64 a0_4, .int .i64 a0_5, .int .i64 a0_6, .string a0_7], .agg #[.string a1_0, .string a1_1, .string a1_2, .int .i64 a1_3, .int .i64 a1_4, .int .i64 a1_5, .int .i64 a1_6, .string a1_7]] w fun e w' => e = .returned (.int .i64 r) ∧ Below w.heap.size w w' := by
  have hu29 := Try.underlying29
  have HB := Aside0.mk (Below.refl w.heap.size w)
  have H : (if a0_4 = 4 then (joistref03_Order.j0 k 0 1 a0_0 a0_1 a0_2 a0_3 a0_4 a0_5 a0_6 a0_7 a1_0 a1_1 a1_2 a1_3 a1_4 a1_5 a1_6 a1_7) else (joistref03_Order.j0 k 1 1 a0_0 a0_1 a0_2 a0_3 a0_4 a0_5 a0_6 a0_7 a1_0 a1_1 a1_2 a1_3 a1_4 a1_5 a1_6 a1_7)) = some r := h
  clear h
  have HC3 := Aside0.mk H
  clear H
  go_enter Try.func40, Try.ntmps40
  go_upto_if 11 with (first | ((with_reducible refine gate_dst (N := 2) rfl ?_); refine box_event ?hg (N := 2) ?hd (cs := #[.string a0_0, .string a0_1, .string a0_2, .int .i64 a0_3, .int .i64 a0_4, .int .i64 a0_5, .int .i64 a0_6, .string a0_7]) (t := 29) ?hr ?_; (case hd => rfl); (case hg => rfl); (case hr => first | (go_simp; done) | (go_simp; rfl)); intro gb140 hg w4 hbox hb; have n0_ := Aside0.mk (below_step (by repeat (first | (with_reducible first | exact HB.out | apply below_alloc | apply pw_below_drewN | apply below_drew1) | exact HB.out)) hb); have n1_ := Aside0.mk (hbox); have n2_ := Aside0.mk ((by rw [hg]; exact (below_size (by repeat (first | (with_reducible first | exact HB.out | apply below_alloc | apply pw_below_drewN | apply below_drew1) | exact HB.out))) : w.heap.size ≤ gb140)); have n3_ := Aside0.mk ((by rw [hg]; exact (below_size (by repeat (first | (with_reducible first | exact HB.out | apply below_alloc | apply pw_below_drewN | apply below_drew1) | exact HB.out))) : w.heap.size ≤ gb140)); clear HB; have HB := n0_; have BK140 := n1_; have GW140 := n2_; have GE140 := n3_; clear n0_ n1_ n2_ n3_; clear hb hbox hg) | ((with_reducible refine gate_dst (N := 3) rfl ?_); refine box_event ?hg (N := 3) ?hd (cs := #[.string a1_0, .string a1_1, .string a1_2, .int .i64 a1_3, .int .i64 a1_4, .int .i64 a1_5, .int .i64 a1_6, .string a1_7]) (t := 29) ?hr ?_; (case hd => rfl); (case hg => rfl); (case hr => first | (go_simp; done) | (go_simp; rfl)); intro gb141 hg w5 hbox hb; have n0_ := Aside0.mk (blk_below (g := gb140) (o := .cells #[.string a0_0, .string a0_1, .string a0_2, .int .i64 a0_3, .int .i64 a0_4, .int .i64 a0_5, .int .i64 a0_6, .string a0_7] 29 (0, 0)) (by (with_reducible repeat (first | refine blk_drewN ?_ _ | refine blk_drew ?_ | refine blk_alloc ?_ _)); exact BK140.out) hb); have n1_ := Aside0.mk (below_step (by repeat (first | (with_reducible first | exact HB.out | apply below_alloc | apply pw_below_drewN | apply below_drew1 | refine below_set ?_ GE140.out) | exact HB.out)) hb); have n2_ := Aside0.mk (hbox); have n3_ := Aside0.mk ((by rw [hg]; exact (below_size (by repeat (first | (with_reducible first | exact HB.out | apply below_alloc | apply pw_below_drewN | apply below_drew1 | refine below_set ?_ GE140.out) | exact HB.out))) : w.heap.size ≤ gb141)); have n4_ := Aside0.mk ((by rw [hg]; exact (below_size (by repeat (first | (with_reducible first | exact HB.out | apply below_alloc | apply pw_below_drewN | apply below_drew1 | refine below_set ?_ GE140.out) | exact HB.out))) : w.heap.size ≤ gb141)); have n5_ := Aside0.mk ((by rw [hg]; exact Nat.ne_of_lt (blk_lt (g := gb140) (o := .cells #[.string a0_0, .string a0_1, .string a0_2, .int .i64 a0_3, .int .i64 a0_4, .int .i64 a0_5, .int .i64 a0_6, .string a0_7] 29 (0, 0)) (by (with_reducible repeat (first | refine blk_drewN ?_ _ | refine blk_drew ?_ | refine blk_alloc ?_ _)); exact BK140.out)) : gb140 ≠ gb141)); have n6_ := Aside0.mk ((by rw [hg]; exact Nat.ne_of_gt (blk_lt (g := gb140) (o := .cells #[.string a0_0, .string a0_1, .string a0_2, .int .i64 a0_3, .int .i64 a0_4, .int .i64 a0_5, .int .i64 a0_6, .string a0_7] 29 (0, 0)) (by (with_reducible repeat (first | refine blk_drewN ?_ _ | refine blk_drew ?_ | refine blk_alloc ?_ _)); exact BK140.out)) : gb141 ≠ gb140)); clear BK140; clear HB; have BK140 := n0_; have HB := n1_; have BK141 := n2_; have GW141 := n3_; have GE141 := n4_; have NB140_141 := n5_; have NB141_140 := n6_; clear n0_ n1_ n2_ n3_ n4_ n5_ n6_; clear hb hbox hg; have hnb6 := NB140_141.out; have hnc6 := NB141_140.out; have hcz7_0 : w5.cell? ⟨gb140, 0, none⟩ = some (.string a0_0) := (blk_cell BK140.out 0).trans rfl; have hcz7_1 : w5.cell? ⟨gb140, 1, none⟩ = some (.string a0_1) := (blk_cell BK140.out 1).trans rfl; have hcz7_2 : w5.cell? ⟨gb140, 2, none⟩ = some (.string a0_2) := (blk_cell BK140.out 2).trans rfl; have hcz7_3 : w5.cell? ⟨gb140, 3, none⟩ = some (.int .i64 a0_3) := (blk_cell BK140.out 3).trans rfl; have hcz7_4 : w5.cell? ⟨gb140, 4, none⟩ = some (.int .i64 a0_4) := (blk_cell BK140.out 4).trans rfl; have hcz7_5 : w5.cell? ⟨gb140, 5, none⟩ = some (.int .i64 a0_5) := (blk_cell BK140.out 5).trans rfl; have hcz7_6 : w5.cell? ⟨gb140, 6, none⟩ = some (.int .i64 a0_6) := (blk_cell BK140.out 6).trans rfl; have hcz7_7 : w5.cell? ⟨gb140, 7, none⟩ = some (.string a0_7) := (blk_cell BK140.out 7).trans rfl; have hfz7_0 := blk_frozen BK140.out 0; have hfz7_1 := blk_frozen BK140.out 1; have hfz7_2 := blk_frozen BK140.out 2; have hfz7_3 := blk_frozen BK140.out 3; have hfz7_4 := blk_frozen BK140.out 4; have hfz7_5 := blk_frozen BK140.out 5; have hfz7_6 := blk_frozen BK140.out 6; have hfz7_7 := blk_frozen BK140.out 7))
  (try simp only [Act.put, List.setIfInBounds_toArray, List.set_cons_zero, List.set_cons_succ])
  go_cut [5] (fun v5 wc => ∃ (kq : Nat) (x5_2 : Int), v5 = .int .i64 x5_2 ∧ Aside0 (joistref03_Order.j0 kq x5_2 1 a0_0 a0_1 a0_2 a0_3 a0_4 a0_5 a0_6 a0_7 a1_0 a1_1 a1_2 a1_3 a1_4 a1_5 a1_6 a1_7 = some r) ∧ Aside0 (kq ≤ k) ∧ Aside0 (wc.heap[gb140]? = some (.cells #[.string a0_0, .string a0_1, .string a0_2, .int .i64 a0_3, .int .i64 a0_4, .int .i64 a0_5, .int .i64 a0_6, .string a0_7] 29 (0, 0))) ∧ Aside0 (wc.heap[gb141]? = some (.cells #[.string a1_0, .string a1_1, .string a1_2, .int .i64 a1_3, .int .i64 a1_4, .int .i64 a1_5, .int .i64 a1_6, .string a1_7] 29 (0, 0))) ∧ Aside0 (Below w.heap.size w wc))
  case first =>
    have H := HC3.out
    clear HC3
    by_cases c8 : a0_4 = 4
    · rw [if_pos c8] at H
      have c8b0 : (a0_4 == 4) = true := beq_iff_eq.mpr c8
      have c8b1 : (a0_4 != 4) = false := bne_eq_false_iff_eq.mpr c8
      clear c8
      (first | rw [c8b0] | (simp only [i64_w, i32_w]; rw [c8b0]) | skip)
      have H' := Aside0.mk H
      clear H
      go_wp2
      go_meet
      case rel => exact ⟨_, (0), (by first | rfl | (simp; done) | (simp [*]; done)), H', ⟨by first | omega | exact Nat.le_refl _⟩, ⟨by (with_reducible repeat (first | refine blk_drewN ?_ _ | refine blk_drew ?_ | refine blk_alloc ?_ _)); exact BK140.out⟩, ⟨by (with_reducible repeat (first | refine blk_drewN ?_ _ | refine blk_drew ?_ | refine blk_alloc ?_ _)); exact BK141.out⟩, ⟨by repeat (first | (with_reducible first | exact HB.out | apply below_alloc | apply pw_below_drewN | apply below_drew1 | refine below_set ?_ GE140.out | refine below_set ?_ GE141.out) | exact HB.out)⟩⟩
    · rw [if_neg c8] at H
      have c8b0 : (a0_4 == 4) = false := beq_eq_false_iff_ne.mpr c8
      have c8b1 : (a0_4 != 4) = true := bne_iff_ne.mpr c8
      (first | rw [c8b0] | (simp only [i64_w, i32_w]; rw [c8b0]) | skip)
      have H' := Aside0.mk H
      clear H
      go_wp2
      go_meet
      case rel => exact ⟨_, (1), (by first | rfl | (simp; done) | (simp [*]; done)), H', ⟨by first | omega | exact Nat.le_refl _⟩, ⟨by (with_reducible repeat (first | refine blk_drewN ?_ _ | refine blk_drew ?_ | refine blk_alloc ?_ _)); exact BK140.out⟩, ⟨by (with_reducible repeat (first | refine blk_drewN ?_ _ | refine blk_drew ?_ | refine blk_alloc ?_ _)); exact BK141.out⟩, ⟨by repeat (first | (with_reducible first | exact HB.out | apply below_alloc | apply pw_below_drewN | apply below_drew1 | refine below_set ?_ GE140.out | refine below_set ?_ GE141.out) | exact HB.out)⟩⟩
  case rest =>
    clear HC3
    try clear p2
    try clear c4
    try clear c6
    try clear c8
    try clear c8b0
    try clear c8b1
    try clear hcz7_0
    try clear hcz7_1
    try clear hcz7_2
    try clear hcz7_3
    try clear hcz7_4
    try clear hcz7_5
    try clear hcz7_6
    try clear hcz7_7
    try clear hfz7_0
    try clear hfz7_1
    try clear hfz7_2
    try clear hfz7_3
    try clear hfz7_4
    try clear hfz7_5
    try clear hfz7_6
    try clear hfz7_7
    obtain ⟨kq, x5_2, rfl, HA, HJ2, BK140, BK141, HB⟩ := hcut
    cases kq with
    | zero => exact absurd HA.out (by simp [joistref03_Order.j0])
    | succ kj2 =>
      have H := HA.out
      clear HA
      simp only [joistref03_Order.j0] at H
      have HC9 := Aside0.mk H
      clear H
      have hnb10 := NB141_140.out
      have hnc10 := NB140_141.out
      have hcz11_0 : wc.cell? ⟨gb141, 0, none⟩ = some (.string a1_0) := (blk_cell BK141.out 0).trans rfl
      have hcz11_1 : wc.cell? ⟨gb141, 1, none⟩ = some (.string a1_1) := (blk_cell BK141.out 1).trans rfl
      have hcz11_2 : wc.cell? ⟨gb141, 2, none⟩ = some (.string a1_2) := (blk_cell BK141.out 2).trans rfl
      have hcz11_3 : wc.cell? ⟨gb141, 3, none⟩ = some (.int .i64 a1_3) := (blk_cell BK141.out 3).trans rfl
      have hcz11_4 : wc.cell? ⟨gb141, 4, none⟩ = some (.int .i64 a1_4) := (blk_cell BK141.out 4).trans rfl
      have hcz11_5 : wc.cell? ⟨gb141, 5, none⟩ = some (.int .i64 a1_5) := (blk_cell BK141.out 5).trans rfl
      have hcz11_6 : wc.cell? ⟨gb141, 6, none⟩ = some (.int .i64 a1_6) := (blk_cell BK141.out 6).trans rfl
      have hcz11_7 : wc.cell? ⟨gb141, 7, none⟩ = some (.string a1_7) := (blk_cell BK141.out 7).trans rfl
      have hfz11_0 := blk_frozen BK141.out 0
      have hfz11_1 := blk_frozen BK141.out 1
      have hfz11_2 := blk_frozen BK141.out 2
      have hfz11_3 := blk_frozen BK141.out 3
      have hfz11_4 := blk_frozen BK141.out 4
      have hfz11_5 := blk_frozen BK141.out 5
      have hfz11_6 := blk_frozen BK141.out 6
      have hfz11_7 := blk_frozen BK141.out 7
      go_upto_if 14 with (fail)
      go_cut [6] (fun v6 wc => ∃ (kq : Nat) (x6_8 : Int), v6 = .int .i64 x6_8 ∧ Aside0 (joistref03_Order.j1 kq x5_2 x6_8 a0_0 a0_1 a0_2 a0_3 a0_4 a0_5 a0_6 a0_7 a1_0 a1_1 a1_2 a1_3 a1_4 a1_5 a1_6 a1_7 = some r) ∧ Aside0 (kq ≤ kj2) ∧ Aside0 (wc.heap[gb140]? = some (.cells #[.string a0_0, .string a0_1, .string a0_2, .int .i64 a0_3, .int .i64 a0_4, .int .i64 a0_5, .int .i64 a0_6, .string a0_7] 29 (0, 0))) ∧ Aside0 (wc.heap[gb141]? = some (.cells #[.string a1_0, .string a1_1, .string a1_2, .int .i64 a1_3, .int .i64 a1_4, .int .i64 a1_5, .int .i64 a1_6, .string a1_7] 29 (0, 0))) ∧ Aside0 (Below w.heap.size w wc))
      case first =>
        have H := HC9.out
        clear HC9
        by_cases c12 : a1_4 = 4
        · rw [if_pos c12] at H
          have c12b0 : (a1_4 == 4) = true := beq_iff_eq.mpr c12
          have c12b1 : (a1_4 != 4) = false := bne_eq_false_iff_eq.mpr c12
          clear c12
          (first | rw [c12b0] | (simp only [i64_w, i32_w]; rw [c12b0]) | skip)
          have H' := Aside0.mk H
          clear H
          go_wp2
          go_meet
          case rel => exact ⟨_, (0), (by first | rfl | (simp; done) | (simp [*]; done)), H', ⟨by have := HJ2.out; first | omega | exact Nat.le_refl _⟩, ⟨by (with_reducible repeat (first | refine blk_drewN ?_ _ | refine blk_drew ?_ | refine blk_alloc ?_ _)); exact BK140.out⟩, ⟨by (with_reducible repeat (first | refine blk_drewN ?_ _ | refine blk_drew ?_ | refine blk_alloc ?_ _)); exact BK141.out⟩, ⟨by repeat (first | (with_reducible first | exact HB.out | apply below_alloc | apply pw_below_drewN | apply below_drew1 | refine below_set ?_ GE140.out | refine below_set ?_ GE141.out) | exact HB.out)⟩⟩
        · rw [if_neg c12] at H
          have c12b0 : (a1_4 == 4) = false := beq_eq_false_iff_ne.mpr c12
          have c12b1 : (a1_4 != 4) = true := bne_iff_ne.mpr c12
          (first | rw [c12b0] | (simp only [i64_w, i32_w]; rw [c12b0]) | skip)
          have H' := Aside0.mk H
          clear H
          go_wp2
          go_meet
          case rel => exact ⟨_, (1), (by first | rfl | (simp; done) | (simp [*]; done)), H', ⟨by have := HJ2.out; first | omega | exact Nat.le_refl _⟩, ⟨by (with_reducible repeat (first | refine blk_drewN ?_ _ | refine blk_drew ?_ | refine blk_alloc ?_ _)); exact BK140.out⟩, ⟨by (with_reducible repeat (first | refine blk_drewN ?_ _ | refine blk_drew ?_ | refine blk_alloc ?_ _)); exact BK141.out⟩, ⟨by repeat (first | (with_reducible first | exact HB.out | apply below_alloc | apply pw_below_drewN | apply below_drew1 | refine below_set ?_ GE140.out | refine below_set ?_ GE141.out) | exact HB.out)⟩⟩
      case rest =>
        clear HC9
        try clear c1
        try clear p2
        try clear c4
        try clear c6
        try clear c8
        try clear c8b0
        try clear c8b1
        try clear c10
        try clear c12
        try clear c12b0
        try clear c12b1
        try clear hcz11_0
        try clear hcz11_1
        try clear hcz11_2
        try clear hcz11_3
        try clear hcz11_4
        try clear hcz11_5
        try clear hcz11_6
        try clear hcz11_7
        try clear hcz7_0
        try clear hcz7_1
        try clear hcz7_2
        try clear hcz7_3
        try clear hcz7_4
        try clear hcz7_5
        try clear hcz7_6
        try clear hcz7_7
        try clear hfz11_0
        try clear hfz11_1
        try clear hfz11_2
        try clear hfz11_3
        try clear hfz11_4
        try clear hfz11_5
        try clear hfz11_6
        try clear hfz11_7
        try clear hfz7_0
        try clear hfz7_1
        try clear hfz7_2
        try clear hfz7_3
        try clear hfz7_4
        try clear hfz7_5
        try clear hfz7_6
        try clear hfz7_7
        try clear p2
        obtain ⟨kq, x6_8, rfl, HA, HJ8, BK140, BK141, HB⟩ := hcut
        cases kq with
        | zero => exact absurd HA.out (by simp [joistref03_Order.j1])
        | succ kj8 =>
          have H := HA.out
          clear HA
          simp only [joistref03_Order.j1] at H
          replace H := Option.bind_eq_some_iff.mp H
          obtain ⟨t142, A130, H⟩ := H
          replace H : ((joistref00_Texts.f kj8 a0_1 a1_1).bind fun t143 => ((joistref03_cmp.f x5_2 x6_8).bind fun t144 => ((joistref00_Texts.f kj8 a0_2 a1_2).bind fun t145 => ((joistref03_cmp.f a1_3 a0_3).bind fun t146 => ((joistref03_cmp.f a1_4 a0_4).bind fun t147 => (joistref03_Order.l0 kj8 (([t142, t143, t144, t145, t146, t147] : List Int)) 0)))))) = some r := H
          have A13 := Aside0.mk A130
          clear A130
          replace H := Option.bind_eq_some_iff.mp H
          obtain ⟨t143, A140, H⟩ := H
          replace H : ((joistref03_cmp.f x5_2 x6_8).bind fun t144 => ((joistref00_Texts.f kj8 a0_2 a1_2).bind fun t145 => ((joistref03_cmp.f a1_3 a0_3).bind fun t146 => ((joistref03_cmp.f a1_4 a0_4).bind fun t147 => (joistref03_Order.l0 kj8 (([t142, t143, t144, t145, t146, t147] : List Int)) 0))))) = some r := H
          have A14 := Aside0.mk A140
          clear A140
          replace H := Option.bind_eq_some_iff.mp H
          obtain ⟨t144, A150, H⟩ := H
          replace H : ((joistref00_Texts.f kj8 a0_2 a1_2).bind fun t145 => ((joistref03_cmp.f a1_3 a0_3).bind fun t146 => ((joistref03_cmp.f a1_4 a0_4).bind fun t147 => (joistref03_Order.l0 kj8 (([t142, t143, t144, t145, t146, t147] : List Int)) 0)))) = some r := H
          have A15 := Aside0.mk A150
          clear A150
          replace H := Option.bind_eq_some_iff.mp H
          obtain ⟨t145, A160, H⟩ := H
          replace H : ((joistref03_cmp.f a1_3 a0_3).bind fun t146 => ((joistref03_cmp.f a1_4 a0_4).bind fun t147 => (joistref03_Order.l0 kj8 (([t142, t143, t144, t145, t146, t147] : List Int)) 0))) = some r := H
          have A16 := Aside0.mk A160
          clear A160
          replace H := Option.bind_eq_some_iff.mp H
          obtain ⟨t146, A170, H⟩ := H
          replace H : ((joistref03_cmp.f a1_4 a0_4).bind fun t147 => (joistref03_Order.l0 kj8 (([t142, t143, t144, t145, t146, t147] : List Int)) 0)) = some r := H
          have A17 := Aside0.mk A170
          clear A170
          replace H := Option.bind_eq_some_iff.mp H
          obtain ⟨t147, A180, H⟩ := H
          replace H : (joistref03_Order.l0 kj8 (([t142, t143, t144, t145, t146, t147] : List Int)) 0) = some r := H
          have A18 := Aside0.mk A180
          clear A180
          obtain ⟨y148, hy148⟩ : ∃ y_ : List Int, y_ = (([t142, t143, t144, t145, t146, t147] : List Int)) := ⟨_, rfl⟩
          replace H : (joistref03_Order.l0 kj8 y148 0) = some r := by first | (rw [hy148]; with_reducible exact H) | (have H2_ := (Option.bind_some _ _).symm.trans H; rw [hy148]; with_reducible exact H2_) | (have H2_ := (Option.bind_some _ _).symm.trans H; with_reducible exact H2_) | with_reducible exact H | (rw [hy148]; exact H) | exact H
          have Ny148 := Aside0.mk hy148
          clear hy148
          have H' := Aside0.mk H
          clear H
          try go_wp2
          have n0_ := Aside0.mk (blk_drew BK140.out)
          have n1_ := Aside0.mk (blk_drew BK141.out)
          have n2_ := Aside0.mk (below_drew1 HB.out)
          clear BK140
          clear BK141
          clear HB
          have BK140 := n0_
          have BK141 := n1_
          have HB := n2_
          clear n0_ n1_ n2_
          refine start_ (n := 30) (S := fun w' => w'.cell? ⟨gb140, 0, none⟩ = some (.string a0_0) ∧ w'.cell? ⟨gb140, 1, none⟩ = some (.string a0_1) ∧ w'.cell? ⟨gb140, 2, none⟩ = some (.string a0_2) ∧ w'.cell? ⟨gb140, 3, none⟩ = some (.int .i64 a0_3) ∧ w'.cell? ⟨gb140, 4, none⟩ = some (.int .i64 a0_4) ∧ w'.cell? ⟨gb140, 5, none⟩ = some (.int .i64 a0_5) ∧ w'.cell? ⟨gb140, 6, none⟩ = some (.int .i64 a0_6) ∧ w'.cell? ⟨gb140, 7, none⟩ = some (.string a0_7) ∧ w'.cell? ⟨gb141, 0, none⟩ = some (.string a1_0) ∧ w'.cell? ⟨gb141, 1, none⟩ = some (.string a1_1) ∧ w'.cell? ⟨gb141, 2, none⟩ = some (.string a1_2) ∧ w'.cell? ⟨gb141, 3, none⟩ = some (.int .i64 a1_3) ∧ w'.cell? ⟨gb141, 4, none⟩ = some (.int .i64 a1_4) ∧ w'.cell? ⟨gb141, 5, none⟩ = some (.int .i64 a1_5) ∧ w'.cell? ⟨gb141, 6, none⟩ = some (.int .i64 a1_6) ∧ w'.cell? ⟨gb141, 7, none⟩ = some (.string a1_7)) (ds := []) #[false, false, false, false, false, false, false, false, false, false, false, false, false, false, false, false, false, false, false, false, false, false, false, false, false, false, false, false, false, false] (by kernel_rfl) rfl rfl ⟨(blk_cell BK140.out 0).trans rfl, (blk_cell BK140.out 1).trans rfl, (blk_cell BK140.out 2).trans rfl, (blk_cell BK140.out 3).trans rfl, (blk_cell BK140.out 4).trans rfl, (blk_cell BK140.out 5).trans rfl, (blk_cell BK140.out 6).trans rfl, (blk_cell BK140.out 7).trans rfl, (blk_cell BK141.out 0).trans rfl, (blk_cell BK141.out 1).trans rfl, (blk_cell BK141.out 2).trans rfl, (blk_cell BK141.out 3).trans rfl, (blk_cell BK141.out 4).trans rfl, (blk_cell BK141.out 5).trans rfl, (blk_cell BK141.out 6).trans rfl, (blk_cell BK141.out 7).trans rfl⟩ (fun hHeld => ?_); refine with_tabW joistref03_Order.tab7 joistref03_Order.bits7 (fun HT_ HW_ => ?_)
          generalize wc.drew = w19 at BK140 BK141 HB hHeld ⊢
          refine pure_ (i := 0) (N := some 15) (v := ?_) (a' := ?_) #[true, false, false, false, false, false, false, false, false, false, false, false, false, false, false, false, false, false, false, false, false, false, false, false, false, false, false, false, false, false] rfl rfl (any_of HT_.out (by kernel_rfl)) (fun _ _ _ h => h) (Or.inl ⟨by rfl, ?_⟩) ?_ ?_
          rotate_left
          · intro w'
            go_simp
            with_reducible rfl
          rotate_left
          · simp only [Act.put, List.setIfInBounds_toArray, List.set_cons_zero, List.set_cons_succ, i64_w, i32_w]
            rfl
          refine pure_ (i := 2) (N := some 17) (v := ?_) (a' := ?_) #[true, false, true, false, false, false, false, false, false, false, false, false, false, false, false, false, false, false, false, false, false, false, false, false, false, false, false, false, false, false] rfl rfl (any_of HT_.out (by kernel_rfl)) (fun _ _ _ h => h) (Or.inl ⟨by rfl, ?_⟩) ?_ ?_
          rotate_left
          · intro w'
            go_simp
            with_reducible rfl
          rotate_left
          · simp only [Act.put, List.setIfInBounds_toArray, List.set_cons_zero, List.set_cons_succ, i64_w, i32_w]
            rfl
          refine pure_ (i := 5) (N := some 20) (v := ?_) (a' := ?_) #[true, false, true, false, false, true, false, false, false, false, false, false, false, false, false, false, false, false, false, false, false, false, false, false, false, false, false, false, false, false] rfl rfl (any_of HT_.out (by kernel_rfl)) (fun _ _ _ h => h) (Or.inl ⟨by rfl, ?_⟩) ?_ ?_
          rotate_left
          · intro w'
            go_simp
            with_reducible rfl
          rotate_left
          · simp only [Act.put, List.setIfInBounds_toArray, List.set_cons_zero, List.set_cons_succ, i64_w, i32_w]
            rfl
          refine pure_ (i := 7) (N := some 22) (v := ?_) (a' := ?_) #[true, false, true, false, false, true, false, true, false, false, false, false, false, false, false, false, false, false, false, false, false, false, false, false, false, false, false, false, false, false] rfl rfl (any_of HT_.out (by kernel_rfl)) (fun _ _ _ h => h) (Or.inl ⟨by rfl, ?_⟩) ?_ ?_
          rotate_left
          · intro w'
            go_simp
            with_reducible rfl
          rotate_left
          · simp only [Act.put, List.setIfInBounds_toArray, List.set_cons_zero, List.set_cons_succ, i64_w, i32_w]
            rfl
          refine pure_ (i := 10) (N := some 25) (v := ?_) (a' := ?_) #[true, false, true, false, false, true, false, true, false, false, true, false, false, false, false, false, false, false, false, false, false, false, false, false, false, false, false, false, false, false] rfl rfl (any_of HT_.out (by kernel_rfl)) (fun _ _ _ h => h) (Or.inl ⟨by rfl, ?_⟩) ?_ ?_
          rotate_left
          · intro w'
            go_simp
            with_reducible rfl
          rotate_left
          · simp only [Act.put, List.setIfInBounds_toArray, List.set_cons_zero, List.set_cons_succ, i64_w, i32_w]
            rfl
          refine pure_ (i := 11) (N := some 26) (v := ?_) (a' := ?_) #[true, false, true, false, false, true, false, true, false, false, true, true, false, false, false, false, false, false, false, false, false, false, false, false, false, false, false, false, false, false] rfl rfl (any_of HT_.out (by kernel_rfl)) (fun _ _ _ h => h) (Or.inl ⟨by rfl, ?_⟩) ?_ ?_
          rotate_left
          · intro w'
            go_simp
            with_reducible rfl
          rotate_left
          · simp only [Act.put, List.setIfInBounds_toArray, List.set_cons_zero, List.set_cons_succ, i64_w, i32_w]
            rfl
          refine pure_ (i := 13) (N := some 28) (v := ?_) (a' := ?_) #[true, false, true, false, false, true, false, true, false, false, true, true, false, true, false, false, false, false, false, false, false, false, false, false, false, false, false, false, false, false] rfl rfl (any_of HT_.out (by kernel_rfl)) (fun _ _ _ h => h) (Or.inl ⟨by rfl, ?_⟩) ?_ ?_
          rotate_left
          · intro w'
            go_simp
            with_reducible rfl
          rotate_left
          · simp only [Act.put, List.setIfInBounds_toArray, List.set_cons_zero, List.set_cons_succ, i64_w, i32_w]
            rfl
          refine pure_ (i := 15) (N := some 30) (v := ?_) (a' := ?_) #[true, false, true, false, false, true, false, true, false, false, true, true, false, true, false, true, false, false, false, false, false, false, false, false, false, false, false, false, false, false] rfl rfl (any_of HT_.out (by kernel_rfl)) (fun _ _ _ h => h) (Or.inl ⟨by rfl, ?_⟩) ?_ ?_
          rotate_left
          · intro w'
            go_simp
            with_reducible rfl
          rotate_left
          · simp only [Act.put, List.setIfInBounds_toArray, List.set_cons_zero, List.set_cons_succ, i64_w, i32_w]
            rfl
          refine pure_ (i := 18) (N := some 33) (v := ?_) (a' := ?_) #[true, false, true, false, false, true, false, true, false, false, true, true, false, true, false, true, false, false, true, false, false, false, false, false, false, false, false, false, false, false] rfl rfl (any_of HT_.out (by kernel_rfl)) (fun _ _ _ h => h) (Or.inl ⟨by rfl, ?_⟩) ?_ ?_
          rotate_left
          · intro w'
            go_simp
            with_reducible rfl
          rotate_left
          · simp only [Act.put, List.setIfInBounds_toArray, List.set_cons_zero, List.set_cons_succ, i64_w, i32_w]
            rfl
          refine pure_ (i := 20) (N := some 35) (v := ?_) (a' := ?_) #[true, false, true, false, false, true, false, true, false, false, true, true, false, true, false, true, false, false, true, false, true, false, false, false, false, false, false, false, false, false] rfl rfl (any_of HT_.out (by kernel_rfl)) (fun _ _ _ h => h) (Or.inl ⟨by rfl, ?_⟩) ?_ ?_
          rotate_left
          · intro w'
            go_simp
            with_reducible rfl
          rotate_left
          · simp only [Act.put, List.setIfInBounds_toArray, List.set_cons_zero, List.set_cons_succ, i64_w, i32_w]
            rfl
          refine pure_ (i := 23) (N := some 38) (v := ?_) (a' := ?_) #[true, false, true, false, false, true, false, true, false, false, true, true, false, true, false, true, false, false, true, false, true, false, false, true, false, false, false, false, false, false] rfl rfl (any_of HT_.out (by kernel_rfl)) (fun _ _ _ h => h) (Or.inl ⟨by rfl, ?_⟩) ?_ ?_
          rotate_left
          · intro w'
            go_simp
            with_reducible rfl
          rotate_left
          · simp only [Act.put, List.setIfInBounds_toArray, List.set_cons_zero, List.set_cons_succ, i64_w, i32_w]
            rfl
          refine pure_ (i := 25) (N := some 40) (v := ?_) (a' := ?_) #[true, false, true, false, false, true, false, true, false, false, true, true, false, true, false, true, false, false, true, false, true, false, false, true, false, true, false, false, false, false] rfl rfl (any_of HT_.out (by kernel_rfl)) (fun _ _ _ h => h) (Or.inl ⟨by rfl, ?_⟩) ?_ ?_
          rotate_left
          · intro w'
            go_simp
            with_reducible rfl
          rotate_left
          · simp only [Act.put, List.setIfInBounds_toArray, List.set_cons_zero, List.set_cons_succ, i64_w, i32_w]
            rfl
          refine take_ (i := 1) (N := some 16) (v := ?_) (a' := ?_) #[true, true, true, false, false, true, false, true, false, false, true, true, false, true, false, true, false, false, true, false, true, false, false, true, false, true, false, false, false, false] rfl rfl (take_ofW HT_.out HW_.out (by kernel_rfl)) (fun _ _ _ h => h) (Or.inl ⟨by rfl, ?_⟩) hHeld ?_ ?_
          rotate_left
          · rintro w' ⟨s0, s1, s2, s3, s4, s5, s6, s7, s8, s9, s10, s11, s12, s13, s14, s15⟩
            go_simp
            with_reducible rfl
          rotate_left
          · simp only [Act.put, List.setIfInBounds_toArray, List.set_cons_zero, List.set_cons_succ, i64_w, i32_w]
            rfl
          refine take_ (i := 3) (N := some 18) (v := ?_) (a' := ?_) #[true, true, true, true, false, true, false, true, false, false, true, true, false, true, false, true, false, false, true, false, true, false, false, true, false, true, false, false, false, false] rfl rfl (take_ofW HT_.out HW_.out (by kernel_rfl)) (fun _ _ _ h => h) (Or.inl ⟨by rfl, ?_⟩) hHeld ?_ ?_
          rotate_left
          · rintro w' ⟨s0, s1, s2, s3, s4, s5, s6, s7, s8, s9, s10, s11, s12, s13, s14, s15⟩
            go_simp
            with_reducible rfl
          rotate_left
          · simp only [Act.put, List.setIfInBounds_toArray, List.set_cons_zero, List.set_cons_succ, i64_w, i32_w]
            rfl
          refine take_ (i := 6) (N := some 21) (v := ?_) (a' := ?_) #[true, true, true, true, false, true, true, true, false, false, true, true, false, true, false, true, false, false, true, false, true, false, false, true, false, true, false, false, false, false] rfl rfl (take_ofW HT_.out HW_.out (by kernel_rfl)) (fun _ _ _ h => h) (Or.inl ⟨by rfl, ?_⟩) hHeld ?_ ?_
          rotate_left
          · rintro w' ⟨s0, s1, s2, s3, s4, s5, s6, s7, s8, s9, s10, s11, s12, s13, s14, s15⟩
            go_simp
            with_reducible rfl
          rotate_left
          · simp only [Act.put, List.setIfInBounds_toArray, List.set_cons_zero, List.set_cons_succ, i64_w, i32_w]
            rfl
          refine take_ (i := 8) (N := some 23) (v := ?_) (a' := ?_) #[true, true, true, true, false, true, true, true, true, false, true, true, false, true, false, true, false, false, true, false, true, false, false, true, false, true, false, false, false, false] rfl rfl (take_ofW HT_.out HW_.out (by kernel_rfl)) (fun _ _ _ h => h) (Or.inl ⟨by rfl, ?_⟩) hHeld ?_ ?_
          rotate_left
          · rintro w' ⟨s0, s1, s2, s3, s4, s5, s6, s7, s8, s9, s10, s11, s12, s13, s14, s15⟩
            go_simp
            with_reducible rfl
          rotate_left
          · simp only [Act.put, List.setIfInBounds_toArray, List.set_cons_zero, List.set_cons_succ, i64_w, i32_w]
            rfl
          refine take_ (i := 14) (N := some 29) (v := ?_) (a' := ?_) #[true, true, true, true, false, true, true, true, true, false, true, true, false, true, true, true, false, false, true, false, true, false, false, true, false, true, false, false, false, false] rfl rfl (take_ofW HT_.out HW_.out (by kernel_rfl)) (fun _ _ _ h => h) (Or.inl ⟨by rfl, ?_⟩) hHeld ?_ ?_
          rotate_left
          · rintro w' ⟨s0, s1, s2, s3, s4, s5, s6, s7, s8, s9, s10, s11, s12, s13, s14, s15⟩
            go_simp
            with_reducible rfl
          rotate_left
          · simp only [Act.put, List.setIfInBounds_toArray, List.set_cons_zero, List.set_cons_succ, i64_w, i32_w]
            rfl
          refine take_ (i := 16) (N := some 31) (v := ?_) (a' := ?_) #[true, true, true, true, false, true, true, true, true, false, true, true, false, true, true, true, true, false, true, false, true, false, false, true, false, true, false, false, false, false] rfl rfl (take_ofW HT_.out HW_.out (by kernel_rfl)) (fun _ _ _ h => h) (Or.inl ⟨by rfl, ?_⟩) hHeld ?_ ?_
          rotate_left
          · rintro w' ⟨s0, s1, s2, s3, s4, s5, s6, s7, s8, s9, s10, s11, s12, s13, s14, s15⟩
            go_simp
            with_reducible rfl
          rotate_left
          · simp only [Act.put, List.setIfInBounds_toArray, List.set_cons_zero, List.set_cons_succ, i64_w, i32_w]
            rfl
          refine take_ (i := 19) (N := some 34) (v := ?_) (a' := ?_) #[true, true, true, true, false, true, true, true, true, false, true, true, false, true, true, true, true, false, true, true, true, false, false, true, false, true, false, false, false, false] rfl rfl (take_ofW HT_.out HW_.out (by kernel_rfl)) (fun _ _ _ h => h) (Or.inl ⟨by rfl, ?_⟩) hHeld ?_ ?_
          rotate_left
          · rintro w' ⟨s0, s1, s2, s3, s4, s5, s6, s7, s8, s9, s10, s11, s12, s13, s14, s15⟩
            go_simp
            with_reducible rfl
          rotate_left
          · simp only [Act.put, List.setIfInBounds_toArray, List.set_cons_zero, List.set_cons_succ, i64_w, i32_w]
            rfl
          refine take_ (i := 21) (N := some 36) (v := ?_) (a' := ?_) #[true, true, true, true, false, true, true, true, true, false, true, true, false, true, true, true, true, false, true, true, true, true, false, true, false, true, false, false, false, false] rfl rfl (take_ofW HT_.out HW_.out (by kernel_rfl)) (fun _ _ _ h => h) (Or.inl ⟨by rfl, ?_⟩) hHeld ?_ ?_
          rotate_left
          · rintro w' ⟨s0, s1, s2, s3, s4, s5, s6, s7, s8, s9, s10, s11, s12, s13, s14, s15⟩
            go_simp
            with_reducible rfl
          rotate_left
          · simp only [Act.put, List.setIfInBounds_toArray, List.set_cons_zero, List.set_cons_succ, i64_w, i32_w]
            rfl
          refine take_ (i := 24) (N := some 39) (v := ?_) (a' := ?_) #[true, true, true, true, false, true, true, true, true, false, true, true, false, true, true, true, true, false, true, true, true, true, false, true, true, true, false, false, false, false] rfl rfl (take_ofW HT_.out HW_.out (by kernel_rfl)) (fun _ _ _ h => h) (Or.inl ⟨by rfl, ?_⟩) hHeld ?_ ?_
          rotate_left
          · rintro w' ⟨s0, s1, s2, s3, s4, s5, s6, s7, s8, s9, s10, s11, s12, s13, s14, s15⟩
            go_simp
            with_reducible rfl
          rotate_left
          · simp only [Act.put, List.setIfInBounds_toArray, List.set_cons_zero, List.set_cons_succ, i64_w, i32_w]
            rfl
          refine take_ (i := 26) (N := some 41) (v := ?_) (a' := ?_) #[true, true, true, true, false, true, true, true, true, false, true, true, false, true, true, true, true, false, true, true, true, true, false, true, true, true, true, false, false, false] rfl rfl (take_ofW HT_.out HW_.out (by kernel_rfl)) (fun _ _ _ h => h) (Or.inl ⟨by rfl, ?_⟩) hHeld ?_ ?_
          rotate_left
          · rintro w' ⟨s0, s1, s2, s3, s4, s5, s6, s7, s8, s9, s10, s11, s12, s13, s14, s15⟩
            go_simp
            with_reducible rfl
          rotate_left
          · simp only [Act.put, List.setIfInBounds_toArray, List.set_cons_zero, List.set_cons_succ, i64_w, i32_w]
            rfl
          refine one_ (i := 4) (N := some 19) #[true, true, true, true, true, true, true, true, true, false, true, true, false, true, true, true, true, false, true, true, true, true, false, true, true, true, true, false, false, false] rfl rfl (one_of HT_.out (by kernel_rfl)) (by decide) (fun K hK => ?_)
          refine goes_ Try.func36 (by kernel_rfl) rfl #[.string a0_0, .string a1_0] (by rfl) rfl rfl (by (try simp only [List.map_toArray, List.map_cons, List.map_nil]); first | done | rfl | (simp only [List.length_drop, List.length_take]; rfl)) ?_
          with_reducible refine (joistref00_Texts.calls kj8 a0_0 a1_0 t142 _ A13.out).mono ?_
          rintro e w' ⟨rfl, ⟨nd, rfl⟩⟩
          refine ⟨_, rfl, ?_⟩
          refine hK.out _ _ ⟨(blk_cell BK140.out 0).trans rfl, (blk_cell BK140.out 1).trans rfl, (blk_cell BK140.out 2).trans rfl, (blk_cell BK140.out 3).trans rfl, (blk_cell BK140.out 4).trans rfl, (blk_cell BK140.out 5).trans rfl, (blk_cell BK140.out 6).trans rfl, (blk_cell BK140.out 7).trans rfl, (blk_cell BK141.out 0).trans rfl, (blk_cell BK141.out 1).trans rfl, (blk_cell BK141.out 2).trans rfl, (blk_cell BK141.out 3).trans rfl, (blk_cell BK141.out 4).trans rfl, (blk_cell BK141.out 5).trans rfl, (blk_cell BK141.out 6).trans rfl, (blk_cell BK141.out 7).trans rfl⟩ (fun hHeld => ?_)
          clear hK K
          refine norm_ (a' := ?_) ?_ ?_
          rotate_left
          · show Act.put _ (some 19) _ = _
            simp only [Act.put, List.setIfInBounds_toArray, List.set_cons_zero, List.set_cons_succ, i64_w, i32_w]
            rfl
          refine one_ (i := 9) (N := some 24) #[true, true, true, true, true, true, true, true, true, true, true, true, false, true, true, true, true, false, true, true, true, true, false, true, true, true, true, false, false, false] rfl rfl (one_of HT_.out (by kernel_rfl)) (by decide) (fun K hK => ?_)
          refine goes_ Try.func36 (by kernel_rfl) rfl #[.string a0_1, .string a1_1] (by rfl) rfl rfl (by (try simp only [List.map_toArray, List.map_cons, List.map_nil]); first | done | rfl | (simp only [List.length_drop, List.length_take]; rfl)) ?_
          with_reducible refine (joistref00_Texts.calls kj8 a0_1 a1_1 t143 _ A14.out).mono ?_
          rintro e w' ⟨rfl, ⟨nd, rfl⟩⟩
          refine ⟨_, rfl, ?_⟩
          refine hK.out _ _ ⟨(blk_cell BK140.out 0).trans rfl, (blk_cell BK140.out 1).trans rfl, (blk_cell BK140.out 2).trans rfl, (blk_cell BK140.out 3).trans rfl, (blk_cell BK140.out 4).trans rfl, (blk_cell BK140.out 5).trans rfl, (blk_cell BK140.out 6).trans rfl, (blk_cell BK140.out 7).trans rfl, (blk_cell BK141.out 0).trans rfl, (blk_cell BK141.out 1).trans rfl, (blk_cell BK141.out 2).trans rfl, (blk_cell BK141.out 3).trans rfl, (blk_cell BK141.out 4).trans rfl, (blk_cell BK141.out 5).trans rfl, (blk_cell BK141.out 6).trans rfl, (blk_cell BK141.out 7).trans rfl⟩ (fun hHeld => ?_)
          clear hK K
          refine norm_ (a' := ?_) ?_ ?_
          rotate_left
          · show Act.put _ (some 24) _ = _
            simp only [Act.put, List.setIfInBounds_toArray, List.set_cons_zero, List.set_cons_succ, i64_w, i32_w]
            rfl
          refine one_ (i := 12) (N := some 27) #[true, true, true, true, true, true, true, true, true, true, true, true, true, true, true, true, true, false, true, true, true, true, false, true, true, true, true, false, false, false] rfl rfl (one_of HT_.out (by kernel_rfl)) (by decide) (fun K hK => ?_)
          refine goes_ Try.func46 (by kernel_rfl) rfl #[.int .i64 x5_2, .int .i64 x6_8] (by rfl) rfl rfl (by (try simp only [List.map_toArray, List.map_cons, List.map_nil]); first | done | rfl | (simp only [List.length_drop, List.length_take]; rfl)) ?_
          with_reducible refine (joistref03_cmp.calls x5_2 x6_8 t144 _ A15.out).mono ?_
          rintro e w' ⟨rfl, ⟨nd, rfl⟩⟩
          refine ⟨_, rfl, ?_⟩
          refine hK.out _ _ ⟨(blk_cell BK140.out 0).trans rfl, (blk_cell BK140.out 1).trans rfl, (blk_cell BK140.out 2).trans rfl, (blk_cell BK140.out 3).trans rfl, (blk_cell BK140.out 4).trans rfl, (blk_cell BK140.out 5).trans rfl, (blk_cell BK140.out 6).trans rfl, (blk_cell BK140.out 7).trans rfl, (blk_cell BK141.out 0).trans rfl, (blk_cell BK141.out 1).trans rfl, (blk_cell BK141.out 2).trans rfl, (blk_cell BK141.out 3).trans rfl, (blk_cell BK141.out 4).trans rfl, (blk_cell BK141.out 5).trans rfl, (blk_cell BK141.out 6).trans rfl, (blk_cell BK141.out 7).trans rfl⟩ (fun hHeld => ?_)
          clear hK K
          refine norm_ (a' := ?_) ?_ ?_
          rotate_left
          · show Act.put _ (some 27) _ = _
            simp only [Act.put, List.setIfInBounds_toArray, List.set_cons_zero, List.set_cons_succ, i64_w, i32_w]
            rfl
          refine one_ (i := 17) (N := some 32) #[true, true, true, true, true, true, true, true, true, true, true, true, true, true, true, true, true, true, true, true, true, true, false, true, true, true, true, false, false, false] rfl rfl (one_of HT_.out (by kernel_rfl)) (by decide) (fun K hK => ?_)
          refine goes_ Try.func36 (by kernel_rfl) rfl #[.string a0_2, .string a1_2] (by rfl) rfl rfl (by (try simp only [List.map_toArray, List.map_cons, List.map_nil]); first | done | rfl | (simp only [List.length_drop, List.length_take]; rfl)) ?_
          with_reducible refine (joistref00_Texts.calls kj8 a0_2 a1_2 t145 _ A16.out).mono ?_
          rintro e w' ⟨rfl, ⟨nd, rfl⟩⟩
          refine ⟨_, rfl, ?_⟩
          refine hK.out _ _ ⟨(blk_cell BK140.out 0).trans rfl, (blk_cell BK140.out 1).trans rfl, (blk_cell BK140.out 2).trans rfl, (blk_cell BK140.out 3).trans rfl, (blk_cell BK140.out 4).trans rfl, (blk_cell BK140.out 5).trans rfl, (blk_cell BK140.out 6).trans rfl, (blk_cell BK140.out 7).trans rfl, (blk_cell BK141.out 0).trans rfl, (blk_cell BK141.out 1).trans rfl, (blk_cell BK141.out 2).trans rfl, (blk_cell BK141.out 3).trans rfl, (blk_cell BK141.out 4).trans rfl, (blk_cell BK141.out 5).trans rfl, (blk_cell BK141.out 6).trans rfl, (blk_cell BK141.out 7).trans rfl⟩ (fun hHeld => ?_)
          clear hK K
          refine norm_ (a' := ?_) ?_ ?_
          rotate_left
          · show Act.put _ (some 32) _ = _
            simp only [Act.put, List.setIfInBounds_toArray, List.set_cons_zero, List.set_cons_succ, i64_w, i32_w]
            rfl
          refine one_ (i := 22) (N := some 37) #[true, true, true, true, true, true, true, true, true, true, true, true, true, true, true, true, true, true, true, true, true, true, true, true, true, true, true, false, false, false] rfl rfl (one_of HT_.out (by kernel_rfl)) (by decide) (fun K hK => ?_)
          refine goes_ Try.func46 (by kernel_rfl) rfl #[.int .i64 a1_3, .int .i64 a0_3] (by rfl) rfl rfl (by (try simp only [List.map_toArray, List.map_cons, List.map_nil]); first | done | rfl | (simp only [List.length_drop, List.length_take]; rfl)) ?_
          with_reducible refine (joistref03_cmp.calls a1_3 a0_3 t146 _ A17.out).mono ?_
          rintro e w' ⟨rfl, ⟨nd, rfl⟩⟩
          refine ⟨_, rfl, ?_⟩
          refine hK.out _ _ ⟨(blk_cell BK140.out 0).trans rfl, (blk_cell BK140.out 1).trans rfl, (blk_cell BK140.out 2).trans rfl, (blk_cell BK140.out 3).trans rfl, (blk_cell BK140.out 4).trans rfl, (blk_cell BK140.out 5).trans rfl, (blk_cell BK140.out 6).trans rfl, (blk_cell BK140.out 7).trans rfl, (blk_cell BK141.out 0).trans rfl, (blk_cell BK141.out 1).trans rfl, (blk_cell BK141.out 2).trans rfl, (blk_cell BK141.out 3).trans rfl, (blk_cell BK141.out 4).trans rfl, (blk_cell BK141.out 5).trans rfl, (blk_cell BK141.out 6).trans rfl, (blk_cell BK141.out 7).trans rfl⟩ (fun hHeld => ?_)
          clear hK K
          refine norm_ (a' := ?_) ?_ ?_
          rotate_left
          · show Act.put _ (some 37) _ = _
            simp only [Act.put, List.setIfInBounds_toArray, List.set_cons_zero, List.set_cons_succ, i64_w, i32_w]
            rfl
          refine one_ (i := 27) (N := some 42) #[true, true, true, true, true, true, true, true, true, true, true, true, true, true, true, true, true, true, true, true, true, true, true, true, true, true, true, true, false, false] rfl rfl (one_of HT_.out (by kernel_rfl)) (by decide) (fun K hK => ?_)
          refine goes_ Try.func46 (by kernel_rfl) rfl #[.int .i64 a1_4, .int .i64 a0_4] (by rfl) rfl rfl (by (try simp only [List.map_toArray, List.map_cons, List.map_nil]); first | done | rfl | (simp only [List.length_drop, List.length_take]; rfl)) ?_
          with_reducible refine (joistref03_cmp.calls a1_4 a0_4 t147 _ A18.out).mono ?_
          rintro e w' ⟨rfl, ⟨nd, rfl⟩⟩
          refine ⟨_, rfl, ?_⟩
          refine hK.out _ _ ⟨(blk_cell BK140.out 0).trans rfl, (blk_cell BK140.out 1).trans rfl, (blk_cell BK140.out 2).trans rfl, (blk_cell BK140.out 3).trans rfl, (blk_cell BK140.out 4).trans rfl, (blk_cell BK140.out 5).trans rfl, (blk_cell BK140.out 6).trans rfl, (blk_cell BK140.out 7).trans rfl, (blk_cell BK141.out 0).trans rfl, (blk_cell BK141.out 1).trans rfl, (blk_cell BK141.out 2).trans rfl, (blk_cell BK141.out 3).trans rfl, (blk_cell BK141.out 4).trans rfl, (blk_cell BK141.out 5).trans rfl, (blk_cell BK141.out 6).trans rfl, (blk_cell BK141.out 7).trans rfl⟩ (fun hHeld => ?_)
          clear hK K
          refine norm_ (a' := ?_) ?_ ?_
          rotate_left
          · show Act.put _ (some 42) _ = _
            simp only [Act.put, List.setIfInBounds_toArray, List.set_cons_zero, List.set_cons_succ, i64_w, i32_w]
            rfl
          refine one_ (i := 28) (N := some 43) #[true, true, true, true, true, true, true, true, true, true, true, true, true, true, true, true, true, true, true, true, true, true, true, true, true, true, true, true, true, false] rfl rfl (one_of HT_.out (by kernel_rfl)) (by decide) (fun K hK => ?_)
          refine Kd.R_lit_step (Kd.int .i64) _ 3 ?hg (N := 43) ?hd (xs := ([t142, t143, t144, t145, t146, t147] : List Int)) (inner := [.int .i64 t142, .int .i64 t143, .int .i64 t144, .int .i64 t145, .int .i64 t146, .int .i64 t147]) (ok := fun _ => True) (okp := fun _ => True) ?hr ?hp (fun _ hk => hk) trivial (Below.refl _ _) (Nat.le_refl _) (by simp) ?_; (case hd => rfl); (case hg => rfl); (case hr => first | (go_simp; done) | (go_simp; rfl)); (case hp => exact (Reps.one (show Kd.M (Kd.int .i64) _ _ _ t142 [.int .i64 t142] from rfl) (Reps.one (show Kd.M (Kd.int .i64) _ _ _ t143 [.int .i64 t143] from rfl) (Reps.one (show Kd.M (Kd.int .i64) _ _ _ t144 [.int .i64 t144] from rfl) (Reps.one (show Kd.M (Kd.int .i64) _ _ _ t145 [.int .i64 t145] from rfl) (Reps.one (show Kd.M (Kd.int .i64) _ _ _ t146 [.int .i64 t146] from rfl) (Reps.one (show Kd.M (Kd.int .i64) _ _ _ t147 [.int .i64 t147] from rfl) (Reps.none _ _))))))))
          intro v149 w20 ho21 hb hg_ hnew_
          clear hg_ hnew_
          (first | rw [← Ny148.out] at ho21 | (simp only [Int.reduceToNat] at ho21; rw [← Ny148.out] at ho21))
          have n0_ := Aside0.mk (Kd.R_lower ho21 (below_size (by repeat (first | (with_reducible first | exact HB.out | apply below_alloc | apply pw_below_drewN | apply below_drew1 | refine below_set ?_ GE140.out | refine below_set ?_ GE141.out) | exact HB.out))))
          have n1_ := Aside0.mk (blk_below (g := gb140) (o := .cells #[.string a0_0, .string a0_1, .string a0_2, .int .i64 a0_3, .int .i64 a0_4, .int .i64 a0_5, .int .i64 a0_6, .string a0_7] 29 (0, 0)) (by (with_reducible repeat (first | refine blk_drewN ?_ _ | refine blk_drew ?_ | refine blk_alloc ?_ _)); exact BK140.out) hb)
          have n2_ := Aside0.mk (blk_below (g := gb141) (o := .cells #[.string a1_0, .string a1_1, .string a1_2, .int .i64 a1_3, .int .i64 a1_4, .int .i64 a1_5, .int .i64 a1_6, .string a1_7] 29 (0, 0)) (by (with_reducible repeat (first | refine blk_drewN ?_ _ | refine blk_drew ?_ | refine blk_alloc ?_ _)); exact BK141.out) hb)
          have n3_ := Aside0.mk (below_step (by repeat (first | (with_reducible first | exact HB.out | apply below_alloc | apply pw_below_drewN | apply below_drew1 | refine below_set ?_ GE140.out | refine below_set ?_ GE141.out) | exact HB.out)) hb)
          clear BK140
          clear BK141
          clear HB
          have HO150 := n0_
          have BK140 := n1_
          have BK141 := n2_
          have HB := n3_
          clear n0_ n1_ n2_ n3_
          clear hb ho21
          refine hK.out _ _ ⟨(blk_cell BK140.out 0).trans rfl, (blk_cell BK140.out 1).trans rfl, (blk_cell BK140.out 2).trans rfl, (blk_cell BK140.out 3).trans rfl, (blk_cell BK140.out 4).trans rfl, (blk_cell BK140.out 5).trans rfl, (blk_cell BK140.out 6).trans rfl, (blk_cell BK140.out 7).trans rfl, (blk_cell BK141.out 0).trans rfl, (blk_cell BK141.out 1).trans rfl, (blk_cell BK141.out 2).trans rfl, (blk_cell BK141.out 3).trans rfl, (blk_cell BK141.out 4).trans rfl, (blk_cell BK141.out 5).trans rfl, (blk_cell BK141.out 6).trans rfl, (blk_cell BK141.out 7).trans rfl⟩ (fun hHeld => ?_)
          clear hK K
          refine norm_ (a' := ?_) ?_ ?_
          rotate_left
          · show Act.put _ (some 43) _ = _
            simp only [Act.put, List.setIfInBounds_toArray, List.set_cons_zero, List.set_cons_succ, i64_w, i32_w]
            rfl
          refine pure_ (i := 29) (N := some 7) (v := ?_) (a' := ?_) #[true, true, true, true, true, true, true, true, true, true, true, true, true, true, true, true, true, true, true, true, true, true, true, true, true, true, true, true, true, true] rfl rfl (any_of HT_.out (by kernel_rfl)) (fun _ _ _ h => h) (Or.inl ⟨by rfl, ?_⟩) ?_ ?_
          rotate_left
          · intro w'
            go_simp
            with_reducible rfl
          rotate_left
          · simp only [Act.put, List.setIfInBounds_toArray, List.set_cons_zero, List.set_cons_succ, i64_w, i32_w]
            rfl
          refine done_ (done_of HT_.out (by kernel_rfl)) ?_
          try go_wp2
          go_loopg [8] kj8 (fun kq v8 w' => ∃ (x8_3 : Int), v8 = .int .i64 x8_3 ∧ Aside0 (joistref03_Order.l0 kq y148 x8_3 = some r) ∧ Aside0 (kq ≤ kj8) ∧ Aside0 (Kd.R (Kd.int .i64) 3 w' w.heap.size (fun _ => True) v149 y148) ∧ Aside0 (w'.heap[gb140]? = some (.cells #[.string a0_0, .string a0_1, .string a0_2, .int .i64 a0_3, .int .i64 a0_4, .int .i64 a0_5, .int .i64 a0_6, .string a0_7] 29 (0, 0))) ∧ Aside0 (w'.heap[gb141]? = some (.cells #[.string a1_0, .string a1_1, .string a1_2, .int .i64 a1_3, .int .i64 a1_4, .int .i64 a1_5, .int .i64 a1_6, .string a1_7] 29 (0, 0))) ∧ Aside0 (Below w.heap.size w w'))
          case atStart => exact ⟨(0), (by first | rfl | (simp; done) | (simp [*]; done)), H', ⟨Nat.le_refl _⟩, ⟨by (with_reducible repeat (first | apply Kd.R_alloc | apply Kd.R_drewN | apply Kd.R_drew)); exact HO150.out⟩, ⟨by (with_reducible repeat (first | refine blk_drewN ?_ _ | refine blk_drew ?_ | refine blk_alloc ?_ _)); exact BK140.out⟩, ⟨by (with_reducible repeat (first | refine blk_drewN ?_ _ | refine blk_drew ?_ | refine blk_alloc ?_ _)); exact BK141.out⟩, ⟨by repeat (first | (with_reducible first | exact HB.out | apply below_alloc | apply pw_below_drewN | apply below_drew1 | refine below_set ?_ GE140.out | refine below_set ?_ GE141.out) | exact HB.out)⟩⟩
          case round =>
            clear H'
            try clear c1
            try clear p2
            try clear c3
            try clear c4
            try clear c6
            try clear c8
            try clear c8b0
            try clear c8b1
            try clear c10
            try clear c12
            try clear c12b0
            try clear c12b1
            try clear hcz11_0
            try clear hcz11_1
            try clear hcz11_2
            try clear hcz11_3
            try clear hcz11_4
            try clear hcz11_5
            try clear hcz11_6
            try clear hcz11_7
            try clear hcz7_0
            try clear hcz7_1
            try clear hcz7_2
            try clear hcz7_3
            try clear hcz7_4
            try clear hcz7_5
            try clear hcz7_6
            try clear hcz7_7
            try clear hfz11_0
            try clear hfz11_1
            try clear hfz11_2
            try clear hfz11_3
            try clear hfz11_4
            try clear hfz11_5
            try clear hfz11_6
            try clear hfz11_7
            try clear hfz7_0
            try clear hfz7_1
            try clear hfz7_2
            try clear hfz7_3
            try clear hfz7_4
            try clear hfz7_5
            try clear hfz7_6
            try clear hfz7_7
            try clear p2
            obtain ⟨x8_3, rfl, HA, HK3, HO_7, BK140, BK141, HB⟩ := hrel
            cases gk with
            | zero => exact absurd HA.out (by simp [joistref03_Order.l0])
            | succ k3 =>
              have H := HA.out
              clear HA
              simp only [joistref03_Order.l0] at H
              by_cases c22 : x8_3 < (y148.length : Int)
              · rw [if_pos c22] at H
                have c22b0 : decide (x8_3 < (y148.length : Int)) = true := decide_eq_true c22
                clear c22
                by_cases c23 : 0 ≤ x8_3
                · rw [if_pos c23] at H
                  have c23b0 : decide (0 ≤ x8_3) = true := decide_eq_true c23
                  clear c23
                  by_cases c24 : (rd y148 x8_3) = 0
                  · rw [if_pos c24] at H
                    have c24b0 : ((rd y148 x8_3) == 0) = true := beq_iff_eq.mpr c24
                    have c24b1 : ((rd y148 x8_3) != 0) = false := bne_eq_false_iff_eq.mpr c24
                    clear c24
                    have H' := Aside0.mk H
                    clear H
                    obtain ⟨Ao25, co25, eo25⟩ := Kd.R_slice HO_7.out
                    subst eo25
                    have p151 : 0 ≤ (x8_3 : Int) := of_decide_eq_true (by first | (with_reducible assumption) | assumption)
                    have q151 : x8_3 < (y148.length : Int) := of_decide_eq_true (by first | (with_reducible assumption) | assumption)
                    obtain ⟨ad151, e151, hx151_0⟩ := Kd.at_int (Kd.R_reads' HO_7.out).2.2 x8_3 p151 q151
                    cases e151
                    replace p151 := eq_true p151
                    replace q151 := eq_true q151
                    go_wp2
                    go_roundg k3
                    case measure => have := HJ2.out; have := HJ8.out; have := HK3.out; omega
                    case rel => exact ⟨(wrap64 (x8_3 + 1)), (by first | rfl | (simp; done) | (simp [*]; done)), H', ⟨by have := HJ2.out; have := HJ8.out; have := HK3.out; omega⟩, ⟨by (with_reducible repeat (first | apply Kd.R_alloc | apply Kd.R_drewN | apply Kd.R_drew)); exact HO_7.out⟩, ⟨by (with_reducible repeat (first | refine blk_drewN ?_ _ | refine blk_drew ?_ | refine blk_alloc ?_ _)); exact BK140.out⟩, ⟨by (with_reducible repeat (first | refine blk_drewN ?_ _ | refine blk_drew ?_ | refine blk_alloc ?_ _)); exact BK141.out⟩, ⟨by repeat (first | (with_reducible first | exact HB.out | apply below_alloc | apply pw_below_drewN | apply below_drew1 | refine below_set ?_ GE140.out | refine below_set ?_ GE141.out) | exact HB.out)⟩⟩
                  · rw [if_neg c24] at H
                    have c24b0 : ((rd y148 x8_3) == 0) = false := beq_eq_false_iff_ne.mpr c24
                    have c24b1 : ((rd y148 x8_3) != 0) = true := bne_iff_ne.mpr c24
                    obtain rfl := Option.some.inj H
                    obtain ⟨Ao26, co26, eo26⟩ := Kd.R_slice HO_7.out
                    subst eo26
                    have p151 : 0 ≤ (x8_3 : Int) := of_decide_eq_true (by first | (with_reducible assumption) | assumption)
                    have q151 : x8_3 < (y148.length : Int) := of_decide_eq_true (by first | (with_reducible assumption) | assumption)
                    obtain ⟨ad151, e151, hx151_0⟩ := Kd.at_int (Kd.R_reads' HO_7.out).2.2 x8_3 p151 q151
                    cases e151
                    replace p151 := eq_true p151
                    replace q151 := eq_true q151
                    have p152 : 0 ≤ (x8_3 : Int) := of_decide_eq_true (by first | (with_reducible assumption) | assumption)
                    have q152 : x8_3 < (y148.length : Int) := of_decide_eq_true (by first | (with_reducible assumption) | assumption)
                    obtain ⟨ad152, e152, hx152_0⟩ := Kd.at_int (Kd.R_reads' HO_7.out).2.2 x8_3 p152 q152
                    obtain rfl : ad151 = ad152 := (by injection e152)
                    replace p152 := eq_true p152
                    replace q152 := eq_true q152
                    go_wp2
                    go_ret
                    exact ⟨by first | rfl | (simp [errW_none, errW_some] <;> rfl) | (simp [*, errW_none, errW_some] <;> rfl), by repeat (first | (with_reducible first | exact HB.out | apply below_alloc | apply pw_below_drewN | apply below_drew1 | refine below_set ?_ GE140.out | refine below_set ?_ GE141.out) | exact HB.out)⟩
                · rw [if_neg c23] at H
                  exact absurd H (by simp)
              · rw [if_neg c22] at H
                have c22b0 : decide (x8_3 < (y148.length : Int)) = false := decide_eq_false c22
                clear c22
                obtain rfl := Option.some.inj H
                obtain ⟨Ao27, co27, eo27⟩ := Kd.R_slice HO_7.out
                subst eo27
                go_wp2
                go_ret
                exact ⟨by first | rfl | (simp [errW_none, errW_some] <;> rfl) | (simp [*, errW_none, errW_some] <;> rfl), by repeat (first | (with_reducible first | exact HB.out | apply below_alloc | apply pw_below_drewN | apply below_drew1 | refine below_set ?_ GE140.out | refine below_set ?_ GE141.out) | exact HB.out)⟩

end Go.Proofs.Ythbgjaboghnpjaa.Q
