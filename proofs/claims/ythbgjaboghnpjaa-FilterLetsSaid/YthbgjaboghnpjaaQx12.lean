import Derived.Test.YthbgjaboghnpjaaQx0
import Derived.Test.YthbgjaboghnpjaaQx11
-- Written by a program of this session, out of Lean's print of the loaded program (a patched copy of the kit's print).
namespace Go.Proofs.Ythbgjaboghnpjaa.Q
open Go.RowKit Go.Proofs.YthbgjaboghnpjaaW.PrintWords Go.Proofs.YthbgjaboghnpjaaW.PrintLast Go.Proofs.YthbgjaboghnpjaaW.PrintMore
attribute [local go_sem] max2_int min2_int max_two min_two max_three min_three max_four min_four   -- for this text's walks alone
set_option linter.unusedVariables false
set_option linter.unusedSimpArgs false

/-! ### filter_Lets: function 14 -/
def filter_Lets.j0 : Nat → Bool → List ByteArray → ByteArray → ByteArray → Int → Int → Int → Int → ByteArray → ByteArray → ByteArray → Int → Int → Int → Int → ByteArray → Option (Bool)
  | 0, _, _, _, _, _, _, _, _, _, _, _, _, _, _, _, _ => none
  | k + 1, x5, x109000, x109001, x109002, x109003, x109004, x109005, x109006, x110000, x110001, x110002, x110003, x110004, x110005, x110006, x110007 => if x5 = true then (some false) else (if (Op.bytesLess x110002.toList x109001.toList) = true then (some false) else (if x109002.toList = ([] : List UInt8) then (if x110003 ≥ x109003 then (if x109004 = 0 then (some true) else (some (decide (x110003 < x109004)))) else (some false)) else (if ((Op.bytesLess x110002.toList x109002.toList) = true) then (if x110003 ≥ x109003 then (if x109004 = 0 then (some true) else (some (decide (x110003 < x109004)))) else (some false)) else (some false))))
def filter_Lets.f (k : Nat) (l0_0 : List ByteArray) (a0_1 : ByteArray) (a0_2 : ByteArray) (a0_3 : Int) (a0_4 : Int) (a0_5 : Int) (a0_6 : Int) (a1_0 : ByteArray) (a1_1 : ByteArray) (a1_2 : ByteArray) (a1_3 : Int) (a1_4 : Int) (a1_5 : Int) (a1_6 : Int) (a1_7 : ByteArray) : Option (Bool) := if (l0_0.length : Int) > 0 then ((slices_Contains_string_string.f k l0_0 a1_1).bind fun t110 => (filter_Lets.j0 k (!t110) l0_0 a0_1 a0_2 a0_3 a0_4 a0_5 a0_6 a1_0 a1_1 a1_2 a1_3 a1_4 a1_5 a1_6 a1_7)) else (filter_Lets.j0 k false l0_0 a0_1 a0_2 a0_3 a0_4 a0_5 a0_6 a1_0 a1_1 a1_2 a1_3 a1_4 a1_5 a1_6 a1_7)
theorem filter_Lets.mono_l : ∀ k, (∀ y0 y1 y2 y3 y4 y5 y6 y7 y8 y9 y10 y11 y12 y13 y14 y15, LeO (filter_Lets.j0 k y0 y1 y2 y3 y4 y5 y6 y7 y8 y9 y10 y11 y12 y13 y14 y15) (filter_Lets.j0 (k + 1) y0 y1 y2 y3 y4 y5 y6 y7 y8 y9 y10 y11 y12 y13 y14 y15))
  | 0 => fun _ _ _ _ _ _ _ _ _ _ _ _ _ _ _ _ r h => by simp [filter_Lets.j0] at h
  | k + 1 => by
    have ih0 := filter_Lets.mono_l k
    · intro y0 y1 y2 y3 y4 y5 y6 y7 y8 y9 y10 y11 y12 y13 y14 y15
      unfold filter_Lets.j0
      repeat' first
      | (with_reducible exact ih0 _ _ _ _ _ _ _ _ _ _ _ _ _ _ _ _)
      | (with_reducible exact slices_Contains_string_string.mono _ _ _)
      | (with_reducible exact LeO.refl _)
      | (with_reducible exact LeO.none _)
      | (with_reducible refine LeO.ite ?_ ?_)
      | (with_reducible refine LeO.bind ?_ (fun _ => ?_))
      | exact ih0 _ _ _ _ _ _ _ _ _ _ _ _ _ _ _ _
      | exact slices_Contains_string_string.mono _ _ _
      | exact LeO.none _
      | refine LeO.ite ?_ ?_
      | refine LeO.bind ?_ (fun _ => ?_)
theorem filter_Lets.mono : ∀ a0 a1 a2 a3 a4 a5 a6 a7 a8 a9 a10 a11 a12 a13 a14 k, LeO (filter_Lets.f k a0 a1 a2 a3 a4 a5 a6 a7 a8 a9 a10 a11 a12 a13 a14) (filter_Lets.f (k + 1) a0 a1 a2 a3 a4 a5 a6 a7 a8 a9 a10 a11 a12 a13 a14) := by
  intro a0 a1 a2 a3 a4 a5 a6 a7 a8 a9 a10 a11 a12 a13 a14 k
  have ih0 := filter_Lets.mono_l k
  unfold filter_Lets.f
  repeat' first
      | (with_reducible exact ih0 _ _ _ _ _ _ _ _ _ _ _ _ _ _ _ _)
      | (with_reducible exact slices_Contains_string_string.mono _ _ _)
      | (with_reducible exact LeO.refl _)
      | (with_reducible exact LeO.none _)
      | (with_reducible refine LeO.ite ?_ ?_)
      | (with_reducible refine LeO.bind ?_ (fun _ => ?_))
      | exact ih0 _ _ _ _ _ _ _ _ _ _ _ _ _ _ _ _
      | exact slices_Contains_string_string.mono _ _ _
      | exact LeO.none _
      | refine LeO.ite ?_ ?_
      | refine LeO.bind ?_ (fun _ => ?_)
set_option maxHeartbeats 8000000 in
set_option maxRecDepth 100000 in
theorem filter_Lets.calls (k : Nat) (A0_0 : Option Addr) (c0_0 : Nat) (l0_0 : List ByteArray) (a0_1 : ByteArray) (a0_2 : ByteArray) (a0_3 : Int) (a0_4 : Int) (a0_5 : Int) (a0_6 : Int) (a1_0 : ByteArray) (a1_1 : ByteArray) (a1_2 : ByteArray) (a1_3 : Int) (a1_4 : Int) (a1_5 : Int) (a1_6 : Int) (a1_7 : ByteArray) (r : Bool) (w : World) (hr0_0 : Kd.C Kd.string w A0_0 l0_0.length l0_0) (h : filter_Lets.f k l0_0 a0_1 a0_2 a0_3 a0_4 a0_5 a0_6 a1_0 a1_1 a1_2 a1_3 a1_4 a1_5 a1_6 a1_7 = some r) :
    Calls Try.prog 14 #[.agg #[.slice A0_0 l0_0.length c0_0, .string a0_1, .string a0_2, .int .i64 a0_3, .int .i64 a0_4, .int .i64 a0_5, .int .i64 a0_6], .agg #[.string a1_0, .string a1_1, .string a1_2, .int .i64 a1_3, .int .i64 a1_4, .int .i64 a1_5, .int .i64 a1_6, .string a1_7]] w fun e w' => e = .returned (.bool r) ∧ Below w.heap.size w w' := by
  have hu24 := Try.underlying24
  have hu29 := Try.underlying29
  have HR0_0 := Aside0.mk hr0_0
  clear hr0_0
  have HB := Aside0.mk (Below.refl w.heap.size w)
  have H : (if (l0_0.length : Int) > 0 then ((slices_Contains_string_string.f k l0_0 a1_1).bind fun t110 => (filter_Lets.j0 k (!t110) l0_0 a0_1 a0_2 a0_3 a0_4 a0_5 a0_6 a1_0 a1_1 a1_2 a1_3 a1_4 a1_5 a1_6 a1_7)) else (filter_Lets.j0 k false l0_0 a0_1 a0_2 a0_3 a0_4 a0_5 a0_6 a1_0 a1_1 a1_2 a1_3 a1_4 a1_5 a1_6 a1_7)) = some r := h
  clear h
  have HC3 := Aside0.mk H
  clear H
  go_enter Try.func14, Try.ntmps14
  go_upto_region 1 with (first | ((with_reducible refine gate_dst (N := 2) rfl ?_); refine box_event ?hg (N := 2) ?hd (cs := #[.slice A0_0 l0_0.length c0_0, .string a0_1, .string a0_2, .int .i64 a0_3, .int .i64 a0_4, .int .i64 a0_5, .int .i64 a0_6]) (t := 24) ?hr ?_; (case hd => rfl); (case hg => rfl); (case hr => first | (go_simp; done) | (go_simp; rfl)); intro gb108 hg w4 hbox hb; have n0_ := Aside0.mk (below_step (by repeat (first | (with_reducible first | exact HB.out | apply below_alloc | apply pw_below_drewN | apply below_drew1) | exact HB.out)) hb); have n1_ := Aside0.mk (hbox); have n2_ := Aside0.mk ((by rw [hg]; exact (below_size (by repeat (first | (with_reducible first | exact HB.out | apply below_alloc | apply pw_below_drewN | apply below_drew1) | exact HB.out))) : w.heap.size ≤ gb108)); have n3_ := Aside0.mk ((by rw [hg]; exact (below_size (by repeat (first | (with_reducible first | exact HB.out | apply below_alloc | apply pw_below_drewN | apply below_drew1) | exact HB.out))) : w.heap.size ≤ gb108)); clear HB; have HB := n0_; have BK108 := n1_; have GW108 := n2_; have GE108 := n3_; clear n0_ n1_ n2_ n3_; clear hb hbox hg) | ((with_reducible refine gate_dst (N := 3) rfl ?_); refine box_event ?hg (N := 3) ?hd (cs := #[.string a1_0, .string a1_1, .string a1_2, .int .i64 a1_3, .int .i64 a1_4, .int .i64 a1_5, .int .i64 a1_6, .string a1_7]) (t := 29) ?hr ?_; (case hd => rfl); (case hg => rfl); (case hr => first | (go_simp; done) | (go_simp; rfl)); intro gb109 hg w5 hbox hb; have n0_ := Aside0.mk (blk_below (g := gb108) (o := .cells #[.slice A0_0 l0_0.length c0_0, .string a0_1, .string a0_2, .int .i64 a0_3, .int .i64 a0_4, .int .i64 a0_5, .int .i64 a0_6] 24 (0, 0)) (by (with_reducible repeat (first | refine blk_drewN ?_ _ | refine blk_drew ?_ | refine blk_alloc ?_ _)); exact BK108.out) hb); have n1_ := Aside0.mk (below_step (by repeat (first | (with_reducible first | exact HB.out | apply below_alloc | apply pw_below_drewN | apply below_drew1 | refine below_set ?_ GE108.out) | exact HB.out)) hb); have n2_ := Aside0.mk (hbox); have n3_ := Aside0.mk ((by rw [hg]; exact (below_size (by repeat (first | (with_reducible first | exact HB.out | apply below_alloc | apply pw_below_drewN | apply below_drew1 | refine below_set ?_ GE108.out) | exact HB.out))) : w.heap.size ≤ gb109)); have n4_ := Aside0.mk ((by rw [hg]; exact (below_size (by repeat (first | (with_reducible first | exact HB.out | apply below_alloc | apply pw_below_drewN | apply below_drew1 | refine below_set ?_ GE108.out) | exact HB.out))) : w.heap.size ≤ gb109)); have n5_ := Aside0.mk ((by rw [hg]; exact Nat.ne_of_lt (blk_lt (g := gb108) (o := .cells #[.slice A0_0 l0_0.length c0_0, .string a0_1, .string a0_2, .int .i64 a0_3, .int .i64 a0_4, .int .i64 a0_5, .int .i64 a0_6] 24 (0, 0)) (by (with_reducible repeat (first | refine blk_drewN ?_ _ | refine blk_drew ?_ | refine blk_alloc ?_ _)); exact BK108.out)) : gb108 ≠ gb109)); have n6_ := Aside0.mk ((by rw [hg]; exact Nat.ne_of_gt (blk_lt (g := gb108) (o := .cells #[.slice A0_0 l0_0.length c0_0, .string a0_1, .string a0_2, .int .i64 a0_3, .int .i64 a0_4, .int .i64 a0_5, .int .i64 a0_6] 24 (0, 0)) (by (with_reducible repeat (first | refine blk_drewN ?_ _ | refine blk_drew ?_ | refine blk_alloc ?_ _)); exact BK108.out)) : gb109 ≠ gb108)); clear BK108; clear HB; have BK108 := n0_; have HB := n1_; have BK109 := n2_; have GW109 := n3_; have GE109 := n4_; have NB108_109 := n5_; have NB109_108 := n6_; clear n0_ n1_ n2_ n3_ n4_ n5_ n6_; clear hb hbox hg))
  (try simp only [Act.put, List.setIfInBounds_toArray, List.set_cons_zero, List.set_cons_succ])
  go_cut [5] (fun v5 wc => ∃ (kq : Nat) (x5_2 : Bool), v5 = .bool x5_2 ∧ Aside0 (filter_Lets.j0 kq x5_2 l0_0 a0_1 a0_2 a0_3 a0_4 a0_5 a0_6 a1_0 a1_1 a1_2 a1_3 a1_4 a1_5 a1_6 a1_7 = some r) ∧ Aside0 (kq ≤ k) ∧ Aside0 (wc.heap[gb108]? = some (.cells #[(.slice A0_0 l0_0.length c0_0), .string a0_1, .string a0_2, .int .i64 a0_3, .int .i64 a0_4, .int .i64 a0_5, .int .i64 a0_6] 24 (0, 0))) ∧ Aside0 (wc.heap[gb109]? = some (.cells #[.string a1_0, .string a1_1, .string a1_2, .int .i64 a1_3, .int .i64 a1_4, .int .i64 a1_5, .int .i64 a1_6, .string a1_7] 29 (0, 0))) ∧ Aside0 (Below w.heap.size w wc))
  case first =>
    have H := HC3.out
    clear HC3
    by_cases c6 : (l0_0.length : Int) > 0
    · rw [if_pos c6] at H
      have c6b0 : decide (0 < (l0_0.length : Int)) = true := decide_eq_true c6
      have c6b1 : decide (0 < l0_0.length) = true := decide_eq_true (by omega)
      clear c6
      (first | rw [c6b0] | (simp only [i64_w, i32_w]; rw [c6b0]) | skip)
      replace H := Option.bind_eq_some_iff.mp H
      obtain ⟨t110, A70, H⟩ := H
      replace H : (filter_Lets.j0 k (!t110) l0_0 a0_1 a0_2 a0_3 a0_4 a0_5 a0_6 a1_0 a1_1 a1_2 a1_3 a1_4 a1_5 a1_6 a1_7) = some r := H
      have A7 := Aside0.mk A70
      clear A70
      have H' := Aside0.mk H
      clear H
      have hnb8 := NB108_109.out
      have hnc8 := NB109_108.out
      have hcz9_0 : w5.cell? ⟨gb108, 0, none⟩ = some (.slice A0_0 l0_0.length c0_0) := (blk_cell BK108.out 0).trans rfl
      have hcz9_1 : w5.cell? ⟨gb108, 1, none⟩ = some (.string a0_1) := (blk_cell BK108.out 1).trans rfl
      have hcz9_2 : w5.cell? ⟨gb108, 2, none⟩ = some (.string a0_2) := (blk_cell BK108.out 2).trans rfl
      have hcz9_3 : w5.cell? ⟨gb108, 3, none⟩ = some (.int .i64 a0_3) := (blk_cell BK108.out 3).trans rfl
      have hcz9_4 : w5.cell? ⟨gb108, 4, none⟩ = some (.int .i64 a0_4) := (blk_cell BK108.out 4).trans rfl
      have hcz9_5 : w5.cell? ⟨gb108, 5, none⟩ = some (.int .i64 a0_5) := (blk_cell BK108.out 5).trans rfl
      have hcz9_6 : w5.cell? ⟨gb108, 6, none⟩ = some (.int .i64 a0_6) := (blk_cell BK108.out 6).trans rfl
      have hfz9_0 := blk_frozen BK108.out 0
      have hfz9_1 := blk_frozen BK108.out 1
      have hfz9_2 := blk_frozen BK108.out 2
      have hfz9_3 := blk_frozen BK108.out 3
      have hfz9_4 := blk_frozen BK108.out 4
      have hfz9_5 := blk_frozen BK108.out 5
      have hfz9_6 := blk_frozen BK108.out 6
      have hcz10_0 : w5.cell? ⟨gb109, 0, none⟩ = some (.string a1_0) := (blk_cell BK109.out 0).trans rfl
      have hcz10_1 : w5.cell? ⟨gb109, 1, none⟩ = some (.string a1_1) := (blk_cell BK109.out 1).trans rfl
      have hcz10_2 : w5.cell? ⟨gb109, 2, none⟩ = some (.string a1_2) := (blk_cell BK109.out 2).trans rfl
      have hcz10_3 : w5.cell? ⟨gb109, 3, none⟩ = some (.int .i64 a1_3) := (blk_cell BK109.out 3).trans rfl
      have hcz10_4 : w5.cell? ⟨gb109, 4, none⟩ = some (.int .i64 a1_4) := (blk_cell BK109.out 4).trans rfl
      have hcz10_5 : w5.cell? ⟨gb109, 5, none⟩ = some (.int .i64 a1_5) := (blk_cell BK109.out 5).trans rfl
      have hcz10_6 : w5.cell? ⟨gb109, 6, none⟩ = some (.int .i64 a1_6) := (blk_cell BK109.out 6).trans rfl
      have hcz10_7 : w5.cell? ⟨gb109, 7, none⟩ = some (.string a1_7) := (blk_cell BK109.out 7).trans rfl
      have hfz10_0 := blk_frozen BK109.out 0
      have hfz10_1 := blk_frozen BK109.out 1
      have hfz10_2 := blk_frozen BK109.out 2
      have hfz10_3 := blk_frozen BK109.out 3
      have hfz10_4 := blk_frozen BK109.out 4
      have hfz10_5 := blk_frozen BK109.out 5
      have hfz10_6 := blk_frozen BK109.out 6
      have hfz10_7 := blk_frozen BK109.out 7
      go_wp2_with (first | (go_at_call 35; (with_reducible refine (slices_Contains_string_string.calls k _ _ l0_0 a1_1 t110 _ ?side1 A7.out).mono ?_); (case side1 => repeat (first | exact (Kd.C_below HR0_0.out HB.out) | (with_reducible refine Kd.C_alloc ?_ _) | (with_reducible refine Kd.C_drewN ?_ _) | (with_reducible refine Kd.C_drew ?_))); rintro e w' ⟨rfl, ⟨nd, rfl⟩⟩))
      go_meet
      case rel => exact ⟨_, (!t110), (by first | rfl | (simp; done) | (simp [*]; done)), H', ⟨by first | omega | exact Nat.le_refl _⟩, ⟨by (with_reducible repeat (first | refine blk_drewN ?_ _ | refine blk_drew ?_ | refine blk_alloc ?_ _)); exact BK108.out⟩, ⟨by (with_reducible repeat (first | refine blk_drewN ?_ _ | refine blk_drew ?_ | refine blk_alloc ?_ _)); exact BK109.out⟩, ⟨by repeat (first | (with_reducible first | exact HB.out | apply below_alloc | apply pw_below_drewN | apply below_drew1 | refine below_set ?_ GE108.out | refine below_set ?_ GE109.out) | exact HB.out)⟩⟩
    · rw [if_neg c6] at H
      have c6b0 : decide (0 < (l0_0.length : Int)) = false := decide_eq_false c6
      have c6b1 : decide (0 < l0_0.length) = false := decide_eq_false (by omega)
      clear c6
      (first | rw [c6b0] | (simp only [i64_w, i32_w]; rw [c6b0]) | skip)
      have H' := Aside0.mk H
      clear H
      have hnb11 := NB108_109.out
      have hnc11 := NB109_108.out
      have hcz12_0 : w5.cell? ⟨gb108, 0, none⟩ = some (.slice A0_0 l0_0.length c0_0) := (blk_cell BK108.out 0).trans rfl
      have hcz12_1 : w5.cell? ⟨gb108, 1, none⟩ = some (.string a0_1) := (blk_cell BK108.out 1).trans rfl
      have hcz12_2 : w5.cell? ⟨gb108, 2, none⟩ = some (.string a0_2) := (blk_cell BK108.out 2).trans rfl
      have hcz12_3 : w5.cell? ⟨gb108, 3, none⟩ = some (.int .i64 a0_3) := (blk_cell BK108.out 3).trans rfl
      have hcz12_4 : w5.cell? ⟨gb108, 4, none⟩ = some (.int .i64 a0_4) := (blk_cell BK108.out 4).trans rfl
      have hcz12_5 : w5.cell? ⟨gb108, 5, none⟩ = some (.int .i64 a0_5) := (blk_cell BK108.out 5).trans rfl
      have hcz12_6 : w5.cell? ⟨gb108, 6, none⟩ = some (.int .i64 a0_6) := (blk_cell BK108.out 6).trans rfl
      have hfz12_0 := blk_frozen BK108.out 0
      have hfz12_1 := blk_frozen BK108.out 1
      have hfz12_2 := blk_frozen BK108.out 2
      have hfz12_3 := blk_frozen BK108.out 3
      have hfz12_4 := blk_frozen BK108.out 4
      have hfz12_5 := blk_frozen BK108.out 5
      have hfz12_6 := blk_frozen BK108.out 6
      go_wp2
      go_meet
      case rel => exact ⟨_, (false), (by first | rfl | (simp; done) | (simp [*]; done)), H', ⟨by first | omega | exact Nat.le_refl _⟩, ⟨by (with_reducible repeat (first | refine blk_drewN ?_ _ | refine blk_drew ?_ | refine blk_alloc ?_ _)); exact BK108.out⟩, ⟨by (with_reducible repeat (first | refine blk_drewN ?_ _ | refine blk_drew ?_ | refine blk_alloc ?_ _)); exact BK109.out⟩, ⟨by repeat (first | (with_reducible first | exact HB.out | apply below_alloc | apply pw_below_drewN | apply below_drew1 | refine below_set ?_ GE108.out | refine below_set ?_ GE109.out) | exact HB.out)⟩⟩
  case rest =>
    clear HC3
    try clear c1
    try clear p2
    try clear c6
    try clear c6b0
    try clear c6b1
    try clear c8
    try clear c11
    try clear hcz10_0
    try clear hcz10_1
    try clear hcz10_2
    try clear hcz10_3
    try clear hcz10_4
    try clear hcz10_5
    try clear hcz10_6
    try clear hcz10_7
    try clear hcz12_0
    try clear hcz12_1
    try clear hcz12_2
    try clear hcz12_3
    try clear hcz12_4
    try clear hcz12_5
    try clear hcz12_6
    try clear hcz9_0
    try clear hcz9_1
    try clear hcz9_2
    try clear hcz9_3
    try clear hcz9_4
    try clear hcz9_5
    try clear hcz9_6
    try clear hfz10_0
    try clear hfz10_1
    try clear hfz10_2
    try clear hfz10_3
    try clear hfz10_4
    try clear hfz10_5
    try clear hfz10_6
    try clear hfz10_7
    try clear hfz12_0
    try clear hfz12_1
    try clear hfz12_2
    try clear hfz12_3
    try clear hfz12_4
    try clear hfz12_5
    try clear hfz12_6
    try clear hfz9_0
    try clear hfz9_1
    try clear hfz9_2
    try clear hfz9_3
    try clear hfz9_4
    try clear hfz9_5
    try clear hfz9_6
    obtain ⟨kq, x5_2, rfl, HA, HJ2, BK108, BK109, HB⟩ := hcut
    cases kq with
    | zero => exact absurd HA.out (by simp [filter_Lets.j0])
    | succ kj2 =>
      have H := HA.out
      clear HA
      simp only [filter_Lets.j0] at H
      by_cases c13 : x5_2 = true
      · subst c13
        have H1 : (some false) = some r := by rw [if_pos rfl] at H; exact H
        clear H
        have H := H1
        clear H1
        obtain rfl := Option.some.inj H
        go_wp2
        go_ret
        exact ⟨by first | rfl | (simp [errW_none, errW_some] <;> rfl) | (simp [*, errW_none, errW_some] <;> rfl), by repeat (first | (with_reducible first | exact HB.out | apply below_alloc | apply pw_below_drewN | apply below_drew1 | refine below_set ?_ GE108.out | refine below_set ?_ GE109.out) | exact HB.out)⟩
      · replace c13 := Bool.eq_false_iff.mpr c13
        subst c13
        have H1 : (if (Op.bytesLess a1_2.toList a0_1.toList) = true then (some false) else (if a0_2.toList = ([] : List UInt8) then (if a1_3 ≥ a0_3 then (if a0_4 = 0 then (some true) else (some (decide (a1_3 < a0_4)))) else (some false)) else (if ((Op.bytesLess a1_2.toList a0_2.toList) = true) then (if a1_3 ≥ a0_3 then (if a0_4 = 0 then (some true) else (some (decide (a1_3 < a0_4)))) else (some false)) else (some false)))) = some r := by rw [if_neg (show ¬ (false = true) by decide)] at H; exact H
        clear H
        have H := H1
        clear H1
        by_cases c14 : (Op.bytesLess a1_2.toList a0_1.toList) = true
        · rw [if_pos c14] at H
          have c14b0 : (Op.bytesLess a1_2.toList a0_1.toList) = true := c14
          clear c14
          obtain rfl := Option.some.inj H
          have hnb15 := NB109_108.out
          have hnc15 := NB108_109.out
          have hcz16_0 : wc.cell? ⟨gb109, 0, none⟩ = some (.string a1_0) := (blk_cell BK109.out 0).trans rfl
          have hcz16_1 : wc.cell? ⟨gb109, 1, none⟩ = some (.string a1_1) := (blk_cell BK109.out 1).trans rfl
          have hcz16_2 : wc.cell? ⟨gb109, 2, none⟩ = some (.string a1_2) := (blk_cell BK109.out 2).trans rfl
          have hcz16_3 : wc.cell? ⟨gb109, 3, none⟩ = some (.int .i64 a1_3) := (blk_cell BK109.out 3).trans rfl
          have hcz16_4 : wc.cell? ⟨gb109, 4, none⟩ = some (.int .i64 a1_4) := (blk_cell BK109.out 4).trans rfl
          have hcz16_5 : wc.cell? ⟨gb109, 5, none⟩ = some (.int .i64 a1_5) := (blk_cell BK109.out 5).trans rfl
          have hcz16_6 : wc.cell? ⟨gb109, 6, none⟩ = some (.int .i64 a1_6) := (blk_cell BK109.out 6).trans rfl
          have hcz16_7 : wc.cell? ⟨gb109, 7, none⟩ = some (.string a1_7) := (blk_cell BK109.out 7).trans rfl
          have hfz16_0 := blk_frozen BK109.out 0
          have hfz16_1 := blk_frozen BK109.out 1
          have hfz16_2 := blk_frozen BK109.out 2
          have hfz16_3 := blk_frozen BK109.out 3
          have hfz16_4 := blk_frozen BK109.out 4
          have hfz16_5 := blk_frozen BK109.out 5
          have hfz16_6 := blk_frozen BK109.out 6
          have hfz16_7 := blk_frozen BK109.out 7
          have hcz17_0 : wc.cell? ⟨gb108, 0, none⟩ = some (.slice A0_0 l0_0.length c0_0) := (blk_cell BK108.out 0).trans rfl
          have hcz17_1 : wc.cell? ⟨gb108, 1, none⟩ = some (.string a0_1) := (blk_cell BK108.out 1).trans rfl
          have hcz17_2 : wc.cell? ⟨gb108, 2, none⟩ = some (.string a0_2) := (blk_cell BK108.out 2).trans rfl
          have hcz17_3 : wc.cell? ⟨gb108, 3, none⟩ = some (.int .i64 a0_3) := (blk_cell BK108.out 3).trans rfl
          have hcz17_4 : wc.cell? ⟨gb108, 4, none⟩ = some (.int .i64 a0_4) := (blk_cell BK108.out 4).trans rfl
          have hcz17_5 : wc.cell? ⟨gb108, 5, none⟩ = some (.int .i64 a0_5) := (blk_cell BK108.out 5).trans rfl
          have hcz17_6 : wc.cell? ⟨gb108, 6, none⟩ = some (.int .i64 a0_6) := (blk_cell BK108.out 6).trans rfl
          have hfz17_0 := blk_frozen BK108.out 0
          have hfz17_1 := blk_frozen BK108.out 1
          have hfz17_2 := blk_frozen BK108.out 2
          have hfz17_3 := blk_frozen BK108.out 3
          have hfz17_4 := blk_frozen BK108.out 4
          have hfz17_5 := blk_frozen BK108.out 5
          have hfz17_6 := blk_frozen BK108.out 6
          go_wp2
          go_ret
          exact ⟨by first | rfl | (simp [errW_none, errW_some] <;> rfl) | (simp [*, errW_none, errW_some] <;> rfl), by repeat (first | (with_reducible first | exact HB.out | apply below_alloc | apply pw_below_drewN | apply below_drew1 | refine below_set ?_ GE108.out | refine below_set ?_ GE109.out) | exact HB.out)⟩
        · rw [if_neg c14] at H
          have c14b0 : (Op.bytesLess a1_2.toList a0_1.toList) = false := by simpa using c14
          clear c14
          by_cases c18 : a0_2.toList = ([] : List UInt8)
          · rw [if_pos c18] at H
            have c18b0 : (a0_2.toList == ([] : List UInt8)) = true := beq_iff_eq.mpr c18
            have c18b1 : (a0_2.toList != ([] : List UInt8)) = false := bne_eq_false_iff_eq.mpr c18
            clear c18
            by_cases c19 : a1_3 ≥ a0_3
            · rw [if_pos c19] at H
              have c19b0 : decide (a0_3 ≤ a1_3) = true := decide_eq_true c19
              clear c19
              by_cases c20 : a0_4 = 0
              · rw [if_pos c20] at H
                have c20b0 : (a0_4 == 0) = true := beq_iff_eq.mpr c20
                have c20b1 : (a0_4 != 0) = false := bne_eq_false_iff_eq.mpr c20
                clear c20
                obtain rfl := Option.some.inj H
                have hnb21 := NB109_108.out
                have hnc21 := NB108_109.out
                have hcz22_0 : wc.cell? ⟨gb109, 0, none⟩ = some (.string a1_0) := (blk_cell BK109.out 0).trans rfl
                have hcz22_1 : wc.cell? ⟨gb109, 1, none⟩ = some (.string a1_1) := (blk_cell BK109.out 1).trans rfl
                have hcz22_2 : wc.cell? ⟨gb109, 2, none⟩ = some (.string a1_2) := (blk_cell BK109.out 2).trans rfl
                have hcz22_3 : wc.cell? ⟨gb109, 3, none⟩ = some (.int .i64 a1_3) := (blk_cell BK109.out 3).trans rfl
                have hcz22_4 : wc.cell? ⟨gb109, 4, none⟩ = some (.int .i64 a1_4) := (blk_cell BK109.out 4).trans rfl
                have hcz22_5 : wc.cell? ⟨gb109, 5, none⟩ = some (.int .i64 a1_5) := (blk_cell BK109.out 5).trans rfl
                have hcz22_6 : wc.cell? ⟨gb109, 6, none⟩ = some (.int .i64 a1_6) := (blk_cell BK109.out 6).trans rfl
                have hcz22_7 : wc.cell? ⟨gb109, 7, none⟩ = some (.string a1_7) := (blk_cell BK109.out 7).trans rfl
                have hfz22_0 := blk_frozen BK109.out 0
                have hfz22_1 := blk_frozen BK109.out 1
                have hfz22_2 := blk_frozen BK109.out 2
                have hfz22_3 := blk_frozen BK109.out 3
                have hfz22_4 := blk_frozen BK109.out 4
                have hfz22_5 := blk_frozen BK109.out 5
                have hfz22_6 := blk_frozen BK109.out 6
                have hfz22_7 := blk_frozen BK109.out 7
                have hcz23_0 : wc.cell? ⟨gb108, 0, none⟩ = some (.slice A0_0 l0_0.length c0_0) := (blk_cell BK108.out 0).trans rfl
                have hcz23_1 : wc.cell? ⟨gb108, 1, none⟩ = some (.string a0_1) := (blk_cell BK108.out 1).trans rfl
                have hcz23_2 : wc.cell? ⟨gb108, 2, none⟩ = some (.string a0_2) := (blk_cell BK108.out 2).trans rfl
                have hcz23_3 : wc.cell? ⟨gb108, 3, none⟩ = some (.int .i64 a0_3) := (blk_cell BK108.out 3).trans rfl
                have hcz23_4 : wc.cell? ⟨gb108, 4, none⟩ = some (.int .i64 a0_4) := (blk_cell BK108.out 4).trans rfl
                have hcz23_5 : wc.cell? ⟨gb108, 5, none⟩ = some (.int .i64 a0_5) := (blk_cell BK108.out 5).trans rfl
                have hcz23_6 : wc.cell? ⟨gb108, 6, none⟩ = some (.int .i64 a0_6) := (blk_cell BK108.out 6).trans rfl
                have hfz23_0 := blk_frozen BK108.out 0
                have hfz23_1 := blk_frozen BK108.out 1
                have hfz23_2 := blk_frozen BK108.out 2
                have hfz23_3 := blk_frozen BK108.out 3
                have hfz23_4 := blk_frozen BK108.out 4
                have hfz23_5 := blk_frozen BK108.out 5
                have hfz23_6 := blk_frozen BK108.out 6
                go_wp2
                go_ret
                exact ⟨by first | rfl | (simp [errW_none, errW_some] <;> rfl) | (simp [*, errW_none, errW_some] <;> rfl), by repeat (first | (with_reducible first | exact HB.out | apply below_alloc | apply pw_below_drewN | apply below_drew1 | refine below_set ?_ GE108.out | refine below_set ?_ GE109.out) | exact HB.out)⟩
              · rw [if_neg c20] at H
                have c20b0 : (a0_4 == 0) = false := beq_eq_false_iff_ne.mpr c20
                have c20b1 : (a0_4 != 0) = true := bne_iff_ne.mpr c20
                obtain rfl := Option.some.inj H
                have hnb24 := NB109_108.out
                have hnc24 := NB108_109.out
                have hcz25_0 : wc.cell? ⟨gb109, 0, none⟩ = some (.string a1_0) := (blk_cell BK109.out 0).trans rfl
                have hcz25_1 : wc.cell? ⟨gb109, 1, none⟩ = some (.string a1_1) := (blk_cell BK109.out 1).trans rfl
                have hcz25_2 : wc.cell? ⟨gb109, 2, none⟩ = some (.string a1_2) := (blk_cell BK109.out 2).trans rfl
                have hcz25_3 : wc.cell? ⟨gb109, 3, none⟩ = some (.int .i64 a1_3) := (blk_cell BK109.out 3).trans rfl
                have hcz25_4 : wc.cell? ⟨gb109, 4, none⟩ = some (.int .i64 a1_4) := (blk_cell BK109.out 4).trans rfl
                have hcz25_5 : wc.cell? ⟨gb109, 5, none⟩ = some (.int .i64 a1_5) := (blk_cell BK109.out 5).trans rfl
                have hcz25_6 : wc.cell? ⟨gb109, 6, none⟩ = some (.int .i64 a1_6) := (blk_cell BK109.out 6).trans rfl
                have hcz25_7 : wc.cell? ⟨gb109, 7, none⟩ = some (.string a1_7) := (blk_cell BK109.out 7).trans rfl
                have hfz25_0 := blk_frozen BK109.out 0
                have hfz25_1 := blk_frozen BK109.out 1
                have hfz25_2 := blk_frozen BK109.out 2
                have hfz25_3 := blk_frozen BK109.out 3
                have hfz25_4 := blk_frozen BK109.out 4
                have hfz25_5 := blk_frozen BK109.out 5
                have hfz25_6 := blk_frozen BK109.out 6
                have hfz25_7 := blk_frozen BK109.out 7
                have hcz26_0 : wc.cell? ⟨gb108, 0, none⟩ = some (.slice A0_0 l0_0.length c0_0) := (blk_cell BK108.out 0).trans rfl
                have hcz26_1 : wc.cell? ⟨gb108, 1, none⟩ = some (.string a0_1) := (blk_cell BK108.out 1).trans rfl
                have hcz26_2 : wc.cell? ⟨gb108, 2, none⟩ = some (.string a0_2) := (blk_cell BK108.out 2).trans rfl
                have hcz26_3 : wc.cell? ⟨gb108, 3, none⟩ = some (.int .i64 a0_3) := (blk_cell BK108.out 3).trans rfl
                have hcz26_4 : wc.cell? ⟨gb108, 4, none⟩ = some (.int .i64 a0_4) := (blk_cell BK108.out 4).trans rfl
                have hcz26_5 : wc.cell? ⟨gb108, 5, none⟩ = some (.int .i64 a0_5) := (blk_cell BK108.out 5).trans rfl
                have hcz26_6 : wc.cell? ⟨gb108, 6, none⟩ = some (.int .i64 a0_6) := (blk_cell BK108.out 6).trans rfl
                have hfz26_0 := blk_frozen BK108.out 0
                have hfz26_1 := blk_frozen BK108.out 1
                have hfz26_2 := blk_frozen BK108.out 2
                have hfz26_3 := blk_frozen BK108.out 3
                have hfz26_4 := blk_frozen BK108.out 4
                have hfz26_5 := blk_frozen BK108.out 5
                have hfz26_6 := blk_frozen BK108.out 6
                go_wp2
                go_ret
                exact ⟨by first | rfl | (simp [errW_none, errW_some] <;> rfl) | (simp [*, errW_none, errW_some] <;> rfl), by repeat (first | (with_reducible first | exact HB.out | apply below_alloc | apply pw_below_drewN | apply below_drew1 | refine below_set ?_ GE108.out | refine below_set ?_ GE109.out) | exact HB.out)⟩
            · rw [if_neg c19] at H
              have c19b0 : decide (a0_3 ≤ a1_3) = false := decide_eq_false c19
              clear c19
              obtain rfl := Option.some.inj H
              have hnb27 := NB109_108.out
              have hnc27 := NB108_109.out
              have hcz28_0 : wc.cell? ⟨gb109, 0, none⟩ = some (.string a1_0) := (blk_cell BK109.out 0).trans rfl
              have hcz28_1 : wc.cell? ⟨gb109, 1, none⟩ = some (.string a1_1) := (blk_cell BK109.out 1).trans rfl
              have hcz28_2 : wc.cell? ⟨gb109, 2, none⟩ = some (.string a1_2) := (blk_cell BK109.out 2).trans rfl
              have hcz28_3 : wc.cell? ⟨gb109, 3, none⟩ = some (.int .i64 a1_3) := (blk_cell BK109.out 3).trans rfl
              have hcz28_4 : wc.cell? ⟨gb109, 4, none⟩ = some (.int .i64 a1_4) := (blk_cell BK109.out 4).trans rfl
              have hcz28_5 : wc.cell? ⟨gb109, 5, none⟩ = some (.int .i64 a1_5) := (blk_cell BK109.out 5).trans rfl
              have hcz28_6 : wc.cell? ⟨gb109, 6, none⟩ = some (.int .i64 a1_6) := (blk_cell BK109.out 6).trans rfl
              have hcz28_7 : wc.cell? ⟨gb109, 7, none⟩ = some (.string a1_7) := (blk_cell BK109.out 7).trans rfl
              have hfz28_0 := blk_frozen BK109.out 0
              have hfz28_1 := blk_frozen BK109.out 1
              have hfz28_2 := blk_frozen BK109.out 2
              have hfz28_3 := blk_frozen BK109.out 3
              have hfz28_4 := blk_frozen BK109.out 4
              have hfz28_5 := blk_frozen BK109.out 5
              have hfz28_6 := blk_frozen BK109.out 6
              have hfz28_7 := blk_frozen BK109.out 7
              have hcz29_0 : wc.cell? ⟨gb108, 0, none⟩ = some (.slice A0_0 l0_0.length c0_0) := (blk_cell BK108.out 0).trans rfl
              have hcz29_1 : wc.cell? ⟨gb108, 1, none⟩ = some (.string a0_1) := (blk_cell BK108.out 1).trans rfl
              have hcz29_2 : wc.cell? ⟨gb108, 2, none⟩ = some (.string a0_2) := (blk_cell BK108.out 2).trans rfl
              have hcz29_3 : wc.cell? ⟨gb108, 3, none⟩ = some (.int .i64 a0_3) := (blk_cell BK108.out 3).trans rfl
              have hcz29_4 : wc.cell? ⟨gb108, 4, none⟩ = some (.int .i64 a0_4) := (blk_cell BK108.out 4).trans rfl
              have hcz29_5 : wc.cell? ⟨gb108, 5, none⟩ = some (.int .i64 a0_5) := (blk_cell BK108.out 5).trans rfl
              have hcz29_6 : wc.cell? ⟨gb108, 6, none⟩ = some (.int .i64 a0_6) := (blk_cell BK108.out 6).trans rfl
              have hfz29_0 := blk_frozen BK108.out 0
              have hfz29_1 := blk_frozen BK108.out 1
              have hfz29_2 := blk_frozen BK108.out 2
              have hfz29_3 := blk_frozen BK108.out 3
              have hfz29_4 := blk_frozen BK108.out 4
              have hfz29_5 := blk_frozen BK108.out 5
              have hfz29_6 := blk_frozen BK108.out 6
              go_wp2
              go_ret
              exact ⟨by first | rfl | (simp [errW_none, errW_some] <;> rfl) | (simp [*, errW_none, errW_some] <;> rfl), by repeat (first | (with_reducible first | exact HB.out | apply below_alloc | apply pw_below_drewN | apply below_drew1 | refine below_set ?_ GE108.out | refine below_set ?_ GE109.out) | exact HB.out)⟩
          · rw [if_neg c18] at H
            have c18b0 : (a0_2.toList == ([] : List UInt8)) = false := beq_eq_false_iff_ne.mpr c18
            have c18b1 : (a0_2.toList != ([] : List UInt8)) = true := bne_iff_ne.mpr c18
            by_cases c30 : ((Op.bytesLess a1_2.toList a0_2.toList) = true)
            · rw [if_pos c30] at H
              have c30b0 : (Op.bytesLess a1_2.toList a0_2.toList) = true := c30
              clear c30
              by_cases c31 : a1_3 ≥ a0_3
              · rw [if_pos c31] at H
                have c31b0 : decide (a0_3 ≤ a1_3) = true := decide_eq_true c31
                clear c31
                by_cases c32 : a0_4 = 0
                · rw [if_pos c32] at H
                  have c32b0 : (a0_4 == 0) = true := beq_iff_eq.mpr c32
                  have c32b1 : (a0_4 != 0) = false := bne_eq_false_iff_eq.mpr c32
                  clear c32
                  obtain rfl := Option.some.inj H
                  have hnb33 := NB109_108.out
                  have hnc33 := NB108_109.out
                  have hcz34_0 : wc.cell? ⟨gb109, 0, none⟩ = some (.string a1_0) := (blk_cell BK109.out 0).trans rfl
                  have hcz34_1 : wc.cell? ⟨gb109, 1, none⟩ = some (.string a1_1) := (blk_cell BK109.out 1).trans rfl
                  have hcz34_2 : wc.cell? ⟨gb109, 2, none⟩ = some (.string a1_2) := (blk_cell BK109.out 2).trans rfl
                  have hcz34_3 : wc.cell? ⟨gb109, 3, none⟩ = some (.int .i64 a1_3) := (blk_cell BK109.out 3).trans rfl
                  have hcz34_4 : wc.cell? ⟨gb109, 4, none⟩ = some (.int .i64 a1_4) := (blk_cell BK109.out 4).trans rfl
                  have hcz34_5 : wc.cell? ⟨gb109, 5, none⟩ = some (.int .i64 a1_5) := (blk_cell BK109.out 5).trans rfl
                  have hcz34_6 : wc.cell? ⟨gb109, 6, none⟩ = some (.int .i64 a1_6) := (blk_cell BK109.out 6).trans rfl
                  have hcz34_7 : wc.cell? ⟨gb109, 7, none⟩ = some (.string a1_7) := (blk_cell BK109.out 7).trans rfl
                  have hfz34_0 := blk_frozen BK109.out 0
                  have hfz34_1 := blk_frozen BK109.out 1
                  have hfz34_2 := blk_frozen BK109.out 2
                  have hfz34_3 := blk_frozen BK109.out 3
                  have hfz34_4 := blk_frozen BK109.out 4
                  have hfz34_5 := blk_frozen BK109.out 5
                  have hfz34_6 := blk_frozen BK109.out 6
                  have hfz34_7 := blk_frozen BK109.out 7
                  have hcz35_0 : wc.cell? ⟨gb108, 0, none⟩ = some (.slice A0_0 l0_0.length c0_0) := (blk_cell BK108.out 0).trans rfl
                  have hcz35_1 : wc.cell? ⟨gb108, 1, none⟩ = some (.string a0_1) := (blk_cell BK108.out 1).trans rfl
                  have hcz35_2 : wc.cell? ⟨gb108, 2, none⟩ = some (.string a0_2) := (blk_cell BK108.out 2).trans rfl
                  have hcz35_3 : wc.cell? ⟨gb108, 3, none⟩ = some (.int .i64 a0_3) := (blk_cell BK108.out 3).trans rfl
                  have hcz35_4 : wc.cell? ⟨gb108, 4, none⟩ = some (.int .i64 a0_4) := (blk_cell BK108.out 4).trans rfl
                  have hcz35_5 : wc.cell? ⟨gb108, 5, none⟩ = some (.int .i64 a0_5) := (blk_cell BK108.out 5).trans rfl
                  have hcz35_6 : wc.cell? ⟨gb108, 6, none⟩ = some (.int .i64 a0_6) := (blk_cell BK108.out 6).trans rfl
                  have hfz35_0 := blk_frozen BK108.out 0
                  have hfz35_1 := blk_frozen BK108.out 1
                  have hfz35_2 := blk_frozen BK108.out 2
                  have hfz35_3 := blk_frozen BK108.out 3
                  have hfz35_4 := blk_frozen BK108.out 4
                  have hfz35_5 := blk_frozen BK108.out 5
                  have hfz35_6 := blk_frozen BK108.out 6
                  go_wp2
                  go_ret
                  exact ⟨by first | rfl | (simp [errW_none, errW_some] <;> rfl) | (simp [*, errW_none, errW_some] <;> rfl), by repeat (first | (with_reducible first | exact HB.out | apply below_alloc | apply pw_below_drewN | apply below_drew1 | refine below_set ?_ GE108.out | refine below_set ?_ GE109.out) | exact HB.out)⟩
                · rw [if_neg c32] at H
                  have c32b0 : (a0_4 == 0) = false := beq_eq_false_iff_ne.mpr c32
                  have c32b1 : (a0_4 != 0) = true := bne_iff_ne.mpr c32
                  obtain rfl := Option.some.inj H
                  have hnb36 := NB109_108.out
                  have hnc36 := NB108_109.out
                  have hcz37_0 : wc.cell? ⟨gb109, 0, none⟩ = some (.string a1_0) := (blk_cell BK109.out 0).trans rfl
                  have hcz37_1 : wc.cell? ⟨gb109, 1, none⟩ = some (.string a1_1) := (blk_cell BK109.out 1).trans rfl
                  have hcz37_2 : wc.cell? ⟨gb109, 2, none⟩ = some (.string a1_2) := (blk_cell BK109.out 2).trans rfl
                  have hcz37_3 : wc.cell? ⟨gb109, 3, none⟩ = some (.int .i64 a1_3) := (blk_cell BK109.out 3).trans rfl
                  have hcz37_4 : wc.cell? ⟨gb109, 4, none⟩ = some (.int .i64 a1_4) := (blk_cell BK109.out 4).trans rfl
                  have hcz37_5 : wc.cell? ⟨gb109, 5, none⟩ = some (.int .i64 a1_5) := (blk_cell BK109.out 5).trans rfl
                  have hcz37_6 : wc.cell? ⟨gb109, 6, none⟩ = some (.int .i64 a1_6) := (blk_cell BK109.out 6).trans rfl
                  have hcz37_7 : wc.cell? ⟨gb109, 7, none⟩ = some (.string a1_7) := (blk_cell BK109.out 7).trans rfl
                  have hfz37_0 := blk_frozen BK109.out 0
                  have hfz37_1 := blk_frozen BK109.out 1
                  have hfz37_2 := blk_frozen BK109.out 2
                  have hfz37_3 := blk_frozen BK109.out 3
                  have hfz37_4 := blk_frozen BK109.out 4
                  have hfz37_5 := blk_frozen BK109.out 5
                  have hfz37_6 := blk_frozen BK109.out 6
                  have hfz37_7 := blk_frozen BK109.out 7
                  have hcz38_0 : wc.cell? ⟨gb108, 0, none⟩ = some (.slice A0_0 l0_0.length c0_0) := (blk_cell BK108.out 0).trans rfl
                  have hcz38_1 : wc.cell? ⟨gb108, 1, none⟩ = some (.string a0_1) := (blk_cell BK108.out 1).trans rfl
                  have hcz38_2 : wc.cell? ⟨gb108, 2, none⟩ = some (.string a0_2) := (blk_cell BK108.out 2).trans rfl
                  have hcz38_3 : wc.cell? ⟨gb108, 3, none⟩ = some (.int .i64 a0_3) := (blk_cell BK108.out 3).trans rfl
                  have hcz38_4 : wc.cell? ⟨gb108, 4, none⟩ = some (.int .i64 a0_4) := (blk_cell BK108.out 4).trans rfl
                  have hcz38_5 : wc.cell? ⟨gb108, 5, none⟩ = some (.int .i64 a0_5) := (blk_cell BK108.out 5).trans rfl
                  have hcz38_6 : wc.cell? ⟨gb108, 6, none⟩ = some (.int .i64 a0_6) := (blk_cell BK108.out 6).trans rfl
                  have hfz38_0 := blk_frozen BK108.out 0
                  have hfz38_1 := blk_frozen BK108.out 1
                  have hfz38_2 := blk_frozen BK108.out 2
                  have hfz38_3 := blk_frozen BK108.out 3
                  have hfz38_4 := blk_frozen BK108.out 4
                  have hfz38_5 := blk_frozen BK108.out 5
                  have hfz38_6 := blk_frozen BK108.out 6
                  go_wp2
                  go_ret
                  exact ⟨by first | rfl | (simp [errW_none, errW_some] <;> rfl) | (simp [*, errW_none, errW_some] <;> rfl), by repeat (first | (with_reducible first | exact HB.out | apply below_alloc | apply pw_below_drewN | apply below_drew1 | refine below_set ?_ GE108.out | refine below_set ?_ GE109.out) | exact HB.out)⟩
              · rw [if_neg c31] at H
                have c31b0 : decide (a0_3 ≤ a1_3) = false := decide_eq_false c31
                clear c31
                obtain rfl := Option.some.inj H
                have hnb39 := NB109_108.out
                have hnc39 := NB108_109.out
                have hcz40_0 : wc.cell? ⟨gb109, 0, none⟩ = some (.string a1_0) := (blk_cell BK109.out 0).trans rfl
                have hcz40_1 : wc.cell? ⟨gb109, 1, none⟩ = some (.string a1_1) := (blk_cell BK109.out 1).trans rfl
                have hcz40_2 : wc.cell? ⟨gb109, 2, none⟩ = some (.string a1_2) := (blk_cell BK109.out 2).trans rfl
                have hcz40_3 : wc.cell? ⟨gb109, 3, none⟩ = some (.int .i64 a1_3) := (blk_cell BK109.out 3).trans rfl
                have hcz40_4 : wc.cell? ⟨gb109, 4, none⟩ = some (.int .i64 a1_4) := (blk_cell BK109.out 4).trans rfl
                have hcz40_5 : wc.cell? ⟨gb109, 5, none⟩ = some (.int .i64 a1_5) := (blk_cell BK109.out 5).trans rfl
                have hcz40_6 : wc.cell? ⟨gb109, 6, none⟩ = some (.int .i64 a1_6) := (blk_cell BK109.out 6).trans rfl
                have hcz40_7 : wc.cell? ⟨gb109, 7, none⟩ = some (.string a1_7) := (blk_cell BK109.out 7).trans rfl
                have hfz40_0 := blk_frozen BK109.out 0
                have hfz40_1 := blk_frozen BK109.out 1
                have hfz40_2 := blk_frozen BK109.out 2
                have hfz40_3 := blk_frozen BK109.out 3
                have hfz40_4 := blk_frozen BK109.out 4
                have hfz40_5 := blk_frozen BK109.out 5
                have hfz40_6 := blk_frozen BK109.out 6
                have hfz40_7 := blk_frozen BK109.out 7
                have hcz41_0 : wc.cell? ⟨gb108, 0, none⟩ = some (.slice A0_0 l0_0.length c0_0) := (blk_cell BK108.out 0).trans rfl
                have hcz41_1 : wc.cell? ⟨gb108, 1, none⟩ = some (.string a0_1) := (blk_cell BK108.out 1).trans rfl
                have hcz41_2 : wc.cell? ⟨gb108, 2, none⟩ = some (.string a0_2) := (blk_cell BK108.out 2).trans rfl
                have hcz41_3 : wc.cell? ⟨gb108, 3, none⟩ = some (.int .i64 a0_3) := (blk_cell BK108.out 3).trans rfl
                have hcz41_4 : wc.cell? ⟨gb108, 4, none⟩ = some (.int .i64 a0_4) := (blk_cell BK108.out 4).trans rfl
                have hcz41_5 : wc.cell? ⟨gb108, 5, none⟩ = some (.int .i64 a0_5) := (blk_cell BK108.out 5).trans rfl
                have hcz41_6 : wc.cell? ⟨gb108, 6, none⟩ = some (.int .i64 a0_6) := (blk_cell BK108.out 6).trans rfl
                have hfz41_0 := blk_frozen BK108.out 0
                have hfz41_1 := blk_frozen BK108.out 1
                have hfz41_2 := blk_frozen BK108.out 2
                have hfz41_3 := blk_frozen BK108.out 3
                have hfz41_4 := blk_frozen BK108.out 4
                have hfz41_5 := blk_frozen BK108.out 5
                have hfz41_6 := blk_frozen BK108.out 6
                go_wp2
                go_ret
                exact ⟨by first | rfl | (simp [errW_none, errW_some] <;> rfl) | (simp [*, errW_none, errW_some] <;> rfl), by repeat (first | (with_reducible first | exact HB.out | apply below_alloc | apply pw_below_drewN | apply below_drew1 | refine below_set ?_ GE108.out | refine below_set ?_ GE109.out) | exact HB.out)⟩
            · rw [if_neg c30] at H
              have c30b0 : (Op.bytesLess a1_2.toList a0_2.toList) = false := by simpa using c30
              clear c30
              obtain rfl := Option.some.inj H
              have hnb42 := NB109_108.out
              have hnc42 := NB108_109.out
              have hcz43_0 : wc.cell? ⟨gb109, 0, none⟩ = some (.string a1_0) := (blk_cell BK109.out 0).trans rfl
              have hcz43_1 : wc.cell? ⟨gb109, 1, none⟩ = some (.string a1_1) := (blk_cell BK109.out 1).trans rfl
              have hcz43_2 : wc.cell? ⟨gb109, 2, none⟩ = some (.string a1_2) := (blk_cell BK109.out 2).trans rfl
              have hcz43_3 : wc.cell? ⟨gb109, 3, none⟩ = some (.int .i64 a1_3) := (blk_cell BK109.out 3).trans rfl
              have hcz43_4 : wc.cell? ⟨gb109, 4, none⟩ = some (.int .i64 a1_4) := (blk_cell BK109.out 4).trans rfl
              have hcz43_5 : wc.cell? ⟨gb109, 5, none⟩ = some (.int .i64 a1_5) := (blk_cell BK109.out 5).trans rfl
              have hcz43_6 : wc.cell? ⟨gb109, 6, none⟩ = some (.int .i64 a1_6) := (blk_cell BK109.out 6).trans rfl
              have hcz43_7 : wc.cell? ⟨gb109, 7, none⟩ = some (.string a1_7) := (blk_cell BK109.out 7).trans rfl
              have hfz43_0 := blk_frozen BK109.out 0
              have hfz43_1 := blk_frozen BK109.out 1
              have hfz43_2 := blk_frozen BK109.out 2
              have hfz43_3 := blk_frozen BK109.out 3
              have hfz43_4 := blk_frozen BK109.out 4
              have hfz43_5 := blk_frozen BK109.out 5
              have hfz43_6 := blk_frozen BK109.out 6
              have hfz43_7 := blk_frozen BK109.out 7
              have hcz44_0 : wc.cell? ⟨gb108, 0, none⟩ = some (.slice A0_0 l0_0.length c0_0) := (blk_cell BK108.out 0).trans rfl
              have hcz44_1 : wc.cell? ⟨gb108, 1, none⟩ = some (.string a0_1) := (blk_cell BK108.out 1).trans rfl
              have hcz44_2 : wc.cell? ⟨gb108, 2, none⟩ = some (.string a0_2) := (blk_cell BK108.out 2).trans rfl
              have hcz44_3 : wc.cell? ⟨gb108, 3, none⟩ = some (.int .i64 a0_3) := (blk_cell BK108.out 3).trans rfl
              have hcz44_4 : wc.cell? ⟨gb108, 4, none⟩ = some (.int .i64 a0_4) := (blk_cell BK108.out 4).trans rfl
              have hcz44_5 : wc.cell? ⟨gb108, 5, none⟩ = some (.int .i64 a0_5) := (blk_cell BK108.out 5).trans rfl
              have hcz44_6 : wc.cell? ⟨gb108, 6, none⟩ = some (.int .i64 a0_6) := (blk_cell BK108.out 6).trans rfl
              have hfz44_0 := blk_frozen BK108.out 0
              have hfz44_1 := blk_frozen BK108.out 1
              have hfz44_2 := blk_frozen BK108.out 2
              have hfz44_3 := blk_frozen BK108.out 3
              have hfz44_4 := blk_frozen BK108.out 4
              have hfz44_5 := blk_frozen BK108.out 5
              have hfz44_6 := blk_frozen BK108.out 6
              go_wp2
              go_ret
              exact ⟨by first | rfl | (simp [errW_none, errW_some] <;> rfl) | (simp [*, errW_none, errW_some] <;> rfl), by repeat (first | (with_reducible first | exact HB.out | apply below_alloc | apply pw_below_drewN | apply below_drew1 | refine below_set ?_ GE108.out | refine below_set ?_ GE109.out) | exact HB.out)⟩

end Go.Proofs.Ythbgjaboghnpjaa.Q
