import Derived.Test.YthbgjaboghnpjaaQx0
import Derived.Test.YthbgjaboghnpjaaQx24
-- Written by a program of this session, out of Lean's print of the loaded program (a patched copy of the kit's print).
namespace Go.Proofs.Ythbgjaboghnpjaa.Q
open Go.RowKit Go.Proofs.YthbgjaboghnpjaaW.PrintWords Go.Proofs.YthbgjaboghnpjaaW.PrintLast Go.Proofs.YthbgjaboghnpjaaW.PrintMore
attribute [local go_sem] max2_int min2_int max_two min_two max_three min_three max_four min_four   -- for this text's walks alone
set_option linter.unusedVariables false
set_option linter.unusedSimpArgs false

/-! ### joistref13_Lets: function 15 -/
def joistref13_Lets.l0 : Nat → Bool → Int → List ByteArray → ByteArray → ByteArray → Int → Int → Int → Int → ByteArray → ByteArray → ByteArray → Int → Int → Int → Int → ByteArray → Option (Bool)
  | 0, _, _, _, _, _, _, _, _, _, _, _, _, _, _, _, _, _ => none
  | k + 1, x5, x6, x129000, x129001, x129002, x129003, x129004, x129005, x129006, x130000, x130001, x130002, x130003, x130004, x130005, x130006, x130007 => if x6 < (x129000.length : Int) then (if x5 = true then (joistref13_Lets.l0 k true (wrap64 (x6 + 1)) x129000 x129001 x129002 x129003 x129004 x129005 x129006 x130000 x130001 x130002 x130003 x130004 x130005 x130006 x130007) else (if 0 ≤ x6 then (joistref13_Lets.l0 k ((rdOf ByteArray.empty x129000 x6).toList == x130001.toList) (wrap64 (x6 + 1)) x129000 x129001 x129002 x129003 x129004 x129005 x129006 x130000 x130001 x130002 x130003 x130004 x130005 x130006 x130007) else (none))) else (if x5 = true then ((joistref00_Texts.f k x130002 x129001).bind fun t131 => (if t131 ≥ 0 then (if x129002.toList = ([] : List UInt8) then (if x130003 ≥ x129003 then (if x129004 = 0 then (some true) else (some (decide (x130003 < x129004)))) else (some false)) else ((joistref00_Texts.f k x130002 x129002).bind fun t132 => (if t132 < 0 then (if x130003 ≥ x129003 then (if x129004 = 0 then (some true) else (some (decide (x130003 < x129004)))) else (some false)) else (some false)))) else (some false))) else (some false))
def joistref13_Lets.f (k : Nat) (l0_0 : List ByteArray) (a0_1 : ByteArray) (a0_2 : ByteArray) (a0_3 : Int) (a0_4 : Int) (a0_5 : Int) (a0_6 : Int) (a1_0 : ByteArray) (a1_1 : ByteArray) (a1_2 : ByteArray) (a1_3 : Int) (a1_4 : Int) (a1_5 : Int) (a1_6 : Int) (a1_7 : ByteArray) : Option (Bool) := joistref13_Lets.l0 k ((l0_0.length : Int) == 0) 0 l0_0 a0_1 a0_2 a0_3 a0_4 a0_5 a0_6 a1_0 a1_1 a1_2 a1_3 a1_4 a1_5 a1_6 a1_7
theorem joistref13_Lets.mono_l : ∀ k, (∀ y0 y1 y2 y3 y4 y5 y6 y7 y8 y9 y10 y11 y12 y13 y14 y15 y16, LeO (joistref13_Lets.l0 k y0 y1 y2 y3 y4 y5 y6 y7 y8 y9 y10 y11 y12 y13 y14 y15 y16) (joistref13_Lets.l0 (k + 1) y0 y1 y2 y3 y4 y5 y6 y7 y8 y9 y10 y11 y12 y13 y14 y15 y16))
  | 0 => fun _ _ _ _ _ _ _ _ _ _ _ _ _ _ _ _ _ r h => by simp [joistref13_Lets.l0] at h
  | k + 1 => by
    have ih0 := joistref13_Lets.mono_l k
    · intro y0 y1 y2 y3 y4 y5 y6 y7 y8 y9 y10 y11 y12 y13 y14 y15 y16
      unfold joistref13_Lets.l0
      repeat' first
      | (with_reducible exact ih0 _ _ _ _ _ _ _ _ _ _ _ _ _ _ _ _ _)
      | (with_reducible exact joistref00_Texts.mono _ _ _)
      | (with_reducible exact LeO.refl _)
      | (with_reducible exact LeO.none _)
      | (with_reducible refine LeO.ite ?_ ?_)
      | (with_reducible refine LeO.bind ?_ (fun _ => ?_))
      | exact ih0 _ _ _ _ _ _ _ _ _ _ _ _ _ _ _ _ _
      | exact joistref00_Texts.mono _ _ _
      | exact LeO.none _
      | refine LeO.ite ?_ ?_
      | refine LeO.bind ?_ (fun _ => ?_)
theorem joistref13_Lets.mono : ∀ a0 a1 a2 a3 a4 a5 a6 a7 a8 a9 a10 a11 a12 a13 a14 k, LeO (joistref13_Lets.f k a0 a1 a2 a3 a4 a5 a6 a7 a8 a9 a10 a11 a12 a13 a14) (joistref13_Lets.f (k + 1) a0 a1 a2 a3 a4 a5 a6 a7 a8 a9 a10 a11 a12 a13 a14) := by
  intro a0 a1 a2 a3 a4 a5 a6 a7 a8 a9 a10 a11 a12 a13 a14 k
  have ih0 := joistref13_Lets.mono_l k
  unfold joistref13_Lets.f
  repeat' first
      | (with_reducible exact ih0 _ _ _ _ _ _ _ _ _ _ _ _ _ _ _ _ _)
      | (with_reducible exact joistref00_Texts.mono _ _ _)
      | (with_reducible exact LeO.refl _)
      | (with_reducible exact LeO.none _)
      | (with_reducible refine LeO.ite ?_ ?_)
      | (with_reducible refine LeO.bind ?_ (fun _ => ?_))
      | exact ih0 _ _ _ _ _ _ _ _ _ _ _ _ _ _ _ _ _
      | exact joistref00_Texts.mono _ _ _
      | exact LeO.none _
      | refine LeO.ite ?_ ?_
      | refine LeO.bind ?_ (fun _ => ?_)
set_option maxHeartbeats 8000000 in
set_option maxRecDepth 100000 in
theorem joistref13_Lets.calls (k : Nat) (A0_0 : Option Addr) (c0_0 : Nat) (l0_0 : List ByteArray) (a0_1 : ByteArray) (a0_2 : ByteArray) (a0_3 : Int) (a0_4 : Int) (a0_5 : Int) (a0_6 : Int) (a1_0 : ByteArray) (a1_1 : ByteArray) (a1_2 : ByteArray) (a1_3 : Int) (a1_4 : Int) (a1_5 : Int) (a1_6 : Int) (a1_7 : ByteArray) (r : Bool) (w : World) (hr0_0 : Kd.C Kd.string w A0_0 l0_0.length l0_0) (hc0_0 : l0_0.length ≤ c0_0) (h : joistref13_Lets.f k l0_0 a0_1 a0_2 a0_3 a0_4 a0_5 a0_6 a1_0 a1_1 a1_2 a1_3 a1_4 a1_5 a1_6 a1_7 = some r) :
    Calls Try.prog 15 #[.agg #[.slice A0_0 l0_0.length c0_0, .string a0_1, .string a0_2, .int .i64 a0_3, .int .i64 a0_4, .int .i64 a0_5, .int .i64 a0_6], .agg #[.string a1_0, .string a1_1, .string a1_2, .int .i64 a1_3, .int .i64 a1_4, .int .i64 a1_5, .int .i64 a1_6, .string a1_7]] w fun e w' => e = .returned (.bool r) ∧ Below w.heap.size w w' := by
  have hu24 := Try.underlying24
  have hu29 := Try.underlying29
  have HR0_0 := Aside0.mk hr0_0
  have HC0_0 := Aside0.mk hc0_0
  clear hr0_0 hc0_0
  have HB := Aside0.mk (Below.refl w.heap.size w)
  have H : (joistref13_Lets.l0 k ((l0_0.length : Int) == 0) 0 l0_0 a0_1 a0_2 a0_3 a0_4 a0_5 a0_6 a1_0 a1_1 a1_2 a1_3 a1_4 a1_5 a1_6 a1_7) = some r := h
  clear h
  have H' := Aside0.mk H
  clear H
  go_enter Try.func15, Try.ntmps15
  go_wp2_with (first | ((with_reducible refine gate_dst (N := 2) rfl ?_); refine box_event ?hg (N := 2) ?hd (cs := #[.slice A0_0 l0_0.length c0_0, .string a0_1, .string a0_2, .int .i64 a0_3, .int .i64 a0_4, .int .i64 a0_5, .int .i64 a0_6]) (t := 24) ?hr ?_; (case hd => rfl); (case hg => rfl); (case hr => first | (go_simp; done) | (go_simp; rfl)); intro gb128 hg w3 hbox hb; have n0_ := Aside0.mk (below_step (by repeat (first | (with_reducible first | exact HB.out | apply below_alloc | apply pw_below_drewN | apply below_drew1) | exact HB.out)) hb); have n1_ := Aside0.mk (hbox); have n2_ := Aside0.mk ((by rw [hg]; exact (below_size (by repeat (first | (with_reducible first | exact HB.out | apply below_alloc | apply pw_below_drewN | apply below_drew1) | exact HB.out))) : w.heap.size ≤ gb128)); have n3_ := Aside0.mk ((by rw [hg]; exact (below_size (by repeat (first | (with_reducible first | exact HB.out | apply below_alloc | apply pw_below_drewN | apply below_drew1) | exact HB.out))) : w.heap.size ≤ gb128)); clear HB; have HB := n0_; have BK128 := n1_; have GW128 := n2_; have GE128 := n3_; clear n0_ n1_ n2_ n3_; clear hb hbox hg) | ((with_reducible refine gate_dst (N := 3) rfl ?_); refine box_event ?hg (N := 3) ?hd (cs := #[.string a1_0, .string a1_1, .string a1_2, .int .i64 a1_3, .int .i64 a1_4, .int .i64 a1_5, .int .i64 a1_6, .string a1_7]) (t := 29) ?hr ?_; (case hd => rfl); (case hg => rfl); (case hr => first | (go_simp; done) | (go_simp; rfl)); intro gb129 hg w4 hbox hb; have n0_ := Aside0.mk (blk_below (g := gb128) (o := .cells #[.slice A0_0 l0_0.length c0_0, .string a0_1, .string a0_2, .int .i64 a0_3, .int .i64 a0_4, .int .i64 a0_5, .int .i64 a0_6] 24 (0, 0)) (by (with_reducible repeat (first | refine blk_drewN ?_ _ | refine blk_drew ?_ | refine blk_alloc ?_ _)); exact BK128.out) hb); have n1_ := Aside0.mk (below_step (by repeat (first | (with_reducible first | exact HB.out | apply below_alloc | apply pw_below_drewN | apply below_drew1 | refine below_set ?_ GE128.out) | exact HB.out)) hb); have n2_ := Aside0.mk (hbox); have n3_ := Aside0.mk ((by rw [hg]; exact (below_size (by repeat (first | (with_reducible first | exact HB.out | apply below_alloc | apply pw_below_drewN | apply below_drew1 | refine below_set ?_ GE128.out) | exact HB.out))) : w.heap.size ≤ gb129)); have n4_ := Aside0.mk ((by rw [hg]; exact (below_size (by repeat (first | (with_reducible first | exact HB.out | apply below_alloc | apply pw_below_drewN | apply below_drew1 | refine below_set ?_ GE128.out) | exact HB.out))) : w.heap.size ≤ gb129)); have n5_ := Aside0.mk ((by rw [hg]; exact Nat.ne_of_lt (blk_lt (g := gb128) (o := .cells #[.slice A0_0 l0_0.length c0_0, .string a0_1, .string a0_2, .int .i64 a0_3, .int .i64 a0_4, .int .i64 a0_5, .int .i64 a0_6] 24 (0, 0)) (by (with_reducible repeat (first | refine blk_drewN ?_ _ | refine blk_drew ?_ | refine blk_alloc ?_ _)); exact BK128.out)) : gb128 ≠ gb129)); have n6_ := Aside0.mk ((by rw [hg]; exact Nat.ne_of_gt (blk_lt (g := gb128) (o := .cells #[.slice A0_0 l0_0.length c0_0, .string a0_1, .string a0_2, .int .i64 a0_3, .int .i64 a0_4, .int .i64 a0_5, .int .i64 a0_6] 24 (0, 0)) (by (with_reducible repeat (first | refine blk_drewN ?_ _ | refine blk_drew ?_ | refine blk_alloc ?_ _)); exact BK128.out)) : gb129 ≠ gb128)); clear BK128; clear HB; have BK128 := n0_; have HB := n1_; have BK129 := n2_; have GW129 := n3_; have GE129 := n4_; have NB128_129 := n5_; have NB129_128 := n6_; clear n0_ n1_ n2_ n3_ n4_ n5_ n6_; clear hb hbox hg; have hnb5 := NB128_129.out; have hnc5 := NB129_128.out; have hcz6_0 : w4.cell? ⟨gb128, 0, none⟩ = some (.slice A0_0 l0_0.length c0_0) := (blk_cell BK128.out 0).trans rfl; have hcz6_1 : w4.cell? ⟨gb128, 1, none⟩ = some (.string a0_1) := (blk_cell BK128.out 1).trans rfl; have hcz6_2 : w4.cell? ⟨gb128, 2, none⟩ = some (.string a0_2) := (blk_cell BK128.out 2).trans rfl; have hcz6_3 : w4.cell? ⟨gb128, 3, none⟩ = some (.int .i64 a0_3) := (blk_cell BK128.out 3).trans rfl; have hcz6_4 : w4.cell? ⟨gb128, 4, none⟩ = some (.int .i64 a0_4) := (blk_cell BK128.out 4).trans rfl; have hcz6_5 : w4.cell? ⟨gb128, 5, none⟩ = some (.int .i64 a0_5) := (blk_cell BK128.out 5).trans rfl; have hcz6_6 : w4.cell? ⟨gb128, 6, none⟩ = some (.int .i64 a0_6) := (blk_cell BK128.out 6).trans rfl; have hfz6_0 := blk_frozen BK128.out 0; have hfz6_1 := blk_frozen BK128.out 1; have hfz6_2 := blk_frozen BK128.out 2; have hfz6_3 := blk_frozen BK128.out 3; have hfz6_4 := blk_frozen BK128.out 4; have hfz6_5 := blk_frozen BK128.out 5; have hfz6_6 := blk_frozen BK128.out 6))
  repeat (go_quiet (first | ((with_reducible refine gate_dst (N := 2) rfl ?_); refine box_event ?hg (N := 2) ?hd (cs := #[.slice A0_0 l0_0.length c0_0, .string a0_1, .string a0_2, .int .i64 a0_3, .int .i64 a0_4, .int .i64 a0_5, .int .i64 a0_6]) (t := 24) ?hr ?_; (case hd => rfl); (case hg => rfl); (case hr => first | (go_simp; done) | (go_simp; rfl)); intro gb128 hg w3 hbox hb; have n0_ := Aside0.mk (below_step (by repeat (first | (with_reducible first | exact HB.out | apply below_alloc | apply pw_below_drewN | apply below_drew1) | exact HB.out)) hb); have n1_ := Aside0.mk (hbox); have n2_ := Aside0.mk ((by rw [hg]; exact (below_size (by repeat (first | (with_reducible first | exact HB.out | apply below_alloc | apply pw_below_drewN | apply below_drew1) | exact HB.out))) : w.heap.size ≤ gb128)); have n3_ := Aside0.mk ((by rw [hg]; exact (below_size (by repeat (first | (with_reducible first | exact HB.out | apply below_alloc | apply pw_below_drewN | apply below_drew1) | exact HB.out))) : w.heap.size ≤ gb128)); clear HB; have HB := n0_; have BK128 := n1_; have GW128 := n2_; have GE128 := n3_; clear n0_ n1_ n2_ n3_; clear hb hbox hg) | ((with_reducible refine gate_dst (N := 3) rfl ?_); refine box_event ?hg (N := 3) ?hd (cs := #[.string a1_0, .string a1_1, .string a1_2, .int .i64 a1_3, .int .i64 a1_4, .int .i64 a1_5, .int .i64 a1_6, .string a1_7]) (t := 29) ?hr ?_; (case hd => rfl); (case hg => rfl); (case hr => first | (go_simp; done) | (go_simp; rfl)); intro gb129 hg w4 hbox hb; have n0_ := Aside0.mk (blk_below (g := gb128) (o := .cells #[.slice A0_0 l0_0.length c0_0, .string a0_1, .string a0_2, .int .i64 a0_3, .int .i64 a0_4, .int .i64 a0_5, .int .i64 a0_6] 24 (0, 0)) (by (with_reducible repeat (first | refine blk_drewN ?_ _ | refine blk_drew ?_ | refine blk_alloc ?_ _)); exact BK128.out) hb); have n1_ := Aside0.mk (below_step (by repeat (first | (with_reducible first | exact HB.out | apply below_alloc | apply pw_below_drewN | apply below_drew1 | refine below_set ?_ GE128.out) | exact HB.out)) hb); have n2_ := Aside0.mk (hbox); have n3_ := Aside0.mk ((by rw [hg]; exact (below_size (by repeat (first | (with_reducible first | exact HB.out | apply below_alloc | apply pw_below_drewN | apply below_drew1 | refine below_set ?_ GE128.out) | exact HB.out))) : w.heap.size ≤ gb129)); have n4_ := Aside0.mk ((by rw [hg]; exact (below_size (by repeat (first | (with_reducible first | exact HB.out | apply below_alloc | apply pw_below_drewN | apply below_drew1 | refine below_set ?_ GE128.out) | exact HB.out))) : w.heap.size ≤ gb129)); have n5_ := Aside0.mk ((by rw [hg]; exact Nat.ne_of_lt (blk_lt (g := gb128) (o := .cells #[.slice A0_0 l0_0.length c0_0, .string a0_1, .string a0_2, .int .i64 a0_3, .int .i64 a0_4, .int .i64 a0_5, .int .i64 a0_6] 24 (0, 0)) (by (with_reducible repeat (first | refine blk_drewN ?_ _ | refine blk_drew ?_ | refine blk_alloc ?_ _)); exact BK128.out)) : gb128 ≠ gb129)); have n6_ := Aside0.mk ((by rw [hg]; exact Nat.ne_of_gt (blk_lt (g := gb128) (o := .cells #[.slice A0_0 l0_0.length c0_0, .string a0_1, .string a0_2, .int .i64 a0_3, .int .i64 a0_4, .int .i64 a0_5, .int .i64 a0_6] 24 (0, 0)) (by (with_reducible repeat (first | refine blk_drewN ?_ _ | refine blk_drew ?_ | refine blk_alloc ?_ _)); exact BK128.out)) : gb129 ≠ gb128)); clear BK128; clear HB; have BK128 := n0_; have HB := n1_; have BK129 := n2_; have GW129 := n3_; have GE129 := n4_; have NB128_129 := n5_; have NB129_128 := n6_; clear n0_ n1_ n2_ n3_ n4_ n5_ n6_; clear hb hbox hg; have hnb5 := NB128_129.out; have hnc5 := NB129_128.out; have hcz6_0 : w4.cell? ⟨gb128, 0, none⟩ = some (.slice A0_0 l0_0.length c0_0) := (blk_cell BK128.out 0).trans rfl; have hcz6_1 : w4.cell? ⟨gb128, 1, none⟩ = some (.string a0_1) := (blk_cell BK128.out 1).trans rfl; have hcz6_2 : w4.cell? ⟨gb128, 2, none⟩ = some (.string a0_2) := (blk_cell BK128.out 2).trans rfl; have hcz6_3 : w4.cell? ⟨gb128, 3, none⟩ = some (.int .i64 a0_3) := (blk_cell BK128.out 3).trans rfl; have hcz6_4 : w4.cell? ⟨gb128, 4, none⟩ = some (.int .i64 a0_4) := (blk_cell BK128.out 4).trans rfl; have hcz6_5 : w4.cell? ⟨gb128, 5, none⟩ = some (.int .i64 a0_5) := (blk_cell BK128.out 5).trans rfl; have hcz6_6 : w4.cell? ⟨gb128, 6, none⟩ = some (.int .i64 a0_6) := (blk_cell BK128.out 6).trans rfl; have hfz6_0 := blk_frozen BK128.out 0; have hfz6_1 := blk_frozen BK128.out 1; have hfz6_2 := blk_frozen BK128.out 2; have hfz6_3 := blk_frozen BK128.out 3; have hfz6_4 := blk_frozen BK128.out 4; have hfz6_5 := blk_frozen BK128.out 5; have hfz6_6 := blk_frozen BK128.out 6)); try go_wp2_with (first | ((with_reducible refine gate_dst (N := 2) rfl ?_); refine box_event ?hg (N := 2) ?hd (cs := #[.slice A0_0 l0_0.length c0_0, .string a0_1, .string a0_2, .int .i64 a0_3, .int .i64 a0_4, .int .i64 a0_5, .int .i64 a0_6]) (t := 24) ?hr ?_; (case hd => rfl); (case hg => rfl); (case hr => first | (go_simp; done) | (go_simp; rfl)); intro gb128 hg w3 hbox hb; have n0_ := Aside0.mk (below_step (by repeat (first | (with_reducible first | exact HB.out | apply below_alloc | apply pw_below_drewN | apply below_drew1) | exact HB.out)) hb); have n1_ := Aside0.mk (hbox); have n2_ := Aside0.mk ((by rw [hg]; exact (below_size (by repeat (first | (with_reducible first | exact HB.out | apply below_alloc | apply pw_below_drewN | apply below_drew1) | exact HB.out))) : w.heap.size ≤ gb128)); have n3_ := Aside0.mk ((by rw [hg]; exact (below_size (by repeat (first | (with_reducible first | exact HB.out | apply below_alloc | apply pw_below_drewN | apply below_drew1) | exact HB.out))) : w.heap.size ≤ gb128)); clear HB; have HB := n0_; have BK128 := n1_; have GW128 := n2_; have GE128 := n3_; clear n0_ n1_ n2_ n3_; clear hb hbox hg) | ((with_reducible refine gate_dst (N := 3) rfl ?_); refine box_event ?hg (N := 3) ?hd (cs := #[.string a1_0, .string a1_1, .string a1_2, .int .i64 a1_3, .int .i64 a1_4, .int .i64 a1_5, .int .i64 a1_6, .string a1_7]) (t := 29) ?hr ?_; (case hd => rfl); (case hg => rfl); (case hr => first | (go_simp; done) | (go_simp; rfl)); intro gb129 hg w4 hbox hb; have n0_ := Aside0.mk (blk_below (g := gb128) (o := .cells #[.slice A0_0 l0_0.length c0_0, .string a0_1, .string a0_2, .int .i64 a0_3, .int .i64 a0_4, .int .i64 a0_5, .int .i64 a0_6] 24 (0, 0)) (by (with_reducible repeat (first | refine blk_drewN ?_ _ | refine blk_drew ?_ | refine blk_alloc ?_ _)); exact BK128.out) hb); have n1_ := Aside0.mk (below_step (by repeat (first | (with_reducible first | exact HB.out | apply below_alloc | apply pw_below_drewN | apply below_drew1 | refine below_set ?_ GE128.out) | exact HB.out)) hb); have n2_ := Aside0.mk (hbox); have n3_ := Aside0.mk ((by rw [hg]; exact (below_size (by repeat (first | (with_reducible first | exact HB.out | apply below_alloc | apply pw_below_drewN | apply below_drew1 | refine below_set ?_ GE128.out) | exact HB.out))) : w.heap.size ≤ gb129)); have n4_ := Aside0.mk ((by rw [hg]; exact (below_size (by repeat (first | (with_reducible first | exact HB.out | apply below_alloc | apply pw_below_drewN | apply below_drew1 | refine below_set ?_ GE128.out) | exact HB.out))) : w.heap.size ≤ gb129)); have n5_ := Aside0.mk ((by rw [hg]; exact Nat.ne_of_lt (blk_lt (g := gb128) (o := .cells #[.slice A0_0 l0_0.length c0_0, .string a0_1, .string a0_2, .int .i64 a0_3, .int .i64 a0_4, .int .i64 a0_5, .int .i64 a0_6] 24 (0, 0)) (by (with_reducible repeat (first | refine blk_drewN ?_ _ | refine blk_drew ?_ | refine blk_alloc ?_ _)); exact BK128.out)) : gb128 ≠ gb129)); have n6_ := Aside0.mk ((by rw [hg]; exact Nat.ne_of_gt (blk_lt (g := gb128) (o := .cells #[.slice A0_0 l0_0.length c0_0, .string a0_1, .string a0_2, .int .i64 a0_3, .int .i64 a0_4, .int .i64 a0_5, .int .i64 a0_6] 24 (0, 0)) (by (with_reducible repeat (first | refine blk_drewN ?_ _ | refine blk_drew ?_ | refine blk_alloc ?_ _)); exact BK128.out)) : gb129 ≠ gb128)); clear BK128; clear HB; have BK128 := n0_; have HB := n1_; have BK129 := n2_; have GW129 := n3_; have GE129 := n4_; have NB128_129 := n5_; have NB129_128 := n6_; clear n0_ n1_ n2_ n3_ n4_ n5_ n6_; clear hb hbox hg; have hnb5 := NB128_129.out; have hnc5 := NB129_128.out; have hcz6_0 : w4.cell? ⟨gb128, 0, none⟩ = some (.slice A0_0 l0_0.length c0_0) := (blk_cell BK128.out 0).trans rfl; have hcz6_1 : w4.cell? ⟨gb128, 1, none⟩ = some (.string a0_1) := (blk_cell BK128.out 1).trans rfl; have hcz6_2 : w4.cell? ⟨gb128, 2, none⟩ = some (.string a0_2) := (blk_cell BK128.out 2).trans rfl; have hcz6_3 : w4.cell? ⟨gb128, 3, none⟩ = some (.int .i64 a0_3) := (blk_cell BK128.out 3).trans rfl; have hcz6_4 : w4.cell? ⟨gb128, 4, none⟩ = some (.int .i64 a0_4) := (blk_cell BK128.out 4).trans rfl; have hcz6_5 : w4.cell? ⟨gb128, 5, none⟩ = some (.int .i64 a0_5) := (blk_cell BK128.out 5).trans rfl; have hcz6_6 : w4.cell? ⟨gb128, 6, none⟩ = some (.int .i64 a0_6) := (blk_cell BK128.out 6).trans rfl; have hfz6_0 := blk_frozen BK128.out 0; have hfz6_1 := blk_frozen BK128.out 1; have hfz6_2 := blk_frozen BK128.out 2; have hfz6_3 := blk_frozen BK128.out 3; have hfz6_4 := blk_frozen BK128.out 4; have hfz6_5 := blk_frozen BK128.out 5; have hfz6_6 := blk_frozen BK128.out 6)))
  go_loopg [5, 6] k (fun kq v5 v6 w' => ∃ (x5_1 : Bool) (x6_1 : Int), v5 = .bool x5_1 ∧ v6 = .int .i64 x6_1 ∧ Aside0 (joistref13_Lets.l0 kq x5_1 x6_1 l0_0 a0_1 a0_2 a0_3 a0_4 a0_5 a0_6 a1_0 a1_1 a1_2 a1_3 a1_4 a1_5 a1_6 a1_7 = some r) ∧ Aside0 (kq ≤ k) ∧ Aside0 (w'.heap[gb128]? = some (.cells #[(.slice A0_0 l0_0.length c0_0), .string a0_1, .string a0_2, .int .i64 a0_3, .int .i64 a0_4, .int .i64 a0_5, .int .i64 a0_6] 24 (0, 0))) ∧ Aside0 (w'.heap[gb129]? = some (.cells #[.string a1_0, .string a1_1, .string a1_2, .int .i64 a1_3, .int .i64 a1_4, .int .i64 a1_5, .int .i64 a1_6, .string a1_7] 29 (0, 0))) ∧ Aside0 (Below w.heap.size w w'))
  case atStart => exact ⟨(((l0_0.length : Int) == 0)), (0), (by first | rfl | (simp; done) | (simp [*]; done)), (by first | rfl | (simp; done) | (simp [*]; done)), H', ⟨Nat.le_refl _⟩, ⟨by (with_reducible repeat (first | refine blk_drewN ?_ _ | refine blk_drew ?_ | refine blk_alloc ?_ _)); exact BK128.out⟩, ⟨by (with_reducible repeat (first | refine blk_drewN ?_ _ | refine blk_drew ?_ | refine blk_alloc ?_ _)); exact BK129.out⟩, ⟨by repeat (first | (with_reducible first | exact HB.out | apply below_alloc | apply pw_below_drewN | apply below_drew1 | refine below_set ?_ GE128.out | refine below_set ?_ GE129.out) | exact HB.out)⟩⟩
  case round =>
    clear H'
    try clear c1
    try clear p2
    try clear c5
    try clear hcz6_0
    try clear hcz6_1
    try clear hcz6_2
    try clear hcz6_3
    try clear hcz6_4
    try clear hcz6_5
    try clear hcz6_6
    try clear hfz6_0
    try clear hfz6_1
    try clear hfz6_2
    try clear hfz6_3
    try clear hfz6_4
    try clear hfz6_5
    try clear hfz6_6
    obtain ⟨x5_1, x6_1, rfl, rfl, HA, HK1, BK128, BK129, HB⟩ := hrel
    cases gk with
    | zero => exact absurd HA.out (by simp [joistref13_Lets.l0])
    | succ k1 =>
      have H := HA.out
      clear HA
      simp only [joistref13_Lets.l0] at H
      by_cases c7 : x6_1 < (l0_0.length : Int)
      · rw [if_pos c7] at H
        have c7b0 : decide (x6_1 < (l0_0.length : Int)) = true := decide_eq_true c7
        clear c7
        by_cases c8 : x5_1 = true
        · subst c8
          have H1 : (joistref13_Lets.l0 k1 true (wrap64 (x6_1 + 1)) l0_0 a0_1 a0_2 a0_3 a0_4 a0_5 a0_6 a1_0 a1_1 a1_2 a1_3 a1_4 a1_5 a1_6 a1_7) = some r := by rw [if_pos rfl] at H; exact H
          clear H
          have H := H1
          clear H1
          have H' := Aside0.mk H
          clear H
          have hnb9 := NB128_129.out
          have hnc9 := NB129_128.out
          have hcz10_0 : wr.cell? ⟨gb128, 0, none⟩ = some (.slice A0_0 l0_0.length c0_0) := (blk_cell BK128.out 0).trans rfl
          have hcz10_1 : wr.cell? ⟨gb128, 1, none⟩ = some (.string a0_1) := (blk_cell BK128.out 1).trans rfl
          have hcz10_2 : wr.cell? ⟨gb128, 2, none⟩ = some (.string a0_2) := (blk_cell BK128.out 2).trans rfl
          have hcz10_3 : wr.cell? ⟨gb128, 3, none⟩ = some (.int .i64 a0_3) := (blk_cell BK128.out 3).trans rfl
          have hcz10_4 : wr.cell? ⟨gb128, 4, none⟩ = some (.int .i64 a0_4) := (blk_cell BK128.out 4).trans rfl
          have hcz10_5 : wr.cell? ⟨gb128, 5, none⟩ = some (.int .i64 a0_5) := (blk_cell BK128.out 5).trans rfl
          have hcz10_6 : wr.cell? ⟨gb128, 6, none⟩ = some (.int .i64 a0_6) := (blk_cell BK128.out 6).trans rfl
          have hfz10_0 := blk_frozen BK128.out 0
          have hfz10_1 := blk_frozen BK128.out 1
          have hfz10_2 := blk_frozen BK128.out 2
          have hfz10_3 := blk_frozen BK128.out 3
          have hfz10_4 := blk_frozen BK128.out 4
          have hfz10_5 := blk_frozen BK128.out 5
          have hfz10_6 := blk_frozen BK128.out 6
          go_wp2
          repeat (go_quiet (fail); try go_wp2)
          go_roundg k1
          case measure => have := HK1.out; omega
          case rel => exact ⟨(true), (wrap64 (x6_1 + 1)), (by first | rfl | (simp; done) | (simp [*]; done)), (by first | rfl | (simp; done) | (simp [*]; done)), H', ⟨by have := HK1.out; omega⟩, ⟨by (with_reducible repeat (first | refine blk_drewN ?_ _ | refine blk_drew ?_ | refine blk_alloc ?_ _)); exact BK128.out⟩, ⟨by (with_reducible repeat (first | refine blk_drewN ?_ _ | refine blk_drew ?_ | refine blk_alloc ?_ _)); exact BK129.out⟩, ⟨by repeat (first | (with_reducible first | exact HB.out | apply below_alloc | apply pw_below_drewN | apply below_drew1 | refine below_set ?_ GE128.out | refine below_set ?_ GE129.out) | exact HB.out)⟩⟩
        · replace c8 := Bool.eq_false_iff.mpr c8
          subst c8
          have H1 : (if 0 ≤ x6_1 then (joistref13_Lets.l0 k1 ((rdOf ByteArray.empty l0_0 x6_1).toList == a1_1.toList) (wrap64 (x6_1 + 1)) l0_0 a0_1 a0_2 a0_3 a0_4 a0_5 a0_6 a1_0 a1_1 a1_2 a1_3 a1_4 a1_5 a1_6 a1_7) else (none)) = some r := by rw [if_neg (show ¬ (false = true) by decide)] at H; exact H
          clear H
          have H := H1
          clear H1
          by_cases c11 : 0 ≤ x6_1
          · rw [if_pos c11] at H
            have c11b0 : decide (0 ≤ x6_1) = true := decide_eq_true c11
            clear c11
            have H' := Aside0.mk H
            clear H
            have hnb12 := NB128_129.out
            have hnc12 := NB129_128.out
            have hcz13_0 : wr.cell? ⟨gb128, 0, none⟩ = some (.slice A0_0 l0_0.length c0_0) := (blk_cell BK128.out 0).trans rfl
            have hcz13_1 : wr.cell? ⟨gb128, 1, none⟩ = some (.string a0_1) := (blk_cell BK128.out 1).trans rfl
            have hcz13_2 : wr.cell? ⟨gb128, 2, none⟩ = some (.string a0_2) := (blk_cell BK128.out 2).trans rfl
            have hcz13_3 : wr.cell? ⟨gb128, 3, none⟩ = some (.int .i64 a0_3) := (blk_cell BK128.out 3).trans rfl
            have hcz13_4 : wr.cell? ⟨gb128, 4, none⟩ = some (.int .i64 a0_4) := (blk_cell BK128.out 4).trans rfl
            have hcz13_5 : wr.cell? ⟨gb128, 5, none⟩ = some (.int .i64 a0_5) := (blk_cell BK128.out 5).trans rfl
            have hcz13_6 : wr.cell? ⟨gb128, 6, none⟩ = some (.int .i64 a0_6) := (blk_cell BK128.out 6).trans rfl
            have hfz13_0 := blk_frozen BK128.out 0
            have hfz13_1 := blk_frozen BK128.out 1
            have hfz13_2 := blk_frozen BK128.out 2
            have hfz13_3 := blk_frozen BK128.out 3
            have hfz13_4 := blk_frozen BK128.out 4
            have hfz13_5 := blk_frozen BK128.out 5
            have hfz13_6 := blk_frozen BK128.out 6
            have p130 : 0 ≤ (x6_1 : Int) := of_decide_eq_true (by first | (with_reducible assumption) | assumption)
            have q130 : x6_1 < (l0_0.length : Int) := of_decide_eq_true (by first | (with_reducible assumption) | assumption)
            obtain ⟨ad130, e130, hx130_0⟩ := Kd.at_string HR0_0.out x6_1 p130 q130
            cases e130
            replace hx130_0 := (HB.out.cell (World.block_lt_of_cell? w _ hx130_0)).trans hx130_0
            replace p130 := eq_true p130
            replace q130 := eq_true q130
            have hcz14_0 : wr.cell? ⟨gb129, 0, none⟩ = some (.string a1_0) := (blk_cell BK129.out 0).trans rfl
            have hcz14_1 : wr.cell? ⟨gb129, 1, none⟩ = some (.string a1_1) := (blk_cell BK129.out 1).trans rfl
            have hcz14_2 : wr.cell? ⟨gb129, 2, none⟩ = some (.string a1_2) := (blk_cell BK129.out 2).trans rfl
            have hcz14_3 : wr.cell? ⟨gb129, 3, none⟩ = some (.int .i64 a1_3) := (blk_cell BK129.out 3).trans rfl
            have hcz14_4 : wr.cell? ⟨gb129, 4, none⟩ = some (.int .i64 a1_4) := (blk_cell BK129.out 4).trans rfl
            have hcz14_5 : wr.cell? ⟨gb129, 5, none⟩ = some (.int .i64 a1_5) := (blk_cell BK129.out 5).trans rfl
            have hcz14_6 : wr.cell? ⟨gb129, 6, none⟩ = some (.int .i64 a1_6) := (blk_cell BK129.out 6).trans rfl
            have hcz14_7 : wr.cell? ⟨gb129, 7, none⟩ = some (.string a1_7) := (blk_cell BK129.out 7).trans rfl
            have hfz14_0 := blk_frozen BK129.out 0
            have hfz14_1 := blk_frozen BK129.out 1
            have hfz14_2 := blk_frozen BK129.out 2
            have hfz14_3 := blk_frozen BK129.out 3
            have hfz14_4 := blk_frozen BK129.out 4
            have hfz14_5 := blk_frozen BK129.out 5
            have hfz14_6 := blk_frozen BK129.out 6
            have hfz14_7 := blk_frozen BK129.out 7
            go_wp2
            repeat (go_quiet (fail); try go_wp2)
            go_roundg k1
            case measure => have := HK1.out; omega
            case rel => exact ⟨(((rdOf ByteArray.empty l0_0 x6_1).toList == a1_1.toList)), (wrap64 (x6_1 + 1)), (by first | rfl | (simp; done) | (simp [*]; done)), (by first | rfl | (simp; done) | (simp [*]; done)), H', ⟨by have := HK1.out; omega⟩, ⟨by (with_reducible repeat (first | refine blk_drewN ?_ _ | refine blk_drew ?_ | refine blk_alloc ?_ _)); exact BK128.out⟩, ⟨by (with_reducible repeat (first | refine blk_drewN ?_ _ | refine blk_drew ?_ | refine blk_alloc ?_ _)); exact BK129.out⟩, ⟨by repeat (first | (with_reducible first | exact HB.out | apply below_alloc | apply pw_below_drewN | apply below_drew1 | refine below_set ?_ GE128.out | refine below_set ?_ GE129.out) | exact HB.out)⟩⟩
          · rw [if_neg c11] at H
            exact absurd H (by simp)
      · rw [if_neg c7] at H
        have c7b0 : decide (x6_1 < (l0_0.length : Int)) = false := decide_eq_false c7
        clear c7
        by_cases c15 : x5_1 = true
        · subst c15
          have H1 : ((joistref00_Texts.f k1 a1_2 a0_1).bind fun t131 => (if t131 ≥ 0 then (if a0_2.toList = ([] : List UInt8) then (if a1_3 ≥ a0_3 then (if a0_4 = 0 then (some true) else (some (decide (a1_3 < a0_4)))) else (some false)) else ((joistref00_Texts.f k1 a1_2 a0_2).bind fun t132 => (if t132 < 0 then (if a1_3 ≥ a0_3 then (if a0_4 = 0 then (some true) else (some (decide (a1_3 < a0_4)))) else (some false)) else (some false)))) else (some false))) = some r := by rw [if_pos rfl] at H; exact H
          clear H
          have H := H1
          clear H1
          replace H := Option.bind_eq_some_iff.mp H
          obtain ⟨t131, A160, H⟩ := H
          replace H : (if t131 ≥ 0 then (if a0_2.toList = ([] : List UInt8) then (if a1_3 ≥ a0_3 then (if a0_4 = 0 then (some true) else (some (decide (a1_3 < a0_4)))) else (some false)) else ((joistref00_Texts.f k1 a1_2 a0_2).bind fun t132 => (if t132 < 0 then (if a1_3 ≥ a0_3 then (if a0_4 = 0 then (some true) else (some (decide (a1_3 < a0_4)))) else (some false)) else (some false)))) else (some false)) = some r := H
          have A16 := Aside0.mk A160
          clear A160
          by_cases c17 : t131 ≥ 0
          · rw [if_pos c17] at H
            have c17b0 : decide (0 ≤ t131) = true := decide_eq_true c17
            clear c17
            by_cases c18 : a0_2.toList = ([] : List UInt8)
            · rw [if_pos c18] at H
              have c18b0 : (a0_2.toList == ([] : List UInt8)) = true := beq_iff_eq.mpr c18
              have c18b1 : (a0_2.toList != ([] : List UInt8)) = false := bne_eq_false_iff_eq.mpr c18
              clear c18
              by_cases c19 : a1_3 ≥ a0_3
              · rw [if_pos c19] at H
                have c19b0 : decide (a0_3 ≤ a1_3) = true := decide_eq_true c19
                clear c19
                by_cases c20 : a0_4 = 0
                · rw [if_pos c20] at H
                  have c20b0 : (a0_4 == 0) = true := beq_iff_eq.mpr c20
                  have c20b1 : (a0_4 != 0) = false := bne_eq_false_iff_eq.mpr c20
                  clear c20
                  obtain rfl := Option.some.inj H
                  have hnb21 := NB128_129.out
                  have hnc21 := NB129_128.out
                  have hcz22_0 : wr.cell? ⟨gb128, 0, none⟩ = some (.slice A0_0 l0_0.length c0_0) := (blk_cell BK128.out 0).trans rfl
                  have hcz22_1 : wr.cell? ⟨gb128, 1, none⟩ = some (.string a0_1) := (blk_cell BK128.out 1).trans rfl
                  have hcz22_2 : wr.cell? ⟨gb128, 2, none⟩ = some (.string a0_2) := (blk_cell BK128.out 2).trans rfl
                  have hcz22_3 : wr.cell? ⟨gb128, 3, none⟩ = some (.int .i64 a0_3) := (blk_cell BK128.out 3).trans rfl
                  have hcz22_4 : wr.cell? ⟨gb128, 4, none⟩ = some (.int .i64 a0_4) := (blk_cell BK128.out 4).trans rfl
                  have hcz22_5 : wr.cell? ⟨gb128, 5, none⟩ = some (.int .i64 a0_5) := (blk_cell BK128.out 5).trans rfl
                  have hcz22_6 : wr.cell? ⟨gb128, 6, none⟩ = some (.int .i64 a0_6) := (blk_cell BK128.out 6).trans rfl
                  have hfz22_0 := blk_frozen BK128.out 0
                  have hfz22_1 := blk_frozen BK128.out 1
                  have hfz22_2 := blk_frozen BK128.out 2
                  have hfz22_3 := blk_frozen BK128.out 3
                  have hfz22_4 := blk_frozen BK128.out 4
                  have hfz22_5 := blk_frozen BK128.out 5
                  have hfz22_6 := blk_frozen BK128.out 6
                  have hcz23_0 : wr.cell? ⟨gb129, 0, none⟩ = some (.string a1_0) := (blk_cell BK129.out 0).trans rfl
                  have hcz23_1 : wr.cell? ⟨gb129, 1, none⟩ = some (.string a1_1) := (blk_cell BK129.out 1).trans rfl
                  have hcz23_2 : wr.cell? ⟨gb129, 2, none⟩ = some (.string a1_2) := (blk_cell BK129.out 2).trans rfl
                  have hcz23_3 : wr.cell? ⟨gb129, 3, none⟩ = some (.int .i64 a1_3) := (blk_cell BK129.out 3).trans rfl
                  have hcz23_4 : wr.cell? ⟨gb129, 4, none⟩ = some (.int .i64 a1_4) := (blk_cell BK129.out 4).trans rfl
                  have hcz23_5 : wr.cell? ⟨gb129, 5, none⟩ = some (.int .i64 a1_5) := (blk_cell BK129.out 5).trans rfl
                  have hcz23_6 : wr.cell? ⟨gb129, 6, none⟩ = some (.int .i64 a1_6) := (blk_cell BK129.out 6).trans rfl
                  have hcz23_7 : wr.cell? ⟨gb129, 7, none⟩ = some (.string a1_7) := (blk_cell BK129.out 7).trans rfl
                  have hfz23_0 := blk_frozen BK129.out 0
                  have hfz23_1 := blk_frozen BK129.out 1
                  have hfz23_2 := blk_frozen BK129.out 2
                  have hfz23_3 := blk_frozen BK129.out 3
                  have hfz23_4 := blk_frozen BK129.out 4
                  have hfz23_5 := blk_frozen BK129.out 5
                  have hfz23_6 := blk_frozen BK129.out 6
                  have hfz23_7 := blk_frozen BK129.out 7
                  go_wp2_with (first | (go_at_call 36; (with_reducible refine (joistref00_Texts.calls k1 a1_2 a0_1 t131 _ A16.out).mono ?_); rintro e w' ⟨rfl, ⟨nd, rfl⟩⟩; (try first | exact ⟨rfl, _, World.drewN_drewN _ _ _⟩ | exact ⟨rfl, _, Eq.trans (World.drewN_drewN _ _ _) (congrArg (World.drewN _) (Nat.add_assoc _ _ _))⟩)))
                  repeat (go_quiet (first | (go_at_call 36; (with_reducible refine (joistref00_Texts.calls k1 a1_2 a0_1 t131 _ A16.out).mono ?_); rintro e w' ⟨rfl, ⟨nd, rfl⟩⟩; (try first | exact ⟨rfl, _, World.drewN_drewN _ _ _⟩ | exact ⟨rfl, _, Eq.trans (World.drewN_drewN _ _ _) (congrArg (World.drewN _) (Nat.add_assoc _ _ _))⟩))); try go_wp2_with (first | (go_at_call 36; (with_reducible refine (joistref00_Texts.calls k1 a1_2 a0_1 t131 _ A16.out).mono ?_); rintro e w' ⟨rfl, ⟨nd, rfl⟩⟩; (try first | exact ⟨rfl, _, World.drewN_drewN _ _ _⟩ | exact ⟨rfl, _, Eq.trans (World.drewN_drewN _ _ _) (congrArg (World.drewN _) (Nat.add_assoc _ _ _))⟩))))
                  go_ret
                  exact ⟨by first | rfl | (simp [errW_none, errW_some] <;> rfl) | (simp [*, errW_none, errW_some] <;> rfl), by repeat (first | (with_reducible first | exact HB.out | apply below_alloc | apply pw_below_drewN | apply below_drew1 | refine below_set ?_ GE128.out | refine below_set ?_ GE129.out) | exact HB.out)⟩
                · rw [if_neg c20] at H
                  have c20b0 : (a0_4 == 0) = false := beq_eq_false_iff_ne.mpr c20
                  have c20b1 : (a0_4 != 0) = true := bne_iff_ne.mpr c20
                  obtain rfl := Option.some.inj H
                  have hnb24 := NB128_129.out
                  have hnc24 := NB129_128.out
                  have hcz25_0 : wr.cell? ⟨gb128, 0, none⟩ = some (.slice A0_0 l0_0.length c0_0) := (blk_cell BK128.out 0).trans rfl
                  have hcz25_1 : wr.cell? ⟨gb128, 1, none⟩ = some (.string a0_1) := (blk_cell BK128.out 1).trans rfl
                  have hcz25_2 : wr.cell? ⟨gb128, 2, none⟩ = some (.string a0_2) := (blk_cell BK128.out 2).trans rfl
                  have hcz25_3 : wr.cell? ⟨gb128, 3, none⟩ = some (.int .i64 a0_3) := (blk_cell BK128.out 3).trans rfl
                  have hcz25_4 : wr.cell? ⟨gb128, 4, none⟩ = some (.int .i64 a0_4) := (blk_cell BK128.out 4).trans rfl
                  have hcz25_5 : wr.cell? ⟨gb128, 5, none⟩ = some (.int .i64 a0_5) := (blk_cell BK128.out 5).trans rfl
                  have hcz25_6 : wr.cell? ⟨gb128, 6, none⟩ = some (.int .i64 a0_6) := (blk_cell BK128.out 6).trans rfl
                  have hfz25_0 := blk_frozen BK128.out 0
                  have hfz25_1 := blk_frozen BK128.out 1
                  have hfz25_2 := blk_frozen BK128.out 2
                  have hfz25_3 := blk_frozen BK128.out 3
                  have hfz25_4 := blk_frozen BK128.out 4
                  have hfz25_5 := blk_frozen BK128.out 5
                  have hfz25_6 := blk_frozen BK128.out 6
                  have hcz26_0 : wr.cell? ⟨gb129, 0, none⟩ = some (.string a1_0) := (blk_cell BK129.out 0).trans rfl
                  have hcz26_1 : wr.cell? ⟨gb129, 1, none⟩ = some (.string a1_1) := (blk_cell BK129.out 1).trans rfl
                  have hcz26_2 : wr.cell? ⟨gb129, 2, none⟩ = some (.string a1_2) := (blk_cell BK129.out 2).trans rfl
                  have hcz26_3 : wr.cell? ⟨gb129, 3, none⟩ = some (.int .i64 a1_3) := (blk_cell BK129.out 3).trans rfl
                  have hcz26_4 : wr.cell? ⟨gb129, 4, none⟩ = some (.int .i64 a1_4) := (blk_cell BK129.out 4).trans rfl
                  have hcz26_5 : wr.cell? ⟨gb129, 5, none⟩ = some (.int .i64 a1_5) := (blk_cell BK129.out 5).trans rfl
                  have hcz26_6 : wr.cell? ⟨gb129, 6, none⟩ = some (.int .i64 a1_6) := (blk_cell BK129.out 6).trans rfl
                  have hcz26_7 : wr.cell? ⟨gb129, 7, none⟩ = some (.string a1_7) := (blk_cell BK129.out 7).trans rfl
                  have hfz26_0 := blk_frozen BK129.out 0
                  have hfz26_1 := blk_frozen BK129.out 1
                  have hfz26_2 := blk_frozen BK129.out 2
                  have hfz26_3 := blk_frozen BK129.out 3
                  have hfz26_4 := blk_frozen BK129.out 4
                  have hfz26_5 := blk_frozen BK129.out 5
                  have hfz26_6 := blk_frozen BK129.out 6
                  have hfz26_7 := blk_frozen BK129.out 7
                  go_wp2_with (first | (go_at_call 36; (with_reducible refine (joistref00_Texts.calls k1 a1_2 a0_1 t131 _ A16.out).mono ?_); rintro e w' ⟨rfl, ⟨nd, rfl⟩⟩; (try first | exact ⟨rfl, _, World.drewN_drewN _ _ _⟩ | exact ⟨rfl, _, Eq.trans (World.drewN_drewN _ _ _) (congrArg (World.drewN _) (Nat.add_assoc _ _ _))⟩)))
                  repeat (go_quiet (first | (go_at_call 36; (with_reducible refine (joistref00_Texts.calls k1 a1_2 a0_1 t131 _ A16.out).mono ?_); rintro e w' ⟨rfl, ⟨nd, rfl⟩⟩; (try first | exact ⟨rfl, _, World.drewN_drewN _ _ _⟩ | exact ⟨rfl, _, Eq.trans (World.drewN_drewN _ _ _) (congrArg (World.drewN _) (Nat.add_assoc _ _ _))⟩))); try go_wp2_with (first | (go_at_call 36; (with_reducible refine (joistref00_Texts.calls k1 a1_2 a0_1 t131 _ A16.out).mono ?_); rintro e w' ⟨rfl, ⟨nd, rfl⟩⟩; (try first | exact ⟨rfl, _, World.drewN_drewN _ _ _⟩ | exact ⟨rfl, _, Eq.trans (World.drewN_drewN _ _ _) (congrArg (World.drewN _) (Nat.add_assoc _ _ _))⟩))))
                  go_ret
                  exact ⟨by first | rfl | (simp [errW_none, errW_some] <;> rfl) | (simp [*, errW_none, errW_some] <;> rfl), by repeat (first | (with_reducible first | exact HB.out | apply below_alloc | apply pw_below_drewN | apply below_drew1 | refine below_set ?_ GE128.out | refine below_set ?_ GE129.out) | exact HB.out)⟩
              · rw [if_neg c19] at H
                have c19b0 : decide (a0_3 ≤ a1_3) = false := decide_eq_false c19
                clear c19
                obtain rfl := Option.some.inj H
                have hnb27 := NB128_129.out
                have hnc27 := NB129_128.out
                have hcz28_0 : wr.cell? ⟨gb128, 0, none⟩ = some (.slice A0_0 l0_0.length c0_0) := (blk_cell BK128.out 0).trans rfl
                have hcz28_1 : wr.cell? ⟨gb128, 1, none⟩ = some (.string a0_1) := (blk_cell BK128.out 1).trans rfl
                have hcz28_2 : wr.cell? ⟨gb128, 2, none⟩ = some (.string a0_2) := (blk_cell BK128.out 2).trans rfl
                have hcz28_3 : wr.cell? ⟨gb128, 3, none⟩ = some (.int .i64 a0_3) := (blk_cell BK128.out 3).trans rfl
                have hcz28_4 : wr.cell? ⟨gb128, 4, none⟩ = some (.int .i64 a0_4) := (blk_cell BK128.out 4).trans rfl
                have hcz28_5 : wr.cell? ⟨gb128, 5, none⟩ = some (.int .i64 a0_5) := (blk_cell BK128.out 5).trans rfl
                have hcz28_6 : wr.cell? ⟨gb128, 6, none⟩ = some (.int .i64 a0_6) := (blk_cell BK128.out 6).trans rfl
                have hfz28_0 := blk_frozen BK128.out 0
                have hfz28_1 := blk_frozen BK128.out 1
                have hfz28_2 := blk_frozen BK128.out 2
                have hfz28_3 := blk_frozen BK128.out 3
                have hfz28_4 := blk_frozen BK128.out 4
                have hfz28_5 := blk_frozen BK128.out 5
                have hfz28_6 := blk_frozen BK128.out 6
                have hcz29_0 : wr.cell? ⟨gb129, 0, none⟩ = some (.string a1_0) := (blk_cell BK129.out 0).trans rfl
                have hcz29_1 : wr.cell? ⟨gb129, 1, none⟩ = some (.string a1_1) := (blk_cell BK129.out 1).trans rfl
                have hcz29_2 : wr.cell? ⟨gb129, 2, none⟩ = some (.string a1_2) := (blk_cell BK129.out 2).trans rfl
                have hcz29_3 : wr.cell? ⟨gb129, 3, none⟩ = some (.int .i64 a1_3) := (blk_cell BK129.out 3).trans rfl
                have hcz29_4 : wr.cell? ⟨gb129, 4, none⟩ = some (.int .i64 a1_4) := (blk_cell BK129.out 4).trans rfl
                have hcz29_5 : wr.cell? ⟨gb129, 5, none⟩ = some (.int .i64 a1_5) := (blk_cell BK129.out 5).trans rfl
                have hcz29_6 : wr.cell? ⟨gb129, 6, none⟩ = some (.int .i64 a1_6) := (blk_cell BK129.out 6).trans rfl
                have hcz29_7 : wr.cell? ⟨gb129, 7, none⟩ = some (.string a1_7) := (blk_cell BK129.out 7).trans rfl
                have hfz29_0 := blk_frozen BK129.out 0
                have hfz29_1 := blk_frozen BK129.out 1
                have hfz29_2 := blk_frozen BK129.out 2
                have hfz29_3 := blk_frozen BK129.out 3
                have hfz29_4 := blk_frozen BK129.out 4
                have hfz29_5 := blk_frozen BK129.out 5
                have hfz29_6 := blk_frozen BK129.out 6
                have hfz29_7 := blk_frozen BK129.out 7
                go_wp2_with (first | (go_at_call 36; (with_reducible refine (joistref00_Texts.calls k1 a1_2 a0_1 t131 _ A16.out).mono ?_); rintro e w' ⟨rfl, ⟨nd, rfl⟩⟩; (try first | exact ⟨rfl, _, World.drewN_drewN _ _ _⟩ | exact ⟨rfl, _, Eq.trans (World.drewN_drewN _ _ _) (congrArg (World.drewN _) (Nat.add_assoc _ _ _))⟩)))
                repeat (go_quiet (first | (go_at_call 36; (with_reducible refine (joistref00_Texts.calls k1 a1_2 a0_1 t131 _ A16.out).mono ?_); rintro e w' ⟨rfl, ⟨nd, rfl⟩⟩; (try first | exact ⟨rfl, _, World.drewN_drewN _ _ _⟩ | exact ⟨rfl, _, Eq.trans (World.drewN_drewN _ _ _) (congrArg (World.drewN _) (Nat.add_assoc _ _ _))⟩))); try go_wp2_with (first | (go_at_call 36; (with_reducible refine (joistref00_Texts.calls k1 a1_2 a0_1 t131 _ A16.out).mono ?_); rintro e w' ⟨rfl, ⟨nd, rfl⟩⟩; (try first | exact ⟨rfl, _, World.drewN_drewN _ _ _⟩ | exact ⟨rfl, _, Eq.trans (World.drewN_drewN _ _ _) (congrArg (World.drewN _) (Nat.add_assoc _ _ _))⟩))))
                go_ret
                exact ⟨by first | rfl | (simp [errW_none, errW_some] <;> rfl) | (simp [*, errW_none, errW_some] <;> rfl), by repeat (first | (with_reducible first | exact HB.out | apply below_alloc | apply pw_below_drewN | apply below_drew1 | refine below_set ?_ GE128.out | refine below_set ?_ GE129.out) | exact HB.out)⟩
            · rw [if_neg c18] at H
              have c18b0 : (a0_2.toList == ([] : List UInt8)) = false := beq_eq_false_iff_ne.mpr c18
              have c18b1 : (a0_2.toList != ([] : List UInt8)) = true := bne_iff_ne.mpr c18
              replace H := Option.bind_eq_some_iff.mp H
              obtain ⟨t132, A300, H⟩ := H
              replace H : (if t132 < 0 then (if a1_3 ≥ a0_3 then (if a0_4 = 0 then (some true) else (some (decide (a1_3 < a0_4)))) else (some false)) else (some false)) = some r := H
              have A30 := Aside0.mk A300
              clear A300
              by_cases c31 : t132 < 0
              · rw [if_pos c31] at H
                have c31b0 : decide (t132 < 0) = true := decide_eq_true c31
                clear c31
                by_cases c32 : a1_3 ≥ a0_3
                · rw [if_pos c32] at H
                  have c32b0 : decide (a0_3 ≤ a1_3) = true := decide_eq_true c32
                  clear c32
                  by_cases c33 : a0_4 = 0
                  · rw [if_pos c33] at H
                    have c33b0 : (a0_4 == 0) = true := beq_iff_eq.mpr c33
                    have c33b1 : (a0_4 != 0) = false := bne_eq_false_iff_eq.mpr c33
                    clear c33
                    obtain rfl := Option.some.inj H
                    have hnb34 := NB128_129.out
                    have hnc34 := NB129_128.out
                    have hcz35_0 : wr.cell? ⟨gb128, 0, none⟩ = some (.slice A0_0 l0_0.length c0_0) := (blk_cell BK128.out 0).trans rfl
                    have hcz35_1 : wr.cell? ⟨gb128, 1, none⟩ = some (.string a0_1) := (blk_cell BK128.out 1).trans rfl
                    have hcz35_2 : wr.cell? ⟨gb128, 2, none⟩ = some (.string a0_2) := (blk_cell BK128.out 2).trans rfl
                    have hcz35_3 : wr.cell? ⟨gb128, 3, none⟩ = some (.int .i64 a0_3) := (blk_cell BK128.out 3).trans rfl
                    have hcz35_4 : wr.cell? ⟨gb128, 4, none⟩ = some (.int .i64 a0_4) := (blk_cell BK128.out 4).trans rfl
                    have hcz35_5 : wr.cell? ⟨gb128, 5, none⟩ = some (.int .i64 a0_5) := (blk_cell BK128.out 5).trans rfl
                    have hcz35_6 : wr.cell? ⟨gb128, 6, none⟩ = some (.int .i64 a0_6) := (blk_cell BK128.out 6).trans rfl
                    have hfz35_0 := blk_frozen BK128.out 0
                    have hfz35_1 := blk_frozen BK128.out 1
                    have hfz35_2 := blk_frozen BK128.out 2
                    have hfz35_3 := blk_frozen BK128.out 3
                    have hfz35_4 := blk_frozen BK128.out 4
                    have hfz35_5 := blk_frozen BK128.out 5
                    have hfz35_6 := blk_frozen BK128.out 6
                    have hcz36_0 : wr.cell? ⟨gb129, 0, none⟩ = some (.string a1_0) := (blk_cell BK129.out 0).trans rfl
                    have hcz36_1 : wr.cell? ⟨gb129, 1, none⟩ = some (.string a1_1) := (blk_cell BK129.out 1).trans rfl
                    have hcz36_2 : wr.cell? ⟨gb129, 2, none⟩ = some (.string a1_2) := (blk_cell BK129.out 2).trans rfl
                    have hcz36_3 : wr.cell? ⟨gb129, 3, none⟩ = some (.int .i64 a1_3) := (blk_cell BK129.out 3).trans rfl
                    have hcz36_4 : wr.cell? ⟨gb129, 4, none⟩ = some (.int .i64 a1_4) := (blk_cell BK129.out 4).trans rfl
                    have hcz36_5 : wr.cell? ⟨gb129, 5, none⟩ = some (.int .i64 a1_5) := (blk_cell BK129.out 5).trans rfl
                    have hcz36_6 : wr.cell? ⟨gb129, 6, none⟩ = some (.int .i64 a1_6) := (blk_cell BK129.out 6).trans rfl
                    have hcz36_7 : wr.cell? ⟨gb129, 7, none⟩ = some (.string a1_7) := (blk_cell BK129.out 7).trans rfl
                    have hfz36_0 := blk_frozen BK129.out 0
                    have hfz36_1 := blk_frozen BK129.out 1
                    have hfz36_2 := blk_frozen BK129.out 2
                    have hfz36_3 := blk_frozen BK129.out 3
                    have hfz36_4 := blk_frozen BK129.out 4
                    have hfz36_5 := blk_frozen BK129.out 5
                    have hfz36_6 := blk_frozen BK129.out 6
                    have hfz36_7 := blk_frozen BK129.out 7
                    go_wp2_with (first | (go_at_call 36; (with_reducible refine (joistref00_Texts.calls k1 a1_2 a0_1 t131 _ A16.out).mono ?_); rintro e w' ⟨rfl, ⟨nd, rfl⟩⟩; (try first | exact ⟨rfl, _, World.drewN_drewN _ _ _⟩ | exact ⟨rfl, _, Eq.trans (World.drewN_drewN _ _ _) (congrArg (World.drewN _) (Nat.add_assoc _ _ _))⟩)) | (go_at_call 36; (with_reducible refine (joistref00_Texts.calls k1 a1_2 a0_2 t132 _ A30.out).mono ?_); rintro e w' ⟨rfl, ⟨nd, rfl⟩⟩; (try first | exact ⟨rfl, _, World.drewN_drewN _ _ _⟩ | exact ⟨rfl, _, Eq.trans (World.drewN_drewN _ _ _) (congrArg (World.drewN _) (Nat.add_assoc _ _ _))⟩)))
                    repeat (go_quiet (first | (go_at_call 36; (with_reducible refine (joistref00_Texts.calls k1 a1_2 a0_1 t131 _ A16.out).mono ?_); rintro e w' ⟨rfl, ⟨nd, rfl⟩⟩; (try first | exact ⟨rfl, _, World.drewN_drewN _ _ _⟩ | exact ⟨rfl, _, Eq.trans (World.drewN_drewN _ _ _) (congrArg (World.drewN _) (Nat.add_assoc _ _ _))⟩)) | (go_at_call 36; (with_reducible refine (joistref00_Texts.calls k1 a1_2 a0_2 t132 _ A30.out).mono ?_); rintro e w' ⟨rfl, ⟨nd, rfl⟩⟩; (try first | exact ⟨rfl, _, World.drewN_drewN _ _ _⟩ | exact ⟨rfl, _, Eq.trans (World.drewN_drewN _ _ _) (congrArg (World.drewN _) (Nat.add_assoc _ _ _))⟩))); try go_wp2_with (first | (go_at_call 36; (with_reducible refine (joistref00_Texts.calls k1 a1_2 a0_1 t131 _ A16.out).mono ?_); rintro e w' ⟨rfl, ⟨nd, rfl⟩⟩; (try first | exact ⟨rfl, _, World.drewN_drewN _ _ _⟩ | exact ⟨rfl, _, Eq.trans (World.drewN_drewN _ _ _) (congrArg (World.drewN _) (Nat.add_assoc _ _ _))⟩)) | (go_at_call 36; (with_reducible refine (joistref00_Texts.calls k1 a1_2 a0_2 t132 _ A30.out).mono ?_); rintro e w' ⟨rfl, ⟨nd, rfl⟩⟩; (try first | exact ⟨rfl, _, World.drewN_drewN _ _ _⟩ | exact ⟨rfl, _, Eq.trans (World.drewN_drewN _ _ _) (congrArg (World.drewN _) (Nat.add_assoc _ _ _))⟩))))
                    go_ret
                    exact ⟨by first | rfl | (simp [errW_none, errW_some] <;> rfl) | (simp [*, errW_none, errW_some] <;> rfl), by repeat (first | (with_reducible first | exact HB.out | apply below_alloc | apply pw_below_drewN | apply below_drew1 | refine below_set ?_ GE128.out | refine below_set ?_ GE129.out) | exact HB.out)⟩
                  · rw [if_neg c33] at H
                    have c33b0 : (a0_4 == 0) = false := beq_eq_false_iff_ne.mpr c33
                    have c33b1 : (a0_4 != 0) = true := bne_iff_ne.mpr c33
                    obtain rfl := Option.some.inj H
                    have hnb37 := NB128_129.out
                    have hnc37 := NB129_128.out
                    have hcz38_0 : wr.cell? ⟨gb128, 0, none⟩ = some (.slice A0_0 l0_0.length c0_0) := (blk_cell BK128.out 0).trans rfl
                    have hcz38_1 : wr.cell? ⟨gb128, 1, none⟩ = some (.string a0_1) := (blk_cell BK128.out 1).trans rfl
                    have hcz38_2 : wr.cell? ⟨gb128, 2, none⟩ = some (.string a0_2) := (blk_cell BK128.out 2).trans rfl
                    have hcz38_3 : wr.cell? ⟨gb128, 3, none⟩ = some (.int .i64 a0_3) := (blk_cell BK128.out 3).trans rfl
                    have hcz38_4 : wr.cell? ⟨gb128, 4, none⟩ = some (.int .i64 a0_4) := (blk_cell BK128.out 4).trans rfl
                    have hcz38_5 : wr.cell? ⟨gb128, 5, none⟩ = some (.int .i64 a0_5) := (blk_cell BK128.out 5).trans rfl
                    have hcz38_6 : wr.cell? ⟨gb128, 6, none⟩ = some (.int .i64 a0_6) := (blk_cell BK128.out 6).trans rfl
                    have hfz38_0 := blk_frozen BK128.out 0
                    have hfz38_1 := blk_frozen BK128.out 1
                    have hfz38_2 := blk_frozen BK128.out 2
                    have hfz38_3 := blk_frozen BK128.out 3
                    have hfz38_4 := blk_frozen BK128.out 4
                    have hfz38_5 := blk_frozen BK128.out 5
                    have hfz38_6 := blk_frozen BK128.out 6
                    have hcz39_0 : wr.cell? ⟨gb129, 0, none⟩ = some (.string a1_0) := (blk_cell BK129.out 0).trans rfl
                    have hcz39_1 : wr.cell? ⟨gb129, 1, none⟩ = some (.string a1_1) := (blk_cell BK129.out 1).trans rfl
                    have hcz39_2 : wr.cell? ⟨gb129, 2, none⟩ = some (.string a1_2) := (blk_cell BK129.out 2).trans rfl
                    have hcz39_3 : wr.cell? ⟨gb129, 3, none⟩ = some (.int .i64 a1_3) := (blk_cell BK129.out 3).trans rfl
                    have hcz39_4 : wr.cell? ⟨gb129, 4, none⟩ = some (.int .i64 a1_4) := (blk_cell BK129.out 4).trans rfl
                    have hcz39_5 : wr.cell? ⟨gb129, 5, none⟩ = some (.int .i64 a1_5) := (blk_cell BK129.out 5).trans rfl
                    have hcz39_6 : wr.cell? ⟨gb129, 6, none⟩ = some (.int .i64 a1_6) := (blk_cell BK129.out 6).trans rfl
                    have hcz39_7 : wr.cell? ⟨gb129, 7, none⟩ = some (.string a1_7) := (blk_cell BK129.out 7).trans rfl
                    have hfz39_0 := blk_frozen BK129.out 0
                    have hfz39_1 := blk_frozen BK129.out 1
                    have hfz39_2 := blk_frozen BK129.out 2
                    have hfz39_3 := blk_frozen BK129.out 3
                    have hfz39_4 := blk_frozen BK129.out 4
                    have hfz39_5 := blk_frozen BK129.out 5
                    have hfz39_6 := blk_frozen BK129.out 6
                    have hfz39_7 := blk_frozen BK129.out 7
                    go_wp2_with (first | (go_at_call 36; (with_reducible refine (joistref00_Texts.calls k1 a1_2 a0_1 t131 _ A16.out).mono ?_); rintro e w' ⟨rfl, ⟨nd, rfl⟩⟩; (try first | exact ⟨rfl, _, World.drewN_drewN _ _ _⟩ | exact ⟨rfl, _, Eq.trans (World.drewN_drewN _ _ _) (congrArg (World.drewN _) (Nat.add_assoc _ _ _))⟩)) | (go_at_call 36; (with_reducible refine (joistref00_Texts.calls k1 a1_2 a0_2 t132 _ A30.out).mono ?_); rintro e w' ⟨rfl, ⟨nd, rfl⟩⟩; (try first | exact ⟨rfl, _, World.drewN_drewN _ _ _⟩ | exact ⟨rfl, _, Eq.trans (World.drewN_drewN _ _ _) (congrArg (World.drewN _) (Nat.add_assoc _ _ _))⟩)))
                    repeat (go_quiet (first | (go_at_call 36; (with_reducible refine (joistref00_Texts.calls k1 a1_2 a0_1 t131 _ A16.out).mono ?_); rintro e w' ⟨rfl, ⟨nd, rfl⟩⟩; (try first | exact ⟨rfl, _, World.drewN_drewN _ _ _⟩ | exact ⟨rfl, _, Eq.trans (World.drewN_drewN _ _ _) (congrArg (World.drewN _) (Nat.add_assoc _ _ _))⟩)) | (go_at_call 36; (with_reducible refine (joistref00_Texts.calls k1 a1_2 a0_2 t132 _ A30.out).mono ?_); rintro e w' ⟨rfl, ⟨nd, rfl⟩⟩; (try first | exact ⟨rfl, _, World.drewN_drewN _ _ _⟩ | exact ⟨rfl, _, Eq.trans (World.drewN_drewN _ _ _) (congrArg (World.drewN _) (Nat.add_assoc _ _ _))⟩))); try go_wp2_with (first | (go_at_call 36; (with_reducible refine (joistref00_Texts.calls k1 a1_2 a0_1 t131 _ A16.out).mono ?_); rintro e w' ⟨rfl, ⟨nd, rfl⟩⟩; (try first | exact ⟨rfl, _, World.drewN_drewN _ _ _⟩ | exact ⟨rfl, _, Eq.trans (World.drewN_drewN _ _ _) (congrArg (World.drewN _) (Nat.add_assoc _ _ _))⟩)) | (go_at_call 36; (with_reducible refine (joistref00_Texts.calls k1 a1_2 a0_2 t132 _ A30.out).mono ?_); rintro e w' ⟨rfl, ⟨nd, rfl⟩⟩; (try first | exact ⟨rfl, _, World.drewN_drewN _ _ _⟩ | exact ⟨rfl, _, Eq.trans (World.drewN_drewN _ _ _) (congrArg (World.drewN _) (Nat.add_assoc _ _ _))⟩))))
                    go_ret
                    exact ⟨by first | rfl | (simp [errW_none, errW_some] <;> rfl) | (simp [*, errW_none, errW_some] <;> rfl), by repeat (first | (with_reducible first | exact HB.out | apply below_alloc | apply pw_below_drewN | apply below_drew1 | refine below_set ?_ GE128.out | refine below_set ?_ GE129.out) | exact HB.out)⟩
                · rw [if_neg c32] at H
                  have c32b0 : decide (a0_3 ≤ a1_3) = false := decide_eq_false c32
                  clear c32
                  obtain rfl := Option.some.inj H
                  have hnb40 := NB128_129.out
                  have hnc40 := NB129_128.out
                  have hcz41_0 : wr.cell? ⟨gb128, 0, none⟩ = some (.slice A0_0 l0_0.length c0_0) := (blk_cell BK128.out 0).trans rfl
                  have hcz41_1 : wr.cell? ⟨gb128, 1, none⟩ = some (.string a0_1) := (blk_cell BK128.out 1).trans rfl
                  have hcz41_2 : wr.cell? ⟨gb128, 2, none⟩ = some (.string a0_2) := (blk_cell BK128.out 2).trans rfl
                  have hcz41_3 : wr.cell? ⟨gb128, 3, none⟩ = some (.int .i64 a0_3) := (blk_cell BK128.out 3).trans rfl
                  have hcz41_4 : wr.cell? ⟨gb128, 4, none⟩ = some (.int .i64 a0_4) := (blk_cell BK128.out 4).trans rfl
                  have hcz41_5 : wr.cell? ⟨gb128, 5, none⟩ = some (.int .i64 a0_5) := (blk_cell BK128.out 5).trans rfl
                  have hcz41_6 : wr.cell? ⟨gb128, 6, none⟩ = some (.int .i64 a0_6) := (blk_cell BK128.out 6).trans rfl
                  have hfz41_0 := blk_frozen BK128.out 0
                  have hfz41_1 := blk_frozen BK128.out 1
                  have hfz41_2 := blk_frozen BK128.out 2
                  have hfz41_3 := blk_frozen BK128.out 3
                  have hfz41_4 := blk_frozen BK128.out 4
                  have hfz41_5 := blk_frozen BK128.out 5
                  have hfz41_6 := blk_frozen BK128.out 6
                  have hcz42_0 : wr.cell? ⟨gb129, 0, none⟩ = some (.string a1_0) := (blk_cell BK129.out 0).trans rfl
                  have hcz42_1 : wr.cell? ⟨gb129, 1, none⟩ = some (.string a1_1) := (blk_cell BK129.out 1).trans rfl
                  have hcz42_2 : wr.cell? ⟨gb129, 2, none⟩ = some (.string a1_2) := (blk_cell BK129.out 2).trans rfl
                  have hcz42_3 : wr.cell? ⟨gb129, 3, none⟩ = some (.int .i64 a1_3) := (blk_cell BK129.out 3).trans rfl
                  have hcz42_4 : wr.cell? ⟨gb129, 4, none⟩ = some (.int .i64 a1_4) := (blk_cell BK129.out 4).trans rfl
                  have hcz42_5 : wr.cell? ⟨gb129, 5, none⟩ = some (.int .i64 a1_5) := (blk_cell BK129.out 5).trans rfl
                  have hcz42_6 : wr.cell? ⟨gb129, 6, none⟩ = some (.int .i64 a1_6) := (blk_cell BK129.out 6).trans rfl
                  have hcz42_7 : wr.cell? ⟨gb129, 7, none⟩ = some (.string a1_7) := (blk_cell BK129.out 7).trans rfl
                  have hfz42_0 := blk_frozen BK129.out 0
                  have hfz42_1 := blk_frozen BK129.out 1
                  have hfz42_2 := blk_frozen BK129.out 2
                  have hfz42_3 := blk_frozen BK129.out 3
                  have hfz42_4 := blk_frozen BK129.out 4
                  have hfz42_5 := blk_frozen BK129.out 5
                  have hfz42_6 := blk_frozen BK129.out 6
                  have hfz42_7 := blk_frozen BK129.out 7
                  go_wp2_with (first | (go_at_call 36; (with_reducible refine (joistref00_Texts.calls k1 a1_2 a0_1 t131 _ A16.out).mono ?_); rintro e w' ⟨rfl, ⟨nd, rfl⟩⟩; (try first | exact ⟨rfl, _, World.drewN_drewN _ _ _⟩ | exact ⟨rfl, _, Eq.trans (World.drewN_drewN _ _ _) (congrArg (World.drewN _) (Nat.add_assoc _ _ _))⟩)) | (go_at_call 36; (with_reducible refine (joistref00_Texts.calls k1 a1_2 a0_2 t132 _ A30.out).mono ?_); rintro e w' ⟨rfl, ⟨nd, rfl⟩⟩; (try first | exact ⟨rfl, _, World.drewN_drewN _ _ _⟩ | exact ⟨rfl, _, Eq.trans (World.drewN_drewN _ _ _) (congrArg (World.drewN _) (Nat.add_assoc _ _ _))⟩)))
                  repeat (go_quiet (first | (go_at_call 36; (with_reducible refine (joistref00_Texts.calls k1 a1_2 a0_1 t131 _ A16.out).mono ?_); rintro e w' ⟨rfl, ⟨nd, rfl⟩⟩; (try first | exact ⟨rfl, _, World.drewN_drewN _ _ _⟩ | exact ⟨rfl, _, Eq.trans (World.drewN_drewN _ _ _) (congrArg (World.drewN _) (Nat.add_assoc _ _ _))⟩)) | (go_at_call 36; (with_reducible refine (joistref00_Texts.calls k1 a1_2 a0_2 t132 _ A30.out).mono ?_); rintro e w' ⟨rfl, ⟨nd, rfl⟩⟩; (try first | exact ⟨rfl, _, World.drewN_drewN _ _ _⟩ | exact ⟨rfl, _, Eq.trans (World.drewN_drewN _ _ _) (congrArg (World.drewN _) (Nat.add_assoc _ _ _))⟩))); try go_wp2_with (first | (go_at_call 36; (with_reducible refine (joistref00_Texts.calls k1 a1_2 a0_1 t131 _ A16.out).mono ?_); rintro e w' ⟨rfl, ⟨nd, rfl⟩⟩; (try first | exact ⟨rfl, _, World.drewN_drewN _ _ _⟩ | exact ⟨rfl, _, Eq.trans (World.drewN_drewN _ _ _) (congrArg (World.drewN _) (Nat.add_assoc _ _ _))⟩)) | (go_at_call 36; (with_reducible refine (joistref00_Texts.calls k1 a1_2 a0_2 t132 _ A30.out).mono ?_); rintro e w' ⟨rfl, ⟨nd, rfl⟩⟩; (try first | exact ⟨rfl, _, World.drewN_drewN _ _ _⟩ | exact ⟨rfl, _, Eq.trans (World.drewN_drewN _ _ _) (congrArg (World.drewN _) (Nat.add_assoc _ _ _))⟩))))
                  go_ret
                  exact ⟨by first | rfl | (simp [errW_none, errW_some] <;> rfl) | (simp [*, errW_none, errW_some] <;> rfl), by repeat (first | (with_reducible first | exact HB.out | apply below_alloc | apply pw_below_drewN | apply below_drew1 | refine below_set ?_ GE128.out | refine below_set ?_ GE129.out) | exact HB.out)⟩
              · rw [if_neg c31] at H
                have c31b0 : decide (t132 < 0) = false := decide_eq_false c31
                clear c31
                obtain rfl := Option.some.inj H
                have hnb43 := NB128_129.out
                have hnc43 := NB129_128.out
                have hcz44_0 : wr.cell? ⟨gb128, 0, none⟩ = some (.slice A0_0 l0_0.length c0_0) := (blk_cell BK128.out 0).trans rfl
                have hcz44_1 : wr.cell? ⟨gb128, 1, none⟩ = some (.string a0_1) := (blk_cell BK128.out 1).trans rfl
                have hcz44_2 : wr.cell? ⟨gb128, 2, none⟩ = some (.string a0_2) := (blk_cell BK128.out 2).trans rfl
                have hcz44_3 : wr.cell? ⟨gb128, 3, none⟩ = some (.int .i64 a0_3) := (blk_cell BK128.out 3).trans rfl
                have hcz44_4 : wr.cell? ⟨gb128, 4, none⟩ = some (.int .i64 a0_4) := (blk_cell BK128.out 4).trans rfl
                have hcz44_5 : wr.cell? ⟨gb128, 5, none⟩ = some (.int .i64 a0_5) := (blk_cell BK128.out 5).trans rfl
                have hcz44_6 : wr.cell? ⟨gb128, 6, none⟩ = some (.int .i64 a0_6) := (blk_cell BK128.out 6).trans rfl
                have hfz44_0 := blk_frozen BK128.out 0
                have hfz44_1 := blk_frozen BK128.out 1
                have hfz44_2 := blk_frozen BK128.out 2
                have hfz44_3 := blk_frozen BK128.out 3
                have hfz44_4 := blk_frozen BK128.out 4
                have hfz44_5 := blk_frozen BK128.out 5
                have hfz44_6 := blk_frozen BK128.out 6
                have hcz45_0 : wr.cell? ⟨gb129, 0, none⟩ = some (.string a1_0) := (blk_cell BK129.out 0).trans rfl
                have hcz45_1 : wr.cell? ⟨gb129, 1, none⟩ = some (.string a1_1) := (blk_cell BK129.out 1).trans rfl
                have hcz45_2 : wr.cell? ⟨gb129, 2, none⟩ = some (.string a1_2) := (blk_cell BK129.out 2).trans rfl
                have hcz45_3 : wr.cell? ⟨gb129, 3, none⟩ = some (.int .i64 a1_3) := (blk_cell BK129.out 3).trans rfl
                have hcz45_4 : wr.cell? ⟨gb129, 4, none⟩ = some (.int .i64 a1_4) := (blk_cell BK129.out 4).trans rfl
                have hcz45_5 : wr.cell? ⟨gb129, 5, none⟩ = some (.int .i64 a1_5) := (blk_cell BK129.out 5).trans rfl
                have hcz45_6 : wr.cell? ⟨gb129, 6, none⟩ = some (.int .i64 a1_6) := (blk_cell BK129.out 6).trans rfl
                have hcz45_7 : wr.cell? ⟨gb129, 7, none⟩ = some (.string a1_7) := (blk_cell BK129.out 7).trans rfl
                have hfz45_0 := blk_frozen BK129.out 0
                have hfz45_1 := blk_frozen BK129.out 1
                have hfz45_2 := blk_frozen BK129.out 2
                have hfz45_3 := blk_frozen BK129.out 3
                have hfz45_4 := blk_frozen BK129.out 4
                have hfz45_5 := blk_frozen BK129.out 5
                have hfz45_6 := blk_frozen BK129.out 6
                have hfz45_7 := blk_frozen BK129.out 7
                go_wp2_with (first | (go_at_call 36; (with_reducible refine (joistref00_Texts.calls k1 a1_2 a0_1 t131 _ A16.out).mono ?_); rintro e w' ⟨rfl, ⟨nd, rfl⟩⟩; (try first | exact ⟨rfl, _, World.drewN_drewN _ _ _⟩ | exact ⟨rfl, _, Eq.trans (World.drewN_drewN _ _ _) (congrArg (World.drewN _) (Nat.add_assoc _ _ _))⟩)) | (go_at_call 36; (with_reducible refine (joistref00_Texts.calls k1 a1_2 a0_2 t132 _ A30.out).mono ?_); rintro e w' ⟨rfl, ⟨nd, rfl⟩⟩; (try first | exact ⟨rfl, _, World.drewN_drewN _ _ _⟩ | exact ⟨rfl, _, Eq.trans (World.drewN_drewN _ _ _) (congrArg (World.drewN _) (Nat.add_assoc _ _ _))⟩)))
                repeat (go_quiet (first | (go_at_call 36; (with_reducible refine (joistref00_Texts.calls k1 a1_2 a0_1 t131 _ A16.out).mono ?_); rintro e w' ⟨rfl, ⟨nd, rfl⟩⟩; (try first | exact ⟨rfl, _, World.drewN_drewN _ _ _⟩ | exact ⟨rfl, _, Eq.trans (World.drewN_drewN _ _ _) (congrArg (World.drewN _) (Nat.add_assoc _ _ _))⟩)) | (go_at_call 36; (with_reducible refine (joistref00_Texts.calls k1 a1_2 a0_2 t132 _ A30.out).mono ?_); rintro e w' ⟨rfl, ⟨nd, rfl⟩⟩; (try first | exact ⟨rfl, _, World.drewN_drewN _ _ _⟩ | exact ⟨rfl, _, Eq.trans (World.drewN_drewN _ _ _) (congrArg (World.drewN _) (Nat.add_assoc _ _ _))⟩))); try go_wp2_with (first | (go_at_call 36; (with_reducible refine (joistref00_Texts.calls k1 a1_2 a0_1 t131 _ A16.out).mono ?_); rintro e w' ⟨rfl, ⟨nd, rfl⟩⟩; (try first | exact ⟨rfl, _, World.drewN_drewN _ _ _⟩ | exact ⟨rfl, _, Eq.trans (World.drewN_drewN _ _ _) (congrArg (World.drewN _) (Nat.add_assoc _ _ _))⟩)) | (go_at_call 36; (with_reducible refine (joistref00_Texts.calls k1 a1_2 a0_2 t132 _ A30.out).mono ?_); rintro e w' ⟨rfl, ⟨nd, rfl⟩⟩; (try first | exact ⟨rfl, _, World.drewN_drewN _ _ _⟩ | exact ⟨rfl, _, Eq.trans (World.drewN_drewN _ _ _) (congrArg (World.drewN _) (Nat.add_assoc _ _ _))⟩))))
                go_ret
                exact ⟨by first | rfl | (simp [errW_none, errW_some] <;> rfl) | (simp [*, errW_none, errW_some] <;> rfl), by repeat (first | (with_reducible first | exact HB.out | apply below_alloc | apply pw_below_drewN | apply below_drew1 | refine below_set ?_ GE128.out | refine below_set ?_ GE129.out) | exact HB.out)⟩
          · rw [if_neg c17] at H
            have c17b0 : decide (0 ≤ t131) = false := decide_eq_false c17
            clear c17
            obtain rfl := Option.some.inj H
            have hnb46 := NB128_129.out
            have hnc46 := NB129_128.out
            have hcz47_0 : wr.cell? ⟨gb128, 0, none⟩ = some (.slice A0_0 l0_0.length c0_0) := (blk_cell BK128.out 0).trans rfl
            have hcz47_1 : wr.cell? ⟨gb128, 1, none⟩ = some (.string a0_1) := (blk_cell BK128.out 1).trans rfl
            have hcz47_2 : wr.cell? ⟨gb128, 2, none⟩ = some (.string a0_2) := (blk_cell BK128.out 2).trans rfl
            have hcz47_3 : wr.cell? ⟨gb128, 3, none⟩ = some (.int .i64 a0_3) := (blk_cell BK128.out 3).trans rfl
            have hcz47_4 : wr.cell? ⟨gb128, 4, none⟩ = some (.int .i64 a0_4) := (blk_cell BK128.out 4).trans rfl
            have hcz47_5 : wr.cell? ⟨gb128, 5, none⟩ = some (.int .i64 a0_5) := (blk_cell BK128.out 5).trans rfl
            have hcz47_6 : wr.cell? ⟨gb128, 6, none⟩ = some (.int .i64 a0_6) := (blk_cell BK128.out 6).trans rfl
            have hfz47_0 := blk_frozen BK128.out 0
            have hfz47_1 := blk_frozen BK128.out 1
            have hfz47_2 := blk_frozen BK128.out 2
            have hfz47_3 := blk_frozen BK128.out 3
            have hfz47_4 := blk_frozen BK128.out 4
            have hfz47_5 := blk_frozen BK128.out 5
            have hfz47_6 := blk_frozen BK128.out 6
            have hcz48_0 : wr.cell? ⟨gb129, 0, none⟩ = some (.string a1_0) := (blk_cell BK129.out 0).trans rfl
            have hcz48_1 : wr.cell? ⟨gb129, 1, none⟩ = some (.string a1_1) := (blk_cell BK129.out 1).trans rfl
            have hcz48_2 : wr.cell? ⟨gb129, 2, none⟩ = some (.string a1_2) := (blk_cell BK129.out 2).trans rfl
            have hcz48_3 : wr.cell? ⟨gb129, 3, none⟩ = some (.int .i64 a1_3) := (blk_cell BK129.out 3).trans rfl
            have hcz48_4 : wr.cell? ⟨gb129, 4, none⟩ = some (.int .i64 a1_4) := (blk_cell BK129.out 4).trans rfl
            have hcz48_5 : wr.cell? ⟨gb129, 5, none⟩ = some (.int .i64 a1_5) := (blk_cell BK129.out 5).trans rfl
            have hcz48_6 : wr.cell? ⟨gb129, 6, none⟩ = some (.int .i64 a1_6) := (blk_cell BK129.out 6).trans rfl
            have hcz48_7 : wr.cell? ⟨gb129, 7, none⟩ = some (.string a1_7) := (blk_cell BK129.out 7).trans rfl
            have hfz48_0 := blk_frozen BK129.out 0
            have hfz48_1 := blk_frozen BK129.out 1
            have hfz48_2 := blk_frozen BK129.out 2
            have hfz48_3 := blk_frozen BK129.out 3
            have hfz48_4 := blk_frozen BK129.out 4
            have hfz48_5 := blk_frozen BK129.out 5
            have hfz48_6 := blk_frozen BK129.out 6
            have hfz48_7 := blk_frozen BK129.out 7
            go_wp2_with (first | (go_at_call 36; (with_reducible refine (joistref00_Texts.calls k1 a1_2 a0_1 t131 _ A16.out).mono ?_); rintro e w' ⟨rfl, ⟨nd, rfl⟩⟩; (try first | exact ⟨rfl, _, World.drewN_drewN _ _ _⟩ | exact ⟨rfl, _, Eq.trans (World.drewN_drewN _ _ _) (congrArg (World.drewN _) (Nat.add_assoc _ _ _))⟩)))
            repeat (go_quiet (first | (go_at_call 36; (with_reducible refine (joistref00_Texts.calls k1 a1_2 a0_1 t131 _ A16.out).mono ?_); rintro e w' ⟨rfl, ⟨nd, rfl⟩⟩; (try first | exact ⟨rfl, _, World.drewN_drewN _ _ _⟩ | exact ⟨rfl, _, Eq.trans (World.drewN_drewN _ _ _) (congrArg (World.drewN _) (Nat.add_assoc _ _ _))⟩))); try go_wp2_with (first | (go_at_call 36; (with_reducible refine (joistref00_Texts.calls k1 a1_2 a0_1 t131 _ A16.out).mono ?_); rintro e w' ⟨rfl, ⟨nd, rfl⟩⟩; (try first | exact ⟨rfl, _, World.drewN_drewN _ _ _⟩ | exact ⟨rfl, _, Eq.trans (World.drewN_drewN _ _ _) (congrArg (World.drewN _) (Nat.add_assoc _ _ _))⟩))))
            go_ret
            exact ⟨by first | rfl | (simp [errW_none, errW_some] <;> rfl) | (simp [*, errW_none, errW_some] <;> rfl), by repeat (first | (with_reducible first | exact HB.out | apply below_alloc | apply pw_below_drewN | apply below_drew1 | refine below_set ?_ GE128.out | refine below_set ?_ GE129.out) | exact HB.out)⟩
        · replace c15 := Bool.eq_false_iff.mpr c15
          subst c15
          have H1 : (some false) = some r := by rw [if_neg (show ¬ (false = true) by decide)] at H; exact H
          clear H
          have H := H1
          clear H1
          obtain rfl := Option.some.inj H
          have hnb49 := NB128_129.out
          have hnc49 := NB129_128.out
          have hcz50_0 : wr.cell? ⟨gb128, 0, none⟩ = some (.slice A0_0 l0_0.length c0_0) := (blk_cell BK128.out 0).trans rfl
          have hcz50_1 : wr.cell? ⟨gb128, 1, none⟩ = some (.string a0_1) := (blk_cell BK128.out 1).trans rfl
          have hcz50_2 : wr.cell? ⟨gb128, 2, none⟩ = some (.string a0_2) := (blk_cell BK128.out 2).trans rfl
          have hcz50_3 : wr.cell? ⟨gb128, 3, none⟩ = some (.int .i64 a0_3) := (blk_cell BK128.out 3).trans rfl
          have hcz50_4 : wr.cell? ⟨gb128, 4, none⟩ = some (.int .i64 a0_4) := (blk_cell BK128.out 4).trans rfl
          have hcz50_5 : wr.cell? ⟨gb128, 5, none⟩ = some (.int .i64 a0_5) := (blk_cell BK128.out 5).trans rfl
          have hcz50_6 : wr.cell? ⟨gb128, 6, none⟩ = some (.int .i64 a0_6) := (blk_cell BK128.out 6).trans rfl
          have hfz50_0 := blk_frozen BK128.out 0
          have hfz50_1 := blk_frozen BK128.out 1
          have hfz50_2 := blk_frozen BK128.out 2
          have hfz50_3 := blk_frozen BK128.out 3
          have hfz50_4 := blk_frozen BK128.out 4
          have hfz50_5 := blk_frozen BK128.out 5
          have hfz50_6 := blk_frozen BK128.out 6
          go_wp2
          repeat (go_quiet (fail); try go_wp2)
          go_ret
          exact ⟨by first | rfl | (simp [errW_none, errW_some] <;> rfl) | (simp [*, errW_none, errW_some] <;> rfl), by repeat (first | (with_reducible first | exact HB.out | apply below_alloc | apply pw_below_drewN | apply below_drew1 | refine below_set ?_ GE128.out | refine below_set ?_ GE129.out) | exact HB.out)⟩

end Go.Proofs.Ythbgjaboghnpjaa.Q
