-- Written by a program of this session, out of Lean's print of the loaded program (a patched copy of the kit's print).
import Derived.Test.YthbgjaboghnpjaaQx0
import Derived.Test.YthbgjaboghnpjaaQx8
import Derived.Test.YthbgjaboghnpjaaQx16
import Derived.Test.YthbgjaboghnpjaaQx18
import Derived.Test.YthbgjaboghnpjaaQx21
import Derived.Test.YthbgjaboghnpjaaQx23
import Derived.Test.YthbgjaboghnpjaaQx25
import Derived.Test.YthbgjaboghnpjaaQx33
import Derived.Test.YthbgjaboghnpjaaQx35
namespace Go.Proofs.Ythbgjaboghnpjaa.Q
open Go.RowKit Go.Proofs.YthbgjaboghnpjaaW.PrintWords Go.Proofs.YthbgjaboghnpjaaW.PrintLast Go.Proofs.YthbgjaboghnpjaaW.PrintMore
attribute [local go_sem] max2_int min2_int max_two min_two max_three min_three max_four min_four   -- for this text's walks alone
set_option linter.unusedVariables false
set_option linter.unusedSimpArgs false

/-! ### joistlaw13_FilterAgain: function 6 -/
mutual
def joistlaw13_FilterAgain.j0 : Nat → List (S29) → Bool → List ByteArray → ByteArray → ByteArray → Int → Int → Int → Int → Option (Bool)
  | 0, _, _, _, _, _, _, _, _, _ => none
  | k + 1, x1, x19, x205000, x205001, x205002, x205003, x205004, x205005, x205006 => if x19 = true then (some true) else ((joistref06_Sort.f k x1).bind fun t208 => ((filter_Apply.f x205000 x205001 x205002 x205003 x205004 x205005 x205006 t208).bind fun t211 => ((filter_Apply.f x205000 x205001 x205002 x205003 x205004 x205005 x205006 t211).bind fun t214 => ((joistref00_SameCells.f k t214 t211).bind fun t217 => (if t217 = true then ((filter_Clone.f x205000 x205001 x205002 x205003 x205004 x205005 x205006).bind fun bt218 => (joistlaw13_FilterAgain.l0 k t208 (([] : List (S29))) 0 x205000 x205001 x205002 x205003 x205004 x205005 x205006 bt218.1 bt218.2.1 bt218.2.2.1 bt218.2.2.2.1 bt218.2.2.2.2.1 0 0)) else (some false))))))
def joistlaw13_FilterAgain.l0 : Nat → List (S29) → List (S29) → Int → List ByteArray → ByteArray → ByteArray → Int → Int → Int → Int → List ByteArray → ByteArray → ByteArray → Int → Int → Int → Int → Option (Bool)
  | 0, _, _, _, _, _, _, _, _, _, _, _, _, _, _, _, _, _ => none
  | k + 1, x5, x8, x9, x205000, x205001, x205002, x205003, x205004, x205005, x205006, x228000, x228001, x228002, x228003, x228004, x228005, x228006 => if x9 < (x5.length : Int) then (if 0 ≤ x9 then ((joistref13_Lets.f k x205000 x205001 x205002 x205003 x205004 x205005 x205006 ((rd_T29 x5 x9).f0) ((rd_T29 x5 x9).f1) ((rd_T29 x5 x9).f2) ((rd_T29 x5 x9).f3) ((rd_T29 x5 x9).f4) ((rd_T29 x5 x9).f5.f0) ((rd_T29 x5 x9).f5.f1) ((rd_T29 x5 x9).f5.f2)).bind fun t232 => (if t232 = true then (if x8.length < 1466015503701 then (joistlaw13_FilterAgain.l0 k x5 (x8 ++ [(⟨(rd_T29 x5 x9).f0, (rd_T29 x5 x9).f1, (rd_T29 x5 x9).f2, (rd_T29 x5 x9).f3, (rd_T29 x5 x9).f4, (⟨(rd_T29 x5 x9).f5.f0, (rd_T29 x5 x9).f5.f1, (rd_T29 x5 x9).f5.f2⟩ : S27)⟩ : S29)]) (wrap64 (x9 + 1)) x205000 x205001 x205002 x205003 x205004 x205005 x205006 x228000 x228001 x228002 x228003 x228004 x228005 x228006) else (none)) else (joistlaw13_FilterAgain.l0 k x5 x8 (wrap64 (x9 + 1)) x205000 x205001 x205002 x205003 x205004 x205005 x205006 x228000 x228001 x228002 x228003 x228004 x228005 x228006))) else (none)) else ((filter_Apply.f x228000 x228001 x228002 x228003 x228004 x228005 x228006 x5).bind fun t237 => ((joistref00_SameCells.f k t237 x8).bind fun t240 => (some t240)))
end
def joistlaw13_FilterAgain.f (k : Nat) (l0_0 : List ByteArray) (a0_1 : ByteArray) (a0_2 : ByteArray) (a0_3 : Int) (a0_4 : Int) (a0_5 : Int) (a0_6 : Int) (l1 : List (S29)) : Option (Bool) := (joistlaw13_alive.f).bind fun t205 => (if t205 = true then ((joistlaw13_long.f k l0_0 a0_1 a0_2 a0_3 a0_4 a0_5 a0_6 l1).bind fun t206 => (if t206 = true then (joistlaw13_FilterAgain.j0 k l1 true l0_0 a0_1 a0_2 a0_3 a0_4 a0_5 a0_6) else ((joistref13_Right.f k l0_0 a0_1 a0_2 a0_3 a0_4 a0_5 a0_6).bind fun t207 => (joistlaw13_FilterAgain.j0 k l1 (!t207) l0_0 a0_1 a0_2 a0_3 a0_4 a0_5 a0_6)))) else (some false))
theorem joistlaw13_FilterAgain.mono_l : ∀ k, (∀ y0 y1 y2 y3 y4 y5 y6 y7 y8, LeO (joistlaw13_FilterAgain.j0 k y0 y1 y2 y3 y4 y5 y6 y7 y8) (joistlaw13_FilterAgain.j0 (k + 1) y0 y1 y2 y3 y4 y5 y6 y7 y8)) ∧ (∀ y0 y1 y2 y3 y4 y5 y6 y7 y8 y9 y10 y11 y12 y13 y14 y15 y16, LeO (joistlaw13_FilterAgain.l0 k y0 y1 y2 y3 y4 y5 y6 y7 y8 y9 y10 y11 y12 y13 y14 y15 y16) (joistlaw13_FilterAgain.l0 (k + 1) y0 y1 y2 y3 y4 y5 y6 y7 y8 y9 y10 y11 y12 y13 y14 y15 y16))
  | 0 => ⟨fun _ _ _ _ _ _ _ _ _ r h => by simp [joistlaw13_FilterAgain.j0] at h, fun _ _ _ _ _ _ _ _ _ _ _ _ _ _ _ _ _ r h => by simp [joistlaw13_FilterAgain.l0] at h⟩
  | k + 1 => by
    obtain ⟨ih0, ih1⟩ := joistlaw13_FilterAgain.mono_l k
    refine ⟨?_, ?_⟩
    · intro y0 y1 y2 y3 y4 y5 y6 y7 y8
      unfold joistlaw13_FilterAgain.j0
      repeat' first
      | (with_reducible exact ih0 _ _ _ _ _ _ _ _ _)
      | (with_reducible exact ih1 _ _ _ _ _ _ _ _ _ _ _ _ _ _ _ _ _)
      | (with_reducible exact joistlaw13_long.mono _ _ _ _ _ _ _ _ _)
      | (with_reducible exact joistref00_SameCells.mono _ _ _)
      | (with_reducible exact joistref06_Sort.mono _ _)
      | (with_reducible exact joistref13_Lets.mono _ _ _ _ _ _ _ _ _ _ _ _ _ _ _ _)
      | (with_reducible exact joistref13_Right.mono _ _ _ _ _ _ _ _)
      | (with_reducible exact LeO.refl _)
      | (with_reducible exact LeO.none _)
      | (with_reducible refine LeO.ite ?_ ?_)
      | (with_reducible refine LeO.bind ?_ (fun _ => ?_))
      | exact ih0 _ _ _ _ _ _ _ _ _
      | exact ih1 _ _ _ _ _ _ _ _ _ _ _ _ _ _ _ _ _
      | exact joistlaw13_long.mono _ _ _ _ _ _ _ _ _
      | exact joistref00_SameCells.mono _ _ _
      | exact joistref06_Sort.mono _ _
      | exact joistref13_Lets.mono _ _ _ _ _ _ _ _ _ _ _ _ _ _ _ _
      | exact joistref13_Right.mono _ _ _ _ _ _ _ _
      | exact LeO.none _
      | refine LeO.ite ?_ ?_
      | refine LeO.bind ?_ (fun _ => ?_)
    · intro y0 y1 y2 y3 y4 y5 y6 y7 y8 y9 y10 y11 y12 y13 y14 y15 y16
      unfold joistlaw13_FilterAgain.l0
      repeat' first
      | (with_reducible exact ih0 _ _ _ _ _ _ _ _ _)
      | (with_reducible exact ih1 _ _ _ _ _ _ _ _ _ _ _ _ _ _ _ _ _)
      | (with_reducible exact joistlaw13_long.mono _ _ _ _ _ _ _ _ _)
      | (with_reducible exact joistref00_SameCells.mono _ _ _)
      | (with_reducible exact joistref06_Sort.mono _ _)
      | (with_reducible exact joistref13_Lets.mono _ _ _ _ _ _ _ _ _ _ _ _ _ _ _ _)
      | (with_reducible exact joistref13_Right.mono _ _ _ _ _ _ _ _)
      | (with_reducible exact LeO.refl _)
      | (with_reducible exact LeO.none _)
      | (with_reducible refine LeO.ite ?_ ?_)
      | (with_reducible refine LeO.bind ?_ (fun _ => ?_))
      | exact ih0 _ _ _ _ _ _ _ _ _
      | exact ih1 _ _ _ _ _ _ _ _ _ _ _ _ _ _ _ _ _
      | exact joistlaw13_long.mono _ _ _ _ _ _ _ _ _
      | exact joistref00_SameCells.mono _ _ _
      | exact joistref06_Sort.mono _ _
      | exact joistref13_Lets.mono _ _ _ _ _ _ _ _ _ _ _ _ _ _ _ _
      | exact joistref13_Right.mono _ _ _ _ _ _ _ _
      | exact LeO.none _
      | refine LeO.ite ?_ ?_
      | refine LeO.bind ?_ (fun _ => ?_)
theorem joistlaw13_FilterAgain.mono : ∀ a0 a1 a2 a3 a4 a5 a6 a7 k, LeO (joistlaw13_FilterAgain.f k a0 a1 a2 a3 a4 a5 a6 a7) (joistlaw13_FilterAgain.f (k + 1) a0 a1 a2 a3 a4 a5 a6 a7) := by
  intro a0 a1 a2 a3 a4 a5 a6 a7 k
  obtain ⟨ih0, ih1⟩ := joistlaw13_FilterAgain.mono_l k
  unfold joistlaw13_FilterAgain.f
  repeat' first
      | (with_reducible exact ih0 _ _ _ _ _ _ _ _ _)
      | (with_reducible exact ih1 _ _ _ _ _ _ _ _ _ _ _ _ _ _ _ _ _)
      | (with_reducible exact joistlaw13_long.mono _ _ _ _ _ _ _ _ _)
      | (with_reducible exact joistref00_SameCells.mono _ _ _)
      | (with_reducible exact joistref06_Sort.mono _ _)
      | (with_reducible exact joistref13_Lets.mono _ _ _ _ _ _ _ _ _ _ _ _ _ _ _ _)
      | (with_reducible exact joistref13_Right.mono _ _ _ _ _ _ _ _)
      | (with_reducible exact LeO.refl _)
      | (with_reducible exact LeO.none _)
      | (with_reducible refine LeO.ite ?_ ?_)
      | (with_reducible refine LeO.bind ?_ (fun _ => ?_))
      | exact ih0 _ _ _ _ _ _ _ _ _
      | exact ih1 _ _ _ _ _ _ _ _ _ _ _ _ _ _ _ _ _
      | exact joistlaw13_long.mono _ _ _ _ _ _ _ _ _
      | exact joistref00_SameCells.mono _ _ _
      | exact joistref06_Sort.mono _ _
      | exact joistref13_Lets.mono _ _ _ _ _ _ _ _ _ _ _ _ _ _ _ _
      | exact joistref13_Right.mono _ _ _ _ _ _ _ _
      | exact LeO.none _
      | refine LeO.ite ?_ ?_
      | refine LeO.bind ?_ (fun _ => ?_)
set_option maxHeartbeats 8000000 in
set_option maxRecDepth 100000 in
theorem joistlaw13_FilterAgain.calls (k : Nat) (A0_0 : Option Addr) (c0_0 : Nat) (l0_0 : List ByteArray) (a0_1 : ByteArray) (a0_2 : ByteArray) (a0_3 : Int) (a0_4 : Int) (a0_5 : Int) (a0_6 : Int) (A1 : Option Addr) (c1 : Nat) (l1 : List (S29)) (r : Bool) (w : World) (hr0_0 : Kd.C Kd.string w A0_0 l0_0.length l0_0) (hc0_0 : l0_0.length ≤ c0_0) (hr1 : Kd.C k29 w A1 l1.length l1) (hc1 : l1.length ≤ c1) (h : joistlaw13_FilterAgain.f k l0_0 a0_1 a0_2 a0_3 a0_4 a0_5 a0_6 l1 = some r) :
    Calls Try.prog 6 #[.agg #[.slice A0_0 l0_0.length c0_0, .string a0_1, .string a0_2, .int .i64 a0_3, .int .i64 a0_4, .int .i64 a0_5, .int .i64 a0_6], .slice A1 l1.length c1] w fun e w' => e = .returned (.bool r) ∧ Below w.heap.size w w' := by
  have hu24 := Try.underlying24
  have hu29 := Try.underlying29
  have HR0_0 := Aside0.mk hr0_0
  have HC0_0 := Aside0.mk hc0_0
  clear hr0_0 hc0_0
  have HR1 := Aside0.mk hr1
  have HC1 := Aside0.mk hc1
  clear hr1 hc1
  have HB := Aside0.mk (Below.refl w.heap.size w)
  have H : ((joistlaw13_alive.f).bind fun t205 => (if t205 = true then ((joistlaw13_long.f k l0_0 a0_1 a0_2 a0_3 a0_4 a0_5 a0_6 l1).bind fun t206 => (if t206 = true then (joistlaw13_FilterAgain.j0 k l1 true l0_0 a0_1 a0_2 a0_3 a0_4 a0_5 a0_6) else ((joistref13_Right.f k l0_0 a0_1 a0_2 a0_3 a0_4 a0_5 a0_6).bind fun t207 => (joistlaw13_FilterAgain.j0 k l1 (!t207) l0_0 a0_1 a0_2 a0_3 a0_4 a0_5 a0_6)))) else (some false))) = some r := h
  clear h
  replace H := Option.bind_eq_some_iff.mp H
  obtain ⟨t205, A30, H⟩ := H
  replace H : (if t205 = true then ((joistlaw13_long.f k l0_0 a0_1 a0_2 a0_3 a0_4 a0_5 a0_6 l1).bind fun t206 => (if t206 = true then (joistlaw13_FilterAgain.j0 k l1 true l0_0 a0_1 a0_2 a0_3 a0_4 a0_5 a0_6) else ((joistref13_Right.f k l0_0 a0_1 a0_2 a0_3 a0_4 a0_5 a0_6).bind fun t207 => (joistlaw13_FilterAgain.j0 k l1 (!t207) l0_0 a0_1 a0_2 a0_3 a0_4 a0_5 a0_6)))) else (some false)) = some r := H
  have A3 := Aside0.mk A30
  clear A30
  by_cases c4 : t205 = true
  · subst c4
    have H1 : ((joistlaw13_long.f k l0_0 a0_1 a0_2 a0_3 a0_4 a0_5 a0_6 l1).bind fun t206 => (if t206 = true then (joistlaw13_FilterAgain.j0 k l1 true l0_0 a0_1 a0_2 a0_3 a0_4 a0_5 a0_6) else ((joistref13_Right.f k l0_0 a0_1 a0_2 a0_3 a0_4 a0_5 a0_6).bind fun t207 => (joistlaw13_FilterAgain.j0 k l1 (!t207) l0_0 a0_1 a0_2 a0_3 a0_4 a0_5 a0_6)))) = some r := by rw [if_pos rfl] at H; exact H
    clear H
    have H := H1
    clear H1
    have HC5 := Aside0.mk H
    clear H
    go_enter Try.func6, Try.ntmps6
    go_upto_region 3 with (first | ((with_reducible refine gate_dst (N := 2) rfl ?_); refine box_event ?hg (N := 2) ?hd (cs := #[.slice A0_0 l0_0.length c0_0, .string a0_1, .string a0_2, .int .i64 a0_3, .int .i64 a0_4, .int .i64 a0_5, .int .i64 a0_6]) (t := 24) ?hr ?_; (case hd => rfl); (case hg => rfl); (case hr => first | (go_simp; done) | (go_simp; rfl)); intro gb204 hg w6 hbox hb; have n0_ := Aside0.mk (below_step (by repeat (first | (with_reducible first | exact HB.out | apply below_alloc | apply pw_below_drewN | apply below_drew1) | exact HB.out)) hb); have n1_ := Aside0.mk (hbox); have n2_ := Aside0.mk ((by rw [hg]; exact (below_size (by repeat (first | (with_reducible first | exact HB.out | apply below_alloc | apply pw_below_drewN | apply below_drew1) | exact HB.out))) : w.heap.size ≤ gb204)); have n3_ := Aside0.mk ((by rw [hg]; exact (below_size (by repeat (first | (with_reducible first | exact HB.out | apply below_alloc | apply pw_below_drewN | apply below_drew1) | exact HB.out))) : w.heap.size ≤ gb204)); clear HB; have HB := n0_; have BK204 := n1_; have GW204 := n2_; have GE204 := n3_; clear n0_ n1_ n2_ n3_; clear hb hbox hg) | ((with_reducible refine gate_callee (f := 8) rfl ?_); refine goesL_ (some 10) rfl rfl Try.func8 (by kernel_rfl) rfl #[] rfl (by (try simp only [List.map_toArray, List.map_cons, List.map_nil]); first | done | rfl | (simp only [List.length_drop, List.length_take]; rfl)) ?_; (with_reducible refine (joistlaw13_alive.calls  true _ A3.out).mono ?_); rintro e w7 ⟨rfl, hb⟩; refine ⟨_, rfl, ?_⟩; have n0_ := Aside0.mk (blk_below (g := gb204) (o := .cells #[.slice A0_0 l0_0.length c0_0, .string a0_1, .string a0_2, .int .i64 a0_3, .int .i64 a0_4, .int .i64 a0_5, .int .i64 a0_6] 24 (0, 0)) (by (with_reducible repeat (first | refine blk_drewN ?_ _ | refine blk_drew ?_ | refine blk_alloc ?_ _)); exact BK204.out) hb); have n1_ := Aside0.mk (below_step (by repeat (first | (with_reducible first | exact HB.out | apply below_alloc | apply pw_below_drewN | apply below_drew1 | refine below_set ?_ GE204.out) | exact HB.out)) hb); clear BK204; clear HB; have BK204 := n0_; have HB := n1_; clear n0_ n1_; (try clear hb); (try clear hb2); (try clear hk); (try clear hi)))
    (try simp only [Act.put, List.setIfInBounds_toArray, List.set_cons_zero, List.set_cons_succ])
    go_cut [19] (fun v19 wc => ∃ (kq : Nat) (x19_4 : Bool), v19 = .bool x19_4 ∧ Aside0 (joistlaw13_FilterAgain.j0 kq l1 x19_4 l0_0 a0_1 a0_2 a0_3 a0_4 a0_5 a0_6 = some r) ∧ Aside0 (kq ≤ k) ∧ Aside0 (wc.heap[gb204]? = some (.cells #[(.slice A0_0 l0_0.length c0_0), .string a0_1, .string a0_2, .int .i64 a0_3, .int .i64 a0_4, .int .i64 a0_5, .int .i64 a0_6] 24 (0, 0))) ∧ Aside0 (Below w.heap.size w wc))
    case first =>
      have H := HC5.out
      clear HC5
      replace H := Option.bind_eq_some_iff.mp H
      obtain ⟨t206, A80, H⟩ := H
      replace H : (if t206 = true then (joistlaw13_FilterAgain.j0 k l1 true l0_0 a0_1 a0_2 a0_3 a0_4 a0_5 a0_6) else ((joistref13_Right.f k l0_0 a0_1 a0_2 a0_3 a0_4 a0_5 a0_6).bind fun t207 => (joistlaw13_FilterAgain.j0 k l1 (!t207) l0_0 a0_1 a0_2 a0_3 a0_4 a0_5 a0_6))) = some r := H
      have A8 := Aside0.mk A80
      clear A80
      by_cases c9 : t206 = true
      · subst c9
        have H1 : (joistlaw13_FilterAgain.j0 k l1 true l0_0 a0_1 a0_2 a0_3 a0_4 a0_5 a0_6) = some r := by rw [if_pos rfl] at H; exact H
        clear H
        have H := H1
        clear H1
        have H' := Aside0.mk H
        clear H
        have hcz10_0 : w7.cell? ⟨gb204, 0, none⟩ = some (.slice A0_0 l0_0.length c0_0) := (blk_cell BK204.out 0).trans rfl
        have hcz10_1 : w7.cell? ⟨gb204, 1, none⟩ = some (.string a0_1) := (blk_cell BK204.out 1).trans rfl
        have hcz10_2 : w7.cell? ⟨gb204, 2, none⟩ = some (.string a0_2) := (blk_cell BK204.out 2).trans rfl
        have hcz10_3 : w7.cell? ⟨gb204, 3, none⟩ = some (.int .i64 a0_3) := (blk_cell BK204.out 3).trans rfl
        have hcz10_4 : w7.cell? ⟨gb204, 4, none⟩ = some (.int .i64 a0_4) := (blk_cell BK204.out 4).trans rfl
        have hcz10_5 : w7.cell? ⟨gb204, 5, none⟩ = some (.int .i64 a0_5) := (blk_cell BK204.out 5).trans rfl
        have hcz10_6 : w7.cell? ⟨gb204, 6, none⟩ = some (.int .i64 a0_6) := (blk_cell BK204.out 6).trans rfl
        have hfz10_0 := blk_frozen BK204.out 0
        have hfz10_1 := blk_frozen BK204.out 1
        have hfz10_2 := blk_frozen BK204.out 2
        have hfz10_3 := blk_frozen BK204.out 3
        have hfz10_4 := blk_frozen BK204.out 4
        have hfz10_5 := blk_frozen BK204.out 5
        have hfz10_6 := blk_frozen BK204.out 6
        go_wp2_with (first | ((with_reducible refine gate_callee (f := 9) rfl ?_); refine goesL_ (some 14) rfl rfl Try.func9 (by kernel_rfl) rfl #[.agg #[.slice A0_0 l0_0.length c0_0, .string a0_1, .string a0_2, .int .i64 a0_3, .int .i64 a0_4, .int .i64 a0_5, .int .i64 a0_6], .slice A1 l1.length c1] rfl (by (try simp only [List.map_toArray, List.map_cons, List.map_nil]); first | done | rfl | (simp only [List.length_drop, List.length_take]; rfl)) ?_; (with_reducible refine (joistlaw13_long.calls k _ _ l0_0 a0_1 a0_2 a0_3 a0_4 a0_5 a0_6 _ _ l1 true _ ?side1 ?side2 ?side3 ?side4 A8.out).mono ?_); (case side1 => repeat (first | exact (Kd.C_below HR0_0.out HB.out) | (with_reducible refine Kd.C_alloc ?_ _) | (with_reducible refine Kd.C_drewN ?_ _) | (with_reducible refine Kd.C_drew ?_))); (case side2 => exact HC0_0.out); (case side3 => repeat (first | exact (Kd.C_below HR1.out HB.out) | (with_reducible refine Kd.C_alloc ?_ _) | (with_reducible refine Kd.C_drewN ?_ _) | (with_reducible refine Kd.C_drew ?_))); (case side4 => exact HC1.out); rintro e w11 ⟨rfl, hb⟩; refine ⟨_, rfl, ?_⟩; have n0_ := Aside0.mk (blk_below (g := gb204) (o := .cells #[.slice A0_0 l0_0.length c0_0, .string a0_1, .string a0_2, .int .i64 a0_3, .int .i64 a0_4, .int .i64 a0_5, .int .i64 a0_6] 24 (0, 0)) (by (with_reducible repeat (first | refine blk_drewN ?_ _ | refine blk_drew ?_ | refine blk_alloc ?_ _)); exact BK204.out) hb); have n1_ := Aside0.mk (below_step (by repeat (first | (with_reducible first | exact HB.out | apply below_alloc | apply pw_below_drewN | apply below_drew1 | refine below_set ?_ GE204.out) | exact HB.out)) hb); clear BK204; clear HB; have BK204 := n0_; have HB := n1_; clear n0_ n1_; (try clear hb); (try clear hb2); (try clear hk); (try clear hi)))
        go_meet
        case rel => exact ⟨_, (true), (by first | rfl | (simp; done) | (simp [*]; done)), H', ⟨by first | omega | exact Nat.le_refl _⟩, ⟨by (with_reducible repeat (first | refine blk_drewN ?_ _ | refine blk_drew ?_ | refine blk_alloc ?_ _)); exact BK204.out⟩, ⟨by repeat (first | (with_reducible first | exact HB.out | apply below_alloc | apply pw_below_drewN | apply below_drew1 | refine below_set ?_ GE204.out) | exact HB.out)⟩⟩
      · replace c9 := Bool.eq_false_iff.mpr c9
        subst c9
        have H1 : ((joistref13_Right.f k l0_0 a0_1 a0_2 a0_3 a0_4 a0_5 a0_6).bind fun t207 => (joistlaw13_FilterAgain.j0 k l1 (!t207) l0_0 a0_1 a0_2 a0_3 a0_4 a0_5 a0_6)) = some r := by rw [if_neg (show ¬ (false = true) by decide)] at H; exact H
        clear H
        have H := H1
        clear H1
        replace H := Option.bind_eq_some_iff.mp H
        obtain ⟨t207, A120, H⟩ := H
        replace H : (joistlaw13_FilterAgain.j0 k l1 (!t207) l0_0 a0_1 a0_2 a0_3 a0_4 a0_5 a0_6) = some r := H
        have A12 := Aside0.mk A120
        clear A120
        have H' := Aside0.mk H
        clear H
        have hcz13_0 : w7.cell? ⟨gb204, 0, none⟩ = some (.slice A0_0 l0_0.length c0_0) := (blk_cell BK204.out 0).trans rfl
        have hcz13_1 : w7.cell? ⟨gb204, 1, none⟩ = some (.string a0_1) := (blk_cell BK204.out 1).trans rfl
        have hcz13_2 : w7.cell? ⟨gb204, 2, none⟩ = some (.string a0_2) := (blk_cell BK204.out 2).trans rfl
        have hcz13_3 : w7.cell? ⟨gb204, 3, none⟩ = some (.int .i64 a0_3) := (blk_cell BK204.out 3).trans rfl
        have hcz13_4 : w7.cell? ⟨gb204, 4, none⟩ = some (.int .i64 a0_4) := (blk_cell BK204.out 4).trans rfl
        have hcz13_5 : w7.cell? ⟨gb204, 5, none⟩ = some (.int .i64 a0_5) := (blk_cell BK204.out 5).trans rfl
        have hcz13_6 : w7.cell? ⟨gb204, 6, none⟩ = some (.int .i64 a0_6) := (blk_cell BK204.out 6).trans rfl
        have hfz13_0 := blk_frozen BK204.out 0
        have hfz13_1 := blk_frozen BK204.out 1
        have hfz13_2 := blk_frozen BK204.out 2
        have hfz13_3 := blk_frozen BK204.out 3
        have hfz13_4 := blk_frozen BK204.out 4
        have hfz13_5 := blk_frozen BK204.out 5
        have hfz13_6 := blk_frozen BK204.out 6
        go_wp2_with (first | ((with_reducible refine gate_callee (f := 9) rfl ?_); refine goesL_ (some 14) rfl rfl Try.func9 (by kernel_rfl) rfl #[.agg #[.slice A0_0 l0_0.length c0_0, .string a0_1, .string a0_2, .int .i64 a0_3, .int .i64 a0_4, .int .i64 a0_5, .int .i64 a0_6], .slice A1 l1.length c1] rfl (by (try simp only [List.map_toArray, List.map_cons, List.map_nil]); first | done | rfl | (simp only [List.length_drop, List.length_take]; rfl)) ?_; (with_reducible refine (joistlaw13_long.calls k _ _ l0_0 a0_1 a0_2 a0_3 a0_4 a0_5 a0_6 _ _ l1 false _ ?side1 ?side2 ?side3 ?side4 A8.out).mono ?_); (case side1 => repeat (first | exact (Kd.C_below HR0_0.out HB.out) | (with_reducible refine Kd.C_alloc ?_ _) | (with_reducible refine Kd.C_drewN ?_ _) | (with_reducible refine Kd.C_drew ?_))); (case side2 => exact HC0_0.out); (case side3 => repeat (first | exact (Kd.C_below HR1.out HB.out) | (with_reducible refine Kd.C_alloc ?_ _) | (with_reducible refine Kd.C_drewN ?_ _) | (with_reducible refine Kd.C_drew ?_))); (case side4 => exact HC1.out); rintro e w14 ⟨rfl, hb⟩; refine ⟨_, rfl, ?_⟩; have n0_ := Aside0.mk (blk_below (g := gb204) (o := .cells #[.slice A0_0 l0_0.length c0_0, .string a0_1, .string a0_2, .int .i64 a0_3, .int .i64 a0_4, .int .i64 a0_5, .int .i64 a0_6] 24 (0, 0)) (by (with_reducible repeat (first | refine blk_drewN ?_ _ | refine blk_drew ?_ | refine blk_alloc ?_ _)); exact BK204.out) hb); have n1_ := Aside0.mk (below_step (by repeat (first | (with_reducible first | exact HB.out | apply below_alloc | apply pw_below_drewN | apply below_drew1 | refine below_set ?_ GE204.out) | exact HB.out)) hb); clear BK204; clear HB; have BK204 := n0_; have HB := n1_; clear n0_ n1_; (try clear hb); (try clear hb2); (try clear hk); (try clear hi); have hcz15_0 : w14.cell? ⟨gb204, 0, none⟩ = some (.slice A0_0 l0_0.length c0_0) := (blk_cell BK204.out 0).trans rfl; have hcz15_1 : w14.cell? ⟨gb204, 1, none⟩ = some (.string a0_1) := (blk_cell BK204.out 1).trans rfl; have hcz15_2 : w14.cell? ⟨gb204, 2, none⟩ = some (.string a0_2) := (blk_cell BK204.out 2).trans rfl; have hcz15_3 : w14.cell? ⟨gb204, 3, none⟩ = some (.int .i64 a0_3) := (blk_cell BK204.out 3).trans rfl; have hcz15_4 : w14.cell? ⟨gb204, 4, none⟩ = some (.int .i64 a0_4) := (blk_cell BK204.out 4).trans rfl; have hcz15_5 : w14.cell? ⟨gb204, 5, none⟩ = some (.int .i64 a0_5) := (blk_cell BK204.out 5).trans rfl; have hcz15_6 : w14.cell? ⟨gb204, 6, none⟩ = some (.int .i64 a0_6) := (blk_cell BK204.out 6).trans rfl; have hfz15_0 := blk_frozen BK204.out 0; have hfz15_1 := blk_frozen BK204.out 1; have hfz15_2 := blk_frozen BK204.out 2; have hfz15_3 := blk_frozen BK204.out 3; have hfz15_4 := blk_frozen BK204.out 4; have hfz15_5 := blk_frozen BK204.out 5; have hfz15_6 := blk_frozen BK204.out 6) | (go_at_call 13; (with_reducible refine (joistref13_Right.calls k _ _ l0_0 a0_1 a0_2 a0_3 a0_4 a0_5 a0_6 t207 _ ?side1 ?side2 A12.out).mono ?_); (case side1 => repeat (first | exact (Kd.C_below HR0_0.out HB.out) | (with_reducible refine Kd.C_alloc ?_ _) | (with_reducible refine Kd.C_drewN ?_ _) | (with_reducible refine Kd.C_drew ?_))); (case side2 => exact HC0_0.out); rintro e w16 ⟨rfl, hb⟩; have n0_ := Aside0.mk (blk_below (g := gb204) (o := .cells #[.slice A0_0 l0_0.length c0_0, .string a0_1, .string a0_2, .int .i64 a0_3, .int .i64 a0_4, .int .i64 a0_5, .int .i64 a0_6] 24 (0, 0)) (by (with_reducible repeat (first | refine blk_drewN ?_ _ | refine blk_drew ?_ | refine blk_alloc ?_ _)); exact BK204.out) hb); have n1_ := Aside0.mk (below_step (by repeat (first | (with_reducible first | exact HB.out | apply below_alloc | apply pw_below_drewN | apply below_drew1 | refine below_set ?_ GE204.out) | exact HB.out)) hb); clear BK204; clear HB; have BK204 := n0_; have HB := n1_; clear n0_ n1_; (try clear hb); (try clear hb2); (try clear hk); (try clear hi)))
        go_meet
        case rel => exact ⟨_, (!t207), (by first | rfl | (simp; done) | (simp [*]; done)), H', ⟨by first | omega | exact Nat.le_refl _⟩, ⟨by (with_reducible repeat (first | refine blk_drewN ?_ _ | refine blk_drew ?_ | refine blk_alloc ?_ _)); exact BK204.out⟩, ⟨by repeat (first | (with_reducible first | exact HB.out | apply below_alloc | apply pw_below_drewN | apply below_drew1 | refine below_set ?_ GE204.out) | exact HB.out)⟩⟩
    case rest =>
      clear HC5
      try clear c1
      try clear p2
      try clear c4
      try clear c6
      try clear c8
      try clear c9
      try clear hcz10_0
      try clear hcz10_1
      try clear hcz10_2
      try clear hcz10_3
      try clear hcz10_4
      try clear hcz10_5
      try clear hcz10_6
      try clear hcz13_0
      try clear hcz13_1
      try clear hcz13_2
      try clear hcz13_3
      try clear hcz13_4
      try clear hcz13_5
      try clear hcz13_6
      try clear hcz15_0
      try clear hcz15_1
      try clear hcz15_2
      try clear hcz15_3
      try clear hcz15_4
      try clear hcz15_5
      try clear hcz15_6
      try clear hfz10_0
      try clear hfz10_1
      try clear hfz10_2
      try clear hfz10_3
      try clear hfz10_4
      try clear hfz10_5
      try clear hfz10_6
      try clear hfz13_0
      try clear hfz13_1
      try clear hfz13_2
      try clear hfz13_3
      try clear hfz13_4
      try clear hfz13_5
      try clear hfz13_6
      try clear hfz15_0
      try clear hfz15_1
      try clear hfz15_2
      try clear hfz15_3
      try clear hfz15_4
      try clear hfz15_5
      try clear hfz15_6
      obtain ⟨kq, x19_4, rfl, HA, HJ4, BK204, HB⟩ := hcut
      cases kq with
      | zero => exact absurd HA.out (by simp [joistlaw13_FilterAgain.j0])
      | succ kj4 =>
        have H := HA.out
        clear HA
        simp only [joistlaw13_FilterAgain.j0] at H
        by_cases c17 : x19_4 = true
        · subst c17
          have H1 : (some true) = some r := by rw [if_pos rfl] at H; exact H
          clear H
          have H := H1
          clear H1
          obtain rfl := Option.some.inj H
          go_wp2
          go_ret
          exact ⟨by first | rfl | (simp [errW_none, errW_some] <;> rfl) | (simp [*, errW_none, errW_some] <;> rfl), by repeat (first | (with_reducible first | exact HB.out | apply below_alloc | apply pw_below_drewN | apply below_drew1 | refine below_set ?_ GE204.out) | exact HB.out)⟩
        · replace c17 := Bool.eq_false_iff.mpr c17
          subst c17
          have H1 : ((joistref06_Sort.f kj4 l1).bind fun t208 => ((filter_Apply.f l0_0 a0_1 a0_2 a0_3 a0_4 a0_5 a0_6 t208).bind fun t211 => ((filter_Apply.f l0_0 a0_1 a0_2 a0_3 a0_4 a0_5 a0_6 t211).bind fun t214 => ((joistref00_SameCells.f kj4 t214 t211).bind fun t217 => (if t217 = true then ((filter_Clone.f l0_0 a0_1 a0_2 a0_3 a0_4 a0_5 a0_6).bind fun bt218 => (joistlaw13_FilterAgain.l0 kj4 t208 (([] : List (S29))) 0 l0_0 a0_1 a0_2 a0_3 a0_4 a0_5 a0_6 bt218.1 bt218.2.1 bt218.2.2.1 bt218.2.2.2.1 bt218.2.2.2.2.1 0 0)) else (some false)))))) = some r := by rw [if_neg (show ¬ (false = true) by decide)] at H; exact H
          clear H
          have H := H1
          clear H1
          replace H := Option.bind_eq_some_iff.mp H
          obtain ⟨t208, A180, H⟩ := H
          replace H : ((filter_Apply.f l0_0 a0_1 a0_2 a0_3 a0_4 a0_5 a0_6 t208).bind fun t211 => ((filter_Apply.f l0_0 a0_1 a0_2 a0_3 a0_4 a0_5 a0_6 t211).bind fun t214 => ((joistref00_SameCells.f kj4 t214 t211).bind fun t217 => (if t217 = true then ((filter_Clone.f l0_0 a0_1 a0_2 a0_3 a0_4 a0_5 a0_6).bind fun bt218 => (joistlaw13_FilterAgain.l0 kj4 t208 (([] : List (S29))) 0 l0_0 a0_1 a0_2 a0_3 a0_4 a0_5 a0_6 bt218.1 bt218.2.1 bt218.2.2.1 bt218.2.2.2.1 bt218.2.2.2.2.1 0 0)) else (some false))))) = some r := H
          have A18 := Aside0.mk A180
          clear A180
          replace H := Option.bind_eq_some_iff.mp H
          obtain ⟨t211, A190, H⟩ := H
          replace H : ((filter_Apply.f l0_0 a0_1 a0_2 a0_3 a0_4 a0_5 a0_6 t211).bind fun t214 => ((joistref00_SameCells.f kj4 t214 t211).bind fun t217 => (if t217 = true then ((filter_Clone.f l0_0 a0_1 a0_2 a0_3 a0_4 a0_5 a0_6).bind fun bt218 => (joistlaw13_FilterAgain.l0 kj4 t208 (([] : List (S29))) 0 l0_0 a0_1 a0_2 a0_3 a0_4 a0_5 a0_6 bt218.1 bt218.2.1 bt218.2.2.1 bt218.2.2.2.1 bt218.2.2.2.2.1 0 0)) else (some false)))) = some r := H
          have A19 := Aside0.mk A190
          clear A190
          replace H := Option.bind_eq_some_iff.mp H
          obtain ⟨t214, A200, H⟩ := H
          replace H : ((joistref00_SameCells.f kj4 t214 t211).bind fun t217 => (if t217 = true then ((filter_Clone.f l0_0 a0_1 a0_2 a0_3 a0_4 a0_5 a0_6).bind fun bt218 => (joistlaw13_FilterAgain.l0 kj4 t208 (([] : List (S29))) 0 l0_0 a0_1 a0_2 a0_3 a0_4 a0_5 a0_6 bt218.1 bt218.2.1 bt218.2.2.1 bt218.2.2.2.1 bt218.2.2.2.2.1 0 0)) else (some false))) = some r := H
          have A20 := Aside0.mk A200
          clear A200
          replace H := Option.bind_eq_some_iff.mp H
          obtain ⟨t217, A210, H⟩ := H
          replace H : (if t217 = true then ((filter_Clone.f l0_0 a0_1 a0_2 a0_3 a0_4 a0_5 a0_6).bind fun bt218 => (joistlaw13_FilterAgain.l0 kj4 t208 (([] : List (S29))) 0 l0_0 a0_1 a0_2 a0_3 a0_4 a0_5 a0_6 bt218.1 bt218.2.1 bt218.2.2.1 bt218.2.2.2.1 bt218.2.2.2.2.1 0 0)) else (some false)) = some r := H
          have A21 := Aside0.mk A210
          clear A210
          by_cases c22 : t217 = true
          · subst c22
            have H1 : ((filter_Clone.f l0_0 a0_1 a0_2 a0_3 a0_4 a0_5 a0_6).bind fun bt218 => (joistlaw13_FilterAgain.l0 kj4 t208 (([] : List (S29))) 0 l0_0 a0_1 a0_2 a0_3 a0_4 a0_5 a0_6 bt218.1 bt218.2.1 bt218.2.2.1 bt218.2.2.2.1 bt218.2.2.2.2.1 0 0)) = some r := by rw [if_pos rfl] at H; exact H
            clear H
            have H := H1
            clear H1
            replace H := Option.bind_eq_some_iff.mp H
            obtain ⟨⟨t218, t221, t222, t223, t224, t225, t226⟩, A230, H⟩ := H
            replace H : (joistlaw13_FilterAgain.l0 kj4 t208 (([] : List (S29))) 0 l0_0 a0_1 a0_2 a0_3 a0_4 a0_5 a0_6 t218 t221 t222 t223 t224 0 0) = some r := H
            have A23 := Aside0.mk A230
            clear A230
            obtain ⟨y228, hy228⟩ : ∃ y_ : List (S29), y_ = (([] : List (S29))) := ⟨_, rfl⟩
            replace H : (joistlaw13_FilterAgain.l0 kj4 t208 y228 0 l0_0 a0_1 a0_2 a0_3 a0_4 a0_5 a0_6 t218 t221 t222 t223 t224 0 0) = some r := by first | (rw [hy228]; with_reducible exact H) | (have H2_ := (Option.bind_some _ _).symm.trans H; rw [hy228]; with_reducible exact H2_) | (have H2_ := (Option.bind_some _ _).symm.trans H; with_reducible exact H2_) | with_reducible exact H | (rw [hy228]; exact H) | exact H
            have Ny228 := Aside0.mk hy228
            clear hy228
            have H' := Aside0.mk H
            clear H
            go_wp2_with (first | ((with_reducible refine gate_callee (f := 25) rfl ?_); refine goesL_ (some 21) rfl rfl Try.func25 (by kernel_rfl) rfl #[.slice A1 l1.length c1] rfl (by (try simp only [List.map_toArray, List.map_cons, List.map_nil]); first | done | rfl | (simp only [List.length_drop, List.length_take]; rfl)) ?_; (with_reducible refine (joistref06_Sort.calls kj4 _ _ l1 t208 _ ?side1 ?side2 A18.out).mono ?_); (case side1 => repeat (first | exact (Kd.C_below HR1.out HB.out) | (with_reducible refine Kd.C_alloc ?_ _) | (with_reducible refine Kd.C_drewN ?_ _) | (with_reducible refine Kd.C_drew ?_))); (case side2 => exact HC1.out); rintro e w24 ⟨v209, rfl, ho0, hb⟩; refine ⟨_, rfl, ?_⟩; have n0_ := Aside0.mk (Kd.R_lower ho0 (below_size (by repeat (first | (with_reducible first | exact HB.out | apply below_alloc | apply pw_below_drewN | apply below_drew1 | refine below_set ?_ GE204.out) | exact HB.out)))); have n1_ := Aside0.mk (blk_below (g := gb204) (o := .cells #[.slice A0_0 l0_0.length c0_0, .string a0_1, .string a0_2, .int .i64 a0_3, .int .i64 a0_4, .int .i64 a0_5, .int .i64 a0_6] 24 (0, 0)) (by (with_reducible repeat (first | refine blk_drewN ?_ _ | refine blk_drew ?_ | refine blk_alloc ?_ _)); exact BK204.out) hb); have n2_ := Aside0.mk (below_step (by repeat (first | (with_reducible first | exact HB.out | apply below_alloc | apply pw_below_drewN | apply below_drew1 | refine below_set ?_ GE204.out) | exact HB.out)) hb); clear BK204; clear HB; have HO210 := n0_; have BK204 := n1_; have HB := n2_; clear n0_ n1_ n2_; (try clear hb); (try clear hb2); (try clear hk); (try clear hi); (try clear ho0); have hcz25_0 : w24.cell? ⟨gb204, 0, none⟩ = some (.slice A0_0 l0_0.length c0_0) := (blk_cell BK204.out 0).trans rfl; have hcz25_1 : w24.cell? ⟨gb204, 1, none⟩ = some (.string a0_1) := (blk_cell BK204.out 1).trans rfl; have hcz25_2 : w24.cell? ⟨gb204, 2, none⟩ = some (.string a0_2) := (blk_cell BK204.out 2).trans rfl; have hcz25_3 : w24.cell? ⟨gb204, 3, none⟩ = some (.int .i64 a0_3) := (blk_cell BK204.out 3).trans rfl; have hcz25_4 : w24.cell? ⟨gb204, 4, none⟩ = some (.int .i64 a0_4) := (blk_cell BK204.out 4).trans rfl; have hcz25_5 : w24.cell? ⟨gb204, 5, none⟩ = some (.int .i64 a0_5) := (blk_cell BK204.out 5).trans rfl; have hcz25_6 : w24.cell? ⟨gb204, 6, none⟩ = some (.int .i64 a0_6) := (blk_cell BK204.out 6).trans rfl; have hfz25_0 := blk_frozen BK204.out 0; have hfz25_1 := blk_frozen BK204.out 1; have hfz25_2 := blk_frozen BK204.out 2; have hfz25_3 := blk_frozen BK204.out 3; have hfz25_4 := blk_frozen BK204.out 4; have hfz25_5 := blk_frozen BK204.out 5; have hfz25_6 := blk_frozen BK204.out 6; obtain ⟨Ao26, co26, eo26⟩ := Kd.R_slice HO210.out; subst eo26) | ((with_reducible refine gate_callee (f := 17) rfl ?_); refine goesL_ (some 24) rfl rfl Try.func17 (by kernel_rfl) rfl #[.agg #[.slice A0_0 l0_0.length c0_0, .string a0_1, .string a0_2, .int .i64 a0_3, .int .i64 a0_4, .int .i64 a0_5, .int .i64 a0_6], .slice Ao26 t208.length co26] rfl (by (try simp only [List.map_toArray, List.map_cons, List.map_nil]); first | done | rfl | (simp only [List.length_drop, List.length_take]; rfl)) ?_; (with_reducible refine (filter_Apply.calls _ _ l0_0 a0_1 a0_2 a0_3 a0_4 a0_5 a0_6 _ _ t208 t211 _ ?side1 ?side2 ?side3 ?side4 A19.out).mono ?_); (case side1 => repeat (first | exact (Kd.C_below HR0_0.out HB.out) | (with_reducible refine Kd.C_alloc ?_ _) | (with_reducible refine Kd.C_drewN ?_ _) | (with_reducible refine Kd.C_drew ?_))); (case side2 => exact HC0_0.out); (case side3 => repeat (first | exact (Kd.R_reads' HO210.out).2.2 | (with_reducible refine Kd.C_alloc ?_ _) | (with_reducible refine Kd.C_drewN ?_ _) | (with_reducible refine Kd.C_drew ?_))); (case side4 => exact (Kd.R_reads' HO210.out).2.1); rintro e w27 ⟨v212, rfl, ho0, hb⟩; refine ⟨_, rfl, ?_⟩; have n0_ := Aside0.mk (Kd.R_elder' (by (with_reducible repeat (first | apply Kd.R_alloc | apply Kd.R_drewN | apply Kd.R_drew)); exact HO210.out) (Kd.R_base ho0) hb); have n1_ := Aside0.mk (Kd.R_lower (Kd.R_new' ho0 (Kd.R_lt (by (with_reducible repeat (first | apply Kd.R_alloc | apply Kd.R_drewN | apply Kd.R_drew)); exact HO210.out))) (below_size (by repeat (first | (with_reducible first | exact HB.out | apply below_alloc | apply pw_below_drewN | apply below_drew1 | refine below_set ?_ GE204.out) | exact HB.out)))); have n2_ := Aside0.mk (blk_below (g := gb204) (o := .cells #[.slice A0_0 l0_0.length c0_0, .string a0_1, .string a0_2, .int .i64 a0_3, .int .i64 a0_4, .int .i64 a0_5, .int .i64 a0_6] 24 (0, 0)) (by (with_reducible repeat (first | refine blk_drewN ?_ _ | refine blk_drew ?_ | refine blk_alloc ?_ _)); exact BK204.out) hb); have n3_ := Aside0.mk (below_step (by repeat (first | (with_reducible first | exact HB.out | apply below_alloc | apply pw_below_drewN | apply below_drew1 | refine below_set ?_ GE204.out) | exact HB.out)) hb); clear HO210; clear BK204; clear HB; have HO210 := n0_; have HO213 := n1_; have BK204 := n2_; have HB := n3_; clear n0_ n1_ n2_ n3_; (try clear hb); (try clear hb2); (try clear hk); (try clear hi); (try clear ho0); have hcz28_0 : w27.cell? ⟨gb204, 0, none⟩ = some (.slice A0_0 l0_0.length c0_0) := (blk_cell BK204.out 0).trans rfl; have hcz28_1 : w27.cell? ⟨gb204, 1, none⟩ = some (.string a0_1) := (blk_cell BK204.out 1).trans rfl; have hcz28_2 : w27.cell? ⟨gb204, 2, none⟩ = some (.string a0_2) := (blk_cell BK204.out 2).trans rfl; have hcz28_3 : w27.cell? ⟨gb204, 3, none⟩ = some (.int .i64 a0_3) := (blk_cell BK204.out 3).trans rfl; have hcz28_4 : w27.cell? ⟨gb204, 4, none⟩ = some (.int .i64 a0_4) := (blk_cell BK204.out 4).trans rfl; have hcz28_5 : w27.cell? ⟨gb204, 5, none⟩ = some (.int .i64 a0_5) := (blk_cell BK204.out 5).trans rfl; have hcz28_6 : w27.cell? ⟨gb204, 6, none⟩ = some (.int .i64 a0_6) := (blk_cell BK204.out 6).trans rfl; have hfz28_0 := blk_frozen BK204.out 0; have hfz28_1 := blk_frozen BK204.out 1; have hfz28_2 := blk_frozen BK204.out 2; have hfz28_3 := blk_frozen BK204.out 3; have hfz28_4 := blk_frozen BK204.out 4; have hfz28_5 := blk_frozen BK204.out 5; have hfz28_6 := blk_frozen BK204.out 6; obtain ⟨Ao29, co29, eo29⟩ := Kd.R_slice HO213.out; subst eo29) | ((with_reducible refine gate_callee (f := 17) rfl ?_); refine goesL_ (some 27) rfl rfl Try.func17 (by kernel_rfl) rfl #[.agg #[.slice A0_0 l0_0.length c0_0, .string a0_1, .string a0_2, .int .i64 a0_3, .int .i64 a0_4, .int .i64 a0_5, .int .i64 a0_6], .slice Ao29 t211.length co29] rfl (by (try simp only [List.map_toArray, List.map_cons, List.map_nil]); first | done | rfl | (simp only [List.length_drop, List.length_take]; rfl)) ?_; (with_reducible refine (filter_Apply.calls _ _ l0_0 a0_1 a0_2 a0_3 a0_4 a0_5 a0_6 _ _ t211 t214 _ ?side1 ?side2 ?side3 ?side4 A20.out).mono ?_); (case side1 => repeat (first | exact (Kd.C_below HR0_0.out HB.out) | (with_reducible refine Kd.C_alloc ?_ _) | (with_reducible refine Kd.C_drewN ?_ _) | (with_reducible refine Kd.C_drew ?_))); (case side2 => exact HC0_0.out); (case side3 => repeat (first | exact (Kd.R_reads' HO213.out).2.2 | (with_reducible refine Kd.C_alloc ?_ _) | (with_reducible refine Kd.C_drewN ?_ _) | (with_reducible refine Kd.C_drew ?_))); (case side4 => exact (Kd.R_reads' HO213.out).2.1); rintro e w30 ⟨v215, rfl, ho0, hb⟩; refine ⟨_, rfl, ?_⟩; have n0_ := Aside0.mk (Kd.R_elder' (by (with_reducible repeat (first | apply Kd.R_alloc | apply Kd.R_drewN | apply Kd.R_drew)); exact HO210.out) (Kd.R_base ho0) hb); have n1_ := Aside0.mk (Kd.R_elder' (by (with_reducible repeat (first | apply Kd.R_alloc | apply Kd.R_drewN | apply Kd.R_drew)); exact HO213.out) (Kd.R_base ho0) hb); have n2_ := Aside0.mk (Kd.R_lower (Kd.R_new' (Kd.R_new' ho0 (Kd.R_lt (by (with_reducible repeat (first | apply Kd.R_alloc | apply Kd.R_drewN | apply Kd.R_drew)); exact HO210.out))) (Kd.R_lt (by (with_reducible repeat (first | apply Kd.R_alloc | apply Kd.R_drewN | apply Kd.R_drew)); exact HO213.out))) (below_size (by repeat (first | (with_reducible first | exact HB.out | apply below_alloc | apply pw_below_drewN | apply below_drew1 | refine below_set ?_ GE204.out) | exact HB.out)))); have n3_ := Aside0.mk (blk_below (g := gb204) (o := .cells #[.slice A0_0 l0_0.length c0_0, .string a0_1, .string a0_2, .int .i64 a0_3, .int .i64 a0_4, .int .i64 a0_5, .int .i64 a0_6] 24 (0, 0)) (by (with_reducible repeat (first | refine blk_drewN ?_ _ | refine blk_drew ?_ | refine blk_alloc ?_ _)); exact BK204.out) hb); have n4_ := Aside0.mk (below_step (by repeat (first | (with_reducible first | exact HB.out | apply below_alloc | apply pw_below_drewN | apply below_drew1 | refine below_set ?_ GE204.out) | exact HB.out)) hb); clear HO210; clear HO213; clear BK204; clear HB; have HO210 := n0_; have HO213 := n1_; have HO216 := n2_; have BK204 := n3_; have HB := n4_; clear n0_ n1_ n2_ n3_ n4_; (try clear hb); (try clear hb2); (try clear hk); (try clear hi); (try clear ho0); obtain ⟨Ao31, co31, eo31⟩ := Kd.R_slice HO216.out; subst eo31) | ((with_reducible refine gate_callee (f := 16) rfl ?_); refine goesL_ (some 29) rfl rfl Try.func16 (by kernel_rfl) rfl #[.slice Ao31 t214.length co31, .slice Ao29 t211.length co29] rfl (by (try simp only [List.map_toArray, List.map_cons, List.map_nil]); first | done | rfl | (simp only [List.length_drop, List.length_take]; rfl)) ?_; (with_reducible refine (joistref00_SameCells.calls kj4 _ _ t214 _ _ t211 true _ ?side1 ?side2 ?side3 ?side4 A21.out).mono ?_); (case side1 => repeat (first | exact (Kd.R_reads' HO216.out).2.2 | (with_reducible refine Kd.C_alloc ?_ _) | (with_reducible refine Kd.C_drewN ?_ _) | (with_reducible refine Kd.C_drew ?_))); (case side2 => exact (Kd.R_reads' HO216.out).2.1); (case side3 => repeat (first | exact (Kd.R_reads' HO213.out).2.2 | (with_reducible refine Kd.C_alloc ?_ _) | (with_reducible refine Kd.C_drewN ?_ _) | (with_reducible refine Kd.C_drew ?_))); (case side4 => exact (Kd.R_reads' HO213.out).2.1); rintro e w' ⟨rfl, ⟨nd, rfl⟩⟩; refine ⟨_, rfl, ?_⟩; (try (rw [drewN_self w30]; generalize hq_ : World.drewN w30 _ = w30; have n0_ : Aside0 (Kd.R k29 29 w30 w.heap.size (fun k_ => some k_ ≠ (.slice Ao29 t211.length co29 : Value).ownBlock ∧ some k_ ≠ (.slice Ao31 t214.length co31 : Value).ownBlock) (.slice Ao26 t208.length co26) t208) := ⟨by rw [← hq_]; exact (by (with_reducible repeat (first | apply Kd.R_alloc | apply Kd.R_drewN | apply Kd.R_drew)); exact Kd.R_mono HO210.out (fun _ hk => ⟨hk.1.2, hk.2⟩))⟩; have n1_ : Aside0 (Kd.R k29 29 w30 w.heap.size (fun k_ => some k_ ≠ (.slice Ao26 t208.length co26 : Value).ownBlock ∧ some k_ ≠ (.slice Ao31 t214.length co31 : Value).ownBlock) (.slice Ao29 t211.length co29) t211) := ⟨by rw [← hq_]; exact (by (with_reducible repeat (first | apply Kd.R_alloc | apply Kd.R_drewN | apply Kd.R_drew)); exact Kd.R_mono HO213.out (fun _ hk => ⟨hk.1.2, hk.2⟩))⟩; have n2_ : Aside0 (Kd.R k29 29 w30 w.heap.size (fun k_ => some k_ ≠ (.slice Ao26 t208.length co26 : Value).ownBlock ∧ some k_ ≠ (.slice Ao29 t211.length co29 : Value).ownBlock) (.slice Ao31 t214.length co31) t214) := ⟨by rw [← hq_]; exact (by (with_reducible repeat (first | apply Kd.R_alloc | apply Kd.R_drewN | apply Kd.R_drew)); exact Kd.R_mono HO216.out (fun _ hk => ⟨hk.1.2, hk.2⟩))⟩; have n3_ : Aside0 (w30.heap[gb204]? = some (.cells #[.slice A0_0 l0_0.length c0_0, .string a0_1, .string a0_2, .int .i64 a0_3, .int .i64 a0_4, .int .i64 a0_5, .int .i64 a0_6] 24 (0, 0))) := ⟨by rw [← hq_]; exact (by (with_reducible repeat (first | refine blk_drewN ?_ _ | refine blk_drew ?_ | refine blk_alloc ?_ _)); exact BK204.out)⟩; have n4_ : Aside0 (Below w.heap.size w w30) := ⟨by rw [← hq_]; exact (by repeat (first | (with_reducible first | exact HB.out | apply below_alloc | apply pw_below_drewN | apply below_drew1 | refine below_set ?_ GE204.out) | exact HB.out))⟩; clear HO210 HO213 HO216 BK204 HB hq_; have HO210 := n0_; have HO213 := n1_; have HO216 := n2_; have BK204 := n3_; have HB := n4_; clear n0_ n1_ n2_ n3_ n4_)); have hcz32_0 : w30.cell? ⟨gb204, 0, none⟩ = some (.slice A0_0 l0_0.length c0_0) := (blk_cell BK204.out 0).trans rfl; have hcz32_1 : w30.cell? ⟨gb204, 1, none⟩ = some (.string a0_1) := (blk_cell BK204.out 1).trans rfl; have hcz32_2 : w30.cell? ⟨gb204, 2, none⟩ = some (.string a0_2) := (blk_cell BK204.out 2).trans rfl; have hcz32_3 : w30.cell? ⟨gb204, 3, none⟩ = some (.int .i64 a0_3) := (blk_cell BK204.out 3).trans rfl; have hcz32_4 : w30.cell? ⟨gb204, 4, none⟩ = some (.int .i64 a0_4) := (blk_cell BK204.out 4).trans rfl; have hcz32_5 : w30.cell? ⟨gb204, 5, none⟩ = some (.int .i64 a0_5) := (blk_cell BK204.out 5).trans rfl; have hcz32_6 : w30.cell? ⟨gb204, 6, none⟩ = some (.int .i64 a0_6) := (blk_cell BK204.out 6).trans rfl; have hfz32_0 := blk_frozen BK204.out 0; have hfz32_1 := blk_frozen BK204.out 1; have hfz32_2 := blk_frozen BK204.out 2; have hfz32_3 := blk_frozen BK204.out 3; have hfz32_4 := blk_frozen BK204.out 4; have hfz32_5 := blk_frozen BK204.out 5; have hfz32_6 := blk_frozen BK204.out 6) | ((with_reducible refine gate_callee (f := 11) rfl ?_); refine goesL_ (some 32) rfl rfl Try.func11 (by kernel_rfl) rfl #[.agg #[.slice A0_0 l0_0.length c0_0, .string a0_1, .string a0_2, .int .i64 a0_3, .int .i64 a0_4, .int .i64 a0_5, .int .i64 a0_6]] rfl (by (try simp only [List.map_toArray, List.map_cons, List.map_nil]); first | done | rfl | (simp only [List.length_drop, List.length_take]; rfl)) ?_; (with_reducible refine (filter_Clone.calls _ _ l0_0 a0_1 a0_2 a0_3 a0_4 a0_5 a0_6 t218 t221 t222 t223 t224 t225 t226 _ ?side1 ?side2 A23.out).mono ?_); (case side1 => repeat (first | exact (Kd.C_below HR0_0.out HB.out) | (with_reducible refine Kd.C_alloc ?_ _) | (with_reducible refine Kd.C_drewN ?_ _) | (with_reducible refine Kd.C_drew ?_))); (case side2 => exact HC0_0.out); rintro e w33 ⟨v219, rfl, ho0, hb⟩; refine ⟨_, rfl, ?_⟩; have n0_ := Aside0.mk (Kd.R_below (by (with_reducible repeat (first | apply Kd.R_alloc | apply Kd.R_drewN | apply Kd.R_drew)); exact HO210.out) hb); have n1_ := Aside0.mk (Kd.R_below (by (with_reducible repeat (first | apply Kd.R_alloc | apply Kd.R_drewN | apply Kd.R_drew)); exact HO213.out) hb); have n2_ := Aside0.mk (Kd.R_below (by (with_reducible repeat (first | apply Kd.R_alloc | apply Kd.R_drewN | apply Kd.R_drew)); exact HO216.out) hb); have n3_ := Aside0.mk (Kd.R_lower ho0 (below_size (by repeat (first | (with_reducible first | exact HB.out | apply below_alloc | apply pw_below_drewN | apply below_drew1 | refine below_set ?_ GE204.out) | exact HB.out)))); have n4_ := Aside0.mk (blk_below (g := gb204) (o := .cells #[.slice A0_0 l0_0.length c0_0, .string a0_1, .string a0_2, .int .i64 a0_3, .int .i64 a0_4, .int .i64 a0_5, .int .i64 a0_6] 24 (0, 0)) (by (with_reducible repeat (first | refine blk_drewN ?_ _ | refine blk_drew ?_ | refine blk_alloc ?_ _)); exact BK204.out) hb); have n5_ := Aside0.mk (below_step (by repeat (first | (with_reducible first | exact HB.out | apply below_alloc | apply pw_below_drewN | apply below_drew1 | refine below_set ?_ GE204.out) | exact HB.out)) hb); clear HO210; clear HO213; clear HO216; clear BK204; clear HB; have HO210 := n0_; have HO213 := n1_; have HO216 := n2_; have HO220 := n3_; have BK204 := n4_; have HB := n5_; clear n0_ n1_ n2_ n3_ n4_ n5_; (try clear hb); (try clear hb2); (try clear hk); (try clear hi); (try clear ho0)) | ((with_reducible refine gate_dst (N := 7) rfl ?_); refine box_event ?hg (N := 7) ?hd (cs := #[.slice none 0 0, .string (⟨#[]⟩ : ByteArray), .string (⟨#[]⟩ : ByteArray), .int .i64 0, .int .i64 0, .int .i64 0, .int .i64 0]) (t := 24) ?hr ?_; (case hd => rfl); (case hg => rfl); (case hr => first | (go_simp; done) | (go_simp; rfl)); intro gb227 hg w34 hbox hb; have n0_ := Aside0.mk (Kd.R_below (by (with_reducible repeat (first | apply Kd.R_alloc | apply Kd.R_drewN | apply Kd.R_drew)); exact HO210.out) hb); have n1_ := Aside0.mk (Kd.R_below (by (with_reducible repeat (first | apply Kd.R_alloc | apply Kd.R_drewN | apply Kd.R_drew)); exact HO213.out) hb); have n2_ := Aside0.mk (Kd.R_below (by (with_reducible repeat (first | apply Kd.R_alloc | apply Kd.R_drewN | apply Kd.R_drew)); exact HO216.out) hb); have n3_ := Aside0.mk (Kd.R_below (by (with_reducible repeat (first | apply Kd.R_alloc | apply Kd.R_drewN | apply Kd.R_drew)); exact HO220.out) hb); have n4_ := Aside0.mk (blk_below (g := gb204) (o := .cells #[.slice A0_0 l0_0.length c0_0, .string a0_1, .string a0_2, .int .i64 a0_3, .int .i64 a0_4, .int .i64 a0_5, .int .i64 a0_6] 24 (0, 0)) (by (with_reducible repeat (first | refine blk_drewN ?_ _ | refine blk_drew ?_ | refine blk_alloc ?_ _)); exact BK204.out) hb); have n5_ := Aside0.mk (below_step (by repeat (first | (with_reducible first | exact HB.out | apply below_alloc | apply pw_below_drewN | apply below_drew1 | refine below_set ?_ GE204.out) | exact HB.out)) hb); have n6_ := Aside0.mk (hbox); have n7_ := Aside0.mk ((by rw [hg]; exact (below_size (by repeat (first | (with_reducible first | exact HB.out | apply below_alloc | apply pw_below_drewN | apply below_drew1 | refine below_set ?_ GE204.out) | exact HB.out))) : w.heap.size ≤ gb227)); have n8_ := Aside0.mk ((by rw [hg]; exact (below_size (by repeat (first | (with_reducible first | exact HB.out | apply below_alloc | apply pw_below_drewN | apply below_drew1 | refine below_set ?_ GE204.out) | exact HB.out))) : w.heap.size ≤ gb227)); have n9_ := Aside0.mk ((by rw [hg]; exact Nat.ne_of_lt (blk_lt (g := gb204) (o := .cells #[.slice A0_0 l0_0.length c0_0, .string a0_1, .string a0_2, .int .i64 a0_3, .int .i64 a0_4, .int .i64 a0_5, .int .i64 a0_6] 24 (0, 0)) (by (with_reducible repeat (first | refine blk_drewN ?_ _ | refine blk_drew ?_ | refine blk_alloc ?_ _)); exact BK204.out)) : gb204 ≠ gb227)); have n10_ := Aside0.mk ((by rw [hg]; exact Nat.ne_of_gt (blk_lt (g := gb204) (o := .cells #[.slice A0_0 l0_0.length c0_0, .string a0_1, .string a0_2, .int .i64 a0_3, .int .i64 a0_4, .int .i64 a0_5, .int .i64 a0_6] 24 (0, 0)) (by (with_reducible repeat (first | refine blk_drewN ?_ _ | refine blk_drew ?_ | refine blk_alloc ?_ _)); exact BK204.out)) : gb227 ≠ gb204)); clear HO210; clear HO213; clear HO216; clear HO220; clear BK204; clear HB; have HO210 := n0_; have HO213 := n1_; have HO216 := n2_; have HO220 := n3_; have BK204 := n4_; have HB := n5_; have BK227 := n6_; have GW227 := n7_; have GE227 := n8_; have NB204_227 := n9_; have NB227_204 := n10_; clear n0_ n1_ n2_ n3_ n4_ n5_ n6_ n7_ n8_ n9_ n10_; clear hb hbox hg; obtain ⟨Ao35, co35, eo35⟩ := Kd.R_slice HO220.out; subst eo35; have hnb36 := NB227_204.out; have hnc36 := NB204_227.out; have hcz37_0 : w34.cell? ⟨gb227, 0, none⟩ = some (.slice none 0 0) := (blk_cell BK227.out 0).trans rfl; have hcz37_1 : w34.cell? ⟨gb227, 1, none⟩ = some (.string (⟨#[]⟩ : ByteArray)) := (blk_cell BK227.out 1).trans rfl; have hcz37_2 : w34.cell? ⟨gb227, 2, none⟩ = some (.string (⟨#[]⟩ : ByteArray)) := (blk_cell BK227.out 2).trans rfl; have hcz37_3 : w34.cell? ⟨gb227, 3, none⟩ = some (.int .i64 0) := (blk_cell BK227.out 3).trans rfl; have hcz37_4 : w34.cell? ⟨gb227, 4, none⟩ = some (.int .i64 0) := (blk_cell BK227.out 4).trans rfl; have hcz37_5 : w34.cell? ⟨gb227, 5, none⟩ = some (.int .i64 0) := (blk_cell BK227.out 5).trans rfl; have hcz37_6 : w34.cell? ⟨gb227, 6, none⟩ = some (.int .i64 0) := (blk_cell BK227.out 6).trans rfl; have hfz37_0 := blk_frozen BK227.out 0; have hfz37_1 := blk_frozen BK227.out 1; have hfz37_2 := blk_frozen BK227.out 2; have hfz37_3 := blk_frozen BK227.out 3; have hfz37_4 := blk_frozen BK227.out 4; have hfz37_5 := blk_frozen BK227.out 5; have hfz37_6 := blk_frozen BK227.out 6) | ((with_reducible refine gate_dst (N := 35) rfl ?_); refine Kd.R_lit k29 _ 29 ?hg (N := 35) ?hd (xs := ([] : List (S29))) (inner := []) (ok := fun _ => True) (okp := fun _ => True) ?hr ?hp (fun _ hk => hk) trivial (Below.refl _ _) (Nat.le_refl _) (by simp) ?_; (case hd => rfl); (case hg => rfl); (case hr => first | (go_simp; done) | (go_simp; rfl)); (case hp => exact (Reps.none _ _)); intro v229 w38 ho39 hb hg_ hnew_; clear hg_ hnew_; (first | rw [← Ny228.out] at ho39 | (simp only [Int.reduceToNat] at ho39; rw [← Ny228.out] at ho39)); have n0_ := Aside0.mk (Kd.R_elder' (by (with_reducible repeat (first | apply Kd.R_alloc | apply Kd.R_drewN | apply Kd.R_drew)); exact (Kd.R_mono (Kd.R_far (p := ⟨gb227, 5, none⟩) (Kd.R_far (p := ⟨gb227, 6, none⟩) (Kd.R_far (p := ⟨gb227, 6, none⟩) (Kd.R_far (p := ⟨gb227, 5, none⟩) (Kd.R_far (p := ⟨gb227, 4, none⟩) (Kd.R_far (p := ⟨gb227, 3, none⟩) (Kd.R_far (p := ⟨gb227, 2, none⟩) (Kd.R_far (p := ⟨gb227, 1, none⟩) (Kd.R_far (p := ⟨gb227, 0, none⟩) (Kd.R_types HO210.out BK227.out (by decide)) (fun _ hk => hk.2) (.slice Ao35 t218.length co35)) (fun _ hk => hk.2) (.string t221)) (fun _ hk => hk.2) (.string t222)) (fun _ hk => hk.2) (.int .i64 t223)) (fun _ hk => hk.2) (.int .i64 t224)) (fun _ hk => hk.2) (.int .i64 t225)) (fun _ hk => hk.2) (.int .i64 t226)) (fun _ hk => hk.2) (.int .i64 0)) (fun _ hk => hk.2) (.int .i64 0)) (fun _ h_ => h_.1))) (Kd.R_base ho39) hb); have n1_ := Aside0.mk (Kd.R_elder' (by (with_reducible repeat (first | apply Kd.R_alloc | apply Kd.R_drewN | apply Kd.R_drew)); exact (Kd.R_mono (Kd.R_far (p := ⟨gb227, 5, none⟩) (Kd.R_far (p := ⟨gb227, 6, none⟩) (Kd.R_far (p := ⟨gb227, 6, none⟩) (Kd.R_far (p := ⟨gb227, 5, none⟩) (Kd.R_far (p := ⟨gb227, 4, none⟩) (Kd.R_far (p := ⟨gb227, 3, none⟩) (Kd.R_far (p := ⟨gb227, 2, none⟩) (Kd.R_far (p := ⟨gb227, 1, none⟩) (Kd.R_far (p := ⟨gb227, 0, none⟩) (Kd.R_types HO213.out BK227.out (by decide)) (fun _ hk => hk.2) (.slice Ao35 t218.length co35)) (fun _ hk => hk.2) (.string t221)) (fun _ hk => hk.2) (.string t222)) (fun _ hk => hk.2) (.int .i64 t223)) (fun _ hk => hk.2) (.int .i64 t224)) (fun _ hk => hk.2) (.int .i64 t225)) (fun _ hk => hk.2) (.int .i64 t226)) (fun _ hk => hk.2) (.int .i64 0)) (fun _ hk => hk.2) (.int .i64 0)) (fun _ h_ => h_.1))) (Kd.R_base ho39) hb); have n2_ := Aside0.mk (Kd.R_elder' (by (with_reducible repeat (first | apply Kd.R_alloc | apply Kd.R_drewN | apply Kd.R_drew)); exact (Kd.R_mono (Kd.R_far (p := ⟨gb227, 5, none⟩) (Kd.R_far (p := ⟨gb227, 6, none⟩) (Kd.R_far (p := ⟨gb227, 6, none⟩) (Kd.R_far (p := ⟨gb227, 5, none⟩) (Kd.R_far (p := ⟨gb227, 4, none⟩) (Kd.R_far (p := ⟨gb227, 3, none⟩) (Kd.R_far (p := ⟨gb227, 2, none⟩) (Kd.R_far (p := ⟨gb227, 1, none⟩) (Kd.R_far (p := ⟨gb227, 0, none⟩) (Kd.R_types HO216.out BK227.out (by decide)) (fun _ hk => hk.2) (.slice Ao35 t218.length co35)) (fun _ hk => hk.2) (.string t221)) (fun _ hk => hk.2) (.string t222)) (fun _ hk => hk.2) (.int .i64 t223)) (fun _ hk => hk.2) (.int .i64 t224)) (fun _ hk => hk.2) (.int .i64 t225)) (fun _ hk => hk.2) (.int .i64 t226)) (fun _ hk => hk.2) (.int .i64 0)) (fun _ hk => hk.2) (.int .i64 0)) (fun _ h_ => h_.1))) (Kd.R_base ho39) hb); have n3_ := Aside0.mk (Kd.R_below (by (with_reducible repeat (first | apply Kd.R_alloc | apply Kd.R_drewN | apply Kd.R_drew)); exact (Kd.R_mono (Kd.R_far (p := ⟨gb227, 5, none⟩) (Kd.R_far (p := ⟨gb227, 6, none⟩) (Kd.R_far (p := ⟨gb227, 6, none⟩) (Kd.R_far (p := ⟨gb227, 5, none⟩) (Kd.R_far (p := ⟨gb227, 4, none⟩) (Kd.R_far (p := ⟨gb227, 3, none⟩) (Kd.R_far (p := ⟨gb227, 2, none⟩) (Kd.R_far (p := ⟨gb227, 1, none⟩) (Kd.R_far (p := ⟨gb227, 0, none⟩) (Kd.R_types HO220.out BK227.out (by decide)) (fun _ hk => hk.2) (.slice Ao35 t218.length co35)) (fun _ hk => hk.2) (.string t221)) (fun _ hk => hk.2) (.string t222)) (fun _ hk => hk.2) (.int .i64 t223)) (fun _ hk => hk.2) (.int .i64 t224)) (fun _ hk => hk.2) (.int .i64 t225)) (fun _ hk => hk.2) (.int .i64 t226)) (fun _ hk => hk.2) (.int .i64 0)) (fun _ hk => hk.2) (.int .i64 0)) (fun _ h_ => h_.1))) hb); have n4_ := Aside0.mk (Kd.R_lower (Kd.R_new' (Kd.R_new' (Kd.R_new' ho39 (Kd.R_lt (by (with_reducible repeat (first | apply Kd.R_alloc | apply Kd.R_drewN | apply Kd.R_drew)); exact (Kd.R_mono (Kd.R_far (p := ⟨gb227, 5, none⟩) (Kd.R_far (p := ⟨gb227, 6, none⟩) (Kd.R_far (p := ⟨gb227, 6, none⟩) (Kd.R_far (p := ⟨gb227, 5, none⟩) (Kd.R_far (p := ⟨gb227, 4, none⟩) (Kd.R_far (p := ⟨gb227, 3, none⟩) (Kd.R_far (p := ⟨gb227, 2, none⟩) (Kd.R_far (p := ⟨gb227, 1, none⟩) (Kd.R_far (p := ⟨gb227, 0, none⟩) (Kd.R_types HO210.out BK227.out (by decide)) (fun _ hk => hk.2) (.slice Ao35 t218.length co35)) (fun _ hk => hk.2) (.string t221)) (fun _ hk => hk.2) (.string t222)) (fun _ hk => hk.2) (.int .i64 t223)) (fun _ hk => hk.2) (.int .i64 t224)) (fun _ hk => hk.2) (.int .i64 t225)) (fun _ hk => hk.2) (.int .i64 t226)) (fun _ hk => hk.2) (.int .i64 0)) (fun _ hk => hk.2) (.int .i64 0)) (fun _ h_ => h_.1))))) (Kd.R_lt (by (with_reducible repeat (first | apply Kd.R_alloc | apply Kd.R_drewN | apply Kd.R_drew)); exact (Kd.R_mono (Kd.R_far (p := ⟨gb227, 5, none⟩) (Kd.R_far (p := ⟨gb227, 6, none⟩) (Kd.R_far (p := ⟨gb227, 6, none⟩) (Kd.R_far (p := ⟨gb227, 5, none⟩) (Kd.R_far (p := ⟨gb227, 4, none⟩) (Kd.R_far (p := ⟨gb227, 3, none⟩) (Kd.R_far (p := ⟨gb227, 2, none⟩) (Kd.R_far (p := ⟨gb227, 1, none⟩) (Kd.R_far (p := ⟨gb227, 0, none⟩) (Kd.R_types HO213.out BK227.out (by decide)) (fun _ hk => hk.2) (.slice Ao35 t218.length co35)) (fun _ hk => hk.2) (.string t221)) (fun _ hk => hk.2) (.string t222)) (fun _ hk => hk.2) (.int .i64 t223)) (fun _ hk => hk.2) (.int .i64 t224)) (fun _ hk => hk.2) (.int .i64 t225)) (fun _ hk => hk.2) (.int .i64 t226)) (fun _ hk => hk.2) (.int .i64 0)) (fun _ hk => hk.2) (.int .i64 0)) (fun _ h_ => h_.1))))) (Kd.R_lt (by (with_reducible repeat (first | apply Kd.R_alloc | apply Kd.R_drewN | apply Kd.R_drew)); exact (Kd.R_mono (Kd.R_far (p := ⟨gb227, 5, none⟩) (Kd.R_far (p := ⟨gb227, 6, none⟩) (Kd.R_far (p := ⟨gb227, 6, none⟩) (Kd.R_far (p := ⟨gb227, 5, none⟩) (Kd.R_far (p := ⟨gb227, 4, none⟩) (Kd.R_far (p := ⟨gb227, 3, none⟩) (Kd.R_far (p := ⟨gb227, 2, none⟩) (Kd.R_far (p := ⟨gb227, 1, none⟩) (Kd.R_far (p := ⟨gb227, 0, none⟩) (Kd.R_types HO216.out BK227.out (by decide)) (fun _ hk => hk.2) (.slice Ao35 t218.length co35)) (fun _ hk => hk.2) (.string t221)) (fun _ hk => hk.2) (.string t222)) (fun _ hk => hk.2) (.int .i64 t223)) (fun _ hk => hk.2) (.int .i64 t224)) (fun _ hk => hk.2) (.int .i64 t225)) (fun _ hk => hk.2) (.int .i64 t226)) (fun _ hk => hk.2) (.int .i64 0)) (fun _ hk => hk.2) (.int .i64 0)) (fun _ h_ => h_.1))))) (below_size (by repeat (first | (with_reducible first | exact HB.out | apply below_alloc | apply pw_below_drewN | apply below_drew1 | refine below_set ?_ GE204.out | refine below_set ?_ GE227.out) | exact HB.out)))); have n5_ := Aside0.mk (blk_below (g := gb204) (o := .cells #[.slice A0_0 l0_0.length c0_0, .string a0_1, .string a0_2, .int .i64 a0_3, .int .i64 a0_4, .int .i64 a0_5, .int .i64 a0_6] 24 (0, 0)) (by (with_reducible repeat (first | refine blk_drewN ?_ _ | refine blk_drew ?_ | refine blk_alloc ?_ _)); refine blk_far ?_ NB204_227.out _; (with_reducible repeat (first | refine blk_drewN ?_ _ | refine blk_drew ?_ | refine blk_alloc ?_ _)); refine blk_far ?_ NB204_227.out _; (with_reducible repeat (first | refine blk_drewN ?_ _ | refine blk_drew ?_ | refine blk_alloc ?_ _)); refine blk_far ?_ NB204_227.out _; (with_reducible repeat (first | refine blk_drewN ?_ _ | refine blk_drew ?_ | refine blk_alloc ?_ _)); refine blk_far ?_ NB204_227.out _; (with_reducible repeat (first | refine blk_drewN ?_ _ | refine blk_drew ?_ | refine blk_alloc ?_ _)); refine blk_far ?_ NB204_227.out _; (with_reducible repeat (first | refine blk_drewN ?_ _ | refine blk_drew ?_ | refine blk_alloc ?_ _)); refine blk_far ?_ NB204_227.out _; (with_reducible repeat (first | refine blk_drewN ?_ _ | refine blk_drew ?_ | refine blk_alloc ?_ _)); refine blk_far ?_ NB204_227.out _; (with_reducible repeat (first | refine blk_drewN ?_ _ | refine blk_drew ?_ | refine blk_alloc ?_ _)); refine blk_far ?_ NB204_227.out _; (with_reducible repeat (first | refine blk_drewN ?_ _ | refine blk_drew ?_ | refine blk_alloc ?_ _)); refine blk_far ?_ NB204_227.out _; (with_reducible repeat (first | refine blk_drewN ?_ _ | refine blk_drew ?_ | refine blk_alloc ?_ _)); exact BK204.out) hb); have n6_ := Aside0.mk (blk_below (g := gb227) (o := .cells #[.slice Ao35 t218.length co35, .string t221, .string t222, .int .i64 t223, .int .i64 t224, .int .i64 0, .int .i64 0] 24 (0, 0)) (by (with_reducible repeat (first | refine blk_drewN ?_ _ | refine blk_drew ?_ | refine blk_alloc ?_ _)); refine blk_put (cs := #[.slice Ao35 t218.length co35, .string t221, .string t222, .int .i64 t223, .int .i64 t224, .int .i64 t225, .int .i64 0]) ?_ 5 _ rfl; (with_reducible repeat (first | refine blk_drewN ?_ _ | refine blk_drew ?_ | refine blk_alloc ?_ _)); refine blk_put (cs := #[.slice Ao35 t218.length co35, .string t221, .string t222, .int .i64 t223, .int .i64 t224, .int .i64 t225, .int .i64 t226]) ?_ 6 _ rfl; (with_reducible repeat (first | refine blk_drewN ?_ _ | refine blk_drew ?_ | refine blk_alloc ?_ _)); refine blk_put (cs := #[.slice Ao35 t218.length co35, .string t221, .string t222, .int .i64 t223, .int .i64 t224, .int .i64 t225, .int .i64 0]) ?_ 6 _ rfl; (with_reducible repeat (first | refine blk_drewN ?_ _ | refine blk_drew ?_ | refine blk_alloc ?_ _)); refine blk_put (cs := #[.slice Ao35 t218.length co35, .string t221, .string t222, .int .i64 t223, .int .i64 t224, .int .i64 0, .int .i64 0]) ?_ 5 _ rfl; (with_reducible repeat (first | refine blk_drewN ?_ _ | refine blk_drew ?_ | refine blk_alloc ?_ _)); refine blk_put (cs := #[.slice Ao35 t218.length co35, .string t221, .string t222, .int .i64 t223, .int .i64 0, .int .i64 0, .int .i64 0]) ?_ 4 _ rfl; (with_reducible repeat (first | refine blk_drewN ?_ _ | refine blk_drew ?_ | refine blk_alloc ?_ _)); refine blk_put (cs := #[.slice Ao35 t218.length co35, .string t221, .string t222, .int .i64 0, .int .i64 0, .int .i64 0, .int .i64 0]) ?_ 3 _ rfl; (with_reducible repeat (first | refine blk_drewN ?_ _ | refine blk_drew ?_ | refine blk_alloc ?_ _)); refine blk_put (cs := #[.slice Ao35 t218.length co35, .string t221, .string (⟨#[]⟩ : ByteArray), .int .i64 0, .int .i64 0, .int .i64 0, .int .i64 0]) ?_ 2 _ rfl; (with_reducible repeat (first | refine blk_drewN ?_ _ | refine blk_drew ?_ | refine blk_alloc ?_ _)); refine blk_put (cs := #[.slice Ao35 t218.length co35, .string (⟨#[]⟩ : ByteArray), .string (⟨#[]⟩ : ByteArray), .int .i64 0, .int .i64 0, .int .i64 0, .int .i64 0]) ?_ 1 _ rfl; (with_reducible repeat (first | refine blk_drewN ?_ _ | refine blk_drew ?_ | refine blk_alloc ?_ _)); refine blk_put (cs := #[.slice none 0 0, .string (⟨#[]⟩ : ByteArray), .string (⟨#[]⟩ : ByteArray), .int .i64 0, .int .i64 0, .int .i64 0, .int .i64 0]) ?_ 0 _ rfl; (with_reducible repeat (first | refine blk_drewN ?_ _ | refine blk_drew ?_ | refine blk_alloc ?_ _)); exact BK227.out) hb); have n7_ := Aside0.mk (below_step (by repeat (first | (with_reducible first | exact HB.out | apply below_alloc | apply pw_below_drewN | apply below_drew1 | refine below_set ?_ GE204.out | refine below_set ?_ GE227.out) | exact HB.out)) hb); clear HO210; clear HO213; clear HO216; clear HO220; clear BK204; clear BK227; clear HB; have HO210 := n0_; have HO213 := n1_; have HO216 := n2_; have HO220 := n3_; have HO230 := n4_; have BK204 := n5_; have BK227 := n6_; have HB := n7_; clear n0_ n1_ n2_ n3_ n4_ n5_ n6_ n7_; clear hb ho39))
            go_loopg [8, 9] kj4 (fun kq v8 v9 w' => ∃ (x8_2 : List (S29)) (x9_2 : Int), v9 = .int .i64 x9_2 ∧ Aside0 (joistlaw13_FilterAgain.l0 kq t208 x8_2 x9_2 l0_0 a0_1 a0_2 a0_3 a0_4 a0_5 a0_6 t218 t221 t222 t223 t224 0 0 = some r) ∧ Aside0 (kq ≤ kj4) ∧ Aside0 (Kd.R k29 29 w' w.heap.size (fun k_ => some k_ ≠ (v8 : Value).ownBlock) (.slice Ao26 t208.length co26) t208) ∧ Aside0 (Kd.R k29 29 w' w.heap.size (fun k_ => some k_ ≠ ((.slice Ao26 t208.length co26) : Value).ownBlock) v8 x8_2) ∧ Aside0 (Kd.R Kd.string 9 w' w.heap.size (fun _ => True) (.slice Ao35 t218.length co35) t218) ∧ Aside0 (w'.heap[gb204]? = some (.cells #[(.slice A0_0 l0_0.length c0_0), .string a0_1, .string a0_2, .int .i64 a0_3, .int .i64 a0_4, .int .i64 a0_5, .int .i64 a0_6] 24 (0, 0))) ∧ Aside0 (w'.heap[gb227]? = some (.cells #[(.slice Ao35 t218.length co35), .string t221, .string t222, .int .i64 t223, .int .i64 t224, .int .i64 0, .int .i64 0] 24 (0, 0))) ∧ Aside0 (Below w.heap.size w w'))
            case atStart => exact ⟨(y228), (0), (by first | rfl | (simp; done) | (simp [*]; done)), H', ⟨Nat.le_refl _⟩, ⟨by (with_reducible repeat (first | apply Kd.R_alloc | apply Kd.R_drewN | apply Kd.R_drew)); exact Kd.R_mono HO210.out (fun _ hk => hk.2)⟩, ⟨by (with_reducible repeat (first | apply Kd.R_alloc | apply Kd.R_drewN | apply Kd.R_drew)); exact Kd.R_mono HO230.out (fun _ hk => hk.1.1.2)⟩, ⟨by (with_reducible repeat (first | apply Kd.R_alloc | apply Kd.R_drewN | apply Kd.R_drew)); exact HO220.out⟩, ⟨by (with_reducible repeat (first | refine blk_drewN ?_ _ | refine blk_drew ?_ | refine blk_alloc ?_ _)); exact BK204.out⟩, ⟨by (with_reducible repeat (first | refine blk_drewN ?_ _ | refine blk_drew ?_ | refine blk_alloc ?_ _)); exact BK227.out⟩, ⟨by repeat (first | (with_reducible first | exact HB.out | apply below_alloc | apply pw_below_drewN | apply below_drew1 | refine below_set ?_ GE204.out | refine below_set ?_ GE227.out) | exact HB.out)⟩⟩
            case round =>
              clear H'
              try clear c1
              try clear c2
              try clear p2
              try clear c3
              try clear c4
              try clear c6
              try clear c8
              try clear c9
              try clear c11
              try clear c16
              try clear c17
              try clear c22
              try clear c25
              try clear c36
              try clear hcz10_0
              try clear hcz10_1
              try clear hcz10_2
              try clear hcz10_3
              try clear hcz10_4
              try clear hcz10_5
              try clear hcz10_6
              try clear hcz13_0
              try clear hcz13_1
              try clear hcz13_2
              try clear hcz13_3
              try clear hcz13_4
              try clear hcz13_5
              try clear hcz13_6
              try clear hcz15_0
              try clear hcz15_1
              try clear hcz15_2
              try clear hcz15_3
              try clear hcz15_4
              try clear hcz15_5
              try clear hcz15_6
              try clear hcz25_0
              try clear hcz25_1
              try clear hcz25_2
              try clear hcz25_3
              try clear hcz25_4
              try clear hcz25_5
              try clear hcz25_6
              try clear hcz28_0
              try clear hcz28_1
              try clear hcz28_2
              try clear hcz28_3
              try clear hcz28_4
              try clear hcz28_5
              try clear hcz28_6
              try clear hcz32_0
              try clear hcz32_1
              try clear hcz32_2
              try clear hcz32_3
              try clear hcz32_4
              try clear hcz32_5
              try clear hcz32_6
              try clear hcz37_0
              try clear hcz37_1
              try clear hcz37_2
              try clear hcz37_3
              try clear hcz37_4
              try clear hcz37_5
              try clear hcz37_6
              try clear hfz10_0
              try clear hfz10_1
              try clear hfz10_2
              try clear hfz10_3
              try clear hfz10_4
              try clear hfz10_5
              try clear hfz10_6
              try clear hfz13_0
              try clear hfz13_1
              try clear hfz13_2
              try clear hfz13_3
              try clear hfz13_4
              try clear hfz13_5
              try clear hfz13_6
              try clear hfz15_0
              try clear hfz15_1
              try clear hfz15_2
              try clear hfz15_3
              try clear hfz15_4
              try clear hfz15_5
              try clear hfz15_6
              try clear hfz25_0
              try clear hfz25_1
              try clear hfz25_2
              try clear hfz25_3
              try clear hfz25_4
              try clear hfz25_5
              try clear hfz25_6
              try clear hfz28_0
              try clear hfz28_1
              try clear hfz28_2
              try clear hfz28_3
              try clear hfz28_4
              try clear hfz28_5
              try clear hfz28_6
              try clear hfz32_0
              try clear hfz32_1
              try clear hfz32_2
              try clear hfz32_3
              try clear hfz32_4
              try clear hfz32_5
              try clear hfz32_6
              try clear hfz37_0
              try clear hfz37_1
              try clear hfz37_2
              try clear hfz37_3
              try clear hfz37_4
              try clear hfz37_5
              try clear hfz37_6
              try clear p2
              obtain ⟨x8_2, x9_2, rfl, HA, HK2, HO_5, HO_8, HO_228000, BK204, BK227, HB⟩ := hrel
              cases gk with
              | zero => exact absurd HA.out (by simp [joistlaw13_FilterAgain.l0])
              | succ k2 =>
                have H := HA.out
                clear HA
                simp only [joistlaw13_FilterAgain.l0] at H
                by_cases c40 : x9_2 < (t208.length : Int)
                · rw [if_pos c40] at H
                  have c40b0 : decide (x9_2 < (t208.length : Int)) = true := decide_eq_true c40
                  clear c40
                  by_cases c41 : 0 ≤ x9_2
                  · rw [if_pos c41] at H
                    have c41b0 : decide (0 ≤ x9_2) = true := decide_eq_true c41
                    clear c41
                    replace H := Option.bind_eq_some_iff.mp H
                    obtain ⟨t232, A420, H⟩ := H
                    replace H : (if t232 = true then (if x8_2.length < 1466015503701 then (joistlaw13_FilterAgain.l0 k2 t208 (x8_2 ++ [(⟨(rd_T29 t208 x9_2).f0, (rd_T29 t208 x9_2).f1, (rd_T29 t208 x9_2).f2, (rd_T29 t208 x9_2).f3, (rd_T29 t208 x9_2).f4, (⟨(rd_T29 t208 x9_2).f5.f0, (rd_T29 t208 x9_2).f5.f1, (rd_T29 t208 x9_2).f5.f2⟩ : S27)⟩ : S29)]) (wrap64 (x9_2 + 1)) l0_0 a0_1 a0_2 a0_3 a0_4 a0_5 a0_6 t218 t221 t222 t223 t224 0 0) else (none)) else (joistlaw13_FilterAgain.l0 k2 t208 x8_2 (wrap64 (x9_2 + 1)) l0_0 a0_1 a0_2 a0_3 a0_4 a0_5 a0_6 t218 t221 t222 t223 t224 0 0)) = some r := H
                    have A42 := Aside0.mk A420
                    clear A420
                    by_cases c43 : t232 = true
                    · subst c43
                      have H1 : (if x8_2.length < 1466015503701 then (joistlaw13_FilterAgain.l0 k2 t208 (x8_2 ++ [(⟨(rd_T29 t208 x9_2).f0, (rd_T29 t208 x9_2).f1, (rd_T29 t208 x9_2).f2, (rd_T29 t208 x9_2).f3, (rd_T29 t208 x9_2).f4, (⟨(rd_T29 t208 x9_2).f5.f0, (rd_T29 t208 x9_2).f5.f1, (rd_T29 t208 x9_2).f5.f2⟩ : S27)⟩ : S29)]) (wrap64 (x9_2 + 1)) l0_0 a0_1 a0_2 a0_3 a0_4 a0_5 a0_6 t218 t221 t222 t223 t224 0 0) else (none)) = some r := by rw [if_pos rfl] at H; exact H
                      clear H
                      have H := H1
                      clear H1
                      by_cases c44 : x8_2.length < 1466015503701
                      · rw [if_pos c44] at H
                        have LMc44 := Aside0.mk c44
                        clear c44
                        obtain ⟨y234, hy234⟩ : ∃ y_ : List (S29), y_ = (x8_2 ++ [(⟨(rd_T29 t208 x9_2).f0, (rd_T29 t208 x9_2).f1, (rd_T29 t208 x9_2).f2, (rd_T29 t208 x9_2).f3, (rd_T29 t208 x9_2).f4, (⟨(rd_T29 t208 x9_2).f5.f0, (rd_T29 t208 x9_2).f5.f1, (rd_T29 t208 x9_2).f5.f2⟩ : S27)⟩ : S29)]) := ⟨_, rfl⟩
                        replace H : (joistlaw13_FilterAgain.l0 k2 t208 y234 (wrap64 (x9_2 + 1)) l0_0 a0_1 a0_2 a0_3 a0_4 a0_5 a0_6 t218 t221 t222 t223 t224 0 0) = some r := by first | (rw [hy234]; with_reducible exact H) | (have H2_ := (Option.bind_some _ _).symm.trans H; rw [hy234]; with_reducible exact H2_) | (have H2_ := (Option.bind_some _ _).symm.trans H; with_reducible exact H2_) | with_reducible exact H | (rw [hy234]; exact H) | exact H
                        have Ny234 := Aside0.mk hy234
                        clear hy234
                        have H' := Aside0.mk H
                        clear H
                        try go_wp2
                        have n0_ := Aside0.mk (Kd.R_drew HO_5.out)
                        have n1_ := Aside0.mk (Kd.R_drew HO_8.out)
                        have n2_ := Aside0.mk (Kd.R_drew HO_228000.out)
                        have n3_ := Aside0.mk (blk_drew BK204.out)
                        have n4_ := Aside0.mk (blk_drew BK227.out)
                        have n5_ := Aside0.mk (below_drew1 HB.out)
                        clear HO_5
                        clear HO_8
                        clear HO_228000
                        clear BK204
                        clear BK227
                        clear HB
                        have HO_5 := n0_
                        have HO_8 := n1_
                        have HO_228000 := n2_
                        have BK204 := n3_
                        have BK227 := n4_
                        have HB := n5_
                        clear n0_ n1_ n2_ n3_ n4_ n5_
                        have p231 : 0 ≤ (x9_2 : Int) := of_decide_eq_true (by first | (with_reducible assumption) | assumption)
                        have q231 : x9_2 < (t208.length : Int) := of_decide_eq_true (by first | (with_reducible assumption) | assumption)
                        obtain ⟨ad231, e231, hx231_0, hx231_1, hx231_2, hx231_3, hx231_4, hx231_5, hx231_6, hx231_7⟩ := at_T29 (Kd.R_reads' HO_5.out).2.2 x9_2 p231 q231
                        cases e231
                        replace p231 := eq_true p231
                        replace q231 := eq_true q231
                        refine start_ (n := 6) (S := fun w' => w'.cell? ⟨gb204, 0, none⟩ = some (.slice A0_0 l0_0.length c0_0) ∧ w'.cell? ⟨gb204, 1, none⟩ = some (.string a0_1) ∧ w'.cell? ⟨gb204, 2, none⟩ = some (.string a0_2) ∧ w'.cell? ⟨gb204, 3, none⟩ = some (.int .i64 a0_3) ∧ w'.cell? ⟨gb204, 4, none⟩ = some (.int .i64 a0_4) ∧ w'.cell? ⟨gb204, 5, none⟩ = some (.int .i64 a0_5) ∧ w'.cell? ⟨gb204, 6, none⟩ = some (.int .i64 a0_6) ∧ w'.cell? (ad231.add ((x9_2).toNat * 8)) = some (.string ((rd_T29 t208 x9_2).f0)) ∧ w'.cell? ⟨(ad231.add ((x9_2).toNat * 8)).block, (ad231.add ((x9_2).toNat * 8)).off + 1, none⟩ = some (.string ((rd_T29 t208 x9_2).f1)) ∧ w'.cell? ⟨(ad231.add ((x9_2).toNat * 8)).block, (ad231.add ((x9_2).toNat * 8)).off + 2, none⟩ = some (.string ((rd_T29 t208 x9_2).f2)) ∧ w'.cell? ⟨(ad231.add ((x9_2).toNat * 8)).block, (ad231.add ((x9_2).toNat * 8)).off + 3, none⟩ = some (.int .i64 ((rd_T29 t208 x9_2).f3)) ∧ w'.cell? ⟨(ad231.add ((x9_2).toNat * 8)).block, (ad231.add ((x9_2).toNat * 8)).off + 4, none⟩ = some (.int .i64 ((rd_T29 t208 x9_2).f4)) ∧ w'.cell? ⟨(ad231.add ((x9_2).toNat * 8)).block, (ad231.add ((x9_2).toNat * 8)).off + 5, none⟩ = some (.int .i64 ((rd_T29 t208 x9_2).f5.f0)) ∧ w'.cell? ⟨(ad231.add ((x9_2).toNat * 8)).block, (ad231.add ((x9_2).toNat * 8)).off + 6, none⟩ = some (.int .i64 ((rd_T29 t208 x9_2).f5.f1)) ∧ w'.cell? ⟨(ad231.add ((x9_2).toNat * 8)).block, (ad231.add ((x9_2).toNat * 8)).off + 7, none⟩ = some (.string ((rd_T29 t208 x9_2).f5.f2))) (ds := []) #[false, false, false, false, false, false] (by kernel_rfl) rfl rfl ⟨(blk_cell BK204.out 0).trans rfl, (blk_cell BK204.out 1).trans rfl, (blk_cell BK204.out 2).trans rfl, (blk_cell BK204.out 3).trans rfl, (blk_cell BK204.out 4).trans rfl, (blk_cell BK204.out 5).trans rfl, (blk_cell BK204.out 6).trans rfl, hx231_0, hx231_1, hx231_2, hx231_3, hx231_4, hx231_5, hx231_6, hx231_7⟩ (fun hHeld => ?_)
                        generalize wr.drew = w45 at HO_5 HO_8 HO_228000 BK204 BK227 HB hx231_0 hx231_1 hx231_2 hx231_3 hx231_4 hx231_5 hx231_6 hx231_7 hHeld ⊢
                        refine pure_ (i := 1) (N := some 43) (v := ?_) (a' := ?_) #[false, true, false, false, false, false] rfl rfl (by kernel_rfl) (fun _ _ _ h => h) (Or.inl ⟨by rfl, ?_⟩) ?_ ?_
                        rotate_left
                        · intro w'
                          go_simp
                          with_reducible rfl
                        rotate_left
                        · simp only [Act.put, List.setIfInBounds_toArray, List.set_cons_zero, List.set_cons_succ, i64_w, i32_w]
                          rfl
                        refine pure_ (i := 2) (N := some 44) (v := ?_) (a' := ?_) #[false, true, true, false, false, false] rfl rfl (by kernel_rfl) (fun _ _ _ h => h) (Or.inl ⟨by rfl, ?_⟩) ?_ ?_
                        rotate_left
                        · intro w'
                          go_simp
                          with_reducible rfl
                        rotate_left
                        · simp only [Act.put, List.setIfInBounds_toArray, List.set_cons_zero, List.set_cons_succ, i64_w, i32_w]
                          rfl
                        refine pure_ (i := 3) (N := some 45) (v := ?_) (a' := ?_) #[false, true, true, true, false, false] rfl rfl (by kernel_rfl) (fun _ _ _ h => h) (Or.inl ⟨by rfl, ?_⟩) ?_ ?_
                        rotate_left
                        · intro w'
                          go_simp
                          with_reducible rfl
                        rotate_left
                        · simp only [Act.put, List.setIfInBounds_toArray, List.set_cons_zero, List.set_cons_succ, i64_w, i32_w]
                          rfl
                        refine take_ (i := 0) (N := some 42) (v := ?_) (a' := ?_) #[true, true, true, true, false, false] rfl rfl (by kernel_rfl) (fun _ _ _ h => h) (Or.inl ⟨by rfl, ?_⟩) hHeld ?_ ?_
                        rotate_left
                        · rintro w' ⟨s0, s1, s2, s3, s4, s5, s6, s7, s8, s9, s10, s11, s12, s13, s14⟩
                          go_simp
                          with_reducible rfl
                        rotate_left
                        · simp only [Act.put, List.setIfInBounds_toArray, List.set_cons_zero, List.set_cons_succ, i64_w, i32_w]
                          rfl
                        refine take_ (i := 4) (N := some 46) (v := ?_) (a' := ?_) #[true, true, true, true, true, false] rfl rfl (by kernel_rfl) (fun _ _ _ h => h) (Or.inl ⟨by rfl, ?_⟩) hHeld ?_ ?_
                        rotate_left
                        · rintro w' ⟨s0, s1, s2, s3, s4, s5, s6, s7, s8, s9, s10, s11, s12, s13, s14⟩
                          go_simp
                          with_reducible rfl
                        rotate_left
                        · simp only [Act.put, List.setIfInBounds_toArray, List.set_cons_zero, List.set_cons_succ, i64_w, i32_w]
                          rfl
                        refine one_ (i := 5) (N := some 47) #[true, true, true, true, true, true] rfl rfl (by kernel_rfl) (by decide) (fun K hK => ?_)
                        refine goes_ Try.func15 (by kernel_rfl) rfl #[.agg #[.slice A0_0 l0_0.length c0_0, .string a0_1, .string a0_2, .int .i64 a0_3, .int .i64 a0_4, .int .i64 a0_5, .int .i64 a0_6], .agg #[.string ((rd_T29 t208 x9_2).f0), .string ((rd_T29 t208 x9_2).f1), .string ((rd_T29 t208 x9_2).f2), .int .i64 ((rd_T29 t208 x9_2).f3), .int .i64 ((rd_T29 t208 x9_2).f4), .int .i64 ((rd_T29 t208 x9_2).f5.f0), .int .i64 ((rd_T29 t208 x9_2).f5.f1), .string ((rd_T29 t208 x9_2).f5.f2)]] (by rfl) rfl rfl (by (try simp only [List.map_toArray, List.map_cons, List.map_nil]); first | done | rfl | (simp only [List.length_drop, List.length_take]; rfl)) ?_
                        with_reducible refine (joistref13_Lets.calls k2 _ _ l0_0 a0_1 a0_2 a0_3 a0_4 a0_5 a0_6 ((rd_T29 t208 x9_2).f0) ((rd_T29 t208 x9_2).f1) ((rd_T29 t208 x9_2).f2) ((rd_T29 t208 x9_2).f3) ((rd_T29 t208 x9_2).f4) ((rd_T29 t208 x9_2).f5.f0) ((rd_T29 t208 x9_2).f5.f1) ((rd_T29 t208 x9_2).f5.f2) true _ ?side1 ?side2 A42.out).mono ?_
                        (case side1 => repeat (first | exact (Kd.C_below HR0_0.out HB.out) | (with_reducible refine Kd.C_alloc ?_ _) | (with_reducible refine Kd.C_drewN ?_ _) | (with_reducible refine Kd.C_drew ?_)))
                        (case side2 => exact HC0_0.out)
                        rintro e w46 ⟨rfl, hb⟩
                        have HS7_ := (hb.cell (World.block_lt_of_cell? _ _ (hHeld.2.2.2.2.2.2.2.1))).trans (hHeld.2.2.2.2.2.2.2.1)
                        have HS8_ := (hb.cell (World.block_lt_of_cell? _ _ (hHeld.2.2.2.2.2.2.2.2.1))).trans (hHeld.2.2.2.2.2.2.2.2.1)
                        have HS9_ := (hb.cell (World.block_lt_of_cell? _ _ (hHeld.2.2.2.2.2.2.2.2.2.1))).trans (hHeld.2.2.2.2.2.2.2.2.2.1)
                        have HS10_ := (hb.cell (World.block_lt_of_cell? _ _ (hHeld.2.2.2.2.2.2.2.2.2.2.1))).trans (hHeld.2.2.2.2.2.2.2.2.2.2.1)
                        have HS11_ := (hb.cell (World.block_lt_of_cell? _ _ (hHeld.2.2.2.2.2.2.2.2.2.2.2.1))).trans (hHeld.2.2.2.2.2.2.2.2.2.2.2.1)
                        have HS12_ := (hb.cell (World.block_lt_of_cell? _ _ (hHeld.2.2.2.2.2.2.2.2.2.2.2.2.1))).trans (hHeld.2.2.2.2.2.2.2.2.2.2.2.2.1)
                        have HS13_ := (hb.cell (World.block_lt_of_cell? _ _ (hHeld.2.2.2.2.2.2.2.2.2.2.2.2.2.1))).trans (hHeld.2.2.2.2.2.2.2.2.2.2.2.2.2.1)
                        have HS14_ := (hb.cell (World.block_lt_of_cell? _ _ (hHeld.2.2.2.2.2.2.2.2.2.2.2.2.2.2))).trans (hHeld.2.2.2.2.2.2.2.2.2.2.2.2.2.2)
                        refine ⟨_, rfl, ?_⟩
                        have n0_ := Aside0.mk (Kd.R_below (by (with_reducible repeat (first | apply Kd.R_alloc | apply Kd.R_drewN | apply Kd.R_drew)); exact HO_5.out) hb)
                        have n1_ := Aside0.mk (Kd.R_below (by (with_reducible repeat (first | apply Kd.R_alloc | apply Kd.R_drewN | apply Kd.R_drew)); exact HO_8.out) hb)
                        have n2_ := Aside0.mk (Kd.R_below (by (with_reducible repeat (first | apply Kd.R_alloc | apply Kd.R_drewN | apply Kd.R_drew)); exact HO_228000.out) hb)
                        have n3_ := Aside0.mk (blk_below (g := gb204) (o := .cells #[.slice A0_0 l0_0.length c0_0, .string a0_1, .string a0_2, .int .i64 a0_3, .int .i64 a0_4, .int .i64 a0_5, .int .i64 a0_6] 24 (0, 0)) (by (with_reducible repeat (first | refine blk_drewN ?_ _ | refine blk_drew ?_ | refine blk_alloc ?_ _)); exact BK204.out) hb)
                        have n4_ := Aside0.mk (blk_below (g := gb227) (o := .cells #[.slice Ao35 t218.length co35, .string t221, .string t222, .int .i64 t223, .int .i64 t224, .int .i64 0, .int .i64 0] 24 (0, 0)) (by (with_reducible repeat (first | refine blk_drewN ?_ _ | refine blk_drew ?_ | refine blk_alloc ?_ _)); exact BK227.out) hb)
                        have n5_ := Aside0.mk (below_step (by repeat (first | (with_reducible first | exact HB.out | apply below_alloc | apply pw_below_drewN | apply below_drew1 | refine below_set ?_ GE204.out | refine below_set ?_ GE227.out) | exact HB.out)) hb)
                        clear HO_5
                        clear HO_8
                        clear HO_228000
                        clear BK204
                        clear BK227
                        clear HB
                        have HO_5 := n0_
                        have HO_8 := n1_
                        have HO_228000 := n2_
                        have BK204 := n3_
                        have BK227 := n4_
                        have HB := n5_
                        clear n0_ n1_ n2_ n3_ n4_ n5_
                        (try clear hb)
                        (try clear hb2)
                        (try clear hk)
                        (try clear hi)
                        refine hK.out _ _ ⟨(blk_cell BK204.out 0).trans rfl, (blk_cell BK204.out 1).trans rfl, (blk_cell BK204.out 2).trans rfl, (blk_cell BK204.out 3).trans rfl, (blk_cell BK204.out 4).trans rfl, (blk_cell BK204.out 5).trans rfl, (blk_cell BK204.out 6).trans rfl, HS7_, HS8_, HS9_, HS10_, HS11_, HS12_, HS13_, HS14_⟩ (fun hHeld => ?_)
                        clear hK K
                        refine norm_ (a' := ?_) ?_ ?_
                        rotate_left
                        · show Act.put _ (some 47) _ = _
                          simp only [Act.put, List.setIfInBounds_toArray, List.set_cons_zero, List.set_cons_succ, i64_w, i32_w]
                          rfl
                        refine done_ (by kernel_rfl) ?_
                        have p233 : 0 ≤ (x9_2 : Int) := of_decide_eq_true (by first | (with_reducible assumption) | assumption)
                        have q233 : x9_2 < (t208.length : Int) := of_decide_eq_true (by first | (with_reducible assumption) | assumption)
                        obtain ⟨ad233, e233, hx233_0, hx233_1, hx233_2, hx233_3, hx233_4, hx233_5, hx233_6, hx233_7⟩ := at_T29 (Kd.R_reads' HO_5.out).2.2 x9_2 p233 q233
                        obtain rfl : ad231 = ad233 := (by injection e233)
                        replace p233 := eq_true p233
                        replace q233 := eq_true q233
                        try go_wp2_with (first | ((with_reducible refine gate_builtin (b := .append) (xs := #[.tmp 48, .tmp 53]) rfl ?_); at_builtin; refine Kd.R_append k29 (w0 := w) w.heap.size rfl (.tmp 48) (.tmp 53) 25 29 (.agg #[(.string ⟨#[]⟩), (.string ⟨#[]⟩), (.string ⟨#[]⟩), (.int .i64 0), (.int .i64 0), (.int .i64 0), (.int .i64 0), (.string ⟨#[]⟩)]) 96 rfl Try.underlying25 info29 rfl (by decide) (by omega) u8 x8_2 (⟨(rd_T29 t208 x9_2).f0, (rd_T29 t208 x9_2).f1, (rd_T29 t208 x9_2).f2, (rd_T29 t208 x9_2).f3, (rd_T29 t208 x9_2).f4, (⟨(rd_T29 t208 x9_2).f5.f0, (rd_T29 t208 x9_2).f5.f1, (rd_T29 t208 x9_2).f5.f2⟩ : S27)⟩ : S29) [.string ((rd_T29 t208 x9_2).f0), .string ((rd_T29 t208 x9_2).f1), .string ((rd_T29 t208 x9_2).f2), .int .i64 ((rd_T29 t208 x9_2).f3), .int .i64 ((rd_T29 t208 x9_2).f4), .int .i64 ((rd_T29 t208 x9_2).f5.f0), .int .i64 ((rd_T29 t208 x9_2).f5.f1), .string ((rd_T29 t208 x9_2).f5.f2)] (fun k_ => some k_ ≠ (.slice (some ad231) t208.length co26 : Value).ownBlock) (fun _ => False) rfl rfl ?aP (fun _ hk => hk.elim) ?aF ?aO ?aB ?aS ?aL ?_; (case aP => exact k29_mkM _ _ _ (⟨(rd_T29 t208 x9_2).f0, (rd_T29 t208 x9_2).f1, (rd_T29 t208 x9_2).f2, (rd_T29 t208 x9_2).f3, (rd_T29 t208 x9_2).f4, (⟨(rd_T29 t208 x9_2).f5.f0, (rd_T29 t208 x9_2).f5.f1, (rd_T29 t208 x9_2).f5.f2⟩ : S27)⟩ : S29)); (case aB => exact (by repeat (first | (with_reducible first | exact HB.out | apply below_alloc | apply pw_below_drewN | apply below_drew1 | refine below_set ?_ GE204.out | refine below_set ?_ GE227.out) | exact HB.out))); (case aF => exact (fun k_ hk => Kd.fresh' (Kd.R_lt (by (with_reducible repeat (first | apply Kd.R_alloc | apply Kd.R_drewN | apply Kd.R_drew)); exact HO_5.out)) k_ hk)); (case aO => exact (by (with_reducible repeat (first | apply Kd.R_alloc | apply Kd.R_drewN | apply Kd.R_drew)); exact HO_8.out)); (case aS => exact (below_size (by repeat (first | (with_reducible first | exact HB.out | apply below_alloc | apply pw_below_drewN | apply below_drew1 | refine below_set ?_ GE204.out | refine below_set ?_ GE227.out) | exact HB.out)))); (case aL => have := LMc44.out; omega); intro v235 w47 ho hb hg hat; rw [← Ny234.out] at ho; have n0_ := Aside0.mk (Kd.R_after (ok := (fun _ => True)) (by (with_reducible repeat (first | apply Kd.R_alloc | apply Kd.R_drewN | apply Kd.R_drew)); exact Kd.R_mono HO_5.out (fun _ hk => ⟨trivial, hk⟩)) hg hat); have n1_ := Aside0.mk (Kd.R_over' (by (with_reducible repeat (first | apply Kd.R_alloc | apply Kd.R_drewN | apply Kd.R_drew)); exact HO_228000.out) (Kd.R_typed (by (with_reducible repeat (first | apply Kd.R_alloc | apply Kd.R_drewN | apply Kd.R_drew)); exact HO_8.out)) (by decide) hg); have n2_ := Aside0.mk (blk_grown (g := gb204) (o := .cells #[.slice A0_0 l0_0.length c0_0, .string a0_1, .string a0_2, .int .i64 a0_3, .int .i64 a0_4, .int .i64 a0_5, .int .i64 a0_6] 24 (0, 0)) (by (with_reducible repeat (first | refine blk_drewN ?_ _ | refine blk_drew ?_ | refine blk_alloc ?_ _)); exact BK204.out) hg (Kd.R_ne HO_8.out BK204.out (by decide))); have n3_ := Aside0.mk (blk_grown (g := gb227) (o := .cells #[.slice Ao35 t218.length co35, .string t221, .string t222, .int .i64 t223, .int .i64 t224, .int .i64 0, .int .i64 0] 24 (0, 0)) (by (with_reducible repeat (first | refine blk_drewN ?_ _ | refine blk_drew ?_ | refine blk_alloc ?_ _)); exact BK227.out) hg (Kd.R_ne HO_8.out BK227.out (by decide))); have n4_ := Aside0.mk (hb); have n5_ := Aside0.mk (ho); clear HO_5; clear HO_228000; clear BK204; clear BK227; clear HB; clear HO_8; have HO_5 := n0_; have HO_228000 := n1_; have BK204 := n2_; have BK227 := n3_; have HB := n4_; have HO236 := n5_; clear n0_ n1_ n2_ n3_ n4_ n5_; clear ho hb hg hat))
                        go_roundg k2
                        case measure => have := HJ4.out; have := HK2.out; omega
                        case rel => exact ⟨(y234), (wrap64 (x9_2 + 1)), (by first | rfl | (simp; done) | (simp [*]; done)), H', ⟨by have := HJ4.out; have := HK2.out; omega⟩, ⟨by (with_reducible repeat (first | apply Kd.R_alloc | apply Kd.R_drewN | apply Kd.R_drew)); exact Kd.R_mono HO_5.out (fun _ hk => hk.2)⟩, ⟨by (with_reducible repeat (first | apply Kd.R_alloc | apply Kd.R_drewN | apply Kd.R_drew)); exact HO236.out⟩, ⟨by (with_reducible repeat (first | apply Kd.R_alloc | apply Kd.R_drewN | apply Kd.R_drew)); exact HO_228000.out⟩, ⟨by (with_reducible repeat (first | refine blk_drewN ?_ _ | refine blk_drew ?_ | refine blk_alloc ?_ _)); exact BK204.out⟩, ⟨by (with_reducible repeat (first | refine blk_drewN ?_ _ | refine blk_drew ?_ | refine blk_alloc ?_ _)); exact BK227.out⟩, ⟨by repeat (first | (with_reducible first | exact HB.out | apply below_alloc | apply pw_below_drewN | apply below_drew1 | refine below_set ?_ GE204.out | refine below_set ?_ GE227.out) | exact HB.out)⟩⟩
                      · rw [if_neg c44] at H
                        exact absurd H (by simp)
                    · replace c43 := Bool.eq_false_iff.mpr c43
                      subst c43
                      have H1 : (joistlaw13_FilterAgain.l0 k2 t208 x8_2 (wrap64 (x9_2 + 1)) l0_0 a0_1 a0_2 a0_3 a0_4 a0_5 a0_6 t218 t221 t222 t223 t224 0 0) = some r := by rw [if_neg (show ¬ (false = true) by decide)] at H; exact H
                      clear H
                      have H := H1
                      clear H1
                      have H' := Aside0.mk H
                      clear H
                      try go_wp2
                      have n0_ := Aside0.mk (Kd.R_drew HO_5.out)
                      have n1_ := Aside0.mk (Kd.R_drew HO_8.out)
                      have n2_ := Aside0.mk (Kd.R_drew HO_228000.out)
                      have n3_ := Aside0.mk (blk_drew BK204.out)
                      have n4_ := Aside0.mk (blk_drew BK227.out)
                      have n5_ := Aside0.mk (below_drew1 HB.out)
                      clear HO_5
                      clear HO_8
                      clear HO_228000
                      clear BK204
                      clear BK227
                      clear HB
                      have HO_5 := n0_
                      have HO_8 := n1_
                      have HO_228000 := n2_
                      have BK204 := n3_
                      have BK227 := n4_
                      have HB := n5_
                      clear n0_ n1_ n2_ n3_ n4_ n5_
                      have p231 : 0 ≤ (x9_2 : Int) := of_decide_eq_true (by first | (with_reducible assumption) | assumption)
                      have q231 : x9_2 < (t208.length : Int) := of_decide_eq_true (by first | (with_reducible assumption) | assumption)
                      obtain ⟨ad231, e231, hx231_0, hx231_1, hx231_2, hx231_3, hx231_4, hx231_5, hx231_6, hx231_7⟩ := at_T29 (Kd.R_reads' HO_5.out).2.2 x9_2 p231 q231
                      cases e231
                      replace p231 := eq_true p231
                      replace q231 := eq_true q231
                      refine start_ (n := 6) (S := fun w' => w'.cell? ⟨gb204, 0, none⟩ = some (.slice A0_0 l0_0.length c0_0) ∧ w'.cell? ⟨gb204, 1, none⟩ = some (.string a0_1) ∧ w'.cell? ⟨gb204, 2, none⟩ = some (.string a0_2) ∧ w'.cell? ⟨gb204, 3, none⟩ = some (.int .i64 a0_3) ∧ w'.cell? ⟨gb204, 4, none⟩ = some (.int .i64 a0_4) ∧ w'.cell? ⟨gb204, 5, none⟩ = some (.int .i64 a0_5) ∧ w'.cell? ⟨gb204, 6, none⟩ = some (.int .i64 a0_6) ∧ w'.cell? (ad231.add ((x9_2).toNat * 8)) = some (.string ((rd_T29 t208 x9_2).f0)) ∧ w'.cell? ⟨(ad231.add ((x9_2).toNat * 8)).block, (ad231.add ((x9_2).toNat * 8)).off + 1, none⟩ = some (.string ((rd_T29 t208 x9_2).f1)) ∧ w'.cell? ⟨(ad231.add ((x9_2).toNat * 8)).block, (ad231.add ((x9_2).toNat * 8)).off + 2, none⟩ = some (.string ((rd_T29 t208 x9_2).f2)) ∧ w'.cell? ⟨(ad231.add ((x9_2).toNat * 8)).block, (ad231.add ((x9_2).toNat * 8)).off + 3, none⟩ = some (.int .i64 ((rd_T29 t208 x9_2).f3)) ∧ w'.cell? ⟨(ad231.add ((x9_2).toNat * 8)).block, (ad231.add ((x9_2).toNat * 8)).off + 4, none⟩ = some (.int .i64 ((rd_T29 t208 x9_2).f4)) ∧ w'.cell? ⟨(ad231.add ((x9_2).toNat * 8)).block, (ad231.add ((x9_2).toNat * 8)).off + 5, none⟩ = some (.int .i64 ((rd_T29 t208 x9_2).f5.f0)) ∧ w'.cell? ⟨(ad231.add ((x9_2).toNat * 8)).block, (ad231.add ((x9_2).toNat * 8)).off + 6, none⟩ = some (.int .i64 ((rd_T29 t208 x9_2).f5.f1)) ∧ w'.cell? ⟨(ad231.add ((x9_2).toNat * 8)).block, (ad231.add ((x9_2).toNat * 8)).off + 7, none⟩ = some (.string ((rd_T29 t208 x9_2).f5.f2))) (ds := []) #[false, false, false, false, false, false] (by kernel_rfl) rfl rfl ⟨(blk_cell BK204.out 0).trans rfl, (blk_cell BK204.out 1).trans rfl, (blk_cell BK204.out 2).trans rfl, (blk_cell BK204.out 3).trans rfl, (blk_cell BK204.out 4).trans rfl, (blk_cell BK204.out 5).trans rfl, (blk_cell BK204.out 6).trans rfl, hx231_0, hx231_1, hx231_2, hx231_3, hx231_4, hx231_5, hx231_6, hx231_7⟩ (fun hHeld => ?_)
                      generalize wr.drew = w48 at HO_5 HO_8 HO_228000 BK204 BK227 HB hx231_0 hx231_1 hx231_2 hx231_3 hx231_4 hx231_5 hx231_6 hx231_7 hHeld ⊢
                      refine pure_ (i := 1) (N := some 43) (v := ?_) (a' := ?_) #[false, true, false, false, false, false] rfl rfl (by kernel_rfl) (fun _ _ _ h => h) (Or.inl ⟨by rfl, ?_⟩) ?_ ?_
                      rotate_left
                      · intro w'
                        go_simp
                        with_reducible rfl
                      rotate_left
                      · simp only [Act.put, List.setIfInBounds_toArray, List.set_cons_zero, List.set_cons_succ, i64_w, i32_w]
                        rfl
                      refine pure_ (i := 2) (N := some 44) (v := ?_) (a' := ?_) #[false, true, true, false, false, false] rfl rfl (by kernel_rfl) (fun _ _ _ h => h) (Or.inl ⟨by rfl, ?_⟩) ?_ ?_
                      rotate_left
                      · intro w'
                        go_simp
                        with_reducible rfl
                      rotate_left
                      · simp only [Act.put, List.setIfInBounds_toArray, List.set_cons_zero, List.set_cons_succ, i64_w, i32_w]
                        rfl
                      refine pure_ (i := 3) (N := some 45) (v := ?_) (a' := ?_) #[false, true, true, true, false, false] rfl rfl (by kernel_rfl) (fun _ _ _ h => h) (Or.inl ⟨by rfl, ?_⟩) ?_ ?_
                      rotate_left
                      · intro w'
                        go_simp
                        with_reducible rfl
                      rotate_left
                      · simp only [Act.put, List.setIfInBounds_toArray, List.set_cons_zero, List.set_cons_succ, i64_w, i32_w]
                        rfl
                      refine take_ (i := 0) (N := some 42) (v := ?_) (a' := ?_) #[true, true, true, true, false, false] rfl rfl (by kernel_rfl) (fun _ _ _ h => h) (Or.inl ⟨by rfl, ?_⟩) hHeld ?_ ?_
                      rotate_left
                      · rintro w' ⟨s0, s1, s2, s3, s4, s5, s6, s7, s8, s9, s10, s11, s12, s13, s14⟩
                        go_simp
                        with_reducible rfl
                      rotate_left
                      · simp only [Act.put, List.setIfInBounds_toArray, List.set_cons_zero, List.set_cons_succ, i64_w, i32_w]
                        rfl
                      refine take_ (i := 4) (N := some 46) (v := ?_) (a' := ?_) #[true, true, true, true, true, false] rfl rfl (by kernel_rfl) (fun _ _ _ h => h) (Or.inl ⟨by rfl, ?_⟩) hHeld ?_ ?_
                      rotate_left
                      · rintro w' ⟨s0, s1, s2, s3, s4, s5, s6, s7, s8, s9, s10, s11, s12, s13, s14⟩
                        go_simp
                        with_reducible rfl
                      rotate_left
                      · simp only [Act.put, List.setIfInBounds_toArray, List.set_cons_zero, List.set_cons_succ, i64_w, i32_w]
                        rfl
                      refine one_ (i := 5) (N := some 47) #[true, true, true, true, true, true] rfl rfl (by kernel_rfl) (by decide) (fun K hK => ?_)
                      refine goes_ Try.func15 (by kernel_rfl) rfl #[.agg #[.slice A0_0 l0_0.length c0_0, .string a0_1, .string a0_2, .int .i64 a0_3, .int .i64 a0_4, .int .i64 a0_5, .int .i64 a0_6], .agg #[.string ((rd_T29 t208 x9_2).f0), .string ((rd_T29 t208 x9_2).f1), .string ((rd_T29 t208 x9_2).f2), .int .i64 ((rd_T29 t208 x9_2).f3), .int .i64 ((rd_T29 t208 x9_2).f4), .int .i64 ((rd_T29 t208 x9_2).f5.f0), .int .i64 ((rd_T29 t208 x9_2).f5.f1), .string ((rd_T29 t208 x9_2).f5.f2)]] (by rfl) rfl rfl (by (try simp only [List.map_toArray, List.map_cons, List.map_nil]); first | done | rfl | (simp only [List.length_drop, List.length_take]; rfl)) ?_
                      with_reducible refine (joistref13_Lets.calls k2 _ _ l0_0 a0_1 a0_2 a0_3 a0_4 a0_5 a0_6 ((rd_T29 t208 x9_2).f0) ((rd_T29 t208 x9_2).f1) ((rd_T29 t208 x9_2).f2) ((rd_T29 t208 x9_2).f3) ((rd_T29 t208 x9_2).f4) ((rd_T29 t208 x9_2).f5.f0) ((rd_T29 t208 x9_2).f5.f1) ((rd_T29 t208 x9_2).f5.f2) false _ ?side1 ?side2 A42.out).mono ?_
                      (case side1 => repeat (first | exact (Kd.C_below HR0_0.out HB.out) | (with_reducible refine Kd.C_alloc ?_ _) | (with_reducible refine Kd.C_drewN ?_ _) | (with_reducible refine Kd.C_drew ?_)))
                      (case side2 => exact HC0_0.out)
                      rintro e w49 ⟨rfl, hb⟩
                      have HS7_ := (hb.cell (World.block_lt_of_cell? _ _ (hHeld.2.2.2.2.2.2.2.1))).trans (hHeld.2.2.2.2.2.2.2.1)
                      have HS8_ := (hb.cell (World.block_lt_of_cell? _ _ (hHeld.2.2.2.2.2.2.2.2.1))).trans (hHeld.2.2.2.2.2.2.2.2.1)
                      have HS9_ := (hb.cell (World.block_lt_of_cell? _ _ (hHeld.2.2.2.2.2.2.2.2.2.1))).trans (hHeld.2.2.2.2.2.2.2.2.2.1)
                      have HS10_ := (hb.cell (World.block_lt_of_cell? _ _ (hHeld.2.2.2.2.2.2.2.2.2.2.1))).trans (hHeld.2.2.2.2.2.2.2.2.2.2.1)
                      have HS11_ := (hb.cell (World.block_lt_of_cell? _ _ (hHeld.2.2.2.2.2.2.2.2.2.2.2.1))).trans (hHeld.2.2.2.2.2.2.2.2.2.2.2.1)
                      have HS12_ := (hb.cell (World.block_lt_of_cell? _ _ (hHeld.2.2.2.2.2.2.2.2.2.2.2.2.1))).trans (hHeld.2.2.2.2.2.2.2.2.2.2.2.2.1)
                      have HS13_ := (hb.cell (World.block_lt_of_cell? _ _ (hHeld.2.2.2.2.2.2.2.2.2.2.2.2.2.1))).trans (hHeld.2.2.2.2.2.2.2.2.2.2.2.2.2.1)
                      have HS14_ := (hb.cell (World.block_lt_of_cell? _ _ (hHeld.2.2.2.2.2.2.2.2.2.2.2.2.2.2))).trans (hHeld.2.2.2.2.2.2.2.2.2.2.2.2.2.2)
                      refine ⟨_, rfl, ?_⟩
                      have n0_ := Aside0.mk (Kd.R_below (by (with_reducible repeat (first | apply Kd.R_alloc | apply Kd.R_drewN | apply Kd.R_drew)); exact HO_5.out) hb)
                      have n1_ := Aside0.mk (Kd.R_below (by (with_reducible repeat (first | apply Kd.R_alloc | apply Kd.R_drewN | apply Kd.R_drew)); exact HO_8.out) hb)
                      have n2_ := Aside0.mk (Kd.R_below (by (with_reducible repeat (first | apply Kd.R_alloc | apply Kd.R_drewN | apply Kd.R_drew)); exact HO_228000.out) hb)
                      have n3_ := Aside0.mk (blk_below (g := gb204) (o := .cells #[.slice A0_0 l0_0.length c0_0, .string a0_1, .string a0_2, .int .i64 a0_3, .int .i64 a0_4, .int .i64 a0_5, .int .i64 a0_6] 24 (0, 0)) (by (with_reducible repeat (first | refine blk_drewN ?_ _ | refine blk_drew ?_ | refine blk_alloc ?_ _)); exact BK204.out) hb)
                      have n4_ := Aside0.mk (blk_below (g := gb227) (o := .cells #[.slice Ao35 t218.length co35, .string t221, .string t222, .int .i64 t223, .int .i64 t224, .int .i64 0, .int .i64 0] 24 (0, 0)) (by (with_reducible repeat (first | refine blk_drewN ?_ _ | refine blk_drew ?_ | refine blk_alloc ?_ _)); exact BK227.out) hb)
                      have n5_ := Aside0.mk (below_step (by repeat (first | (with_reducible first | exact HB.out | apply below_alloc | apply pw_below_drewN | apply below_drew1 | refine below_set ?_ GE204.out | refine below_set ?_ GE227.out) | exact HB.out)) hb)
                      clear HO_5
                      clear HO_8
                      clear HO_228000
                      clear BK204
                      clear BK227
                      clear HB
                      have HO_5 := n0_
                      have HO_8 := n1_
                      have HO_228000 := n2_
                      have BK204 := n3_
                      have BK227 := n4_
                      have HB := n5_
                      clear n0_ n1_ n2_ n3_ n4_ n5_
                      (try clear hb)
                      (try clear hb2)
                      (try clear hk)
                      (try clear hi)
                      refine hK.out _ _ ⟨(blk_cell BK204.out 0).trans rfl, (blk_cell BK204.out 1).trans rfl, (blk_cell BK204.out 2).trans rfl, (blk_cell BK204.out 3).trans rfl, (blk_cell BK204.out 4).trans rfl, (blk_cell BK204.out 5).trans rfl, (blk_cell BK204.out 6).trans rfl, HS7_, HS8_, HS9_, HS10_, HS11_, HS12_, HS13_, HS14_⟩ (fun hHeld => ?_)
                      clear hK K
                      refine norm_ (a' := ?_) ?_ ?_
                      rotate_left
                      · show Act.put _ (some 47) _ = _
                        simp only [Act.put, List.setIfInBounds_toArray, List.set_cons_zero, List.set_cons_succ, i64_w, i32_w]
                        rfl
                      refine done_ (by kernel_rfl) ?_
                      try go_wp2
                      go_roundg k2
                      case measure => have := HJ4.out; have := HK2.out; omega
                      case rel => exact ⟨(x8_2), (wrap64 (x9_2 + 1)), (by first | rfl | (simp; done) | (simp [*]; done)), H', ⟨by have := HJ4.out; have := HK2.out; omega⟩, ⟨by (with_reducible repeat (first | apply Kd.R_alloc | apply Kd.R_drewN | apply Kd.R_drew)); exact HO_5.out⟩, ⟨by (with_reducible repeat (first | apply Kd.R_alloc | apply Kd.R_drewN | apply Kd.R_drew)); exact HO_8.out⟩, ⟨by (with_reducible repeat (first | apply Kd.R_alloc | apply Kd.R_drewN | apply Kd.R_drew)); exact HO_228000.out⟩, ⟨by (with_reducible repeat (first | refine blk_drewN ?_ _ | refine blk_drew ?_ | refine blk_alloc ?_ _)); exact BK204.out⟩, ⟨by (with_reducible repeat (first | refine blk_drewN ?_ _ | refine blk_drew ?_ | refine blk_alloc ?_ _)); exact BK227.out⟩, ⟨by repeat (first | (with_reducible first | exact HB.out | apply below_alloc | apply pw_below_drewN | apply below_drew1 | refine below_set ?_ GE204.out | refine below_set ?_ GE227.out) | exact HB.out)⟩⟩
                  · rw [if_neg c41] at H
                    exact absurd H (by simp)
                · rw [if_neg c40] at H
                  have c40b0 : decide (x9_2 < (t208.length : Int)) = false := decide_eq_false c40
                  clear c40
                  replace H := Option.bind_eq_some_iff.mp H
                  obtain ⟨t237, A500, H⟩ := H
                  replace H : ((joistref00_SameCells.f k2 t237 x8_2).bind fun t240 => (some t240)) = some r := H
                  have A50 := Aside0.mk A500
                  clear A500
                  replace H := Option.bind_eq_some_iff.mp H
                  obtain ⟨t240, A510, H⟩ := H
                  replace H : (some t240) = some r := H
                  have A51 := Aside0.mk A510
                  clear A510
                  obtain rfl := Option.some.inj H
                  have hnb52 := NB227_204.out
                  have hnc52 := NB204_227.out
                  have hcz53_0 : wr.cell? ⟨gb227, 0, none⟩ = some (.slice Ao35 t218.length co35) := (blk_cell BK227.out 0).trans rfl
                  have hcz53_1 : wr.cell? ⟨gb227, 1, none⟩ = some (.string t221) := (blk_cell BK227.out 1).trans rfl
                  have hcz53_2 : wr.cell? ⟨gb227, 2, none⟩ = some (.string t222) := (blk_cell BK227.out 2).trans rfl
                  have hcz53_3 : wr.cell? ⟨gb227, 3, none⟩ = some (.int .i64 t223) := (blk_cell BK227.out 3).trans rfl
                  have hcz53_4 : wr.cell? ⟨gb227, 4, none⟩ = some (.int .i64 t224) := (blk_cell BK227.out 4).trans rfl
                  have hcz53_5 : wr.cell? ⟨gb227, 5, none⟩ = some (.int .i64 0) := (blk_cell BK227.out 5).trans rfl
                  have hcz53_6 : wr.cell? ⟨gb227, 6, none⟩ = some (.int .i64 0) := (blk_cell BK227.out 6).trans rfl
                  have hfz53_0 := blk_frozen BK227.out 0
                  have hfz53_1 := blk_frozen BK227.out 1
                  have hfz53_2 := blk_frozen BK227.out 2
                  have hfz53_3 := blk_frozen BK227.out 3
                  have hfz53_4 := blk_frozen BK227.out 4
                  have hfz53_5 := blk_frozen BK227.out 5
                  have hfz53_6 := blk_frozen BK227.out 6
                  go_wp2_with (first | ((with_reducible refine gate_callee (f := 17) rfl ?_); refine goesL_ (some 57) rfl rfl Try.func17 (by kernel_rfl) rfl #[.agg #[.slice Ao35 t218.length co35, .string t221, .string t222, .int .i64 t223, .int .i64 t224, .int .i64 0, .int .i64 0], .slice Ao26 t208.length co26] rfl (by (try simp only [List.map_toArray, List.map_cons, List.map_nil]); first | done | rfl | (simp only [List.length_drop, List.length_take]; rfl)) ?_; (with_reducible refine (filter_Apply.calls _ _ t218 t221 t222 t223 t224 0 0 _ _ t208 t237 _ ?side1 ?side2 ?side3 ?side4 A50.out).mono ?_); (case side1 => repeat (first | exact (Kd.R_reads' HO_228000.out).2.2 | (with_reducible refine Kd.C_alloc ?_ _) | (with_reducible refine Kd.C_drewN ?_ _) | (with_reducible refine Kd.C_drew ?_))); (case side2 => exact (Kd.R_reads' HO_228000.out).2.1); (case side3 => repeat (first | exact (Kd.R_reads' HO_5.out).2.2 | (with_reducible refine Kd.C_alloc ?_ _) | (with_reducible refine Kd.C_drewN ?_ _) | (with_reducible refine Kd.C_drew ?_))); (case side4 => exact (Kd.R_reads' HO_5.out).2.1); rintro e w54 ⟨v238, rfl, ho0, hb⟩; refine ⟨_, rfl, ?_⟩; have n0_ := Aside0.mk (Kd.R_elder' (by (with_reducible repeat (first | apply Kd.R_alloc | apply Kd.R_drewN | apply Kd.R_drew)); exact HO_5.out) (Kd.R_base ho0) hb); have n1_ := Aside0.mk (Kd.R_elder' (by (with_reducible repeat (first | apply Kd.R_alloc | apply Kd.R_drewN | apply Kd.R_drew)); exact HO_8.out) (Kd.R_base ho0) hb); have n2_ := Aside0.mk (Kd.R_below (by (with_reducible repeat (first | apply Kd.R_alloc | apply Kd.R_drewN | apply Kd.R_drew)); exact HO_228000.out) hb); have n3_ := Aside0.mk (Kd.R_lower (Kd.R_new' (Kd.R_new' ho0 (Kd.R_lt (by (with_reducible repeat (first | apply Kd.R_alloc | apply Kd.R_drewN | apply Kd.R_drew)); exact HO_5.out))) (Kd.R_lt (by (with_reducible repeat (first | apply Kd.R_alloc | apply Kd.R_drewN | apply Kd.R_drew)); exact HO_8.out))) (below_size (by repeat (first | (with_reducible first | exact HB.out | apply below_alloc | apply pw_below_drewN | apply below_drew1 | refine below_set ?_ GE204.out | refine below_set ?_ GE227.out) | exact HB.out)))); have n4_ := Aside0.mk (blk_below (g := gb204) (o := .cells #[.slice A0_0 l0_0.length c0_0, .string a0_1, .string a0_2, .int .i64 a0_3, .int .i64 a0_4, .int .i64 a0_5, .int .i64 a0_6] 24 (0, 0)) (by (with_reducible repeat (first | refine blk_drewN ?_ _ | refine blk_drew ?_ | refine blk_alloc ?_ _)); exact BK204.out) hb); have n5_ := Aside0.mk (blk_below (g := gb227) (o := .cells #[.slice Ao35 t218.length co35, .string t221, .string t222, .int .i64 t223, .int .i64 t224, .int .i64 0, .int .i64 0] 24 (0, 0)) (by (with_reducible repeat (first | refine blk_drewN ?_ _ | refine blk_drew ?_ | refine blk_alloc ?_ _)); exact BK227.out) hb); have n6_ := Aside0.mk (below_step (by repeat (first | (with_reducible first | exact HB.out | apply below_alloc | apply pw_below_drewN | apply below_drew1 | refine below_set ?_ GE204.out | refine below_set ?_ GE227.out) | exact HB.out)) hb); clear HO_5; clear HO_8; clear HO_228000; clear BK204; clear BK227; clear HB; have HO_5 := n0_; have HO_8 := n1_; have HO_228000 := n2_; have HO239 := n3_; have BK204 := n4_; have BK227 := n5_; have HB := n6_; clear n0_ n1_ n2_ n3_ n4_ n5_ n6_; (try clear hb); (try clear hb2); (try clear hk); (try clear hi); (try clear ho0); obtain ⟨Ao55, co55, eo55⟩ := Kd.R_slice HO239.out; subst eo55; obtain ⟨Ao56, co56, eo56⟩ := Kd.R_slice HO_8.out; subst eo56) | ((with_reducible refine gate_callee (f := 16) rfl ?_); refine goesL_ (some 59) rfl rfl Try.func16 (by kernel_rfl) rfl #[.slice Ao55 t237.length co55, .slice Ao56 x8_2.length co56] rfl (by (try simp only [List.map_toArray, List.map_cons, List.map_nil]); first | done | rfl | (simp only [List.length_drop, List.length_take]; rfl)) ?_; (with_reducible refine (joistref00_SameCells.calls k2 _ _ t237 _ _ x8_2 t240 _ ?side1 ?side2 ?side3 ?side4 A51.out).mono ?_); (case side1 => repeat (first | exact (Kd.R_reads' HO239.out).2.2 | (with_reducible refine Kd.C_alloc ?_ _) | (with_reducible refine Kd.C_drewN ?_ _) | (with_reducible refine Kd.C_drew ?_))); (case side2 => exact (Kd.R_reads' HO239.out).2.1); (case side3 => repeat (first | exact (Kd.R_reads' HO_8.out).2.2 | (with_reducible refine Kd.C_alloc ?_ _) | (with_reducible refine Kd.C_drewN ?_ _) | (with_reducible refine Kd.C_drew ?_))); (case side4 => exact (Kd.R_reads' HO_8.out).2.1); rintro e w' ⟨rfl, ⟨nd, rfl⟩⟩; refine ⟨_, rfl, ?_⟩))
                  go_ret
                  exact ⟨by first | rfl | (simp [errW_none, errW_some] <;> rfl) | (simp [*, errW_none, errW_some] <;> rfl), by repeat (first | (with_reducible first | exact HB.out | apply below_alloc | apply pw_below_drewN | apply below_drew1 | refine below_set ?_ GE204.out | refine below_set ?_ GE227.out) | exact HB.out)⟩
          · replace c22 := Bool.eq_false_iff.mpr c22
            subst c22
            have H1 : (some false) = some r := by rw [if_neg (show ¬ (false = true) by decide)] at H; exact H
            clear H
            have H := H1
            clear H1
            obtain rfl := Option.some.inj H
            go_wp2_with (first | ((with_reducible refine gate_callee (f := 25) rfl ?_); refine goesL_ (some 21) rfl rfl Try.func25 (by kernel_rfl) rfl #[.slice A1 l1.length c1] rfl (by (try simp only [List.map_toArray, List.map_cons, List.map_nil]); first | done | rfl | (simp only [List.length_drop, List.length_take]; rfl)) ?_; (with_reducible refine (joistref06_Sort.calls kj4 _ _ l1 t208 _ ?side1 ?side2 A18.out).mono ?_); (case side1 => repeat (first | exact (Kd.C_below HR1.out HB.out) | (with_reducible refine Kd.C_alloc ?_ _) | (with_reducible refine Kd.C_drewN ?_ _) | (with_reducible refine Kd.C_drew ?_))); (case side2 => exact HC1.out); rintro e w57 ⟨v209, rfl, ho0, hb⟩; refine ⟨_, rfl, ?_⟩; have n0_ := Aside0.mk (Kd.R_lower ho0 (below_size (by repeat (first | (with_reducible first | exact HB.out | apply below_alloc | apply pw_below_drewN | apply below_drew1 | refine below_set ?_ GE204.out) | exact HB.out)))); have n1_ := Aside0.mk (blk_below (g := gb204) (o := .cells #[.slice A0_0 l0_0.length c0_0, .string a0_1, .string a0_2, .int .i64 a0_3, .int .i64 a0_4, .int .i64 a0_5, .int .i64 a0_6] 24 (0, 0)) (by (with_reducible repeat (first | refine blk_drewN ?_ _ | refine blk_drew ?_ | refine blk_alloc ?_ _)); exact BK204.out) hb); have n2_ := Aside0.mk (below_step (by repeat (first | (with_reducible first | exact HB.out | apply below_alloc | apply pw_below_drewN | apply below_drew1 | refine below_set ?_ GE204.out) | exact HB.out)) hb); clear BK204; clear HB; have HO210 := n0_; have BK204 := n1_; have HB := n2_; clear n0_ n1_ n2_; (try clear hb); (try clear hb2); (try clear hk); (try clear hi); (try clear ho0); have hcz58_0 : w57.cell? ⟨gb204, 0, none⟩ = some (.slice A0_0 l0_0.length c0_0) := (blk_cell BK204.out 0).trans rfl; have hcz58_1 : w57.cell? ⟨gb204, 1, none⟩ = some (.string a0_1) := (blk_cell BK204.out 1).trans rfl; have hcz58_2 : w57.cell? ⟨gb204, 2, none⟩ = some (.string a0_2) := (blk_cell BK204.out 2).trans rfl; have hcz58_3 : w57.cell? ⟨gb204, 3, none⟩ = some (.int .i64 a0_3) := (blk_cell BK204.out 3).trans rfl; have hcz58_4 : w57.cell? ⟨gb204, 4, none⟩ = some (.int .i64 a0_4) := (blk_cell BK204.out 4).trans rfl; have hcz58_5 : w57.cell? ⟨gb204, 5, none⟩ = some (.int .i64 a0_5) := (blk_cell BK204.out 5).trans rfl; have hcz58_6 : w57.cell? ⟨gb204, 6, none⟩ = some (.int .i64 a0_6) := (blk_cell BK204.out 6).trans rfl; have hfz58_0 := blk_frozen BK204.out 0; have hfz58_1 := blk_frozen BK204.out 1; have hfz58_2 := blk_frozen BK204.out 2; have hfz58_3 := blk_frozen BK204.out 3; have hfz58_4 := blk_frozen BK204.out 4; have hfz58_5 := blk_frozen BK204.out 5; have hfz58_6 := blk_frozen BK204.out 6; obtain ⟨Ao59, co59, eo59⟩ := Kd.R_slice HO210.out; subst eo59) | ((with_reducible refine gate_callee (f := 17) rfl ?_); refine goesL_ (some 24) rfl rfl Try.func17 (by kernel_rfl) rfl #[.agg #[.slice A0_0 l0_0.length c0_0, .string a0_1, .string a0_2, .int .i64 a0_3, .int .i64 a0_4, .int .i64 a0_5, .int .i64 a0_6], .slice Ao59 t208.length co59] rfl (by (try simp only [List.map_toArray, List.map_cons, List.map_nil]); first | done | rfl | (simp only [List.length_drop, List.length_take]; rfl)) ?_; (with_reducible refine (filter_Apply.calls _ _ l0_0 a0_1 a0_2 a0_3 a0_4 a0_5 a0_6 _ _ t208 t211 _ ?side1 ?side2 ?side3 ?side4 A19.out).mono ?_); (case side1 => repeat (first | exact (Kd.C_below HR0_0.out HB.out) | (with_reducible refine Kd.C_alloc ?_ _) | (with_reducible refine Kd.C_drewN ?_ _) | (with_reducible refine Kd.C_drew ?_))); (case side2 => exact HC0_0.out); (case side3 => repeat (first | exact (Kd.R_reads' HO210.out).2.2 | (with_reducible refine Kd.C_alloc ?_ _) | (with_reducible refine Kd.C_drewN ?_ _) | (with_reducible refine Kd.C_drew ?_))); (case side4 => exact (Kd.R_reads' HO210.out).2.1); rintro e w60 ⟨v212, rfl, ho0, hb⟩; refine ⟨_, rfl, ?_⟩; have n0_ := Aside0.mk (Kd.R_elder' (by (with_reducible repeat (first | apply Kd.R_alloc | apply Kd.R_drewN | apply Kd.R_drew)); exact HO210.out) (Kd.R_base ho0) hb); have n1_ := Aside0.mk (Kd.R_lower (Kd.R_new' ho0 (Kd.R_lt (by (with_reducible repeat (first | apply Kd.R_alloc | apply Kd.R_drewN | apply Kd.R_drew)); exact HO210.out))) (below_size (by repeat (first | (with_reducible first | exact HB.out | apply below_alloc | apply pw_below_drewN | apply below_drew1 | refine below_set ?_ GE204.out) | exact HB.out)))); have n2_ := Aside0.mk (blk_below (g := gb204) (o := .cells #[.slice A0_0 l0_0.length c0_0, .string a0_1, .string a0_2, .int .i64 a0_3, .int .i64 a0_4, .int .i64 a0_5, .int .i64 a0_6] 24 (0, 0)) (by (with_reducible repeat (first | refine blk_drewN ?_ _ | refine blk_drew ?_ | refine blk_alloc ?_ _)); exact BK204.out) hb); have n3_ := Aside0.mk (below_step (by repeat (first | (with_reducible first | exact HB.out | apply below_alloc | apply pw_below_drewN | apply below_drew1 | refine below_set ?_ GE204.out) | exact HB.out)) hb); clear HO210; clear BK204; clear HB; have HO210 := n0_; have HO213 := n1_; have BK204 := n2_; have HB := n3_; clear n0_ n1_ n2_ n3_; (try clear hb); (try clear hb2); (try clear hk); (try clear hi); (try clear ho0); have hcz61_0 : w60.cell? ⟨gb204, 0, none⟩ = some (.slice A0_0 l0_0.length c0_0) := (blk_cell BK204.out 0).trans rfl; have hcz61_1 : w60.cell? ⟨gb204, 1, none⟩ = some (.string a0_1) := (blk_cell BK204.out 1).trans rfl; have hcz61_2 : w60.cell? ⟨gb204, 2, none⟩ = some (.string a0_2) := (blk_cell BK204.out 2).trans rfl; have hcz61_3 : w60.cell? ⟨gb204, 3, none⟩ = some (.int .i64 a0_3) := (blk_cell BK204.out 3).trans rfl; have hcz61_4 : w60.cell? ⟨gb204, 4, none⟩ = some (.int .i64 a0_4) := (blk_cell BK204.out 4).trans rfl; have hcz61_5 : w60.cell? ⟨gb204, 5, none⟩ = some (.int .i64 a0_5) := (blk_cell BK204.out 5).trans rfl; have hcz61_6 : w60.cell? ⟨gb204, 6, none⟩ = some (.int .i64 a0_6) := (blk_cell BK204.out 6).trans rfl; have hfz61_0 := blk_frozen BK204.out 0; have hfz61_1 := blk_frozen BK204.out 1; have hfz61_2 := blk_frozen BK204.out 2; have hfz61_3 := blk_frozen BK204.out 3; have hfz61_4 := blk_frozen BK204.out 4; have hfz61_5 := blk_frozen BK204.out 5; have hfz61_6 := blk_frozen BK204.out 6; obtain ⟨Ao62, co62, eo62⟩ := Kd.R_slice HO213.out; subst eo62) | ((with_reducible refine gate_callee (f := 17) rfl ?_); refine goesL_ (some 27) rfl rfl Try.func17 (by kernel_rfl) rfl #[.agg #[.slice A0_0 l0_0.length c0_0, .string a0_1, .string a0_2, .int .i64 a0_3, .int .i64 a0_4, .int .i64 a0_5, .int .i64 a0_6], .slice Ao62 t211.length co62] rfl (by (try simp only [List.map_toArray, List.map_cons, List.map_nil]); first | done | rfl | (simp only [List.length_drop, List.length_take]; rfl)) ?_; (with_reducible refine (filter_Apply.calls _ _ l0_0 a0_1 a0_2 a0_3 a0_4 a0_5 a0_6 _ _ t211 t214 _ ?side1 ?side2 ?side3 ?side4 A20.out).mono ?_); (case side1 => repeat (first | exact (Kd.C_below HR0_0.out HB.out) | (with_reducible refine Kd.C_alloc ?_ _) | (with_reducible refine Kd.C_drewN ?_ _) | (with_reducible refine Kd.C_drew ?_))); (case side2 => exact HC0_0.out); (case side3 => repeat (first | exact (Kd.R_reads' HO213.out).2.2 | (with_reducible refine Kd.C_alloc ?_ _) | (with_reducible refine Kd.C_drewN ?_ _) | (with_reducible refine Kd.C_drew ?_))); (case side4 => exact (Kd.R_reads' HO213.out).2.1); rintro e w63 ⟨v215, rfl, ho0, hb⟩; refine ⟨_, rfl, ?_⟩; have n0_ := Aside0.mk (Kd.R_elder' (by (with_reducible repeat (first | apply Kd.R_alloc | apply Kd.R_drewN | apply Kd.R_drew)); exact HO210.out) (Kd.R_base ho0) hb); have n1_ := Aside0.mk (Kd.R_elder' (by (with_reducible repeat (first | apply Kd.R_alloc | apply Kd.R_drewN | apply Kd.R_drew)); exact HO213.out) (Kd.R_base ho0) hb); have n2_ := Aside0.mk (Kd.R_lower (Kd.R_new' (Kd.R_new' ho0 (Kd.R_lt (by (with_reducible repeat (first | apply Kd.R_alloc | apply Kd.R_drewN | apply Kd.R_drew)); exact HO210.out))) (Kd.R_lt (by (with_reducible repeat (first | apply Kd.R_alloc | apply Kd.R_drewN | apply Kd.R_drew)); exact HO213.out))) (below_size (by repeat (first | (with_reducible first | exact HB.out | apply below_alloc | apply pw_below_drewN | apply below_drew1 | refine below_set ?_ GE204.out) | exact HB.out)))); have n3_ := Aside0.mk (blk_below (g := gb204) (o := .cells #[.slice A0_0 l0_0.length c0_0, .string a0_1, .string a0_2, .int .i64 a0_3, .int .i64 a0_4, .int .i64 a0_5, .int .i64 a0_6] 24 (0, 0)) (by (with_reducible repeat (first | refine blk_drewN ?_ _ | refine blk_drew ?_ | refine blk_alloc ?_ _)); exact BK204.out) hb); have n4_ := Aside0.mk (below_step (by repeat (first | (with_reducible first | exact HB.out | apply below_alloc | apply pw_below_drewN | apply below_drew1 | refine below_set ?_ GE204.out) | exact HB.out)) hb); clear HO210; clear HO213; clear BK204; clear HB; have HO210 := n0_; have HO213 := n1_; have HO216 := n2_; have BK204 := n3_; have HB := n4_; clear n0_ n1_ n2_ n3_ n4_; (try clear hb); (try clear hb2); (try clear hk); (try clear hi); (try clear ho0); obtain ⟨Ao64, co64, eo64⟩ := Kd.R_slice HO216.out; subst eo64) | ((with_reducible refine gate_callee (f := 16) rfl ?_); refine goesL_ (some 29) rfl rfl Try.func16 (by kernel_rfl) rfl #[.slice Ao64 t214.length co64, .slice Ao62 t211.length co62] rfl (by (try simp only [List.map_toArray, List.map_cons, List.map_nil]); first | done | rfl | (simp only [List.length_drop, List.length_take]; rfl)) ?_; (with_reducible refine (joistref00_SameCells.calls kj4 _ _ t214 _ _ t211 false _ ?side1 ?side2 ?side3 ?side4 A21.out).mono ?_); (case side1 => repeat (first | exact (Kd.R_reads' HO216.out).2.2 | (with_reducible refine Kd.C_alloc ?_ _) | (with_reducible refine Kd.C_drewN ?_ _) | (with_reducible refine Kd.C_drew ?_))); (case side2 => exact (Kd.R_reads' HO216.out).2.1); (case side3 => repeat (first | exact (Kd.R_reads' HO213.out).2.2 | (with_reducible refine Kd.C_alloc ?_ _) | (with_reducible refine Kd.C_drewN ?_ _) | (with_reducible refine Kd.C_drew ?_))); (case side4 => exact (Kd.R_reads' HO213.out).2.1); rintro e w' ⟨rfl, ⟨nd, rfl⟩⟩; refine ⟨_, rfl, ?_⟩))
            go_ret
            exact ⟨by first | rfl | (simp [errW_none, errW_some] <;> rfl) | (simp [*, errW_none, errW_some] <;> rfl), by repeat (first | (with_reducible first | exact HB.out | apply below_alloc | apply pw_below_drewN | apply below_drew1 | refine below_set ?_ GE204.out) | exact HB.out)⟩
  · replace c4 := Bool.eq_false_iff.mpr c4
    subst c4
    have H1 : (some false) = some r := by rw [if_neg (show ¬ (false = true) by decide)] at H; exact H
    clear H
    have H := H1
    clear H1
    obtain rfl := Option.some.inj H
    go_enter Try.func6, Try.ntmps6
    go_wp2_with (first | ((with_reducible refine gate_dst (N := 2) rfl ?_); refine box_event ?hg (N := 2) ?hd (cs := #[.slice A0_0 l0_0.length c0_0, .string a0_1, .string a0_2, .int .i64 a0_3, .int .i64 a0_4, .int .i64 a0_5, .int .i64 a0_6]) (t := 24) ?hr ?_; (case hd => rfl); (case hg => rfl); (case hr => first | (go_simp; done) | (go_simp; rfl)); intro gb204 hg w65 hbox hb; have n0_ := Aside0.mk (below_step (by repeat (first | (with_reducible first | exact HB.out | apply below_alloc | apply pw_below_drewN | apply below_drew1) | exact HB.out)) hb); have n1_ := Aside0.mk (hbox); have n2_ := Aside0.mk ((by rw [hg]; exact (below_size (by repeat (first | (with_reducible first | exact HB.out | apply below_alloc | apply pw_below_drewN | apply below_drew1) | exact HB.out))) : w.heap.size ≤ gb204)); have n3_ := Aside0.mk ((by rw [hg]; exact (below_size (by repeat (first | (with_reducible first | exact HB.out | apply below_alloc | apply pw_below_drewN | apply below_drew1) | exact HB.out))) : w.heap.size ≤ gb204)); clear HB; have HB := n0_; have BK204 := n1_; have GW204 := n2_; have GE204 := n3_; clear n0_ n1_ n2_ n3_; clear hb hbox hg) | ((with_reducible refine gate_callee (f := 8) rfl ?_); refine goesL_ (some 10) rfl rfl Try.func8 (by kernel_rfl) rfl #[] rfl (by (try simp only [List.map_toArray, List.map_cons, List.map_nil]); first | done | rfl | (simp only [List.length_drop, List.length_take]; rfl)) ?_; (with_reducible refine (joistlaw13_alive.calls  false _ A3.out).mono ?_); rintro e w66 ⟨rfl, hb⟩; refine ⟨_, rfl, ?_⟩; have n0_ := Aside0.mk (blk_below (g := gb204) (o := .cells #[.slice A0_0 l0_0.length c0_0, .string a0_1, .string a0_2, .int .i64 a0_3, .int .i64 a0_4, .int .i64 a0_5, .int .i64 a0_6] 24 (0, 0)) (by (with_reducible repeat (first | refine blk_drewN ?_ _ | refine blk_drew ?_ | refine blk_alloc ?_ _)); exact BK204.out) hb); have n1_ := Aside0.mk (below_step (by repeat (first | (with_reducible first | exact HB.out | apply below_alloc | apply pw_below_drewN | apply below_drew1 | refine below_set ?_ GE204.out) | exact HB.out)) hb); clear BK204; clear HB; have BK204 := n0_; have HB := n1_; clear n0_ n1_; (try clear hb); (try clear hb2); (try clear hk); (try clear hi)))
    go_ret
    exact ⟨by first | rfl | (simp [errW_none, errW_some] <;> rfl) | (simp [*, errW_none, errW_some] <;> rfl), by repeat (first | (with_reducible first | exact HB.out | apply below_alloc | apply pw_below_drewN | apply below_drew1 | refine below_set ?_ GE204.out) | exact HB.out)⟩

end Go.Proofs.Ythbgjaboghnpjaa.Q
