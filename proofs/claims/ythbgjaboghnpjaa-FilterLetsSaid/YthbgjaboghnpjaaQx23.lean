import Derived.Test.YthbgjaboghnpjaaQx0
import Derived.Test.YthbgjaboghnpjaaQx22
-- Written by a program of this session, out of Lean's print of the loaded program (a patched copy of the kit's print).
namespace Go.Proofs.Ythbgjaboghnpjaa.Q
open Go.RowKit Go.Proofs.YthbgjaboghnpjaaW.PrintWords Go.Proofs.YthbgjaboghnpjaaW.PrintLast Go.Proofs.YthbgjaboghnpjaaW.PrintMore
attribute [local go_sem] max2_int min2_int max_two min_two max_three min_three max_four min_four   -- for this text's walks alone
set_option linter.unusedVariables false
set_option linter.unusedSimpArgs false

/-! ### joistref13_Right: function 13 -/
def joistref13_Right.l0 : Nat → Int → List ByteArray → ByteArray → ByteArray → Int → Int → Int → Int → Option (Bool)
  | 0, _, _, _, _, _, _, _, _ => none
  | k + 1, x3, x126000, x126001, x126002, x126003, x126004, x126005, x126006 => if x3 < (x126000.length : Int) then (if 0 ≤ x3 then ((joistref03_Name.f k (rdOf ByteArray.empty x126000 x3)).bind fun t127 => (if t127 = true then (joistref13_Right.l0 k (wrap64 (x3 + 1)) x126000 x126001 x126002 x126003 x126004 x126005 x126006) else (some false))) else (none)) else (if (x126000.length : Int) ≤ 6 then (if (x126001.size : Int) ≤ 12 then (if (x126002.size : Int) ≤ 12 then (if x126003 ≥ 0 then (if x126003 ≤ 1099511627776 then (if x126004 ≥ 0 then (if x126004 ≤ 1099511627776 then (if x126005 ≥ 0 then (if x126005 ≤ 8 then (if x126006 ≥ 0 then (some (decide (x126006 ≤ 1000))) else (some false)) else (some false)) else (some false)) else (some false)) else (some false)) else (some false)) else (some false)) else (some false)) else (some false)) else (some false))
def joistref13_Right.f (k : Nat) (l0_0 : List ByteArray) (a0_1 : ByteArray) (a0_2 : ByteArray) (a0_3 : Int) (a0_4 : Int) (a0_5 : Int) (a0_6 : Int) : Option (Bool) := joistref13_Right.l0 k 0 l0_0 a0_1 a0_2 a0_3 a0_4 a0_5 a0_6
theorem joistref13_Right.mono_l : ∀ k, (∀ y0 y1 y2 y3 y4 y5 y6 y7, LeO (joistref13_Right.l0 k y0 y1 y2 y3 y4 y5 y6 y7) (joistref13_Right.l0 (k + 1) y0 y1 y2 y3 y4 y5 y6 y7))
  | 0 => fun _ _ _ _ _ _ _ _ r h => by simp [joistref13_Right.l0] at h
  | k + 1 => by
    have ih0 := joistref13_Right.mono_l k
    · intro y0 y1 y2 y3 y4 y5 y6 y7
      unfold joistref13_Right.l0
      repeat' first
      | (with_reducible exact ih0 _ _ _ _ _ _ _ _)
      | (with_reducible exact joistref03_Name.mono _ _)
      | (with_reducible exact LeO.refl _)
      | (with_reducible exact LeO.none _)
      | (with_reducible refine LeO.ite ?_ ?_)
      | (with_reducible refine LeO.bind ?_ (fun _ => ?_))
      | exact ih0 _ _ _ _ _ _ _ _
      | exact joistref03_Name.mono _ _
      | exact LeO.none _
      | refine LeO.ite ?_ ?_
      | refine LeO.bind ?_ (fun _ => ?_)
theorem joistref13_Right.mono : ∀ a0 a1 a2 a3 a4 a5 a6 k, LeO (joistref13_Right.f k a0 a1 a2 a3 a4 a5 a6) (joistref13_Right.f (k + 1) a0 a1 a2 a3 a4 a5 a6) := by
  intro a0 a1 a2 a3 a4 a5 a6 k
  have ih0 := joistref13_Right.mono_l k
  unfold joistref13_Right.f
  repeat' first
      | (with_reducible exact ih0 _ _ _ _ _ _ _ _)
      | (with_reducible exact joistref03_Name.mono _ _)
      | (with_reducible exact LeO.refl _)
      | (with_reducible exact LeO.none _)
      | (with_reducible refine LeO.ite ?_ ?_)
      | (with_reducible refine LeO.bind ?_ (fun _ => ?_))
      | exact ih0 _ _ _ _ _ _ _ _
      | exact joistref03_Name.mono _ _
      | exact LeO.none _
      | refine LeO.ite ?_ ?_
      | refine LeO.bind ?_ (fun _ => ?_)
set_option maxHeartbeats 8000000 in
set_option maxRecDepth 100000 in
theorem joistref13_Right.calls (k : Nat) (A0_0 : Option Addr) (c0_0 : Nat) (l0_0 : List ByteArray) (a0_1 : ByteArray) (a0_2 : ByteArray) (a0_3 : Int) (a0_4 : Int) (a0_5 : Int) (a0_6 : Int) (r : Bool) (w : World) (hr0_0 : Kd.C Kd.string w A0_0 l0_0.length l0_0) (hc0_0 : l0_0.length ≤ c0_0) (h : joistref13_Right.f k l0_0 a0_1 a0_2 a0_3 a0_4 a0_5 a0_6 = some r) :
    Calls Try.prog 13 #[.agg #[.slice A0_0 l0_0.length c0_0, .string a0_1, .string a0_2, .int .i64 a0_3, .int .i64 a0_4, .int .i64 a0_5, .int .i64 a0_6]] w fun e w' => e = .returned (.bool r) ∧ Below w.heap.size w w' := by
  have hu24 := Try.underlying24
  have HR0_0 := Aside0.mk hr0_0
  have HC0_0 := Aside0.mk hc0_0
  clear hr0_0 hc0_0
  have HB := Aside0.mk (Below.refl w.heap.size w)
  have H : (joistref13_Right.l0 k 0 l0_0 a0_1 a0_2 a0_3 a0_4 a0_5 a0_6) = some r := h
  clear h
  have H' := Aside0.mk H
  clear H
  go_enter Try.func13, Try.ntmps13
  go_wp2_with (first | ((with_reducible refine gate_dst (N := 1) rfl ?_); (try (refine gate_guard (by rfl) ?_; dsimp only)); refine box_event ?hg (N := 1) ?hd (cs := #[.slice A0_0 l0_0.length c0_0, .string a0_1, .string a0_2, .int .i64 a0_3, .int .i64 a0_4, .int .i64 a0_5, .int .i64 a0_6]) (t := 24) ?hr ?_; (case hd => rfl); (case hg => rfl); (case hr => first | (go_simp; done) | (go_simp; rfl)); intro gb125 hg w2 hbox hb; have n0_ := Aside0.mk (below_step (by repeat (first | (with_reducible first | exact HB.out | apply below_alloc | apply pw_below_drewN | apply below_drew1) | exact HB.out)) hb); have n1_ := Aside0.mk (hbox); have n2_ := Aside0.mk ((by rw [hg]; exact (below_size (by repeat (first | (with_reducible first | exact HB.out | apply below_alloc | apply pw_below_drewN | apply below_drew1) | exact HB.out))) : w.heap.size ≤ gb125)); have n3_ := Aside0.mk ((by rw [hg]; exact (below_size (by repeat (first | (with_reducible first | exact HB.out | apply below_alloc | apply pw_below_drewN | apply below_drew1) | exact HB.out))) : w.heap.size ≤ gb125)); clear HB; have HB := n0_; have BK125 := n1_; have GW125 := n2_; have GE125 := n3_; clear n0_ n1_ n2_ n3_; clear hb hbox hg))
  go_loopg [3] k (fun kq v3 w' => ∃ (x3_1 : Int), v3 = .int .i64 x3_1 ∧ Aside0 (joistref13_Right.l0 kq x3_1 l0_0 a0_1 a0_2 a0_3 a0_4 a0_5 a0_6 = some r) ∧ Aside0 (kq ≤ k) ∧ Aside0 (w'.heap[gb125]? = some (.cells #[(.slice A0_0 l0_0.length c0_0), .string a0_1, .string a0_2, .int .i64 a0_3, .int .i64 a0_4, .int .i64 a0_5, .int .i64 a0_6] 24 (0, 0))) ∧ Aside0 (Below w.heap.size w w'))
  case atStart => exact ⟨(0), (by first | rfl | (simp; done) | (simp [*]; done)), H', ⟨Nat.le_refl _⟩, ⟨by (with_reducible repeat (first | refine blk_drewN ?_ _ | refine blk_drew ?_ | refine blk_alloc ?_ _)); exact BK125.out⟩, ⟨by repeat (first | (with_reducible first | exact HB.out | apply below_alloc | apply pw_below_drewN | apply below_drew1 | refine below_set ?_ GE125.out) | exact HB.out)⟩⟩
  case round =>
    clear H'
    try clear c1
    try clear p2
    obtain ⟨x3_1, rfl, HA, HK1, BK125, HB⟩ := hrel
    cases gk with
    | zero => exact absurd HA.out (by simp [joistref13_Right.l0])
    | succ k1 =>
      have H := HA.out
      clear HA
      simp only [joistref13_Right.l0] at H
      by_cases c3 : x3_1 < (l0_0.length : Int)
      · rw [if_pos c3] at H
        have c3b0 : decide (x3_1 < (l0_0.length : Int)) = true := decide_eq_true c3
        clear c3
        by_cases c4 : 0 ≤ x3_1
        · rw [if_pos c4] at H
          have c4b0 : decide (0 ≤ x3_1) = true := decide_eq_true c4
          clear c4
          replace H := Option.bind_eq_some_iff.mp H
          obtain ⟨t127, A50, H⟩ := H
          replace H : (if t127 = true then (joistref13_Right.l0 k1 (wrap64 (x3_1 + 1)) l0_0 a0_1 a0_2 a0_3 a0_4 a0_5 a0_6) else (some false)) = some r := H
          have A5 := Aside0.mk A50
          clear A50
          by_cases c6 : t127 = true
          · subst c6
            have H1 : (joistref13_Right.l0 k1 (wrap64 (x3_1 + 1)) l0_0 a0_1 a0_2 a0_3 a0_4 a0_5 a0_6) = some r := by rw [if_pos rfl] at H; exact H
            clear H
            have H := H1
            clear H1
            have H' := Aside0.mk H
            clear H
            have hcz7_0 : wr.cell? ⟨gb125, 0, none⟩ = some (.slice A0_0 l0_0.length c0_0) := (blk_cell BK125.out 0).trans rfl
            have hcz7_1 : wr.cell? ⟨gb125, 1, none⟩ = some (.string a0_1) := (blk_cell BK125.out 1).trans rfl
            have hcz7_2 : wr.cell? ⟨gb125, 2, none⟩ = some (.string a0_2) := (blk_cell BK125.out 2).trans rfl
            have hcz7_3 : wr.cell? ⟨gb125, 3, none⟩ = some (.int .i64 a0_3) := (blk_cell BK125.out 3).trans rfl
            have hcz7_4 : wr.cell? ⟨gb125, 4, none⟩ = some (.int .i64 a0_4) := (blk_cell BK125.out 4).trans rfl
            have hcz7_5 : wr.cell? ⟨gb125, 5, none⟩ = some (.int .i64 a0_5) := (blk_cell BK125.out 5).trans rfl
            have hcz7_6 : wr.cell? ⟨gb125, 6, none⟩ = some (.int .i64 a0_6) := (blk_cell BK125.out 6).trans rfl
            have hfz7_0 := blk_frozen BK125.out 0
            have hfz7_1 := blk_frozen BK125.out 1
            have hfz7_2 := blk_frozen BK125.out 2
            have hfz7_3 := blk_frozen BK125.out 3
            have hfz7_4 := blk_frozen BK125.out 4
            have hfz7_5 := blk_frozen BK125.out 5
            have hfz7_6 := blk_frozen BK125.out 6
            have p126 : 0 ≤ (x3_1 : Int) := of_decide_eq_true (by first | (with_reducible assumption) | assumption)
            have q126 : x3_1 < (l0_0.length : Int) := of_decide_eq_true (by first | (with_reducible assumption) | assumption)
            obtain ⟨ad126, e126, hx126_0⟩ := Kd.at_string HR0_0.out x3_1 p126 q126
            cases e126
            replace hx126_0 := (HB.out.cell (World.block_lt_of_cell? w _ hx126_0)).trans hx126_0
            replace p126 := eq_true p126
            replace q126 := eq_true q126
            go_wp2_with (first | ((with_reducible refine gate_callee (f := 34) rfl ?_); refine goesL_ (some 16) rfl rfl Try.func34 (by kernel_rfl) rfl #[.string (rdOf ByteArray.empty l0_0 x3_1)] rfl (by (try simp only [List.map_toArray, List.map_cons, List.map_nil]); first | done | rfl | (simp only [List.length_drop, List.length_take]; rfl)) ?_; (with_reducible refine (joistref03_Name.calls k1 (rdOf ByteArray.empty l0_0 x3_1) true _ A5.out).mono ?_); rintro e w' ⟨rfl, ⟨nd, rfl⟩⟩; refine ⟨_, rfl, ?_⟩))
            go_roundg k1
            case measure => have := HK1.out; omega
            case rel => exact ⟨(wrap64 (x3_1 + 1)), (by first | rfl | (simp; done) | (simp [*]; done)), H', ⟨by have := HK1.out; omega⟩, ⟨by (with_reducible repeat (first | refine blk_drewN ?_ _ | refine blk_drew ?_ | refine blk_alloc ?_ _)); exact BK125.out⟩, ⟨by repeat (first | (with_reducible first | exact HB.out | apply below_alloc | apply pw_below_drewN | apply below_drew1 | refine below_set ?_ GE125.out) | exact HB.out)⟩⟩
          · replace c6 := Bool.eq_false_iff.mpr c6
            subst c6
            have H1 : (some false) = some r := by rw [if_neg (show ¬ (false = true) by decide)] at H; exact H
            clear H
            have H := H1
            clear H1
            obtain rfl := Option.some.inj H
            have hcz8_0 : wr.cell? ⟨gb125, 0, none⟩ = some (.slice A0_0 l0_0.length c0_0) := (blk_cell BK125.out 0).trans rfl
            have hcz8_1 : wr.cell? ⟨gb125, 1, none⟩ = some (.string a0_1) := (blk_cell BK125.out 1).trans rfl
            have hcz8_2 : wr.cell? ⟨gb125, 2, none⟩ = some (.string a0_2) := (blk_cell BK125.out 2).trans rfl
            have hcz8_3 : wr.cell? ⟨gb125, 3, none⟩ = some (.int .i64 a0_3) := (blk_cell BK125.out 3).trans rfl
            have hcz8_4 : wr.cell? ⟨gb125, 4, none⟩ = some (.int .i64 a0_4) := (blk_cell BK125.out 4).trans rfl
            have hcz8_5 : wr.cell? ⟨gb125, 5, none⟩ = some (.int .i64 a0_5) := (blk_cell BK125.out 5).trans rfl
            have hcz8_6 : wr.cell? ⟨gb125, 6, none⟩ = some (.int .i64 a0_6) := (blk_cell BK125.out 6).trans rfl
            have hfz8_0 := blk_frozen BK125.out 0
            have hfz8_1 := blk_frozen BK125.out 1
            have hfz8_2 := blk_frozen BK125.out 2
            have hfz8_3 := blk_frozen BK125.out 3
            have hfz8_4 := blk_frozen BK125.out 4
            have hfz8_5 := blk_frozen BK125.out 5
            have hfz8_6 := blk_frozen BK125.out 6
            have p126 : 0 ≤ (x3_1 : Int) := of_decide_eq_true (by first | (with_reducible assumption) | assumption)
            have q126 : x3_1 < (l0_0.length : Int) := of_decide_eq_true (by first | (with_reducible assumption) | assumption)
            obtain ⟨ad126, e126, hx126_0⟩ := Kd.at_string HR0_0.out x3_1 p126 q126
            cases e126
            replace hx126_0 := (HB.out.cell (World.block_lt_of_cell? w _ hx126_0)).trans hx126_0
            replace p126 := eq_true p126
            replace q126 := eq_true q126
            go_wp2_with (first | ((with_reducible refine gate_callee (f := 34) rfl ?_); refine goesL_ (some 16) rfl rfl Try.func34 (by kernel_rfl) rfl #[.string (rdOf ByteArray.empty l0_0 x3_1)] rfl (by (try simp only [List.map_toArray, List.map_cons, List.map_nil]); first | done | rfl | (simp only [List.length_drop, List.length_take]; rfl)) ?_; (with_reducible refine (joistref03_Name.calls k1 (rdOf ByteArray.empty l0_0 x3_1) false _ A5.out).mono ?_); rintro e w' ⟨rfl, ⟨nd, rfl⟩⟩; refine ⟨_, rfl, ?_⟩))
            go_ret
            exact ⟨by first | rfl | (simp [errW_none, errW_some] <;> rfl) | (simp [*, errW_none, errW_some] <;> rfl), by repeat (first | (with_reducible first | exact HB.out | apply below_alloc | apply pw_below_drewN | apply below_drew1 | refine below_set ?_ GE125.out) | exact HB.out)⟩
        · rw [if_neg c4] at H
          exact absurd H (by simp)
      · rw [if_neg c3] at H
        have c3b0 : decide (x3_1 < (l0_0.length : Int)) = false := decide_eq_false c3
        clear c3
        by_cases c9 : (l0_0.length : Int) ≤ 6
        · rw [if_pos c9] at H
          have c9b0 : decide ((l0_0.length : Int) ≤ 6) = true := decide_eq_true c9
          have c9b1 : decide (l0_0.length ≤ 6) = true := decide_eq_true (by omega)
          clear c9
          by_cases c10 : (a0_1.size : Int) ≤ 12
          · rw [if_pos c10] at H
            have c10b0 : decide ((a0_1.size : Int) ≤ 12) = true := decide_eq_true c10
            have c10b1 : decide (a0_1.size ≤ 12) = true := decide_eq_true (by omega)
            clear c10
            by_cases c11 : (a0_2.size : Int) ≤ 12
            · rw [if_pos c11] at H
              have c11b0 : decide ((a0_2.size : Int) ≤ 12) = true := decide_eq_true c11
              have c11b1 : decide (a0_2.size ≤ 12) = true := decide_eq_true (by omega)
              clear c11
              by_cases c12 : a0_3 ≥ 0
              · rw [if_pos c12] at H
                have c12b0 : decide (0 ≤ a0_3) = true := decide_eq_true c12
                clear c12
                by_cases c13 : a0_3 ≤ 1099511627776
                · rw [if_pos c13] at H
                  have c13b0 : decide (a0_3 ≤ 1099511627776) = true := decide_eq_true c13
                  clear c13
                  by_cases c14 : a0_4 ≥ 0
                  · rw [if_pos c14] at H
                    have c14b0 : decide (0 ≤ a0_4) = true := decide_eq_true c14
                    clear c14
                    by_cases c15 : a0_4 ≤ 1099511627776
                    · rw [if_pos c15] at H
                      have c15b0 : decide (a0_4 ≤ 1099511627776) = true := decide_eq_true c15
                      clear c15
                      by_cases c16 : a0_5 ≥ 0
                      · rw [if_pos c16] at H
                        have c16b0 : decide (0 ≤ a0_5) = true := decide_eq_true c16
                        clear c16
                        by_cases c17 : a0_5 ≤ 8
                        · rw [if_pos c17] at H
                          have c17b0 : decide (a0_5 ≤ 8) = true := decide_eq_true c17
                          clear c17
                          by_cases c18 : a0_6 ≥ 0
                          · rw [if_pos c18] at H
                            have c18b0 : decide (0 ≤ a0_6) = true := decide_eq_true c18
                            clear c18
                            obtain rfl := Option.some.inj H
                            have hcz19_0 : wr.cell? ⟨gb125, 0, none⟩ = some (.slice A0_0 l0_0.length c0_0) := (blk_cell BK125.out 0).trans rfl
                            have hcz19_1 : wr.cell? ⟨gb125, 1, none⟩ = some (.string a0_1) := (blk_cell BK125.out 1).trans rfl
                            have hcz19_2 : wr.cell? ⟨gb125, 2, none⟩ = some (.string a0_2) := (blk_cell BK125.out 2).trans rfl
                            have hcz19_3 : wr.cell? ⟨gb125, 3, none⟩ = some (.int .i64 a0_3) := (blk_cell BK125.out 3).trans rfl
                            have hcz19_4 : wr.cell? ⟨gb125, 4, none⟩ = some (.int .i64 a0_4) := (blk_cell BK125.out 4).trans rfl
                            have hcz19_5 : wr.cell? ⟨gb125, 5, none⟩ = some (.int .i64 a0_5) := (blk_cell BK125.out 5).trans rfl
                            have hcz19_6 : wr.cell? ⟨gb125, 6, none⟩ = some (.int .i64 a0_6) := (blk_cell BK125.out 6).trans rfl
                            have hfz19_0 := blk_frozen BK125.out 0
                            have hfz19_1 := blk_frozen BK125.out 1
                            have hfz19_2 := blk_frozen BK125.out 2
                            have hfz19_3 := blk_frozen BK125.out 3
                            have hfz19_4 := blk_frozen BK125.out 4
                            have hfz19_5 := blk_frozen BK125.out 5
                            have hfz19_6 := blk_frozen BK125.out 6
                            go_wp2
                            go_ret
                            exact ⟨by first | rfl | (simp [errW_none, errW_some] <;> rfl) | (simp [*, errW_none, errW_some] <;> rfl), by repeat (first | (with_reducible first | exact HB.out | apply below_alloc | apply pw_below_drewN | apply below_drew1 | refine below_set ?_ GE125.out) | exact HB.out)⟩
                          · rw [if_neg c18] at H
                            have c18b0 : decide (0 ≤ a0_6) = false := decide_eq_false c18
                            clear c18
                            obtain rfl := Option.some.inj H
                            have hcz20_0 : wr.cell? ⟨gb125, 0, none⟩ = some (.slice A0_0 l0_0.length c0_0) := (blk_cell BK125.out 0).trans rfl
                            have hcz20_1 : wr.cell? ⟨gb125, 1, none⟩ = some (.string a0_1) := (blk_cell BK125.out 1).trans rfl
                            have hcz20_2 : wr.cell? ⟨gb125, 2, none⟩ = some (.string a0_2) := (blk_cell BK125.out 2).trans rfl
                            have hcz20_3 : wr.cell? ⟨gb125, 3, none⟩ = some (.int .i64 a0_3) := (blk_cell BK125.out 3).trans rfl
                            have hcz20_4 : wr.cell? ⟨gb125, 4, none⟩ = some (.int .i64 a0_4) := (blk_cell BK125.out 4).trans rfl
                            have hcz20_5 : wr.cell? ⟨gb125, 5, none⟩ = some (.int .i64 a0_5) := (blk_cell BK125.out 5).trans rfl
                            have hcz20_6 : wr.cell? ⟨gb125, 6, none⟩ = some (.int .i64 a0_6) := (blk_cell BK125.out 6).trans rfl
                            have hfz20_0 := blk_frozen BK125.out 0
                            have hfz20_1 := blk_frozen BK125.out 1
                            have hfz20_2 := blk_frozen BK125.out 2
                            have hfz20_3 := blk_frozen BK125.out 3
                            have hfz20_4 := blk_frozen BK125.out 4
                            have hfz20_5 := blk_frozen BK125.out 5
                            have hfz20_6 := blk_frozen BK125.out 6
                            go_wp2
                            go_ret
                            exact ⟨by first | rfl | (simp [errW_none, errW_some] <;> rfl) | (simp [*, errW_none, errW_some] <;> rfl), by repeat (first | (with_reducible first | exact HB.out | apply below_alloc | apply pw_below_drewN | apply below_drew1 | refine below_set ?_ GE125.out) | exact HB.out)⟩
                        · rw [if_neg c17] at H
                          have c17b0 : decide (a0_5 ≤ 8) = false := decide_eq_false c17
                          clear c17
                          obtain rfl := Option.some.inj H
                          have hcz21_0 : wr.cell? ⟨gb125, 0, none⟩ = some (.slice A0_0 l0_0.length c0_0) := (blk_cell BK125.out 0).trans rfl
                          have hcz21_1 : wr.cell? ⟨gb125, 1, none⟩ = some (.string a0_1) := (blk_cell BK125.out 1).trans rfl
                          have hcz21_2 : wr.cell? ⟨gb125, 2, none⟩ = some (.string a0_2) := (blk_cell BK125.out 2).trans rfl
                          have hcz21_3 : wr.cell? ⟨gb125, 3, none⟩ = some (.int .i64 a0_3) := (blk_cell BK125.out 3).trans rfl
                          have hcz21_4 : wr.cell? ⟨gb125, 4, none⟩ = some (.int .i64 a0_4) := (blk_cell BK125.out 4).trans rfl
                          have hcz21_5 : wr.cell? ⟨gb125, 5, none⟩ = some (.int .i64 a0_5) := (blk_cell BK125.out 5).trans rfl
                          have hcz21_6 : wr.cell? ⟨gb125, 6, none⟩ = some (.int .i64 a0_6) := (blk_cell BK125.out 6).trans rfl
                          have hfz21_0 := blk_frozen BK125.out 0
                          have hfz21_1 := blk_frozen BK125.out 1
                          have hfz21_2 := blk_frozen BK125.out 2
                          have hfz21_3 := blk_frozen BK125.out 3
                          have hfz21_4 := blk_frozen BK125.out 4
                          have hfz21_5 := blk_frozen BK125.out 5
                          have hfz21_6 := blk_frozen BK125.out 6
                          go_wp2
                          go_ret
                          exact ⟨by first | rfl | (simp [errW_none, errW_some] <;> rfl) | (simp [*, errW_none, errW_some] <;> rfl), by repeat (first | (with_reducible first | exact HB.out | apply below_alloc | apply pw_below_drewN | apply below_drew1 | refine below_set ?_ GE125.out) | exact HB.out)⟩
                      · rw [if_neg c16] at H
                        have c16b0 : decide (0 ≤ a0_5) = false := decide_eq_false c16
                        clear c16
                        obtain rfl := Option.some.inj H
                        have hcz22_0 : wr.cell? ⟨gb125, 0, none⟩ = some (.slice A0_0 l0_0.length c0_0) := (blk_cell BK125.out 0).trans rfl
                        have hcz22_1 : wr.cell? ⟨gb125, 1, none⟩ = some (.string a0_1) := (blk_cell BK125.out 1).trans rfl
                        have hcz22_2 : wr.cell? ⟨gb125, 2, none⟩ = some (.string a0_2) := (blk_cell BK125.out 2).trans rfl
                        have hcz22_3 : wr.cell? ⟨gb125, 3, none⟩ = some (.int .i64 a0_3) := (blk_cell BK125.out 3).trans rfl
                        have hcz22_4 : wr.cell? ⟨gb125, 4, none⟩ = some (.int .i64 a0_4) := (blk_cell BK125.out 4).trans rfl
                        have hcz22_5 : wr.cell? ⟨gb125, 5, none⟩ = some (.int .i64 a0_5) := (blk_cell BK125.out 5).trans rfl
                        have hcz22_6 : wr.cell? ⟨gb125, 6, none⟩ = some (.int .i64 a0_6) := (blk_cell BK125.out 6).trans rfl
                        have hfz22_0 := blk_frozen BK125.out 0
                        have hfz22_1 := blk_frozen BK125.out 1
                        have hfz22_2 := blk_frozen BK125.out 2
                        have hfz22_3 := blk_frozen BK125.out 3
                        have hfz22_4 := blk_frozen BK125.out 4
                        have hfz22_5 := blk_frozen BK125.out 5
                        have hfz22_6 := blk_frozen BK125.out 6
                        go_wp2
                        go_ret
                        exact ⟨by first | rfl | (simp [errW_none, errW_some] <;> rfl) | (simp [*, errW_none, errW_some] <;> rfl), by repeat (first | (with_reducible first | exact HB.out | apply below_alloc | apply pw_below_drewN | apply below_drew1 | refine below_set ?_ GE125.out) | exact HB.out)⟩
                    · rw [if_neg c15] at H
                      have c15b0 : decide (a0_4 ≤ 1099511627776) = false := decide_eq_false c15
                      clear c15
                      obtain rfl := Option.some.inj H
                      have hcz23_0 : wr.cell? ⟨gb125, 0, none⟩ = some (.slice A0_0 l0_0.length c0_0) := (blk_cell BK125.out 0).trans rfl
                      have hcz23_1 : wr.cell? ⟨gb125, 1, none⟩ = some (.string a0_1) := (blk_cell BK125.out 1).trans rfl
                      have hcz23_2 : wr.cell? ⟨gb125, 2, none⟩ = some (.string a0_2) := (blk_cell BK125.out 2).trans rfl
                      have hcz23_3 : wr.cell? ⟨gb125, 3, none⟩ = some (.int .i64 a0_3) := (blk_cell BK125.out 3).trans rfl
                      have hcz23_4 : wr.cell? ⟨gb125, 4, none⟩ = some (.int .i64 a0_4) := (blk_cell BK125.out 4).trans rfl
                      have hcz23_5 : wr.cell? ⟨gb125, 5, none⟩ = some (.int .i64 a0_5) := (blk_cell BK125.out 5).trans rfl
                      have hcz23_6 : wr.cell? ⟨gb125, 6, none⟩ = some (.int .i64 a0_6) := (blk_cell BK125.out 6).trans rfl
                      have hfz23_0 := blk_frozen BK125.out 0
                      have hfz23_1 := blk_frozen BK125.out 1
                      have hfz23_2 := blk_frozen BK125.out 2
                      have hfz23_3 := blk_frozen BK125.out 3
                      have hfz23_4 := blk_frozen BK125.out 4
                      have hfz23_5 := blk_frozen BK125.out 5
                      have hfz23_6 := blk_frozen BK125.out 6
                      go_wp2
                      go_ret
                      exact ⟨by first | rfl | (simp [errW_none, errW_some] <;> rfl) | (simp [*, errW_none, errW_some] <;> rfl), by repeat (first | (with_reducible first | exact HB.out | apply below_alloc | apply pw_below_drewN | apply below_drew1 | refine below_set ?_ GE125.out) | exact HB.out)⟩
                  · rw [if_neg c14] at H
                    have c14b0 : decide (0 ≤ a0_4) = false := decide_eq_false c14
                    clear c14
                    obtain rfl := Option.some.inj H
                    have hcz24_0 : wr.cell? ⟨gb125, 0, none⟩ = some (.slice A0_0 l0_0.length c0_0) := (blk_cell BK125.out 0).trans rfl
                    have hcz24_1 : wr.cell? ⟨gb125, 1, none⟩ = some (.string a0_1) := (blk_cell BK125.out 1).trans rfl
                    have hcz24_2 : wr.cell? ⟨gb125, 2, none⟩ = some (.string a0_2) := (blk_cell BK125.out 2).trans rfl
                    have hcz24_3 : wr.cell? ⟨gb125, 3, none⟩ = some (.int .i64 a0_3) := (blk_cell BK125.out 3).trans rfl
                    have hcz24_4 : wr.cell? ⟨gb125, 4, none⟩ = some (.int .i64 a0_4) := (blk_cell BK125.out 4).trans rfl
                    have hcz24_5 : wr.cell? ⟨gb125, 5, none⟩ = some (.int .i64 a0_5) := (blk_cell BK125.out 5).trans rfl
                    have hcz24_6 : wr.cell? ⟨gb125, 6, none⟩ = some (.int .i64 a0_6) := (blk_cell BK125.out 6).trans rfl
                    have hfz24_0 := blk_frozen BK125.out 0
                    have hfz24_1 := blk_frozen BK125.out 1
                    have hfz24_2 := blk_frozen BK125.out 2
                    have hfz24_3 := blk_frozen BK125.out 3
                    have hfz24_4 := blk_frozen BK125.out 4
                    have hfz24_5 := blk_frozen BK125.out 5
                    have hfz24_6 := blk_frozen BK125.out 6
                    go_wp2
                    go_ret
                    exact ⟨by first | rfl | (simp [errW_none, errW_some] <;> rfl) | (simp [*, errW_none, errW_some] <;> rfl), by repeat (first | (with_reducible first | exact HB.out | apply below_alloc | apply pw_below_drewN | apply below_drew1 | refine below_set ?_ GE125.out) | exact HB.out)⟩
                · rw [if_neg c13] at H
                  have c13b0 : decide (a0_3 ≤ 1099511627776) = false := decide_eq_false c13
                  clear c13
                  obtain rfl := Option.some.inj H
                  have hcz25_0 : wr.cell? ⟨gb125, 0, none⟩ = some (.slice A0_0 l0_0.length c0_0) := (blk_cell BK125.out 0).trans rfl
                  have hcz25_1 : wr.cell? ⟨gb125, 1, none⟩ = some (.string a0_1) := (blk_cell BK125.out 1).trans rfl
                  have hcz25_2 : wr.cell? ⟨gb125, 2, none⟩ = some (.string a0_2) := (blk_cell BK125.out 2).trans rfl
                  have hcz25_3 : wr.cell? ⟨gb125, 3, none⟩ = some (.int .i64 a0_3) := (blk_cell BK125.out 3).trans rfl
                  have hcz25_4 : wr.cell? ⟨gb125, 4, none⟩ = some (.int .i64 a0_4) := (blk_cell BK125.out 4).trans rfl
                  have hcz25_5 : wr.cell? ⟨gb125, 5, none⟩ = some (.int .i64 a0_5) := (blk_cell BK125.out 5).trans rfl
                  have hcz25_6 : wr.cell? ⟨gb125, 6, none⟩ = some (.int .i64 a0_6) := (blk_cell BK125.out 6).trans rfl
                  have hfz25_0 := blk_frozen BK125.out 0
                  have hfz25_1 := blk_frozen BK125.out 1
                  have hfz25_2 := blk_frozen BK125.out 2
                  have hfz25_3 := blk_frozen BK125.out 3
                  have hfz25_4 := blk_frozen BK125.out 4
                  have hfz25_5 := blk_frozen BK125.out 5
                  have hfz25_6 := blk_frozen BK125.out 6
                  go_wp2
                  go_ret
                  exact ⟨by first | rfl | (simp [errW_none, errW_some] <;> rfl) | (simp [*, errW_none, errW_some] <;> rfl), by repeat (first | (with_reducible first | exact HB.out | apply below_alloc | apply pw_below_drewN | apply below_drew1 | refine below_set ?_ GE125.out) | exact HB.out)⟩
              · rw [if_neg c12] at H
                have c12b0 : decide (0 ≤ a0_3) = false := decide_eq_false c12
                clear c12
                obtain rfl := Option.some.inj H
                have hcz26_0 : wr.cell? ⟨gb125, 0, none⟩ = some (.slice A0_0 l0_0.length c0_0) := (blk_cell BK125.out 0).trans rfl
                have hcz26_1 : wr.cell? ⟨gb125, 1, none⟩ = some (.string a0_1) := (blk_cell BK125.out 1).trans rfl
                have hcz26_2 : wr.cell? ⟨gb125, 2, none⟩ = some (.string a0_2) := (blk_cell BK125.out 2).trans rfl
                have hcz26_3 : wr.cell? ⟨gb125, 3, none⟩ = some (.int .i64 a0_3) := (blk_cell BK125.out 3).trans rfl
                have hcz26_4 : wr.cell? ⟨gb125, 4, none⟩ = some (.int .i64 a0_4) := (blk_cell BK125.out 4).trans rfl
                have hcz26_5 : wr.cell? ⟨gb125, 5, none⟩ = some (.int .i64 a0_5) := (blk_cell BK125.out 5).trans rfl
                have hcz26_6 : wr.cell? ⟨gb125, 6, none⟩ = some (.int .i64 a0_6) := (blk_cell BK125.out 6).trans rfl
                have hfz26_0 := blk_frozen BK125.out 0
                have hfz26_1 := blk_frozen BK125.out 1
                have hfz26_2 := blk_frozen BK125.out 2
                have hfz26_3 := blk_frozen BK125.out 3
                have hfz26_4 := blk_frozen BK125.out 4
                have hfz26_5 := blk_frozen BK125.out 5
                have hfz26_6 := blk_frozen BK125.out 6
                go_wp2
                go_ret
                exact ⟨by first | rfl | (simp [errW_none, errW_some] <;> rfl) | (simp [*, errW_none, errW_some] <;> rfl), by repeat (first | (with_reducible first | exact HB.out | apply below_alloc | apply pw_below_drewN | apply below_drew1 | refine below_set ?_ GE125.out) | exact HB.out)⟩
            · rw [if_neg c11] at H
              have c11b0 : decide ((a0_2.size : Int) ≤ 12) = false := decide_eq_false c11
              have c11b1 : decide (a0_2.size ≤ 12) = false := decide_eq_false (by omega)
              clear c11
              obtain rfl := Option.some.inj H
              have hcz27_0 : wr.cell? ⟨gb125, 0, none⟩ = some (.slice A0_0 l0_0.length c0_0) := (blk_cell BK125.out 0).trans rfl
              have hcz27_1 : wr.cell? ⟨gb125, 1, none⟩ = some (.string a0_1) := (blk_cell BK125.out 1).trans rfl
              have hcz27_2 : wr.cell? ⟨gb125, 2, none⟩ = some (.string a0_2) := (blk_cell BK125.out 2).trans rfl
              have hcz27_3 : wr.cell? ⟨gb125, 3, none⟩ = some (.int .i64 a0_3) := (blk_cell BK125.out 3).trans rfl
              have hcz27_4 : wr.cell? ⟨gb125, 4, none⟩ = some (.int .i64 a0_4) := (blk_cell BK125.out 4).trans rfl
              have hcz27_5 : wr.cell? ⟨gb125, 5, none⟩ = some (.int .i64 a0_5) := (blk_cell BK125.out 5).trans rfl
              have hcz27_6 : wr.cell? ⟨gb125, 6, none⟩ = some (.int .i64 a0_6) := (blk_cell BK125.out 6).trans rfl
              have hfz27_0 := blk_frozen BK125.out 0
              have hfz27_1 := blk_frozen BK125.out 1
              have hfz27_2 := blk_frozen BK125.out 2
              have hfz27_3 := blk_frozen BK125.out 3
              have hfz27_4 := blk_frozen BK125.out 4
              have hfz27_5 := blk_frozen BK125.out 5
              have hfz27_6 := blk_frozen BK125.out 6
              go_wp2
              go_ret
              exact ⟨by first | rfl | (simp [errW_none, errW_some] <;> rfl) | (simp [*, errW_none, errW_some] <;> rfl), by repeat (first | (with_reducible first | exact HB.out | apply below_alloc | apply pw_below_drewN | apply below_drew1 | refine below_set ?_ GE125.out) | exact HB.out)⟩
          · rw [if_neg c10] at H
            have c10b0 : decide ((a0_1.size : Int) ≤ 12) = false := decide_eq_false c10
            have c10b1 : decide (a0_1.size ≤ 12) = false := decide_eq_false (by omega)
            clear c10
            obtain rfl := Option.some.inj H
            have hcz28_0 : wr.cell? ⟨gb125, 0, none⟩ = some (.slice A0_0 l0_0.length c0_0) := (blk_cell BK125.out 0).trans rfl
            have hcz28_1 : wr.cell? ⟨gb125, 1, none⟩ = some (.string a0_1) := (blk_cell BK125.out 1).trans rfl
            have hcz28_2 : wr.cell? ⟨gb125, 2, none⟩ = some (.string a0_2) := (blk_cell BK125.out 2).trans rfl
            have hcz28_3 : wr.cell? ⟨gb125, 3, none⟩ = some (.int .i64 a0_3) := (blk_cell BK125.out 3).trans rfl
            have hcz28_4 : wr.cell? ⟨gb125, 4, none⟩ = some (.int .i64 a0_4) := (blk_cell BK125.out 4).trans rfl
            have hcz28_5 : wr.cell? ⟨gb125, 5, none⟩ = some (.int .i64 a0_5) := (blk_cell BK125.out 5).trans rfl
            have hcz28_6 : wr.cell? ⟨gb125, 6, none⟩ = some (.int .i64 a0_6) := (blk_cell BK125.out 6).trans rfl
            have hfz28_0 := blk_frozen BK125.out 0
            have hfz28_1 := blk_frozen BK125.out 1
            have hfz28_2 := blk_frozen BK125.out 2
            have hfz28_3 := blk_frozen BK125.out 3
            have hfz28_4 := blk_frozen BK125.out 4
            have hfz28_5 := blk_frozen BK125.out 5
            have hfz28_6 := blk_frozen BK125.out 6
            go_wp2
            go_ret
            exact ⟨by first | rfl | (simp [errW_none, errW_some] <;> rfl) | (simp [*, errW_none, errW_some] <;> rfl), by repeat (first | (with_reducible first | exact HB.out | apply below_alloc | apply pw_below_drewN | apply below_drew1 | refine below_set ?_ GE125.out) | exact HB.out)⟩
        · rw [if_neg c9] at H
          have c9b0 : decide ((l0_0.length : Int) ≤ 6) = false := decide_eq_false c9
          have c9b1 : decide (l0_0.length ≤ 6) = false := decide_eq_false (by omega)
          clear c9
          obtain rfl := Option.some.inj H
          have hcz29_0 : wr.cell? ⟨gb125, 0, none⟩ = some (.slice A0_0 l0_0.length c0_0) := (blk_cell BK125.out 0).trans rfl
          have hcz29_1 : wr.cell? ⟨gb125, 1, none⟩ = some (.string a0_1) := (blk_cell BK125.out 1).trans rfl
          have hcz29_2 : wr.cell? ⟨gb125, 2, none⟩ = some (.string a0_2) := (blk_cell BK125.out 2).trans rfl
          have hcz29_3 : wr.cell? ⟨gb125, 3, none⟩ = some (.int .i64 a0_3) := (blk_cell BK125.out 3).trans rfl
          have hcz29_4 : wr.cell? ⟨gb125, 4, none⟩ = some (.int .i64 a0_4) := (blk_cell BK125.out 4).trans rfl
          have hcz29_5 : wr.cell? ⟨gb125, 5, none⟩ = some (.int .i64 a0_5) := (blk_cell BK125.out 5).trans rfl
          have hcz29_6 : wr.cell? ⟨gb125, 6, none⟩ = some (.int .i64 a0_6) := (blk_cell BK125.out 6).trans rfl
          have hfz29_0 := blk_frozen BK125.out 0
          have hfz29_1 := blk_frozen BK125.out 1
          have hfz29_2 := blk_frozen BK125.out 2
          have hfz29_3 := blk_frozen BK125.out 3
          have hfz29_4 := blk_frozen BK125.out 4
          have hfz29_5 := blk_frozen BK125.out 5
          have hfz29_6 := blk_frozen BK125.out 6
          go_wp2
          go_ret
          exact ⟨by first | rfl | (simp [errW_none, errW_some] <;> rfl) | (simp [*, errW_none, errW_some] <;> rfl), by repeat (first | (with_reducible first | exact HB.out | apply below_alloc | apply pw_below_drewN | apply below_drew1 | refine below_set ?_ GE125.out) | exact HB.out)⟩

end Go.Proofs.Ythbgjaboghnpjaa.Q
