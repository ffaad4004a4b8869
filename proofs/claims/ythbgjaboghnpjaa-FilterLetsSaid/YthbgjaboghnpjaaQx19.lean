import Derived.Test.YthbgjaboghnpjaaQx0
-- Written by a program of this session, out of Lean's print of the loaded program (a patched copy of the kit's print).
namespace Go.Proofs.Ythbgjaboghnpjaa.Q
open Go.RowKit Go.Proofs.YthbgjaboghnpjaaW.PrintWords Go.Proofs.YthbgjaboghnpjaaW.PrintLast Go.Proofs.YthbgjaboghnpjaaW.PrintMore
attribute [local go_sem] max2_int min2_int max_two min_two max_three min_three max_four min_four   -- for this text's walks alone
set_option linter.unusedVariables false
set_option linter.unusedSimpArgs false

/-! ### joistref00_LongRequest: function 27 -/
mutual
def joistref00_LongRequest.j0 : Nat → Bool → Int → ByteArray → ByteArray → List (S65) → ByteArray → ByteArray → Int → Int → ByteArray → List ByteArray → ByteArray → ByteArray → Int → Int → Int → Int → Option (Bool)
  | 0, _, _, _, _, _, _, _, _, _, _, _, _, _, _, _, _, _ => none
  | k + 1, x60, x114000, x114001, x114002, x114003, x114004, x114005, x114006, x114007, x114008, x114009, x114010, x114011, x114012, x114013, x114014, x114015 => if x60 = true then (some true) else (joistref00_LongRequest.l0 k 0 x114000 x114001 x114002 x114003 x114004 x114005 x114006 x114007 x114008 x114009 x114010 x114011 x114012 x114013 x114014 x114015)
def joistref00_LongRequest.l0 : Nat → Int → Int → ByteArray → ByteArray → List (S65) → ByteArray → ByteArray → Int → Int → ByteArray → List ByteArray → ByteArray → ByteArray → Int → Int → Int → Int → Option (Bool)
  | 0, _, _, _, _, _, _, _, _, _, _, _, _, _, _, _, _, _ => none
  | k + 1, x3, x114000, x114001, x114002, x114003, x114004, x114005, x114006, x114007, x114008, x114009, x114010, x114011, x114012, x114013, x114014, x114015 => if x3 < (x114009.length : Int) then (if 0 ≤ x3 then (if ((rdOf ByteArray.empty x114009 x3).size : Int) > 100 then (some true) else (joistref00_LongRequest.l0 k (wrap64 (x3 + 1)) x114000 x114001 x114002 x114003 x114004 x114005 x114006 x114007 x114008 x114009 x114010 x114011 x114012 x114013 x114014 x114015)) else (none)) else (joistref00_LongRequest.l1 k 0 x114000 x114001 x114002 x114003 x114004 x114005 x114006 x114007 x114008 x114009 x114010 x114011 x114012 x114013 x114014 x114015)
def joistref00_LongRequest.l1 : Nat → Int → Int → ByteArray → ByteArray → List (S65) → ByteArray → ByteArray → Int → Int → ByteArray → List ByteArray → ByteArray → ByteArray → Int → Int → Int → Int → Option (Bool)
  | 0, _, _, _, _, _, _, _, _, _, _, _, _, _, _, _, _, _ => none
  | k + 1, x4, x114000, x114001, x114002, x114003, x114004, x114005, x114006, x114007, x114008, x114009, x114010, x114011, x114012, x114013, x114014, x114015 => if x4 < (x114003.length : Int) then (if 0 ≤ x4 then (if (((rd_T65 x114003 x4).f1).size : Int) > 100 then (some true) else (if (((rd_T65 x114003 x4).f2).size : Int) > 100 then (some true) else (if (((rd_T65 x114003 x4).f3.f2).size : Int) > 100 then (some true) else (joistref00_LongRequest.l1 k (wrap64 (x4 + 1)) x114000 x114001 x114002 x114003 x114004 x114005 x114006 x114007 x114008 x114009 x114010 x114011 x114012 x114013 x114014 x114015)))) else (none)) else (some false)
end
def joistref00_LongRequest.f (k : Nat) (a0_0 : Int) (a0_1 : ByteArray) (a0_2 : ByteArray) (l0_3 : List (S65)) (a0_4 : ByteArray) (a0_5 : ByteArray) (a0_6 : Int) (a0_7 : Int) (a0_8 : ByteArray) (l0_9 : List ByteArray) (a0_10 : ByteArray) (a0_11 : ByteArray) (a0_12 : Int) (a0_13 : Int) (a0_14 : Int) (a0_15 : Int) : Option (Bool) := if (a0_1.size : Int) > 100 then (joistref00_LongRequest.j0 k true a0_0 a0_1 a0_2 l0_3 a0_4 a0_5 a0_6 a0_7 a0_8 l0_9 a0_10 a0_11 a0_12 a0_13 a0_14 a0_15) else (if (a0_2.size : Int) > 100 then (joistref00_LongRequest.j0 k true a0_0 a0_1 a0_2 l0_3 a0_4 a0_5 a0_6 a0_7 a0_8 l0_9 a0_10 a0_11 a0_12 a0_13 a0_14 a0_15) else (if (a0_4.size : Int) > 100 then (joistref00_LongRequest.j0 k true a0_0 a0_1 a0_2 l0_3 a0_4 a0_5 a0_6 a0_7 a0_8 l0_9 a0_10 a0_11 a0_12 a0_13 a0_14 a0_15) else (if (a0_5.size : Int) > 100 then (joistref00_LongRequest.j0 k true a0_0 a0_1 a0_2 l0_3 a0_4 a0_5 a0_6 a0_7 a0_8 l0_9 a0_10 a0_11 a0_12 a0_13 a0_14 a0_15) else (if (a0_8.size : Int) > 100 then (joistref00_LongRequest.j0 k true a0_0 a0_1 a0_2 l0_3 a0_4 a0_5 a0_6 a0_7 a0_8 l0_9 a0_10 a0_11 a0_12 a0_13 a0_14 a0_15) else (if (l0_3.length : Int) > 20 then (joistref00_LongRequest.j0 k true a0_0 a0_1 a0_2 l0_3 a0_4 a0_5 a0_6 a0_7 a0_8 l0_9 a0_10 a0_11 a0_12 a0_13 a0_14 a0_15) else (if (l0_9.length : Int) > 20 then (joistref00_LongRequest.j0 k true a0_0 a0_1 a0_2 l0_3 a0_4 a0_5 a0_6 a0_7 a0_8 l0_9 a0_10 a0_11 a0_12 a0_13 a0_14 a0_15) else (if (a0_10.size : Int) > 100 then (joistref00_LongRequest.j0 k true a0_0 a0_1 a0_2 l0_3 a0_4 a0_5 a0_6 a0_7 a0_8 l0_9 a0_10 a0_11 a0_12 a0_13 a0_14 a0_15) else (joistref00_LongRequest.j0 k (decide ((a0_11.size : Int) > 100)) a0_0 a0_1 a0_2 l0_3 a0_4 a0_5 a0_6 a0_7 a0_8 l0_9 a0_10 a0_11 a0_12 a0_13 a0_14 a0_15))))))))
theorem joistref00_LongRequest.mono_l : ∀ k, (∀ y0 y1 y2 y3 y4 y5 y6 y7 y8 y9 y10 y11 y12 y13 y14 y15 y16, LeO (joistref00_LongRequest.j0 k y0 y1 y2 y3 y4 y5 y6 y7 y8 y9 y10 y11 y12 y13 y14 y15 y16) (joistref00_LongRequest.j0 (k + 1) y0 y1 y2 y3 y4 y5 y6 y7 y8 y9 y10 y11 y12 y13 y14 y15 y16)) ∧ (∀ y0 y1 y2 y3 y4 y5 y6 y7 y8 y9 y10 y11 y12 y13 y14 y15 y16, LeO (joistref00_LongRequest.l0 k y0 y1 y2 y3 y4 y5 y6 y7 y8 y9 y10 y11 y12 y13 y14 y15 y16) (joistref00_LongRequest.l0 (k + 1) y0 y1 y2 y3 y4 y5 y6 y7 y8 y9 y10 y11 y12 y13 y14 y15 y16)) ∧ (∀ y0 y1 y2 y3 y4 y5 y6 y7 y8 y9 y10 y11 y12 y13 y14 y15 y16, LeO (joistref00_LongRequest.l1 k y0 y1 y2 y3 y4 y5 y6 y7 y8 y9 y10 y11 y12 y13 y14 y15 y16) (joistref00_LongRequest.l1 (k + 1) y0 y1 y2 y3 y4 y5 y6 y7 y8 y9 y10 y11 y12 y13 y14 y15 y16))
  | 0 => ⟨fun _ _ _ _ _ _ _ _ _ _ _ _ _ _ _ _ _ r h => by simp [joistref00_LongRequest.j0] at h, fun _ _ _ _ _ _ _ _ _ _ _ _ _ _ _ _ _ r h => by simp [joistref00_LongRequest.l0] at h, fun _ _ _ _ _ _ _ _ _ _ _ _ _ _ _ _ _ r h => by simp [joistref00_LongRequest.l1] at h⟩
  | k + 1 => by
    obtain ⟨ih0, ih1, ih2⟩ := joistref00_LongRequest.mono_l k
    refine ⟨?_, ?_, ?_⟩
    · intro y0 y1 y2 y3 y4 y5 y6 y7 y8 y9 y10 y11 y12 y13 y14 y15 y16
      unfold joistref00_LongRequest.j0
      repeat' first
      | (with_reducible exact ih0 _ _ _ _ _ _ _ _ _ _ _ _ _ _ _ _ _)
      | (with_reducible exact ih1 _ _ _ _ _ _ _ _ _ _ _ _ _ _ _ _ _)
      | (with_reducible exact ih2 _ _ _ _ _ _ _ _ _ _ _ _ _ _ _ _ _)
      | (with_reducible exact LeO.refl _)
      | (with_reducible exact LeO.none _)
      | (with_reducible refine LeO.ite ?_ ?_)
      | (with_reducible refine LeO.bind ?_ (fun _ => ?_))
      | exact ih0 _ _ _ _ _ _ _ _ _ _ _ _ _ _ _ _ _
      | exact ih1 _ _ _ _ _ _ _ _ _ _ _ _ _ _ _ _ _
      | exact ih2 _ _ _ _ _ _ _ _ _ _ _ _ _ _ _ _ _
      | exact LeO.none _
      | refine LeO.ite ?_ ?_
      | refine LeO.bind ?_ (fun _ => ?_)
    · intro y0 y1 y2 y3 y4 y5 y6 y7 y8 y9 y10 y11 y12 y13 y14 y15 y16
      unfold joistref00_LongRequest.l0
      repeat' first
      | (with_reducible exact ih0 _ _ _ _ _ _ _ _ _ _ _ _ _ _ _ _ _)
      | (with_reducible exact ih1 _ _ _ _ _ _ _ _ _ _ _ _ _ _ _ _ _)
      | (with_reducible exact ih2 _ _ _ _ _ _ _ _ _ _ _ _ _ _ _ _ _)
      | (with_reducible exact LeO.refl _)
      | (with_reducible exact LeO.none _)
      | (with_reducible refine LeO.ite ?_ ?_)
      | (with_reducible refine LeO.bind ?_ (fun _ => ?_))
      | exact ih0 _ _ _ _ _ _ _ _ _ _ _ _ _ _ _ _ _
      | exact ih1 _ _ _ _ _ _ _ _ _ _ _ _ _ _ _ _ _
      | exact ih2 _ _ _ _ _ _ _ _ _ _ _ _ _ _ _ _ _
      | exact LeO.none _
      | refine LeO.ite ?_ ?_
      | refine LeO.bind ?_ (fun _ => ?_)
    · intro y0 y1 y2 y3 y4 y5 y6 y7 y8 y9 y10 y11 y12 y13 y14 y15 y16
      unfold joistref00_LongRequest.l1
      repeat' first
      | (with_reducible exact ih0 _ _ _ _ _ _ _ _ _ _ _ _ _ _ _ _ _)
      | (with_reducible exact ih1 _ _ _ _ _ _ _ _ _ _ _ _ _ _ _ _ _)
      | (with_reducible exact ih2 _ _ _ _ _ _ _ _ _ _ _ _ _ _ _ _ _)
      | (with_reducible exact LeO.refl _)
      | (with_reducible exact LeO.none _)
      | (with_reducible refine LeO.ite ?_ ?_)
      | (with_reducible refine LeO.bind ?_ (fun _ => ?_))
      | exact ih0 _ _ _ _ _ _ _ _ _ _ _ _ _ _ _ _ _
      | exact ih1 _ _ _ _ _ _ _ _ _ _ _ _ _ _ _ _ _
      | exact ih2 _ _ _ _ _ _ _ _ _ _ _ _ _ _ _ _ _
      | exact LeO.none _
      | refine LeO.ite ?_ ?_
      | refine LeO.bind ?_ (fun _ => ?_)
theorem joistref00_LongRequest.mono : ∀ a0 a1 a2 a3 a4 a5 a6 a7 a8 a9 a10 a11 a12 a13 a14 a15 k, LeO (joistref00_LongRequest.f k a0 a1 a2 a3 a4 a5 a6 a7 a8 a9 a10 a11 a12 a13 a14 a15) (joistref00_LongRequest.f (k + 1) a0 a1 a2 a3 a4 a5 a6 a7 a8 a9 a10 a11 a12 a13 a14 a15) := by
  intro a0 a1 a2 a3 a4 a5 a6 a7 a8 a9 a10 a11 a12 a13 a14 a15 k
  obtain ⟨ih0, ih1, ih2⟩ := joistref00_LongRequest.mono_l k
  unfold joistref00_LongRequest.f
  repeat' first
      | (with_reducible exact ih0 _ _ _ _ _ _ _ _ _ _ _ _ _ _ _ _ _)
      | (with_reducible exact ih1 _ _ _ _ _ _ _ _ _ _ _ _ _ _ _ _ _)
      | (with_reducible exact ih2 _ _ _ _ _ _ _ _ _ _ _ _ _ _ _ _ _)
      | (with_reducible exact LeO.refl _)
      | (with_reducible exact LeO.none _)
      | (with_reducible refine LeO.ite ?_ ?_)
      | (with_reducible refine LeO.bind ?_ (fun _ => ?_))
      | exact ih0 _ _ _ _ _ _ _ _ _ _ _ _ _ _ _ _ _
      | exact ih1 _ _ _ _ _ _ _ _ _ _ _ _ _ _ _ _ _
      | exact ih2 _ _ _ _ _ _ _ _ _ _ _ _ _ _ _ _ _
      | exact LeO.none _
      | refine LeO.ite ?_ ?_
      | refine LeO.bind ?_ (fun _ => ?_)
set_option maxHeartbeats 8000000 in
set_option maxRecDepth 100000 in
theorem joistref00_LongRequest.calls (k : Nat) (a0_0 : Int) (a0_1 : ByteArray) (a0_2 : ByteArray) (A0_3 : Option Addr) (c0_3 : Nat) (l0_3 : List (S65)) (a0_4 : ByteArray) (a0_5 : ByteArray) (a0_6 : Int) (a0_7 : Int) (a0_8 : ByteArray) (A0_9 : Option Addr) (c0_9 : Nat) (l0_9 : List ByteArray) (a0_10 : ByteArray) (a0_11 : ByteArray) (a0_12 : Int) (a0_13 : Int) (a0_14 : Int) (a0_15 : Int) (r : Bool) (w : World) (hr0_3 : Kd.C k65 w A0_3 l0_3.length l0_3) (hc0_3 : l0_3.length ≤ c0_3) (hr0_9 : Kd.C Kd.string w A0_9 l0_9.length l0_9) (hc0_9 : l0_9.length ≤ c0_9) (h : joistref00_LongRequest.f k a0_0 a0_1 a0_2 l0_3 a0_4 a0_5 a0_6 a0_7 a0_8 l0_9 a0_10 a0_11 a0_12 a0_13 a0_14 a0_15 = some r) :
    Calls Try.prog 27 #[.agg #[.int .i64 a0_0, .string a0_1, .string a0_2, .slice A0_3 l0_3.length c0_3, .string a0_4, .string a0_5, .int .i64 a0_6, .int .i64 a0_7, .string a0_8, .slice A0_9 l0_9.length c0_9, .string a0_10, .string a0_11, .int .i64 a0_12, .int .i64 a0_13, .int .i64 a0_14, .int .i64 a0_15]] w fun e w' => e = .returned (.bool r) ∧ Below w.heap.size w w' := by
  have hu51 := Try.underlying51
  have HR0_3 := Aside0.mk hr0_3
  have HC0_3 := Aside0.mk hc0_3
  clear hr0_3 hc0_3
  have HR0_9 := Aside0.mk hr0_9
  have HC0_9 := Aside0.mk hc0_9
  clear hr0_9 hc0_9
  have HB := Aside0.mk (Below.refl w.heap.size w)
  have H : (if (a0_1.size : Int) > 100 then (joistref00_LongRequest.j0 k true a0_0 a0_1 a0_2 l0_3 a0_4 a0_5 a0_6 a0_7 a0_8 l0_9 a0_10 a0_11 a0_12 a0_13 a0_14 a0_15) else (if (a0_2.size : Int) > 100 then (joistref00_LongRequest.j0 k true a0_0 a0_1 a0_2 l0_3 a0_4 a0_5 a0_6 a0_7 a0_8 l0_9 a0_10 a0_11 a0_12 a0_13 a0_14 a0_15) else (if (a0_4.size : Int) > 100 then (joistref00_LongRequest.j0 k true a0_0 a0_1 a0_2 l0_3 a0_4 a0_5 a0_6 a0_7 a0_8 l0_9 a0_10 a0_11 a0_12 a0_13 a0_14 a0_15) else (if (a0_5.size : Int) > 100 then (joistref00_LongRequest.j0 k true a0_0 a0_1 a0_2 l0_3 a0_4 a0_5 a0_6 a0_7 a0_8 l0_9 a0_10 a0_11 a0_12 a0_13 a0_14 a0_15) else (if (a0_8.size : Int) > 100 then (joistref00_LongRequest.j0 k true a0_0 a0_1 a0_2 l0_3 a0_4 a0_5 a0_6 a0_7 a0_8 l0_9 a0_10 a0_11 a0_12 a0_13 a0_14 a0_15) else (if (l0_3.length : Int) > 20 then (joistref00_LongRequest.j0 k true a0_0 a0_1 a0_2 l0_3 a0_4 a0_5 a0_6 a0_7 a0_8 l0_9 a0_10 a0_11 a0_12 a0_13 a0_14 a0_15) else (if (l0_9.length : Int) > 20 then (joistref00_LongRequest.j0 k true a0_0 a0_1 a0_2 l0_3 a0_4 a0_5 a0_6 a0_7 a0_8 l0_9 a0_10 a0_11 a0_12 a0_13 a0_14 a0_15) else (if (a0_10.size : Int) > 100 then (joistref00_LongRequest.j0 k true a0_0 a0_1 a0_2 l0_3 a0_4 a0_5 a0_6 a0_7 a0_8 l0_9 a0_10 a0_11 a0_12 a0_13 a0_14 a0_15) else (joistref00_LongRequest.j0 k (decide ((a0_11.size : Int) > 100)) a0_0 a0_1 a0_2 l0_3 a0_4 a0_5 a0_6 a0_7 a0_8 l0_9 a0_10 a0_11 a0_12 a0_13 a0_14 a0_15))))))))) = some r := h
  clear h
  have HC2 := Aside0.mk H
  clear H
  go_enter Try.func27, Try.ntmps27
  go_upto_region 1 with (first | ((with_reducible refine gate_dst (N := 1) rfl ?_); (try (refine gate_guard (by rfl) ?_; dsimp only)); refine box_event ?hg (N := 1) ?hd (cs := #[.int .i64 a0_0, .string a0_1, .string a0_2, .slice A0_3 l0_3.length c0_3, .string a0_4, .string a0_5, .int .i64 a0_6, .int .i64 a0_7, .string a0_8, .slice A0_9 l0_9.length c0_9, .string a0_10, .string a0_11, .int .i64 a0_12, .int .i64 a0_13, .int .i64 a0_14, .int .i64 a0_15]) (t := 51) ?hr ?_; (case hd => rfl); (case hg => rfl); (case hr => first | (go_simp; done) | (go_simp; rfl)); intro gb113 hg w3 hbox hb; have n0_ := Aside0.mk (below_step (by repeat (first | (with_reducible first | exact HB.out | apply below_alloc | apply pw_below_drewN | apply below_drew1) | exact HB.out)) hb); have n1_ := Aside0.mk (hbox); have n2_ := Aside0.mk ((by rw [hg]; exact (below_size (by repeat (first | (with_reducible first | exact HB.out | apply below_alloc | apply pw_below_drewN | apply below_drew1) | exact HB.out))) : w.heap.size ≤ gb113)); have n3_ := Aside0.mk ((by rw [hg]; exact (below_size (by repeat (first | (with_reducible first | exact HB.out | apply below_alloc | apply pw_below_drewN | apply below_drew1) | exact HB.out))) : w.heap.size ≤ gb113)); clear HB; have HB := n0_; have BK113 := n1_; have GW113 := n2_; have GE113 := n3_; clear n0_ n1_ n2_ n3_; clear hb hbox hg))
  (try simp only [Act.put, List.setIfInBounds_toArray, List.set_cons_zero, List.set_cons_succ])
  go_cut [60] (fun v60 wc => ∃ (kq : Nat) (x60_1 : Bool), v60 = .bool x60_1 ∧ Aside0 (joistref00_LongRequest.j0 kq x60_1 a0_0 a0_1 a0_2 l0_3 a0_4 a0_5 a0_6 a0_7 a0_8 l0_9 a0_10 a0_11 a0_12 a0_13 a0_14 a0_15 = some r) ∧ Aside0 (kq ≤ k) ∧ Aside0 (wc.heap[gb113]? = some (.cells #[.int .i64 a0_0, .string a0_1, .string a0_2, (.slice A0_3 l0_3.length c0_3), .string a0_4, .string a0_5, .int .i64 a0_6, .int .i64 a0_7, .string a0_8, (.slice A0_9 l0_9.length c0_9), .string a0_10, .string a0_11, .int .i64 a0_12, .int .i64 a0_13, .int .i64 a0_14, .int .i64 a0_15] 51 (0, 0))) ∧ Aside0 (Below w.heap.size w wc))
  case first =>
    have H := HC2.out
    clear HC2
    by_cases c4 : (a0_1.size : Int) > 100
    · rw [if_pos c4] at H
      have c4b0 : decide (100 < (a0_1.size : Int)) = true := decide_eq_true c4
      have c4b1 : decide (100 < a0_1.size) = true := decide_eq_true (by omega)
      clear c4
      (first | rw [c4b0] | (simp only [i64_w, i32_w]; rw [c4b0]) | skip)
      have H' := Aside0.mk H
      clear H
      have hcz5_0 : w3.cell? ⟨gb113, 0, none⟩ = some (.int .i64 a0_0) := (blk_cell BK113.out 0).trans rfl
      have hcz5_1 : w3.cell? ⟨gb113, 1, none⟩ = some (.string a0_1) := (blk_cell BK113.out 1).trans rfl
      have hcz5_2 : w3.cell? ⟨gb113, 2, none⟩ = some (.string a0_2) := (blk_cell BK113.out 2).trans rfl
      have hcz5_3 : w3.cell? ⟨gb113, 3, none⟩ = some (.slice A0_3 l0_3.length c0_3) := (blk_cell BK113.out 3).trans rfl
      have hcz5_4 : w3.cell? ⟨gb113, 4, none⟩ = some (.string a0_4) := (blk_cell BK113.out 4).trans rfl
      have hcz5_5 : w3.cell? ⟨gb113, 5, none⟩ = some (.string a0_5) := (blk_cell BK113.out 5).trans rfl
      have hcz5_6 : w3.cell? ⟨gb113, 6, none⟩ = some (.int .i64 a0_6) := (blk_cell BK113.out 6).trans rfl
      have hcz5_7 : w3.cell? ⟨gb113, 7, none⟩ = some (.int .i64 a0_7) := (blk_cell BK113.out 7).trans rfl
      have hcz5_8 : w3.cell? ⟨gb113, 8, none⟩ = some (.string a0_8) := (blk_cell BK113.out 8).trans rfl
      have hcz5_9 : w3.cell? ⟨gb113, 9, none⟩ = some (.slice A0_9 l0_9.length c0_9) := (blk_cell BK113.out 9).trans rfl
      have hcz5_10 : w3.cell? ⟨gb113, 10, none⟩ = some (.string a0_10) := (blk_cell BK113.out 10).trans rfl
      have hcz5_11 : w3.cell? ⟨gb113, 11, none⟩ = some (.string a0_11) := (blk_cell BK113.out 11).trans rfl
      have hcz5_12 : w3.cell? ⟨gb113, 12, none⟩ = some (.int .i64 a0_12) := (blk_cell BK113.out 12).trans rfl
      have hcz5_13 : w3.cell? ⟨gb113, 13, none⟩ = some (.int .i64 a0_13) := (blk_cell BK113.out 13).trans rfl
      have hcz5_14 : w3.cell? ⟨gb113, 14, none⟩ = some (.int .i64 a0_14) := (blk_cell BK113.out 14).trans rfl
      have hcz5_15 : w3.cell? ⟨gb113, 15, none⟩ = some (.int .i64 a0_15) := (blk_cell BK113.out 15).trans rfl
      have hfz5_0 := blk_frozen BK113.out 0
      have hfz5_1 := blk_frozen BK113.out 1
      have hfz5_2 := blk_frozen BK113.out 2
      have hfz5_3 := blk_frozen BK113.out 3
      have hfz5_4 := blk_frozen BK113.out 4
      have hfz5_5 := blk_frozen BK113.out 5
      have hfz5_6 := blk_frozen BK113.out 6
      have hfz5_7 := blk_frozen BK113.out 7
      have hfz5_8 := blk_frozen BK113.out 8
      have hfz5_9 := blk_frozen BK113.out 9
      have hfz5_10 := blk_frozen BK113.out 10
      have hfz5_11 := blk_frozen BK113.out 11
      have hfz5_12 := blk_frozen BK113.out 12
      have hfz5_13 := blk_frozen BK113.out 13
      have hfz5_14 := blk_frozen BK113.out 14
      have hfz5_15 := blk_frozen BK113.out 15
      go_wp2
      go_meet
      case rel => exact ⟨_, (true), (by first | rfl | (simp; done) | (simp [*]; done)), H', ⟨by first | omega | exact Nat.le_refl _⟩, ⟨by (with_reducible repeat (first | refine blk_drewN ?_ _ | refine blk_drew ?_ | refine blk_alloc ?_ _)); exact BK113.out⟩, ⟨by repeat (first | (with_reducible first | exact HB.out | apply below_alloc | apply pw_below_drewN | apply below_drew1 | refine below_set ?_ GE113.out) | exact HB.out)⟩⟩
    · rw [if_neg c4] at H
      have c4b0 : decide (100 < (a0_1.size : Int)) = false := decide_eq_false c4
      have c4b1 : decide (100 < a0_1.size) = false := decide_eq_false (by omega)
      clear c4
      (first | rw [c4b0] | (simp only [i64_w, i32_w]; rw [c4b0]) | skip)
      by_cases c6 : (a0_2.size : Int) > 100
      · rw [if_pos c6] at H
        have c6b0 : decide (100 < (a0_2.size : Int)) = true := decide_eq_true c6
        have c6b1 : decide (100 < a0_2.size) = true := decide_eq_true (by omega)
        clear c6
        have H' := Aside0.mk H
        clear H
        have hcz7_0 : w3.cell? ⟨gb113, 0, none⟩ = some (.int .i64 a0_0) := (blk_cell BK113.out 0).trans rfl
        have hcz7_1 : w3.cell? ⟨gb113, 1, none⟩ = some (.string a0_1) := (blk_cell BK113.out 1).trans rfl
        have hcz7_2 : w3.cell? ⟨gb113, 2, none⟩ = some (.string a0_2) := (blk_cell BK113.out 2).trans rfl
        have hcz7_3 : w3.cell? ⟨gb113, 3, none⟩ = some (.slice A0_3 l0_3.length c0_3) := (blk_cell BK113.out 3).trans rfl
        have hcz7_4 : w3.cell? ⟨gb113, 4, none⟩ = some (.string a0_4) := (blk_cell BK113.out 4).trans rfl
        have hcz7_5 : w3.cell? ⟨gb113, 5, none⟩ = some (.string a0_5) := (blk_cell BK113.out 5).trans rfl
        have hcz7_6 : w3.cell? ⟨gb113, 6, none⟩ = some (.int .i64 a0_6) := (blk_cell BK113.out 6).trans rfl
        have hcz7_7 : w3.cell? ⟨gb113, 7, none⟩ = some (.int .i64 a0_7) := (blk_cell BK113.out 7).trans rfl
        have hcz7_8 : w3.cell? ⟨gb113, 8, none⟩ = some (.string a0_8) := (blk_cell BK113.out 8).trans rfl
        have hcz7_9 : w3.cell? ⟨gb113, 9, none⟩ = some (.slice A0_9 l0_9.length c0_9) := (blk_cell BK113.out 9).trans rfl
        have hcz7_10 : w3.cell? ⟨gb113, 10, none⟩ = some (.string a0_10) := (blk_cell BK113.out 10).trans rfl
        have hcz7_11 : w3.cell? ⟨gb113, 11, none⟩ = some (.string a0_11) := (blk_cell BK113.out 11).trans rfl
        have hcz7_12 : w3.cell? ⟨gb113, 12, none⟩ = some (.int .i64 a0_12) := (blk_cell BK113.out 12).trans rfl
        have hcz7_13 : w3.cell? ⟨gb113, 13, none⟩ = some (.int .i64 a0_13) := (blk_cell BK113.out 13).trans rfl
        have hcz7_14 : w3.cell? ⟨gb113, 14, none⟩ = some (.int .i64 a0_14) := (blk_cell BK113.out 14).trans rfl
        have hcz7_15 : w3.cell? ⟨gb113, 15, none⟩ = some (.int .i64 a0_15) := (blk_cell BK113.out 15).trans rfl
        have hfz7_0 := blk_frozen BK113.out 0
        have hfz7_1 := blk_frozen BK113.out 1
        have hfz7_2 := blk_frozen BK113.out 2
        have hfz7_3 := blk_frozen BK113.out 3
        have hfz7_4 := blk_frozen BK113.out 4
        have hfz7_5 := blk_frozen BK113.out 5
        have hfz7_6 := blk_frozen BK113.out 6
        have hfz7_7 := blk_frozen BK113.out 7
        have hfz7_8 := blk_frozen BK113.out 8
        have hfz7_9 := blk_frozen BK113.out 9
        have hfz7_10 := blk_frozen BK113.out 10
        have hfz7_11 := blk_frozen BK113.out 11
        have hfz7_12 := blk_frozen BK113.out 12
        have hfz7_13 := blk_frozen BK113.out 13
        have hfz7_14 := blk_frozen BK113.out 14
        have hfz7_15 := blk_frozen BK113.out 15
        go_wp2
        go_meet
        case rel => exact ⟨_, (true), (by first | rfl | (simp; done) | (simp [*]; done)), H', ⟨by first | omega | exact Nat.le_refl _⟩, ⟨by (with_reducible repeat (first | refine blk_drewN ?_ _ | refine blk_drew ?_ | refine blk_alloc ?_ _)); exact BK113.out⟩, ⟨by repeat (first | (with_reducible first | exact HB.out | apply below_alloc | apply pw_below_drewN | apply below_drew1 | refine below_set ?_ GE113.out) | exact HB.out)⟩⟩
      · rw [if_neg c6] at H
        have c6b0 : decide (100 < (a0_2.size : Int)) = false := decide_eq_false c6
        have c6b1 : decide (100 < a0_2.size) = false := decide_eq_false (by omega)
        clear c6
        by_cases c8 : (a0_4.size : Int) > 100
        · rw [if_pos c8] at H
          have c8b0 : decide (100 < (a0_4.size : Int)) = true := decide_eq_true c8
          have c8b1 : decide (100 < a0_4.size) = true := decide_eq_true (by omega)
          clear c8
          have H' := Aside0.mk H
          clear H
          have hcz9_0 : w3.cell? ⟨gb113, 0, none⟩ = some (.int .i64 a0_0) := (blk_cell BK113.out 0).trans rfl
          have hcz9_1 : w3.cell? ⟨gb113, 1, none⟩ = some (.string a0_1) := (blk_cell BK113.out 1).trans rfl
          have hcz9_2 : w3.cell? ⟨gb113, 2, none⟩ = some (.string a0_2) := (blk_cell BK113.out 2).trans rfl
          have hcz9_3 : w3.cell? ⟨gb113, 3, none⟩ = some (.slice A0_3 l0_3.length c0_3) := (blk_cell BK113.out 3).trans rfl
          have hcz9_4 : w3.cell? ⟨gb113, 4, none⟩ = some (.string a0_4) := (blk_cell BK113.out 4).trans rfl
          have hcz9_5 : w3.cell? ⟨gb113, 5, none⟩ = some (.string a0_5) := (blk_cell BK113.out 5).trans rfl
          have hcz9_6 : w3.cell? ⟨gb113, 6, none⟩ = some (.int .i64 a0_6) := (blk_cell BK113.out 6).trans rfl
          have hcz9_7 : w3.cell? ⟨gb113, 7, none⟩ = some (.int .i64 a0_7) := (blk_cell BK113.out 7).trans rfl
          have hcz9_8 : w3.cell? ⟨gb113, 8, none⟩ = some (.string a0_8) := (blk_cell BK113.out 8).trans rfl
          have hcz9_9 : w3.cell? ⟨gb113, 9, none⟩ = some (.slice A0_9 l0_9.length c0_9) := (blk_cell BK113.out 9).trans rfl
          have hcz9_10 : w3.cell? ⟨gb113, 10, none⟩ = some (.string a0_10) := (blk_cell BK113.out 10).trans rfl
          have hcz9_11 : w3.cell? ⟨gb113, 11, none⟩ = some (.string a0_11) := (blk_cell BK113.out 11).trans rfl
          have hcz9_12 : w3.cell? ⟨gb113, 12, none⟩ = some (.int .i64 a0_12) := (blk_cell BK113.out 12).trans rfl
          have hcz9_13 : w3.cell? ⟨gb113, 13, none⟩ = some (.int .i64 a0_13) := (blk_cell BK113.out 13).trans rfl
          have hcz9_14 : w3.cell? ⟨gb113, 14, none⟩ = some (.int .i64 a0_14) := (blk_cell BK113.out 14).trans rfl
          have hcz9_15 : w3.cell? ⟨gb113, 15, none⟩ = some (.int .i64 a0_15) := (blk_cell BK113.out 15).trans rfl
          have hfz9_0 := blk_frozen BK113.out 0
          have hfz9_1 := blk_frozen BK113.out 1
          have hfz9_2 := blk_frozen BK113.out 2
          have hfz9_3 := blk_frozen BK113.out 3
          have hfz9_4 := blk_frozen BK113.out 4
          have hfz9_5 := blk_frozen BK113.out 5
          have hfz9_6 := blk_frozen BK113.out 6
          have hfz9_7 := blk_frozen BK113.out 7
          have hfz9_8 := blk_frozen BK113.out 8
          have hfz9_9 := blk_frozen BK113.out 9
          have hfz9_10 := blk_frozen BK113.out 10
          have hfz9_11 := blk_frozen BK113.out 11
          have hfz9_12 := blk_frozen BK113.out 12
          have hfz9_13 := blk_frozen BK113.out 13
          have hfz9_14 := blk_frozen BK113.out 14
          have hfz9_15 := blk_frozen BK113.out 15
          go_wp2
          go_meet
          case rel => exact ⟨_, (true), (by first | rfl | (simp; done) | (simp [*]; done)), H', ⟨by first | omega | exact Nat.le_refl _⟩, ⟨by (with_reducible repeat (first | refine blk_drewN ?_ _ | refine blk_drew ?_ | refine blk_alloc ?_ _)); exact BK113.out⟩, ⟨by repeat (first | (with_reducible first | exact HB.out | apply below_alloc | apply pw_below_drewN | apply below_drew1 | refine below_set ?_ GE113.out) | exact HB.out)⟩⟩
        · rw [if_neg c8] at H
          have c8b0 : decide (100 < (a0_4.size : Int)) = false := decide_eq_false c8
          have c8b1 : decide (100 < a0_4.size) = false := decide_eq_false (by omega)
          clear c8
          by_cases c10 : (a0_5.size : Int) > 100
          · rw [if_pos c10] at H
            have c10b0 : decide (100 < (a0_5.size : Int)) = true := decide_eq_true c10
            have c10b1 : decide (100 < a0_5.size) = true := decide_eq_true (by omega)
            clear c10
            have H' := Aside0.mk H
            clear H
            have hcz11_0 : w3.cell? ⟨gb113, 0, none⟩ = some (.int .i64 a0_0) := (blk_cell BK113.out 0).trans rfl
            have hcz11_1 : w3.cell? ⟨gb113, 1, none⟩ = some (.string a0_1) := (blk_cell BK113.out 1).trans rfl
            have hcz11_2 : w3.cell? ⟨gb113, 2, none⟩ = some (.string a0_2) := (blk_cell BK113.out 2).trans rfl
            have hcz11_3 : w3.cell? ⟨gb113, 3, none⟩ = some (.slice A0_3 l0_3.length c0_3) := (blk_cell BK113.out 3).trans rfl
            have hcz11_4 : w3.cell? ⟨gb113, 4, none⟩ = some (.string a0_4) := (blk_cell BK113.out 4).trans rfl
            have hcz11_5 : w3.cell? ⟨gb113, 5, none⟩ = some (.string a0_5) := (blk_cell BK113.out 5).trans rfl
            have hcz11_6 : w3.cell? ⟨gb113, 6, none⟩ = some (.int .i64 a0_6) := (blk_cell BK113.out 6).trans rfl
            have hcz11_7 : w3.cell? ⟨gb113, 7, none⟩ = some (.int .i64 a0_7) := (blk_cell BK113.out 7).trans rfl
            have hcz11_8 : w3.cell? ⟨gb113, 8, none⟩ = some (.string a0_8) := (blk_cell BK113.out 8).trans rfl
            have hcz11_9 : w3.cell? ⟨gb113, 9, none⟩ = some (.slice A0_9 l0_9.length c0_9) := (blk_cell BK113.out 9).trans rfl
            have hcz11_10 : w3.cell? ⟨gb113, 10, none⟩ = some (.string a0_10) := (blk_cell BK113.out 10).trans rfl
            have hcz11_11 : w3.cell? ⟨gb113, 11, none⟩ = some (.string a0_11) := (blk_cell BK113.out 11).trans rfl
            have hcz11_12 : w3.cell? ⟨gb113, 12, none⟩ = some (.int .i64 a0_12) := (blk_cell BK113.out 12).trans rfl
            have hcz11_13 : w3.cell? ⟨gb113, 13, none⟩ = some (.int .i64 a0_13) := (blk_cell BK113.out 13).trans rfl
            have hcz11_14 : w3.cell? ⟨gb113, 14, none⟩ = some (.int .i64 a0_14) := (blk_cell BK113.out 14).trans rfl
            have hcz11_15 : w3.cell? ⟨gb113, 15, none⟩ = some (.int .i64 a0_15) := (blk_cell BK113.out 15).trans rfl
            have hfz11_0 := blk_frozen BK113.out 0
            have hfz11_1 := blk_frozen BK113.out 1
            have hfz11_2 := blk_frozen BK113.out 2
            have hfz11_3 := blk_frozen BK113.out 3
            have hfz11_4 := blk_frozen BK113.out 4
            have hfz11_5 := blk_frozen BK113.out 5
            have hfz11_6 := blk_frozen BK113.out 6
            have hfz11_7 := blk_frozen BK113.out 7
            have hfz11_8 := blk_frozen BK113.out 8
            have hfz11_9 := blk_frozen BK113.out 9
            have hfz11_10 := blk_frozen BK113.out 10
            have hfz11_11 := blk_frozen BK113.out 11
            have hfz11_12 := blk_frozen BK113.out 12
            have hfz11_13 := blk_frozen BK113.out 13
            have hfz11_14 := blk_frozen BK113.out 14
            have hfz11_15 := blk_frozen BK113.out 15
            go_wp2
            go_meet
            case rel => exact ⟨_, (true), (by first | rfl | (simp; done) | (simp [*]; done)), H', ⟨by first | omega | exact Nat.le_refl _⟩, ⟨by (with_reducible repeat (first | refine blk_drewN ?_ _ | refine blk_drew ?_ | refine blk_alloc ?_ _)); exact BK113.out⟩, ⟨by repeat (first | (with_reducible first | exact HB.out | apply below_alloc | apply pw_below_drewN | apply below_drew1 | refine below_set ?_ GE113.out) | exact HB.out)⟩⟩
          · rw [if_neg c10] at H
            have c10b0 : decide (100 < (a0_5.size : Int)) = false := decide_eq_false c10
            have c10b1 : decide (100 < a0_5.size) = false := decide_eq_false (by omega)
            clear c10
            by_cases c12 : (a0_8.size : Int) > 100
            · rw [if_pos c12] at H
              have c12b0 : decide (100 < (a0_8.size : Int)) = true := decide_eq_true c12
              have c12b1 : decide (100 < a0_8.size) = true := decide_eq_true (by omega)
              clear c12
              have H' := Aside0.mk H
              clear H
              have hcz13_0 : w3.cell? ⟨gb113, 0, none⟩ = some (.int .i64 a0_0) := (blk_cell BK113.out 0).trans rfl
              have hcz13_1 : w3.cell? ⟨gb113, 1, none⟩ = some (.string a0_1) := (blk_cell BK113.out 1).trans rfl
              have hcz13_2 : w3.cell? ⟨gb113, 2, none⟩ = some (.string a0_2) := (blk_cell BK113.out 2).trans rfl
              have hcz13_3 : w3.cell? ⟨gb113, 3, none⟩ = some (.slice A0_3 l0_3.length c0_3) := (blk_cell BK113.out 3).trans rfl
              have hcz13_4 : w3.cell? ⟨gb113, 4, none⟩ = some (.string a0_4) := (blk_cell BK113.out 4).trans rfl
              have hcz13_5 : w3.cell? ⟨gb113, 5, none⟩ = some (.string a0_5) := (blk_cell BK113.out 5).trans rfl
              have hcz13_6 : w3.cell? ⟨gb113, 6, none⟩ = some (.int .i64 a0_6) := (blk_cell BK113.out 6).trans rfl
              have hcz13_7 : w3.cell? ⟨gb113, 7, none⟩ = some (.int .i64 a0_7) := (blk_cell BK113.out 7).trans rfl
              have hcz13_8 : w3.cell? ⟨gb113, 8, none⟩ = some (.string a0_8) := (blk_cell BK113.out 8).trans rfl
              have hcz13_9 : w3.cell? ⟨gb113, 9, none⟩ = some (.slice A0_9 l0_9.length c0_9) := (blk_cell BK113.out 9).trans rfl
              have hcz13_10 : w3.cell? ⟨gb113, 10, none⟩ = some (.string a0_10) := (blk_cell BK113.out 10).trans rfl
              have hcz13_11 : w3.cell? ⟨gb113, 11, none⟩ = some (.string a0_11) := (blk_cell BK113.out 11).trans rfl
              have hcz13_12 : w3.cell? ⟨gb113, 12, none⟩ = some (.int .i64 a0_12) := (blk_cell BK113.out 12).trans rfl
              have hcz13_13 : w3.cell? ⟨gb113, 13, none⟩ = some (.int .i64 a0_13) := (blk_cell BK113.out 13).trans rfl
              have hcz13_14 : w3.cell? ⟨gb113, 14, none⟩ = some (.int .i64 a0_14) := (blk_cell BK113.out 14).trans rfl
              have hcz13_15 : w3.cell? ⟨gb113, 15, none⟩ = some (.int .i64 a0_15) := (blk_cell BK113.out 15).trans rfl
              have hfz13_0 := blk_frozen BK113.out 0
              have hfz13_1 := blk_frozen BK113.out 1
              have hfz13_2 := blk_frozen BK113.out 2
              have hfz13_3 := blk_frozen BK113.out 3
              have hfz13_4 := blk_frozen BK113.out 4
              have hfz13_5 := blk_frozen BK113.out 5
              have hfz13_6 := blk_frozen BK113.out 6
              have hfz13_7 := blk_frozen BK113.out 7
              have hfz13_8 := blk_frozen BK113.out 8
              have hfz13_9 := blk_frozen BK113.out 9
              have hfz13_10 := blk_frozen BK113.out 10
              have hfz13_11 := blk_frozen BK113.out 11
              have hfz13_12 := blk_frozen BK113.out 12
              have hfz13_13 := blk_frozen BK113.out 13
              have hfz13_14 := blk_frozen BK113.out 14
              have hfz13_15 := blk_frozen BK113.out 15
              go_wp2
              go_meet
              case rel => exact ⟨_, (true), (by first | rfl | (simp; done) | (simp [*]; done)), H', ⟨by first | omega | exact Nat.le_refl _⟩, ⟨by (with_reducible repeat (first | refine blk_drewN ?_ _ | refine blk_drew ?_ | refine blk_alloc ?_ _)); exact BK113.out⟩, ⟨by repeat (first | (with_reducible first | exact HB.out | apply below_alloc | apply pw_below_drewN | apply below_drew1 | refine below_set ?_ GE113.out) | exact HB.out)⟩⟩
            · rw [if_neg c12] at H
              have c12b0 : decide (100 < (a0_8.size : Int)) = false := decide_eq_false c12
              have c12b1 : decide (100 < a0_8.size) = false := decide_eq_false (by omega)
              clear c12
              by_cases c14 : (l0_3.length : Int) > 20
              · rw [if_pos c14] at H
                have c14b0 : decide (20 < (l0_3.length : Int)) = true := decide_eq_true c14
                have c14b1 : decide (20 < l0_3.length) = true := decide_eq_true (by omega)
                clear c14
                have H' := Aside0.mk H
                clear H
                have hcz15_0 : w3.cell? ⟨gb113, 0, none⟩ = some (.int .i64 a0_0) := (blk_cell BK113.out 0).trans rfl
                have hcz15_1 : w3.cell? ⟨gb113, 1, none⟩ = some (.string a0_1) := (blk_cell BK113.out 1).trans rfl
                have hcz15_2 : w3.cell? ⟨gb113, 2, none⟩ = some (.string a0_2) := (blk_cell BK113.out 2).trans rfl
                have hcz15_3 : w3.cell? ⟨gb113, 3, none⟩ = some (.slice A0_3 l0_3.length c0_3) := (blk_cell BK113.out 3).trans rfl
                have hcz15_4 : w3.cell? ⟨gb113, 4, none⟩ = some (.string a0_4) := (blk_cell BK113.out 4).trans rfl
                have hcz15_5 : w3.cell? ⟨gb113, 5, none⟩ = some (.string a0_5) := (blk_cell BK113.out 5).trans rfl
                have hcz15_6 : w3.cell? ⟨gb113, 6, none⟩ = some (.int .i64 a0_6) := (blk_cell BK113.out 6).trans rfl
                have hcz15_7 : w3.cell? ⟨gb113, 7, none⟩ = some (.int .i64 a0_7) := (blk_cell BK113.out 7).trans rfl
                have hcz15_8 : w3.cell? ⟨gb113, 8, none⟩ = some (.string a0_8) := (blk_cell BK113.out 8).trans rfl
                have hcz15_9 : w3.cell? ⟨gb113, 9, none⟩ = some (.slice A0_9 l0_9.length c0_9) := (blk_cell BK113.out 9).trans rfl
                have hcz15_10 : w3.cell? ⟨gb113, 10, none⟩ = some (.string a0_10) := (blk_cell BK113.out 10).trans rfl
                have hcz15_11 : w3.cell? ⟨gb113, 11, none⟩ = some (.string a0_11) := (blk_cell BK113.out 11).trans rfl
                have hcz15_12 : w3.cell? ⟨gb113, 12, none⟩ = some (.int .i64 a0_12) := (blk_cell BK113.out 12).trans rfl
                have hcz15_13 : w3.cell? ⟨gb113, 13, none⟩ = some (.int .i64 a0_13) := (blk_cell BK113.out 13).trans rfl
                have hcz15_14 : w3.cell? ⟨gb113, 14, none⟩ = some (.int .i64 a0_14) := (blk_cell BK113.out 14).trans rfl
                have hcz15_15 : w3.cell? ⟨gb113, 15, none⟩ = some (.int .i64 a0_15) := (blk_cell BK113.out 15).trans rfl
                have hfz15_0 := blk_frozen BK113.out 0
                have hfz15_1 := blk_frozen BK113.out 1
                have hfz15_2 := blk_frozen BK113.out 2
                have hfz15_3 := blk_frozen BK113.out 3
                have hfz15_4 := blk_frozen BK113.out 4
                have hfz15_5 := blk_frozen BK113.out 5
                have hfz15_6 := blk_frozen BK113.out 6
                have hfz15_7 := blk_frozen BK113.out 7
                have hfz15_8 := blk_frozen BK113.out 8
                have hfz15_9 := blk_frozen BK113.out 9
                have hfz15_10 := blk_frozen BK113.out 10
                have hfz15_11 := blk_frozen BK113.out 11
                have hfz15_12 := blk_frozen BK113.out 12
                have hfz15_13 := blk_frozen BK113.out 13
                have hfz15_14 := blk_frozen BK113.out 14
                have hfz15_15 := blk_frozen BK113.out 15
                go_wp2
                go_meet
                case rel => exact ⟨_, (true), (by first | rfl | (simp; done) | (simp [*]; done)), H', ⟨by first | omega | exact Nat.le_refl _⟩, ⟨by (with_reducible repeat (first | refine blk_drewN ?_ _ | refine blk_drew ?_ | refine blk_alloc ?_ _)); exact BK113.out⟩, ⟨by repeat (first | (with_reducible first | exact HB.out | apply below_alloc | apply pw_below_drewN | apply below_drew1 | refine below_set ?_ GE113.out) | exact HB.out)⟩⟩
              · rw [if_neg c14] at H
                have c14b0 : decide (20 < (l0_3.length : Int)) = false := decide_eq_false c14
                have c14b1 : decide (20 < l0_3.length) = false := decide_eq_false (by omega)
                clear c14
                by_cases c16 : (l0_9.length : Int) > 20
                · rw [if_pos c16] at H
                  have c16b0 : decide (20 < (l0_9.length : Int)) = true := decide_eq_true c16
                  have c16b1 : decide (20 < l0_9.length) = true := decide_eq_true (by omega)
                  clear c16
                  have H' := Aside0.mk H
                  clear H
                  have hcz17_0 : w3.cell? ⟨gb113, 0, none⟩ = some (.int .i64 a0_0) := (blk_cell BK113.out 0).trans rfl
                  have hcz17_1 : w3.cell? ⟨gb113, 1, none⟩ = some (.string a0_1) := (blk_cell BK113.out 1).trans rfl
                  have hcz17_2 : w3.cell? ⟨gb113, 2, none⟩ = some (.string a0_2) := (blk_cell BK113.out 2).trans rfl
                  have hcz17_3 : w3.cell? ⟨gb113, 3, none⟩ = some (.slice A0_3 l0_3.length c0_3) := (blk_cell BK113.out 3).trans rfl
                  have hcz17_4 : w3.cell? ⟨gb113, 4, none⟩ = some (.string a0_4) := (blk_cell BK113.out 4).trans rfl
                  have hcz17_5 : w3.cell? ⟨gb113, 5, none⟩ = some (.string a0_5) := (blk_cell BK113.out 5).trans rfl
                  have hcz17_6 : w3.cell? ⟨gb113, 6, none⟩ = some (.int .i64 a0_6) := (blk_cell BK113.out 6).trans rfl
                  have hcz17_7 : w3.cell? ⟨gb113, 7, none⟩ = some (.int .i64 a0_7) := (blk_cell BK113.out 7).trans rfl
                  have hcz17_8 : w3.cell? ⟨gb113, 8, none⟩ = some (.string a0_8) := (blk_cell BK113.out 8).trans rfl
                  have hcz17_9 : w3.cell? ⟨gb113, 9, none⟩ = some (.slice A0_9 l0_9.length c0_9) := (blk_cell BK113.out 9).trans rfl
                  have hcz17_10 : w3.cell? ⟨gb113, 10, none⟩ = some (.string a0_10) := (blk_cell BK113.out 10).trans rfl
                  have hcz17_11 : w3.cell? ⟨gb113, 11, none⟩ = some (.string a0_11) := (blk_cell BK113.out 11).trans rfl
                  have hcz17_12 : w3.cell? ⟨gb113, 12, none⟩ = some (.int .i64 a0_12) := (blk_cell BK113.out 12).trans rfl
                  have hcz17_13 : w3.cell? ⟨gb113, 13, none⟩ = some (.int .i64 a0_13) := (blk_cell BK113.out 13).trans rfl
                  have hcz17_14 : w3.cell? ⟨gb113, 14, none⟩ = some (.int .i64 a0_14) := (blk_cell BK113.out 14).trans rfl
                  have hcz17_15 : w3.cell? ⟨gb113, 15, none⟩ = some (.int .i64 a0_15) := (blk_cell BK113.out 15).trans rfl
                  have hfz17_0 := blk_frozen BK113.out 0
                  have hfz17_1 := blk_frozen BK113.out 1
                  have hfz17_2 := blk_frozen BK113.out 2
                  have hfz17_3 := blk_frozen BK113.out 3
                  have hfz17_4 := blk_frozen BK113.out 4
                  have hfz17_5 := blk_frozen BK113.out 5
                  have hfz17_6 := blk_frozen BK113.out 6
                  have hfz17_7 := blk_frozen BK113.out 7
                  have hfz17_8 := blk_frozen BK113.out 8
                  have hfz17_9 := blk_frozen BK113.out 9
                  have hfz17_10 := blk_frozen BK113.out 10
                  have hfz17_11 := blk_frozen BK113.out 11
                  have hfz17_12 := blk_frozen BK113.out 12
                  have hfz17_13 := blk_frozen BK113.out 13
                  have hfz17_14 := blk_frozen BK113.out 14
                  have hfz17_15 := blk_frozen BK113.out 15
                  go_wp2
                  go_meet
                  case rel => exact ⟨_, (true), (by first | rfl | (simp; done) | (simp [*]; done)), H', ⟨by first | omega | exact Nat.le_refl _⟩, ⟨by (with_reducible repeat (first | refine blk_drewN ?_ _ | refine blk_drew ?_ | refine blk_alloc ?_ _)); exact BK113.out⟩, ⟨by repeat (first | (with_reducible first | exact HB.out | apply below_alloc | apply pw_below_drewN | apply below_drew1 | refine below_set ?_ GE113.out) | exact HB.out)⟩⟩
                · rw [if_neg c16] at H
                  have c16b0 : decide (20 < (l0_9.length : Int)) = false := decide_eq_false c16
                  have c16b1 : decide (20 < l0_9.length) = false := decide_eq_false (by omega)
                  clear c16
                  by_cases c18 : (a0_10.size : Int) > 100
                  · rw [if_pos c18] at H
                    have c18b0 : decide (100 < (a0_10.size : Int)) = true := decide_eq_true c18
                    have c18b1 : decide (100 < a0_10.size) = true := decide_eq_true (by omega)
                    clear c18
                    have H' := Aside0.mk H
                    clear H
                    have hcz19_0 : w3.cell? ⟨gb113, 0, none⟩ = some (.int .i64 a0_0) := (blk_cell BK113.out 0).trans rfl
                    have hcz19_1 : w3.cell? ⟨gb113, 1, none⟩ = some (.string a0_1) := (blk_cell BK113.out 1).trans rfl
                    have hcz19_2 : w3.cell? ⟨gb113, 2, none⟩ = some (.string a0_2) := (blk_cell BK113.out 2).trans rfl
                    have hcz19_3 : w3.cell? ⟨gb113, 3, none⟩ = some (.slice A0_3 l0_3.length c0_3) := (blk_cell BK113.out 3).trans rfl
                    have hcz19_4 : w3.cell? ⟨gb113, 4, none⟩ = some (.string a0_4) := (blk_cell BK113.out 4).trans rfl
                    have hcz19_5 : w3.cell? ⟨gb113, 5, none⟩ = some (.string a0_5) := (blk_cell BK113.out 5).trans rfl
                    have hcz19_6 : w3.cell? ⟨gb113, 6, none⟩ = some (.int .i64 a0_6) := (blk_cell BK113.out 6).trans rfl
                    have hcz19_7 : w3.cell? ⟨gb113, 7, none⟩ = some (.int .i64 a0_7) := (blk_cell BK113.out 7).trans rfl
                    have hcz19_8 : w3.cell? ⟨gb113, 8, none⟩ = some (.string a0_8) := (blk_cell BK113.out 8).trans rfl
                    have hcz19_9 : w3.cell? ⟨gb113, 9, none⟩ = some (.slice A0_9 l0_9.length c0_9) := (blk_cell BK113.out 9).trans rfl
                    have hcz19_10 : w3.cell? ⟨gb113, 10, none⟩ = some (.string a0_10) := (blk_cell BK113.out 10).trans rfl
                    have hcz19_11 : w3.cell? ⟨gb113, 11, none⟩ = some (.string a0_11) := (blk_cell BK113.out 11).trans rfl
                    have hcz19_12 : w3.cell? ⟨gb113, 12, none⟩ = some (.int .i64 a0_12) := (blk_cell BK113.out 12).trans rfl
                    have hcz19_13 : w3.cell? ⟨gb113, 13, none⟩ = some (.int .i64 a0_13) := (blk_cell BK113.out 13).trans rfl
                    have hcz19_14 : w3.cell? ⟨gb113, 14, none⟩ = some (.int .i64 a0_14) := (blk_cell BK113.out 14).trans rfl
                    have hcz19_15 : w3.cell? ⟨gb113, 15, none⟩ = some (.int .i64 a0_15) := (blk_cell BK113.out 15).trans rfl
                    have hfz19_0 := blk_frozen BK113.out 0
                    have hfz19_1 := blk_frozen BK113.out 1
                    have hfz19_2 := blk_frozen BK113.out 2
                    have hfz19_3 := blk_frozen BK113.out 3
                    have hfz19_4 := blk_frozen BK113.out 4
                    have hfz19_5 := blk_frozen BK113.out 5
                    have hfz19_6 := blk_frozen BK113.out 6
                    have hfz19_7 := blk_frozen BK113.out 7
                    have hfz19_8 := blk_frozen BK113.out 8
                    have hfz19_9 := blk_frozen BK113.out 9
                    have hfz19_10 := blk_frozen BK113.out 10
                    have hfz19_11 := blk_frozen BK113.out 11
                    have hfz19_12 := blk_frozen BK113.out 12
                    have hfz19_13 := blk_frozen BK113.out 13
                    have hfz19_14 := blk_frozen BK113.out 14
                    have hfz19_15 := blk_frozen BK113.out 15
                    go_wp2
                    go_meet
                    case rel => exact ⟨_, (true), (by first | rfl | (simp; done) | (simp [*]; done)), H', ⟨by first | omega | exact Nat.le_refl _⟩, ⟨by (with_reducible repeat (first | refine blk_drewN ?_ _ | refine blk_drew ?_ | refine blk_alloc ?_ _)); exact BK113.out⟩, ⟨by repeat (first | (with_reducible first | exact HB.out | apply below_alloc | apply pw_below_drewN | apply below_drew1 | refine below_set ?_ GE113.out) | exact HB.out)⟩⟩
                  · rw [if_neg c18] at H
                    have c18b0 : decide (100 < (a0_10.size : Int)) = false := decide_eq_false c18
                    have c18b1 : decide (100 < a0_10.size) = false := decide_eq_false (by omega)
                    clear c18
                    have H' := Aside0.mk H
                    clear H
                    have hcz20_0 : w3.cell? ⟨gb113, 0, none⟩ = some (.int .i64 a0_0) := (blk_cell BK113.out 0).trans rfl
                    have hcz20_1 : w3.cell? ⟨gb113, 1, none⟩ = some (.string a0_1) := (blk_cell BK113.out 1).trans rfl
                    have hcz20_2 : w3.cell? ⟨gb113, 2, none⟩ = some (.string a0_2) := (blk_cell BK113.out 2).trans rfl
                    have hcz20_3 : w3.cell? ⟨gb113, 3, none⟩ = some (.slice A0_3 l0_3.length c0_3) := (blk_cell BK113.out 3).trans rfl
                    have hcz20_4 : w3.cell? ⟨gb113, 4, none⟩ = some (.string a0_4) := (blk_cell BK113.out 4).trans rfl
                    have hcz20_5 : w3.cell? ⟨gb113, 5, none⟩ = some (.string a0_5) := (blk_cell BK113.out 5).trans rfl
                    have hcz20_6 : w3.cell? ⟨gb113, 6, none⟩ = some (.int .i64 a0_6) := (blk_cell BK113.out 6).trans rfl
                    have hcz20_7 : w3.cell? ⟨gb113, 7, none⟩ = some (.int .i64 a0_7) := (blk_cell BK113.out 7).trans rfl
                    have hcz20_8 : w3.cell? ⟨gb113, 8, none⟩ = some (.string a0_8) := (blk_cell BK113.out 8).trans rfl
                    have hcz20_9 : w3.cell? ⟨gb113, 9, none⟩ = some (.slice A0_9 l0_9.length c0_9) := (blk_cell BK113.out 9).trans rfl
                    have hcz20_10 : w3.cell? ⟨gb113, 10, none⟩ = some (.string a0_10) := (blk_cell BK113.out 10).trans rfl
                    have hcz20_11 : w3.cell? ⟨gb113, 11, none⟩ = some (.string a0_11) := (blk_cell BK113.out 11).trans rfl
                    have hcz20_12 : w3.cell? ⟨gb113, 12, none⟩ = some (.int .i64 a0_12) := (blk_cell BK113.out 12).trans rfl
                    have hcz20_13 : w3.cell? ⟨gb113, 13, none⟩ = some (.int .i64 a0_13) := (blk_cell BK113.out 13).trans rfl
                    have hcz20_14 : w3.cell? ⟨gb113, 14, none⟩ = some (.int .i64 a0_14) := (blk_cell BK113.out 14).trans rfl
                    have hcz20_15 : w3.cell? ⟨gb113, 15, none⟩ = some (.int .i64 a0_15) := (blk_cell BK113.out 15).trans rfl
                    have hfz20_0 := blk_frozen BK113.out 0
                    have hfz20_1 := blk_frozen BK113.out 1
                    have hfz20_2 := blk_frozen BK113.out 2
                    have hfz20_3 := blk_frozen BK113.out 3
                    have hfz20_4 := blk_frozen BK113.out 4
                    have hfz20_5 := blk_frozen BK113.out 5
                    have hfz20_6 := blk_frozen BK113.out 6
                    have hfz20_7 := blk_frozen BK113.out 7
                    have hfz20_8 := blk_frozen BK113.out 8
                    have hfz20_9 := blk_frozen BK113.out 9
                    have hfz20_10 := blk_frozen BK113.out 10
                    have hfz20_11 := blk_frozen BK113.out 11
                    have hfz20_12 := blk_frozen BK113.out 12
                    have hfz20_13 := blk_frozen BK113.out 13
                    have hfz20_14 := blk_frozen BK113.out 14
                    have hfz20_15 := blk_frozen BK113.out 15
                    go_wp2
                    go_meet
                    case rel => exact ⟨_, (decide ((a0_11.size : Int) > 100)), (by first | rfl | (simp; done) | (simp [*]; done)), H', ⟨by first | omega | exact Nat.le_refl _⟩, ⟨by (with_reducible repeat (first | refine blk_drewN ?_ _ | refine blk_drew ?_ | refine blk_alloc ?_ _)); exact BK113.out⟩, ⟨by repeat (first | (with_reducible first | exact HB.out | apply below_alloc | apply pw_below_drewN | apply below_drew1 | refine below_set ?_ GE113.out) | exact HB.out)⟩⟩
  case rest =>
    clear HC2
    try clear c1
    try clear c2
    try clear p2
    try clear c4
    try clear c4b0
    try clear c4b1
    try clear c6
    try clear c6b0
    try clear c6b1
    try clear c8
    try clear c8b0
    try clear c8b1
    try clear c10
    try clear c10b0
    try clear c10b1
    try clear c12
    try clear c12b0
    try clear c12b1
    try clear c14
    try clear c14b0
    try clear c14b1
    try clear c16
    try clear c16b0
    try clear c16b1
    try clear c18
    try clear c18b0
    try clear c18b1
    try clear hcz11_0
    try clear hcz11_1
    try clear hcz11_10
    try clear hcz11_11
    try clear hcz11_12
    try clear hcz11_13
    try clear hcz11_14
    try clear hcz11_15
    try clear hcz11_2
    try clear hcz11_3
    try clear hcz11_4
    try clear hcz11_5
    try clear hcz11_6
    try clear hcz11_7
    try clear hcz11_8
    try clear hcz11_9
    try clear hcz13_0
    try clear hcz13_1
    try clear hcz13_10
    try clear hcz13_11
    try clear hcz13_12
    try clear hcz13_13
    try clear hcz13_14
    try clear hcz13_15
    try clear hcz13_2
    try clear hcz13_3
    try clear hcz13_4
    try clear hcz13_5
    try clear hcz13_6
    try clear hcz13_7
    try clear hcz13_8
    try clear hcz13_9
    try clear hcz15_0
    try clear hcz15_1
    try clear hcz15_10
    try clear hcz15_11
    try clear hcz15_12
    try clear hcz15_13
    try clear hcz15_14
    try clear hcz15_15
    try clear hcz15_2
    try clear hcz15_3
    try clear hcz15_4
    try clear hcz15_5
    try clear hcz15_6
    try clear hcz15_7
    try clear hcz15_8
    try clear hcz15_9
    try clear hcz17_0
    try clear hcz17_1
    try clear hcz17_10
    try clear hcz17_11
    try clear hcz17_12
    try clear hcz17_13
    try clear hcz17_14
    try clear hcz17_15
    try clear hcz17_2
    try clear hcz17_3
    try clear hcz17_4
    try clear hcz17_5
    try clear hcz17_6
    try clear hcz17_7
    try clear hcz17_8
    try clear hcz17_9
    try clear hcz19_0
    try clear hcz19_1
    try clear hcz19_10
    try clear hcz19_11
    try clear hcz19_12
    try clear hcz19_13
    try clear hcz19_14
    try clear hcz19_15
    try clear hcz19_2
    try clear hcz19_3
    try clear hcz19_4
    try clear hcz19_5
    try clear hcz19_6
    try clear hcz19_7
    try clear hcz19_8
    try clear hcz19_9
    try clear hcz20_0
    try clear hcz20_1
    try clear hcz20_10
    try clear hcz20_11
    try clear hcz20_12
    try clear hcz20_13
    try clear hcz20_14
    try clear hcz20_15
    try clear hcz20_2
    try clear hcz20_3
    try clear hcz20_4
    try clear hcz20_5
    try clear hcz20_6
    try clear hcz20_7
    try clear hcz20_8
    try clear hcz20_9
    try clear hcz5_0
    try clear hcz5_1
    try clear hcz5_10
    try clear hcz5_11
    try clear hcz5_12
    try clear hcz5_13
    try clear hcz5_14
    try clear hcz5_15
    try clear hcz5_2
    try clear hcz5_3
    try clear hcz5_4
    try clear hcz5_5
    try clear hcz5_6
    try clear hcz5_7
    try clear hcz5_8
    try clear hcz5_9
    try clear hcz7_0
    try clear hcz7_1
    try clear hcz7_10
    try clear hcz7_11
    try clear hcz7_12
    try clear hcz7_13
    try clear hcz7_14
    try clear hcz7_15
    try clear hcz7_2
    try clear hcz7_3
    try clear hcz7_4
    try clear hcz7_5
    try clear hcz7_6
    try clear hcz7_7
    try clear hcz7_8
    try clear hcz7_9
    try clear hcz9_0
    try clear hcz9_1
    try clear hcz9_10
    try clear hcz9_11
    try clear hcz9_12
    try clear hcz9_13
    try clear hcz9_14
    try clear hcz9_15
    try clear hcz9_2
    try clear hcz9_3
    try clear hcz9_4
    try clear hcz9_5
    try clear hcz9_6
    try clear hcz9_7
    try clear hcz9_8
    try clear hcz9_9
    try clear hfz11_0
    try clear hfz11_1
    try clear hfz11_10
    try clear hfz11_11
    try clear hfz11_12
    try clear hfz11_13
    try clear hfz11_14
    try clear hfz11_15
    try clear hfz11_2
    try clear hfz11_3
    try clear hfz11_4
    try clear hfz11_5
    try clear hfz11_6
    try clear hfz11_7
    try clear hfz11_8
    try clear hfz11_9
    try clear hfz13_0
    try clear hfz13_1
    try clear hfz13_10
    try clear hfz13_11
    try clear hfz13_12
    try clear hfz13_13
    try clear hfz13_14
    try clear hfz13_15
    try clear hfz13_2
    try clear hfz13_3
    try clear hfz13_4
    try clear hfz13_5
    try clear hfz13_6
    try clear hfz13_7
    try clear hfz13_8
    try clear hfz13_9
    try clear hfz15_0
    try clear hfz15_1
    try clear hfz15_10
    try clear hfz15_11
    try clear hfz15_12
    try clear hfz15_13
    try clear hfz15_14
    try clear hfz15_15
    try clear hfz15_2
    try clear hfz15_3
    try clear hfz15_4
    try clear hfz15_5
    try clear hfz15_6
    try clear hfz15_7
    try clear hfz15_8
    try clear hfz15_9
    try clear hfz17_0
    try clear hfz17_1
    try clear hfz17_10
    try clear hfz17_11
    try clear hfz17_12
    try clear hfz17_13
    try clear hfz17_14
    try clear hfz17_15
    try clear hfz17_2
    try clear hfz17_3
    try clear hfz17_4
    try clear hfz17_5
    try clear hfz17_6
    try clear hfz17_7
    try clear hfz17_8
    try clear hfz17_9
    try clear hfz19_0
    try clear hfz19_1
    try clear hfz19_10
    try clear hfz19_11
    try clear hfz19_12
    try clear hfz19_13
    try clear hfz19_14
    try clear hfz19_15
    try clear hfz19_2
    try clear hfz19_3
    try clear hfz19_4
    try clear hfz19_5
    try clear hfz19_6
    try clear hfz19_7
    try clear hfz19_8
    try clear hfz19_9
    try clear hfz20_0
    try clear hfz20_1
    try clear hfz20_10
    try clear hfz20_11
    try clear hfz20_12
    try clear hfz20_13
    try clear hfz20_14
    try clear hfz20_15
    try clear hfz20_2
    try clear hfz20_3
    try clear hfz20_4
    try clear hfz20_5
    try clear hfz20_6
    try clear hfz20_7
    try clear hfz20_8
    try clear hfz20_9
    try clear hfz5_0
    try clear hfz5_1
    try clear hfz5_10
    try clear hfz5_11
    try clear hfz5_12
    try clear hfz5_13
    try clear hfz5_14
    try clear hfz5_15
    try clear hfz5_2
    try clear hfz5_3
    try clear hfz5_4
    try clear hfz5_5
    try clear hfz5_6
    try clear hfz5_7
    try clear hfz5_8
    try clear hfz5_9
    try clear hfz7_0
    try clear hfz7_1
    try clear hfz7_10
    try clear hfz7_11
    try clear hfz7_12
    try clear hfz7_13
    try clear hfz7_14
    try clear hfz7_15
    try clear hfz7_2
    try clear hfz7_3
    try clear hfz7_4
    try clear hfz7_5
    try clear hfz7_6
    try clear hfz7_7
    try clear hfz7_8
    try clear hfz7_9
    try clear hfz9_0
    try clear hfz9_1
    try clear hfz9_10
    try clear hfz9_11
    try clear hfz9_12
    try clear hfz9_13
    try clear hfz9_14
    try clear hfz9_15
    try clear hfz9_2
    try clear hfz9_3
    try clear hfz9_4
    try clear hfz9_5
    try clear hfz9_6
    try clear hfz9_7
    try clear hfz9_8
    try clear hfz9_9
    obtain ⟨kq, x60_1, rfl, HA, HJ1, BK113, HB⟩ := hcut
    cases kq with
    | zero => exact absurd HA.out (by simp [joistref00_LongRequest.j0])
    | succ kj1 =>
      have H := HA.out
      clear HA
      simp only [joistref00_LongRequest.j0] at H
      by_cases c21 : x60_1 = true
      · subst c21
        have H1 : (some true) = some r := by rw [if_pos rfl] at H; exact H
        clear H
        have H := H1
        clear H1
        obtain rfl := Option.some.inj H
        go_wp2
        go_ret
        exact ⟨by first | rfl | (simp [errW_none, errW_some] <;> rfl) | (simp [*, errW_none, errW_some] <;> rfl), by repeat (first | (with_reducible first | exact HB.out | apply below_alloc | apply pw_below_drewN | apply below_drew1 | refine below_set ?_ GE113.out) | exact HB.out)⟩
      · replace c21 := Bool.eq_false_iff.mpr c21
        subst c21
        have H1 : (joistref00_LongRequest.l0 kj1 0 a0_0 a0_1 a0_2 l0_3 a0_4 a0_5 a0_6 a0_7 a0_8 l0_9 a0_10 a0_11 a0_12 a0_13 a0_14 a0_15) = some r := by rw [if_neg (show ¬ (false = true) by decide)] at H; exact H
        clear H
        have H := H1
        clear H1
        have H' := Aside0.mk H
        clear H
        go_wp2
        go_loopg [3] kj1 (fun kq v3 w' => ∃ (x3_2 : Int), v3 = .int .i64 x3_2 ∧ Aside0 (joistref00_LongRequest.l0 kq x3_2 a0_0 a0_1 a0_2 l0_3 a0_4 a0_5 a0_6 a0_7 a0_8 l0_9 a0_10 a0_11 a0_12 a0_13 a0_14 a0_15 = some r) ∧ Aside0 (kq ≤ kj1) ∧ Aside0 (w'.heap[gb113]? = some (.cells #[.int .i64 a0_0, .string a0_1, .string a0_2, (.slice A0_3 l0_3.length c0_3), .string a0_4, .string a0_5, .int .i64 a0_6, .int .i64 a0_7, .string a0_8, (.slice A0_9 l0_9.length c0_9), .string a0_10, .string a0_11, .int .i64 a0_12, .int .i64 a0_13, .int .i64 a0_14, .int .i64 a0_15] 51 (0, 0))) ∧ Aside0 (Below w.heap.size w w'))
        case atStart => exact ⟨(0), (by first | rfl | (simp; done) | (simp [*]; done)), H', ⟨Nat.le_refl _⟩, ⟨by (with_reducible repeat (first | refine blk_drewN ?_ _ | refine blk_drew ?_ | refine blk_alloc ?_ _)); exact BK113.out⟩, ⟨by repeat (first | (with_reducible first | exact HB.out | apply below_alloc | apply pw_below_drewN | apply below_drew1 | refine below_set ?_ GE113.out) | exact HB.out)⟩⟩
        case round =>
          clear H'
          try clear c1
          try clear c2
          try clear p2
          try clear c4
          try clear c4b0
          try clear c4b1
          try clear c6
          try clear c6b0
          try clear c6b1
          try clear c8
          try clear c8b0
          try clear c8b1
          try clear c10
          try clear c10b0
          try clear c10b1
          try clear c12
          try clear c12b0
          try clear c12b1
          try clear c14
          try clear c14b0
          try clear c14b1
          try clear c16
          try clear c16b0
          try clear c16b1
          try clear c18
          try clear c18b0
          try clear c18b1
          try clear c21
          try clear hcz11_0
          try clear hcz11_1
          try clear hcz11_10
          try clear hcz11_11
          try clear hcz11_12
          try clear hcz11_13
          try clear hcz11_14
          try clear hcz11_15
          try clear hcz11_2
          try clear hcz11_3
          try clear hcz11_4
          try clear hcz11_5
          try clear hcz11_6
          try clear hcz11_7
          try clear hcz11_8
          try clear hcz11_9
          try clear hcz13_0
          try clear hcz13_1
          try clear hcz13_10
          try clear hcz13_11
          try clear hcz13_12
          try clear hcz13_13
          try clear hcz13_14
          try clear hcz13_15
          try clear hcz13_2
          try clear hcz13_3
          try clear hcz13_4
          try clear hcz13_5
          try clear hcz13_6
          try clear hcz13_7
          try clear hcz13_8
          try clear hcz13_9
          try clear hcz15_0
          try clear hcz15_1
          try clear hcz15_10
          try clear hcz15_11
          try clear hcz15_12
          try clear hcz15_13
          try clear hcz15_14
          try clear hcz15_15
          try clear hcz15_2
          try clear hcz15_3
          try clear hcz15_4
          try clear hcz15_5
          try clear hcz15_6
          try clear hcz15_7
          try clear hcz15_8
          try clear hcz15_9
          try clear hcz17_0
          try clear hcz17_1
          try clear hcz17_10
          try clear hcz17_11
          try clear hcz17_12
          try clear hcz17_13
          try clear hcz17_14
          try clear hcz17_15
          try clear hcz17_2
          try clear hcz17_3
          try clear hcz17_4
          try clear hcz17_5
          try clear hcz17_6
          try clear hcz17_7
          try clear hcz17_8
          try clear hcz17_9
          try clear hcz19_0
          try clear hcz19_1
          try clear hcz19_10
          try clear hcz19_11
          try clear hcz19_12
          try clear hcz19_13
          try clear hcz19_14
          try clear hcz19_15
          try clear hcz19_2
          try clear hcz19_3
          try clear hcz19_4
          try clear hcz19_5
          try clear hcz19_6
          try clear hcz19_7
          try clear hcz19_8
          try clear hcz19_9
          try clear hcz20_0
          try clear hcz20_1
          try clear hcz20_10
          try clear hcz20_11
          try clear hcz20_12
          try clear hcz20_13
          try clear hcz20_14
          try clear hcz20_15
          try clear hcz20_2
          try clear hcz20_3
          try clear hcz20_4
          try clear hcz20_5
          try clear hcz20_6
          try clear hcz20_7
          try clear hcz20_8
          try clear hcz20_9
          try clear hcz5_0
          try clear hcz5_1
          try clear hcz5_10
          try clear hcz5_11
          try clear hcz5_12
          try clear hcz5_13
          try clear hcz5_14
          try clear hcz5_15
          try clear hcz5_2
          try clear hcz5_3
          try clear hcz5_4
          try clear hcz5_5
          try clear hcz5_6
          try clear hcz5_7
          try clear hcz5_8
          try clear hcz5_9
          try clear hcz7_0
          try clear hcz7_1
          try clear hcz7_10
          try clear hcz7_11
          try clear hcz7_12
          try clear hcz7_13
          try clear hcz7_14
          try clear hcz7_15
          try clear hcz7_2
          try clear hcz7_3
          try clear hcz7_4
          try clear hcz7_5
          try clear hcz7_6
          try clear hcz7_7
          try clear hcz7_8
          try clear hcz7_9
          try clear hcz9_0
          try clear hcz9_1
          try clear hcz9_10
          try clear hcz9_11
          try clear hcz9_12
          try clear hcz9_13
          try clear hcz9_14
          try clear hcz9_15
          try clear hcz9_2
          try clear hcz9_3
          try clear hcz9_4
          try clear hcz9_5
          try clear hcz9_6
          try clear hcz9_7
          try clear hcz9_8
          try clear hcz9_9
          try clear hfz11_0
          try clear hfz11_1
          try clear hfz11_10
          try clear hfz11_11
          try clear hfz11_12
          try clear hfz11_13
          try clear hfz11_14
          try clear hfz11_15
          try clear hfz11_2
          try clear hfz11_3
          try clear hfz11_4
          try clear hfz11_5
          try clear hfz11_6
          try clear hfz11_7
          try clear hfz11_8
          try clear hfz11_9
          try clear hfz13_0
          try clear hfz13_1
          try clear hfz13_10
          try clear hfz13_11
          try clear hfz13_12
          try clear hfz13_13
          try clear hfz13_14
          try clear hfz13_15
          try clear hfz13_2
          try clear hfz13_3
          try clear hfz13_4
          try clear hfz13_5
          try clear hfz13_6
          try clear hfz13_7
          try clear hfz13_8
          try clear hfz13_9
          try clear hfz15_0
          try clear hfz15_1
          try clear hfz15_10
          try clear hfz15_11
          try clear hfz15_12
          try clear hfz15_13
          try clear hfz15_14
          try clear hfz15_15
          try clear hfz15_2
          try clear hfz15_3
          try clear hfz15_4
          try clear hfz15_5
          try clear hfz15_6
          try clear hfz15_7
          try clear hfz15_8
          try clear hfz15_9
          try clear hfz17_0
          try clear hfz17_1
          try clear hfz17_10
          try clear hfz17_11
          try clear hfz17_12
          try clear hfz17_13
          try clear hfz17_14
          try clear hfz17_15
          try clear hfz17_2
          try clear hfz17_3
          try clear hfz17_4
          try clear hfz17_5
          try clear hfz17_6
          try clear hfz17_7
          try clear hfz17_8
          try clear hfz17_9
          try clear hfz19_0
          try clear hfz19_1
          try clear hfz19_10
          try clear hfz19_11
          try clear hfz19_12
          try clear hfz19_13
          try clear hfz19_14
          try clear hfz19_15
          try clear hfz19_2
          try clear hfz19_3
          try clear hfz19_4
          try clear hfz19_5
          try clear hfz19_6
          try clear hfz19_7
          try clear hfz19_8
          try clear hfz19_9
          try clear hfz20_0
          try clear hfz20_1
          try clear hfz20_10
          try clear hfz20_11
          try clear hfz20_12
          try clear hfz20_13
          try clear hfz20_14
          try clear hfz20_15
          try clear hfz20_2
          try clear hfz20_3
          try clear hfz20_4
          try clear hfz20_5
          try clear hfz20_6
          try clear hfz20_7
          try clear hfz20_8
          try clear hfz20_9
          try clear hfz5_0
          try clear hfz5_1
          try clear hfz5_10
          try clear hfz5_11
          try clear hfz5_12
          try clear hfz5_13
          try clear hfz5_14
          try clear hfz5_15
          try clear hfz5_2
          try clear hfz5_3
          try clear hfz5_4
          try clear hfz5_5
          try clear hfz5_6
          try clear hfz5_7
          try clear hfz5_8
          try clear hfz5_9
          try clear hfz7_0
          try clear hfz7_1
          try clear hfz7_10
          try clear hfz7_11
          try clear hfz7_12
          try clear hfz7_13
          try clear hfz7_14
          try clear hfz7_15
          try clear hfz7_2
          try clear hfz7_3
          try clear hfz7_4
          try clear hfz7_5
          try clear hfz7_6
          try clear hfz7_7
          try clear hfz7_8
          try clear hfz7_9
          try clear hfz9_0
          try clear hfz9_1
          try clear hfz9_10
          try clear hfz9_11
          try clear hfz9_12
          try clear hfz9_13
          try clear hfz9_14
          try clear hfz9_15
          try clear hfz9_2
          try clear hfz9_3
          try clear hfz9_4
          try clear hfz9_5
          try clear hfz9_6
          try clear hfz9_7
          try clear hfz9_8
          try clear hfz9_9
          try clear p2
          obtain ⟨x3_2, rfl, HA, HK2, BK113, HB⟩ := hrel
          cases gk with
          | zero => exact absurd HA.out (by simp [joistref00_LongRequest.l0])
          | succ k2 =>
            have H := HA.out
            clear HA
            simp only [joistref00_LongRequest.l0] at H
            by_cases c22 : x3_2 < (l0_9.length : Int)
            · rw [if_pos c22] at H
              have c22b0 : decide (x3_2 < (l0_9.length : Int)) = true := decide_eq_true c22
              clear c22
              by_cases c23 : 0 ≤ x3_2
              · rw [if_pos c23] at H
                have c23b0 : decide (0 ≤ x3_2) = true := decide_eq_true c23
                clear c23
                by_cases c24 : ((rdOf ByteArray.empty l0_9 x3_2).size : Int) > 100
                · rw [if_pos c24] at H
                  have c24b0 : decide (100 < ((rdOf ByteArray.empty l0_9 x3_2).size : Int)) = true := decide_eq_true c24
                  have c24b1 : decide (100 < (rdOf ByteArray.empty l0_9 x3_2).size) = true := decide_eq_true (by omega)
                  clear c24
                  obtain rfl := Option.some.inj H
                  have hcz25_0 : wr.cell? ⟨gb113, 0, none⟩ = some (.int .i64 a0_0) := (blk_cell BK113.out 0).trans rfl
                  have hcz25_1 : wr.cell? ⟨gb113, 1, none⟩ = some (.string a0_1) := (blk_cell BK113.out 1).trans rfl
                  have hcz25_2 : wr.cell? ⟨gb113, 2, none⟩ = some (.string a0_2) := (blk_cell BK113.out 2).trans rfl
                  have hcz25_3 : wr.cell? ⟨gb113, 3, none⟩ = some (.slice A0_3 l0_3.length c0_3) := (blk_cell BK113.out 3).trans rfl
                  have hcz25_4 : wr.cell? ⟨gb113, 4, none⟩ = some (.string a0_4) := (blk_cell BK113.out 4).trans rfl
                  have hcz25_5 : wr.cell? ⟨gb113, 5, none⟩ = some (.string a0_5) := (blk_cell BK113.out 5).trans rfl
                  have hcz25_6 : wr.cell? ⟨gb113, 6, none⟩ = some (.int .i64 a0_6) := (blk_cell BK113.out 6).trans rfl
                  have hcz25_7 : wr.cell? ⟨gb113, 7, none⟩ = some (.int .i64 a0_7) := (blk_cell BK113.out 7).trans rfl
                  have hcz25_8 : wr.cell? ⟨gb113, 8, none⟩ = some (.string a0_8) := (blk_cell BK113.out 8).trans rfl
                  have hcz25_9 : wr.cell? ⟨gb113, 9, none⟩ = some (.slice A0_9 l0_9.length c0_9) := (blk_cell BK113.out 9).trans rfl
                  have hcz25_10 : wr.cell? ⟨gb113, 10, none⟩ = some (.string a0_10) := (blk_cell BK113.out 10).trans rfl
                  have hcz25_11 : wr.cell? ⟨gb113, 11, none⟩ = some (.string a0_11) := (blk_cell BK113.out 11).trans rfl
                  have hcz25_12 : wr.cell? ⟨gb113, 12, none⟩ = some (.int .i64 a0_12) := (blk_cell BK113.out 12).trans rfl
                  have hcz25_13 : wr.cell? ⟨gb113, 13, none⟩ = some (.int .i64 a0_13) := (blk_cell BK113.out 13).trans rfl
                  have hcz25_14 : wr.cell? ⟨gb113, 14, none⟩ = some (.int .i64 a0_14) := (blk_cell BK113.out 14).trans rfl
                  have hcz25_15 : wr.cell? ⟨gb113, 15, none⟩ = some (.int .i64 a0_15) := (blk_cell BK113.out 15).trans rfl
                  have hfz25_0 := blk_frozen BK113.out 0
                  have hfz25_1 := blk_frozen BK113.out 1
                  have hfz25_2 := blk_frozen BK113.out 2
                  have hfz25_3 := blk_frozen BK113.out 3
                  have hfz25_4 := blk_frozen BK113.out 4
                  have hfz25_5 := blk_frozen BK113.out 5
                  have hfz25_6 := blk_frozen BK113.out 6
                  have hfz25_7 := blk_frozen BK113.out 7
                  have hfz25_8 := blk_frozen BK113.out 8
                  have hfz25_9 := blk_frozen BK113.out 9
                  have hfz25_10 := blk_frozen BK113.out 10
                  have hfz25_11 := blk_frozen BK113.out 11
                  have hfz25_12 := blk_frozen BK113.out 12
                  have hfz25_13 := blk_frozen BK113.out 13
                  have hfz25_14 := blk_frozen BK113.out 14
                  have hfz25_15 := blk_frozen BK113.out 15
                  have p114 : 0 ≤ (x3_2 : Int) := of_decide_eq_true (by first | (with_reducible assumption) | assumption)
                  have q114 : x3_2 < (l0_9.length : Int) := of_decide_eq_true (by first | (with_reducible assumption) | assumption)
                  obtain ⟨ad114, e114, hx114_0⟩ := Kd.at_string HR0_9.out x3_2 p114 q114
                  cases e114
                  replace hx114_0 := (HB.out.cell (World.block_lt_of_cell? w _ hx114_0)).trans hx114_0
                  replace p114 := eq_true p114
                  replace q114 := eq_true q114
                  go_wp2
                  go_ret
                  exact ⟨by first | rfl | (simp [errW_none, errW_some] <;> rfl) | (simp [*, errW_none, errW_some] <;> rfl), by repeat (first | (with_reducible first | exact HB.out | apply below_alloc | apply pw_below_drewN | apply below_drew1 | refine below_set ?_ GE113.out) | exact HB.out)⟩
                · rw [if_neg c24] at H
                  have c24b0 : decide (100 < ((rdOf ByteArray.empty l0_9 x3_2).size : Int)) = false := decide_eq_false c24
                  have c24b1 : decide (100 < (rdOf ByteArray.empty l0_9 x3_2).size) = false := decide_eq_false (by omega)
                  clear c24
                  have H' := Aside0.mk H
                  clear H
                  have hcz26_0 : wr.cell? ⟨gb113, 0, none⟩ = some (.int .i64 a0_0) := (blk_cell BK113.out 0).trans rfl
                  have hcz26_1 : wr.cell? ⟨gb113, 1, none⟩ = some (.string a0_1) := (blk_cell BK113.out 1).trans rfl
                  have hcz26_2 : wr.cell? ⟨gb113, 2, none⟩ = some (.string a0_2) := (blk_cell BK113.out 2).trans rfl
                  have hcz26_3 : wr.cell? ⟨gb113, 3, none⟩ = some (.slice A0_3 l0_3.length c0_3) := (blk_cell BK113.out 3).trans rfl
                  have hcz26_4 : wr.cell? ⟨gb113, 4, none⟩ = some (.string a0_4) := (blk_cell BK113.out 4).trans rfl
                  have hcz26_5 : wr.cell? ⟨gb113, 5, none⟩ = some (.string a0_5) := (blk_cell BK113.out 5).trans rfl
                  have hcz26_6 : wr.cell? ⟨gb113, 6, none⟩ = some (.int .i64 a0_6) := (blk_cell BK113.out 6).trans rfl
                  have hcz26_7 : wr.cell? ⟨gb113, 7, none⟩ = some (.int .i64 a0_7) := (blk_cell BK113.out 7).trans rfl
                  have hcz26_8 : wr.cell? ⟨gb113, 8, none⟩ = some (.string a0_8) := (blk_cell BK113.out 8).trans rfl
                  have hcz26_9 : wr.cell? ⟨gb113, 9, none⟩ = some (.slice A0_9 l0_9.length c0_9) := (blk_cell BK113.out 9).trans rfl
                  have hcz26_10 : wr.cell? ⟨gb113, 10, none⟩ = some (.string a0_10) := (blk_cell BK113.out 10).trans rfl
                  have hcz26_11 : wr.cell? ⟨gb113, 11, none⟩ = some (.string a0_11) := (blk_cell BK113.out 11).trans rfl
                  have hcz26_12 : wr.cell? ⟨gb113, 12, none⟩ = some (.int .i64 a0_12) := (blk_cell BK113.out 12).trans rfl
                  have hcz26_13 : wr.cell? ⟨gb113, 13, none⟩ = some (.int .i64 a0_13) := (blk_cell BK113.out 13).trans rfl
                  have hcz26_14 : wr.cell? ⟨gb113, 14, none⟩ = some (.int .i64 a0_14) := (blk_cell BK113.out 14).trans rfl
                  have hcz26_15 : wr.cell? ⟨gb113, 15, none⟩ = some (.int .i64 a0_15) := (blk_cell BK113.out 15).trans rfl
                  have hfz26_0 := blk_frozen BK113.out 0
                  have hfz26_1 := blk_frozen BK113.out 1
                  have hfz26_2 := blk_frozen BK113.out 2
                  have hfz26_3 := blk_frozen BK113.out 3
                  have hfz26_4 := blk_frozen BK113.out 4
                  have hfz26_5 := blk_frozen BK113.out 5
                  have hfz26_6 := blk_frozen BK113.out 6
                  have hfz26_7 := blk_frozen BK113.out 7
                  have hfz26_8 := blk_frozen BK113.out 8
                  have hfz26_9 := blk_frozen BK113.out 9
                  have hfz26_10 := blk_frozen BK113.out 10
                  have hfz26_11 := blk_frozen BK113.out 11
                  have hfz26_12 := blk_frozen BK113.out 12
                  have hfz26_13 := blk_frozen BK113.out 13
                  have hfz26_14 := blk_frozen BK113.out 14
                  have hfz26_15 := blk_frozen BK113.out 15
                  have p114 : 0 ≤ (x3_2 : Int) := of_decide_eq_true (by first | (with_reducible assumption) | assumption)
                  have q114 : x3_2 < (l0_9.length : Int) := of_decide_eq_true (by first | (with_reducible assumption) | assumption)
                  obtain ⟨ad114, e114, hx114_0⟩ := Kd.at_string HR0_9.out x3_2 p114 q114
                  cases e114
                  replace hx114_0 := (HB.out.cell (World.block_lt_of_cell? w _ hx114_0)).trans hx114_0
                  replace p114 := eq_true p114
                  replace q114 := eq_true q114
                  go_wp2
                  go_roundg k2
                  case measure => have := HJ1.out; have := HK2.out; omega
                  case rel => exact ⟨(wrap64 (x3_2 + 1)), (by first | rfl | (simp; done) | (simp [*]; done)), H', ⟨by have := HJ1.out; have := HK2.out; omega⟩, ⟨by (with_reducible repeat (first | refine blk_drewN ?_ _ | refine blk_drew ?_ | refine blk_alloc ?_ _)); exact BK113.out⟩, ⟨by repeat (first | (with_reducible first | exact HB.out | apply below_alloc | apply pw_below_drewN | apply below_drew1 | refine below_set ?_ GE113.out) | exact HB.out)⟩⟩
              · rw [if_neg c23] at H
                exact absurd H (by simp)
            · rw [if_neg c22] at H
              have c22b0 : decide (x3_2 < (l0_9.length : Int)) = false := decide_eq_false c22
              clear c22
              have H' := Aside0.mk H
              clear H
              have hcz27_0 : wr.cell? ⟨gb113, 0, none⟩ = some (.int .i64 a0_0) := (blk_cell BK113.out 0).trans rfl
              have hcz27_1 : wr.cell? ⟨gb113, 1, none⟩ = some (.string a0_1) := (blk_cell BK113.out 1).trans rfl
              have hcz27_2 : wr.cell? ⟨gb113, 2, none⟩ = some (.string a0_2) := (blk_cell BK113.out 2).trans rfl
              have hcz27_3 : wr.cell? ⟨gb113, 3, none⟩ = some (.slice A0_3 l0_3.length c0_3) := (blk_cell BK113.out 3).trans rfl
              have hcz27_4 : wr.cell? ⟨gb113, 4, none⟩ = some (.string a0_4) := (blk_cell BK113.out 4).trans rfl
              have hcz27_5 : wr.cell? ⟨gb113, 5, none⟩ = some (.string a0_5) := (blk_cell BK113.out 5).trans rfl
              have hcz27_6 : wr.cell? ⟨gb113, 6, none⟩ = some (.int .i64 a0_6) := (blk_cell BK113.out 6).trans rfl
              have hcz27_7 : wr.cell? ⟨gb113, 7, none⟩ = some (.int .i64 a0_7) := (blk_cell BK113.out 7).trans rfl
              have hcz27_8 : wr.cell? ⟨gb113, 8, none⟩ = some (.string a0_8) := (blk_cell BK113.out 8).trans rfl
              have hcz27_9 : wr.cell? ⟨gb113, 9, none⟩ = some (.slice A0_9 l0_9.length c0_9) := (blk_cell BK113.out 9).trans rfl
              have hcz27_10 : wr.cell? ⟨gb113, 10, none⟩ = some (.string a0_10) := (blk_cell BK113.out 10).trans rfl
              have hcz27_11 : wr.cell? ⟨gb113, 11, none⟩ = some (.string a0_11) := (blk_cell BK113.out 11).trans rfl
              have hcz27_12 : wr.cell? ⟨gb113, 12, none⟩ = some (.int .i64 a0_12) := (blk_cell BK113.out 12).trans rfl
              have hcz27_13 : wr.cell? ⟨gb113, 13, none⟩ = some (.int .i64 a0_13) := (blk_cell BK113.out 13).trans rfl
              have hcz27_14 : wr.cell? ⟨gb113, 14, none⟩ = some (.int .i64 a0_14) := (blk_cell BK113.out 14).trans rfl
              have hcz27_15 : wr.cell? ⟨gb113, 15, none⟩ = some (.int .i64 a0_15) := (blk_cell BK113.out 15).trans rfl
              have hfz27_0 := blk_frozen BK113.out 0
              have hfz27_1 := blk_frozen BK113.out 1
              have hfz27_2 := blk_frozen BK113.out 2
              have hfz27_3 := blk_frozen BK113.out 3
              have hfz27_4 := blk_frozen BK113.out 4
              have hfz27_5 := blk_frozen BK113.out 5
              have hfz27_6 := blk_frozen BK113.out 6
              have hfz27_7 := blk_frozen BK113.out 7
              have hfz27_8 := blk_frozen BK113.out 8
              have hfz27_9 := blk_frozen BK113.out 9
              have hfz27_10 := blk_frozen BK113.out 10
              have hfz27_11 := blk_frozen BK113.out 11
              have hfz27_12 := blk_frozen BK113.out 12
              have hfz27_13 := blk_frozen BK113.out 13
              have hfz27_14 := blk_frozen BK113.out 14
              have hfz27_15 := blk_frozen BK113.out 15
              go_wp2
              go_loopg [4] k2 (fun kq v4 w' => ∃ (x4_3 : Int), v4 = .int .i64 x4_3 ∧ Aside0 (joistref00_LongRequest.l1 kq x4_3 a0_0 a0_1 a0_2 l0_3 a0_4 a0_5 a0_6 a0_7 a0_8 l0_9 a0_10 a0_11 a0_12 a0_13 a0_14 a0_15 = some r) ∧ Aside0 (kq ≤ k2) ∧ Aside0 (w'.heap[gb113]? = some (.cells #[.int .i64 a0_0, .string a0_1, .string a0_2, (.slice A0_3 l0_3.length c0_3), .string a0_4, .string a0_5, .int .i64 a0_6, .int .i64 a0_7, .string a0_8, (.slice A0_9 l0_9.length c0_9), .string a0_10, .string a0_11, .int .i64 a0_12, .int .i64 a0_13, .int .i64 a0_14, .int .i64 a0_15] 51 (0, 0))) ∧ Aside0 (Below w.heap.size w w'))
              case atStart => exact ⟨(0), (by first | rfl | (simp; done) | (simp [*]; done)), H', ⟨Nat.le_refl _⟩, ⟨by (with_reducible repeat (first | refine blk_drewN ?_ _ | refine blk_drew ?_ | refine blk_alloc ?_ _)); exact BK113.out⟩, ⟨by repeat (first | (with_reducible first | exact HB.out | apply below_alloc | apply pw_below_drewN | apply below_drew1 | refine below_set ?_ GE113.out) | exact HB.out)⟩⟩
              case round =>
                clear H'
                try clear c1
                try clear p1
                try clear q1
                try clear hx1
                try clear c2
                try clear p2
                try clear c4
                try clear c4b0
                try clear c4b1
                try clear c6
                try clear c6b0
                try clear c6b1
                try clear p6
                try clear c8
                try clear c8b0
                try clear c8b1
                try clear c10
                try clear c10b0
                try clear c10b1
                try clear p11
                try clear q11
                try clear hx11
                try clear c12
                try clear c12b0
                try clear c12b1
                try clear c14
                try clear c14b0
                try clear c14b1
                try clear c16
                try clear c16b0
                try clear c16b1
                try clear c18
                try clear c18b0
                try clear c18b1
                try clear c21
                try clear c22
                try clear c22b0
                try clear c23
                try clear c23b0
                try clear c24
                try clear c24b0
                try clear c24b1
                try clear hcz11_0
                try clear hcz11_1
                try clear hcz11_10
                try clear hcz11_11
                try clear hcz11_12
                try clear hcz11_13
                try clear hcz11_14
                try clear hcz11_15
                try clear hcz11_2
                try clear hcz11_3
                try clear hcz11_4
                try clear hcz11_5
                try clear hcz11_6
                try clear hcz11_7
                try clear hcz11_8
                try clear hcz11_9
                try clear hcz13_0
                try clear hcz13_1
                try clear hcz13_10
                try clear hcz13_11
                try clear hcz13_12
                try clear hcz13_13
                try clear hcz13_14
                try clear hcz13_15
                try clear hcz13_2
                try clear hcz13_3
                try clear hcz13_4
                try clear hcz13_5
                try clear hcz13_6
                try clear hcz13_7
                try clear hcz13_8
                try clear hcz13_9
                try clear hcz15_0
                try clear hcz15_1
                try clear hcz15_10
                try clear hcz15_11
                try clear hcz15_12
                try clear hcz15_13
                try clear hcz15_14
                try clear hcz15_15
                try clear hcz15_2
                try clear hcz15_3
                try clear hcz15_4
                try clear hcz15_5
                try clear hcz15_6
                try clear hcz15_7
                try clear hcz15_8
                try clear hcz15_9
                try clear hcz17_0
                try clear hcz17_1
                try clear hcz17_10
                try clear hcz17_11
                try clear hcz17_12
                try clear hcz17_13
                try clear hcz17_14
                try clear hcz17_15
                try clear hcz17_2
                try clear hcz17_3
                try clear hcz17_4
                try clear hcz17_5
                try clear hcz17_6
                try clear hcz17_7
                try clear hcz17_8
                try clear hcz17_9
                try clear hcz19_0
                try clear hcz19_1
                try clear hcz19_10
                try clear hcz19_11
                try clear hcz19_12
                try clear hcz19_13
                try clear hcz19_14
                try clear hcz19_15
                try clear hcz19_2
                try clear hcz19_3
                try clear hcz19_4
                try clear hcz19_5
                try clear hcz19_6
                try clear hcz19_7
                try clear hcz19_8
                try clear hcz19_9
                try clear hcz20_0
                try clear hcz20_1
                try clear hcz20_10
                try clear hcz20_11
                try clear hcz20_12
                try clear hcz20_13
                try clear hcz20_14
                try clear hcz20_15
                try clear hcz20_2
                try clear hcz20_3
                try clear hcz20_4
                try clear hcz20_5
                try clear hcz20_6
                try clear hcz20_7
                try clear hcz20_8
                try clear hcz20_9
                try clear hcz25_0
                try clear hcz25_1
                try clear hcz25_10
                try clear hcz25_11
                try clear hcz25_12
                try clear hcz25_13
                try clear hcz25_14
                try clear hcz25_15
                try clear hcz25_2
                try clear hcz25_3
                try clear hcz25_4
                try clear hcz25_5
                try clear hcz25_6
                try clear hcz25_7
                try clear hcz25_8
                try clear hcz25_9
                try clear hcz26_0
                try clear hcz26_1
                try clear hcz26_10
                try clear hcz26_11
                try clear hcz26_12
                try clear hcz26_13
                try clear hcz26_14
                try clear hcz26_15
                try clear hcz26_2
                try clear hcz26_3
                try clear hcz26_4
                try clear hcz26_5
                try clear hcz26_6
                try clear hcz26_7
                try clear hcz26_8
                try clear hcz26_9
                try clear hcz27_0
                try clear hcz27_1
                try clear hcz27_10
                try clear hcz27_11
                try clear hcz27_12
                try clear hcz27_13
                try clear hcz27_14
                try clear hcz27_15
                try clear hcz27_2
                try clear hcz27_3
                try clear hcz27_4
                try clear hcz27_5
                try clear hcz27_6
                try clear hcz27_7
                try clear hcz27_8
                try clear hcz27_9
                try clear hcz5_0
                try clear hcz5_1
                try clear hcz5_10
                try clear hcz5_11
                try clear hcz5_12
                try clear hcz5_13
                try clear hcz5_14
                try clear hcz5_15
                try clear hcz5_2
                try clear hcz5_3
                try clear hcz5_4
                try clear hcz5_5
                try clear hcz5_6
                try clear hcz5_7
                try clear hcz5_8
                try clear hcz5_9
                try clear hcz7_0
                try clear hcz7_1
                try clear hcz7_10
                try clear hcz7_11
                try clear hcz7_12
                try clear hcz7_13
                try clear hcz7_14
                try clear hcz7_15
                try clear hcz7_2
                try clear hcz7_3
                try clear hcz7_4
                try clear hcz7_5
                try clear hcz7_6
                try clear hcz7_7
                try clear hcz7_8
                try clear hcz7_9
                try clear hcz9_0
                try clear hcz9_1
                try clear hcz9_10
                try clear hcz9_11
                try clear hcz9_12
                try clear hcz9_13
                try clear hcz9_14
                try clear hcz9_15
                try clear hcz9_2
                try clear hcz9_3
                try clear hcz9_4
                try clear hcz9_5
                try clear hcz9_6
                try clear hcz9_7
                try clear hcz9_8
                try clear hcz9_9
                try clear hfz11_0
                try clear hfz11_1
                try clear hfz11_10
                try clear hfz11_11
                try clear hfz11_12
                try clear hfz11_13
                try clear hfz11_14
                try clear hfz11_15
                try clear hfz11_2
                try clear hfz11_3
                try clear hfz11_4
                try clear hfz11_5
                try clear hfz11_6
                try clear hfz11_7
                try clear hfz11_8
                try clear hfz11_9
                try clear hfz13_0
                try clear hfz13_1
                try clear hfz13_10
                try clear hfz13_11
                try clear hfz13_12
                try clear hfz13_13
                try clear hfz13_14
                try clear hfz13_15
                try clear hfz13_2
                try clear hfz13_3
                try clear hfz13_4
                try clear hfz13_5
                try clear hfz13_6
                try clear hfz13_7
                try clear hfz13_8
                try clear hfz13_9
                try clear hfz15_0
                try clear hfz15_1
                try clear hfz15_10
                try clear hfz15_11
                try clear hfz15_12
                try clear hfz15_13
                try clear hfz15_14
                try clear hfz15_15
                try clear hfz15_2
                try clear hfz15_3
                try clear hfz15_4
                try clear hfz15_5
                try clear hfz15_6
                try clear hfz15_7
                try clear hfz15_8
                try clear hfz15_9
                try clear hfz17_0
                try clear hfz17_1
                try clear hfz17_10
                try clear hfz17_11
                try clear hfz17_12
                try clear hfz17_13
                try clear hfz17_14
                try clear hfz17_15
                try clear hfz17_2
                try clear hfz17_3
                try clear hfz17_4
                try clear hfz17_5
                try clear hfz17_6
                try clear hfz17_7
                try clear hfz17_8
                try clear hfz17_9
                try clear hfz19_0
                try clear hfz19_1
                try clear hfz19_10
                try clear hfz19_11
                try clear hfz19_12
                try clear hfz19_13
                try clear hfz19_14
                try clear hfz19_15
                try clear hfz19_2
                try clear hfz19_3
                try clear hfz19_4
                try clear hfz19_5
                try clear hfz19_6
                try clear hfz19_7
                try clear hfz19_8
                try clear hfz19_9
                try clear hfz20_0
                try clear hfz20_1
                try clear hfz20_10
                try clear hfz20_11
                try clear hfz20_12
                try clear hfz20_13
                try clear hfz20_14
                try clear hfz20_15
                try clear hfz20_2
                try clear hfz20_3
                try clear hfz20_4
                try clear hfz20_5
                try clear hfz20_6
                try clear hfz20_7
                try clear hfz20_8
                try clear hfz20_9
                try clear hfz25_0
                try clear hfz25_1
                try clear hfz25_10
                try clear hfz25_11
                try clear hfz25_12
                try clear hfz25_13
                try clear hfz25_14
                try clear hfz25_15
                try clear hfz25_2
                try clear hfz25_3
                try clear hfz25_4
                try clear hfz25_5
                try clear hfz25_6
                try clear hfz25_7
                try clear hfz25_8
                try clear hfz25_9
                try clear hfz26_0
                try clear hfz26_1
                try clear hfz26_10
                try clear hfz26_11
                try clear hfz26_12
                try clear hfz26_13
                try clear hfz26_14
                try clear hfz26_15
                try clear hfz26_2
                try clear hfz26_3
                try clear hfz26_4
                try clear hfz26_5
                try clear hfz26_6
                try clear hfz26_7
                try clear hfz26_8
                try clear hfz26_9
                try clear hfz27_0
                try clear hfz27_1
                try clear hfz27_10
                try clear hfz27_11
                try clear hfz27_12
                try clear hfz27_13
                try clear hfz27_14
                try clear hfz27_15
                try clear hfz27_2
                try clear hfz27_3
                try clear hfz27_4
                try clear hfz27_5
                try clear hfz27_6
                try clear hfz27_7
                try clear hfz27_8
                try clear hfz27_9
                try clear hfz5_0
                try clear hfz5_1
                try clear hfz5_10
                try clear hfz5_11
                try clear hfz5_12
                try clear hfz5_13
                try clear hfz5_14
                try clear hfz5_15
                try clear hfz5_2
                try clear hfz5_3
                try clear hfz5_4
                try clear hfz5_5
                try clear hfz5_6
                try clear hfz5_7
                try clear hfz5_8
                try clear hfz5_9
                try clear hfz7_0
                try clear hfz7_1
                try clear hfz7_10
                try clear hfz7_11
                try clear hfz7_12
                try clear hfz7_13
                try clear hfz7_14
                try clear hfz7_15
                try clear hfz7_2
                try clear hfz7_3
                try clear hfz7_4
                try clear hfz7_5
                try clear hfz7_6
                try clear hfz7_7
                try clear hfz7_8
                try clear hfz7_9
                try clear hfz9_0
                try clear hfz9_1
                try clear hfz9_10
                try clear hfz9_11
                try clear hfz9_12
                try clear hfz9_13
                try clear hfz9_14
                try clear hfz9_15
                try clear hfz9_2
                try clear hfz9_3
                try clear hfz9_4
                try clear hfz9_5
                try clear hfz9_6
                try clear hfz9_7
                try clear hfz9_8
                try clear hfz9_9
                try clear hx114_0
                try clear p114
                try clear p2
                try clear q114
                obtain ⟨x4_3, rfl, HA, HK3, BK113, HB⟩ := hrel
                cases gk with
                | zero => exact absurd HA.out (by simp [joistref00_LongRequest.l1])
                | succ k3 =>
                  have H := HA.out
                  clear HA
                  simp only [joistref00_LongRequest.l1] at H
                  by_cases c28 : x4_3 < (l0_3.length : Int)
                  · rw [if_pos c28] at H
                    have c28b0 : decide (x4_3 < (l0_3.length : Int)) = true := decide_eq_true c28
                    clear c28
                    by_cases c29 : 0 ≤ x4_3
                    · rw [if_pos c29] at H
                      have c29b0 : decide (0 ≤ x4_3) = true := decide_eq_true c29
                      clear c29
                      by_cases c30 : (((rd_T65 l0_3 x4_3).f1).size : Int) > 100
                      · rw [if_pos c30] at H
                        have c30b0 : decide (100 < (((rd_T65 l0_3 x4_3).f1).size : Int)) = true := decide_eq_true c30
                        have c30b1 : decide (100 < ((rd_T65 l0_3 x4_3).f1).size) = true := decide_eq_true (by omega)
                        clear c30
                        obtain rfl := Option.some.inj H
                        have hcz31_0 : wr.cell? ⟨gb113, 0, none⟩ = some (.int .i64 a0_0) := (blk_cell BK113.out 0).trans rfl
                        have hcz31_1 : wr.cell? ⟨gb113, 1, none⟩ = some (.string a0_1) := (blk_cell BK113.out 1).trans rfl
                        have hcz31_2 : wr.cell? ⟨gb113, 2, none⟩ = some (.string a0_2) := (blk_cell BK113.out 2).trans rfl
                        have hcz31_3 : wr.cell? ⟨gb113, 3, none⟩ = some (.slice A0_3 l0_3.length c0_3) := (blk_cell BK113.out 3).trans rfl
                        have hcz31_4 : wr.cell? ⟨gb113, 4, none⟩ = some (.string a0_4) := (blk_cell BK113.out 4).trans rfl
                        have hcz31_5 : wr.cell? ⟨gb113, 5, none⟩ = some (.string a0_5) := (blk_cell BK113.out 5).trans rfl
                        have hcz31_6 : wr.cell? ⟨gb113, 6, none⟩ = some (.int .i64 a0_6) := (blk_cell BK113.out 6).trans rfl
                        have hcz31_7 : wr.cell? ⟨gb113, 7, none⟩ = some (.int .i64 a0_7) := (blk_cell BK113.out 7).trans rfl
                        have hcz31_8 : wr.cell? ⟨gb113, 8, none⟩ = some (.string a0_8) := (blk_cell BK113.out 8).trans rfl
                        have hcz31_9 : wr.cell? ⟨gb113, 9, none⟩ = some (.slice A0_9 l0_9.length c0_9) := (blk_cell BK113.out 9).trans rfl
                        have hcz31_10 : wr.cell? ⟨gb113, 10, none⟩ = some (.string a0_10) := (blk_cell BK113.out 10).trans rfl
                        have hcz31_11 : wr.cell? ⟨gb113, 11, none⟩ = some (.string a0_11) := (blk_cell BK113.out 11).trans rfl
                        have hcz31_12 : wr.cell? ⟨gb113, 12, none⟩ = some (.int .i64 a0_12) := (blk_cell BK113.out 12).trans rfl
                        have hcz31_13 : wr.cell? ⟨gb113, 13, none⟩ = some (.int .i64 a0_13) := (blk_cell BK113.out 13).trans rfl
                        have hcz31_14 : wr.cell? ⟨gb113, 14, none⟩ = some (.int .i64 a0_14) := (blk_cell BK113.out 14).trans rfl
                        have hcz31_15 : wr.cell? ⟨gb113, 15, none⟩ = some (.int .i64 a0_15) := (blk_cell BK113.out 15).trans rfl
                        have hfz31_0 := blk_frozen BK113.out 0
                        have hfz31_1 := blk_frozen BK113.out 1
                        have hfz31_2 := blk_frozen BK113.out 2
                        have hfz31_3 := blk_frozen BK113.out 3
                        have hfz31_4 := blk_frozen BK113.out 4
                        have hfz31_5 := blk_frozen BK113.out 5
                        have hfz31_6 := blk_frozen BK113.out 6
                        have hfz31_7 := blk_frozen BK113.out 7
                        have hfz31_8 := blk_frozen BK113.out 8
                        have hfz31_9 := blk_frozen BK113.out 9
                        have hfz31_10 := blk_frozen BK113.out 10
                        have hfz31_11 := blk_frozen BK113.out 11
                        have hfz31_12 := blk_frozen BK113.out 12
                        have hfz31_13 := blk_frozen BK113.out 13
                        have hfz31_14 := blk_frozen BK113.out 14
                        have hfz31_15 := blk_frozen BK113.out 15
                        have p115 : 0 ≤ (x4_3 : Int) := of_decide_eq_true (by first | (with_reducible assumption) | assumption)
                        have q115 : x4_3 < (l0_3.length : Int) := of_decide_eq_true (by first | (with_reducible assumption) | assumption)
                        obtain ⟨ad115, e115, hx115_0, hx115_1, hx115_2, hx115_3, hx115_4, hx115_5⟩ := at_T65 HR0_3.out x4_3 p115 q115
                        cases e115
                        replace hx115_0 := (HB.out.cell (World.block_lt_of_cell? w _ hx115_0)).trans hx115_0
                        replace hx115_1 := (HB.out.cell (World.block_lt_of_cell? w _ hx115_1)).trans hx115_1
                        replace hx115_2 := (HB.out.cell (World.block_lt_of_cell? w _ hx115_2)).trans hx115_2
                        replace hx115_3 := (HB.out.cell (World.block_lt_of_cell? w _ hx115_3)).trans hx115_3
                        replace hx115_4 := (HB.out.cell (World.block_lt_of_cell? w _ hx115_4)).trans hx115_4
                        replace hx115_5 := (HB.out.cell (World.block_lt_of_cell? w _ hx115_5)).trans hx115_5
                        replace p115 := eq_true p115
                        replace q115 := eq_true q115
                        go_wp2
                        go_ret
                        exact ⟨by first | rfl | (simp [errW_none, errW_some] <;> rfl) | (simp [*, errW_none, errW_some] <;> rfl), by repeat (first | (with_reducible first | exact HB.out | apply below_alloc | apply pw_below_drewN | apply below_drew1 | refine below_set ?_ GE113.out) | exact HB.out)⟩
                      · rw [if_neg c30] at H
                        have c30b0 : decide (100 < (((rd_T65 l0_3 x4_3).f1).size : Int)) = false := decide_eq_false c30
                        have c30b1 : decide (100 < ((rd_T65 l0_3 x4_3).f1).size) = false := decide_eq_false (by omega)
                        clear c30
                        by_cases c32 : (((rd_T65 l0_3 x4_3).f2).size : Int) > 100
                        · rw [if_pos c32] at H
                          have c32b0 : decide (100 < (((rd_T65 l0_3 x4_3).f2).size : Int)) = true := decide_eq_true c32
                          have c32b1 : decide (100 < ((rd_T65 l0_3 x4_3).f2).size) = true := decide_eq_true (by omega)
                          clear c32
                          obtain rfl := Option.some.inj H
                          have hcz33_0 : wr.cell? ⟨gb113, 0, none⟩ = some (.int .i64 a0_0) := (blk_cell BK113.out 0).trans rfl
                          have hcz33_1 : wr.cell? ⟨gb113, 1, none⟩ = some (.string a0_1) := (blk_cell BK113.out 1).trans rfl
                          have hcz33_2 : wr.cell? ⟨gb113, 2, none⟩ = some (.string a0_2) := (blk_cell BK113.out 2).trans rfl
                          have hcz33_3 : wr.cell? ⟨gb113, 3, none⟩ = some (.slice A0_3 l0_3.length c0_3) := (blk_cell BK113.out 3).trans rfl
                          have hcz33_4 : wr.cell? ⟨gb113, 4, none⟩ = some (.string a0_4) := (blk_cell BK113.out 4).trans rfl
                          have hcz33_5 : wr.cell? ⟨gb113, 5, none⟩ = some (.string a0_5) := (blk_cell BK113.out 5).trans rfl
                          have hcz33_6 : wr.cell? ⟨gb113, 6, none⟩ = some (.int .i64 a0_6) := (blk_cell BK113.out 6).trans rfl
                          have hcz33_7 : wr.cell? ⟨gb113, 7, none⟩ = some (.int .i64 a0_7) := (blk_cell BK113.out 7).trans rfl
                          have hcz33_8 : wr.cell? ⟨gb113, 8, none⟩ = some (.string a0_8) := (blk_cell BK113.out 8).trans rfl
                          have hcz33_9 : wr.cell? ⟨gb113, 9, none⟩ = some (.slice A0_9 l0_9.length c0_9) := (blk_cell BK113.out 9).trans rfl
                          have hcz33_10 : wr.cell? ⟨gb113, 10, none⟩ = some (.string a0_10) := (blk_cell BK113.out 10).trans rfl
                          have hcz33_11 : wr.cell? ⟨gb113, 11, none⟩ = some (.string a0_11) := (blk_cell BK113.out 11).trans rfl
                          have hcz33_12 : wr.cell? ⟨gb113, 12, none⟩ = some (.int .i64 a0_12) := (blk_cell BK113.out 12).trans rfl
                          have hcz33_13 : wr.cell? ⟨gb113, 13, none⟩ = some (.int .i64 a0_13) := (blk_cell BK113.out 13).trans rfl
                          have hcz33_14 : wr.cell? ⟨gb113, 14, none⟩ = some (.int .i64 a0_14) := (blk_cell BK113.out 14).trans rfl
                          have hcz33_15 : wr.cell? ⟨gb113, 15, none⟩ = some (.int .i64 a0_15) := (blk_cell BK113.out 15).trans rfl
                          have hfz33_0 := blk_frozen BK113.out 0
                          have hfz33_1 := blk_frozen BK113.out 1
                          have hfz33_2 := blk_frozen BK113.out 2
                          have hfz33_3 := blk_frozen BK113.out 3
                          have hfz33_4 := blk_frozen BK113.out 4
                          have hfz33_5 := blk_frozen BK113.out 5
                          have hfz33_6 := blk_frozen BK113.out 6
                          have hfz33_7 := blk_frozen BK113.out 7
                          have hfz33_8 := blk_frozen BK113.out 8
                          have hfz33_9 := blk_frozen BK113.out 9
                          have hfz33_10 := blk_frozen BK113.out 10
                          have hfz33_11 := blk_frozen BK113.out 11
                          have hfz33_12 := blk_frozen BK113.out 12
                          have hfz33_13 := blk_frozen BK113.out 13
                          have hfz33_14 := blk_frozen BK113.out 14
                          have hfz33_15 := blk_frozen BK113.out 15
                          have p115 : 0 ≤ (x4_3 : Int) := of_decide_eq_true (by first | (with_reducible assumption) | assumption)
                          have q115 : x4_3 < (l0_3.length : Int) := of_decide_eq_true (by first | (with_reducible assumption) | assumption)
                          obtain ⟨ad115, e115, hx115_0, hx115_1, hx115_2, hx115_3, hx115_4, hx115_5⟩ := at_T65 HR0_3.out x4_3 p115 q115
                          cases e115
                          replace hx115_0 := (HB.out.cell (World.block_lt_of_cell? w _ hx115_0)).trans hx115_0
                          replace hx115_1 := (HB.out.cell (World.block_lt_of_cell? w _ hx115_1)).trans hx115_1
                          replace hx115_2 := (HB.out.cell (World.block_lt_of_cell? w _ hx115_2)).trans hx115_2
                          replace hx115_3 := (HB.out.cell (World.block_lt_of_cell? w _ hx115_3)).trans hx115_3
                          replace hx115_4 := (HB.out.cell (World.block_lt_of_cell? w _ hx115_4)).trans hx115_4
                          replace hx115_5 := (HB.out.cell (World.block_lt_of_cell? w _ hx115_5)).trans hx115_5
                          replace p115 := eq_true p115
                          replace q115 := eq_true q115
                          have p116 : 0 ≤ (x4_3 : Int) := of_decide_eq_true (by first | (with_reducible assumption) | assumption)
                          have q116 : x4_3 < (l0_3.length : Int) := of_decide_eq_true (by first | (with_reducible assumption) | assumption)
                          obtain ⟨ad116, e116, hx116_0, hx116_1, hx116_2, hx116_3, hx116_4, hx116_5⟩ := at_T65 HR0_3.out x4_3 p116 q116
                          obtain rfl : ad115 = ad116 := (by injection e116)
                          replace hx116_0 := (HB.out.cell (World.block_lt_of_cell? w _ hx116_0)).trans hx116_0
                          replace hx116_1 := (HB.out.cell (World.block_lt_of_cell? w _ hx116_1)).trans hx116_1
                          replace hx116_2 := (HB.out.cell (World.block_lt_of_cell? w _ hx116_2)).trans hx116_2
                          replace hx116_3 := (HB.out.cell (World.block_lt_of_cell? w _ hx116_3)).trans hx116_3
                          replace hx116_4 := (HB.out.cell (World.block_lt_of_cell? w _ hx116_4)).trans hx116_4
                          replace hx116_5 := (HB.out.cell (World.block_lt_of_cell? w _ hx116_5)).trans hx116_5
                          replace p116 := eq_true p116
                          replace q116 := eq_true q116
                          go_wp2
                          go_ret
                          exact ⟨by first | rfl | (simp [errW_none, errW_some] <;> rfl) | (simp [*, errW_none, errW_some] <;> rfl), by repeat (first | (with_reducible first | exact HB.out | apply below_alloc | apply pw_below_drewN | apply below_drew1 | refine below_set ?_ GE113.out) | exact HB.out)⟩
                        · rw [if_neg c32] at H
                          have c32b0 : decide (100 < (((rd_T65 l0_3 x4_3).f2).size : Int)) = false := decide_eq_false c32
                          have c32b1 : decide (100 < ((rd_T65 l0_3 x4_3).f2).size) = false := decide_eq_false (by omega)
                          clear c32
                          by_cases c34 : (((rd_T65 l0_3 x4_3).f3.f2).size : Int) > 100
                          · rw [if_pos c34] at H
                            have c34b0 : decide (100 < (((rd_T65 l0_3 x4_3).f3.f2).size : Int)) = true := decide_eq_true c34
                            have c34b1 : decide (100 < ((rd_T65 l0_3 x4_3).f3.f2).size) = true := decide_eq_true (by omega)
                            clear c34
                            obtain rfl := Option.some.inj H
                            have hcz35_0 : wr.cell? ⟨gb113, 0, none⟩ = some (.int .i64 a0_0) := (blk_cell BK113.out 0).trans rfl
                            have hcz35_1 : wr.cell? ⟨gb113, 1, none⟩ = some (.string a0_1) := (blk_cell BK113.out 1).trans rfl
                            have hcz35_2 : wr.cell? ⟨gb113, 2, none⟩ = some (.string a0_2) := (blk_cell BK113.out 2).trans rfl
                            have hcz35_3 : wr.cell? ⟨gb113, 3, none⟩ = some (.slice A0_3 l0_3.length c0_3) := (blk_cell BK113.out 3).trans rfl
                            have hcz35_4 : wr.cell? ⟨gb113, 4, none⟩ = some (.string a0_4) := (blk_cell BK113.out 4).trans rfl
                            have hcz35_5 : wr.cell? ⟨gb113, 5, none⟩ = some (.string a0_5) := (blk_cell BK113.out 5).trans rfl
                            have hcz35_6 : wr.cell? ⟨gb113, 6, none⟩ = some (.int .i64 a0_6) := (blk_cell BK113.out 6).trans rfl
                            have hcz35_7 : wr.cell? ⟨gb113, 7, none⟩ = some (.int .i64 a0_7) := (blk_cell BK113.out 7).trans rfl
                            have hcz35_8 : wr.cell? ⟨gb113, 8, none⟩ = some (.string a0_8) := (blk_cell BK113.out 8).trans rfl
                            have hcz35_9 : wr.cell? ⟨gb113, 9, none⟩ = some (.slice A0_9 l0_9.length c0_9) := (blk_cell BK113.out 9).trans rfl
                            have hcz35_10 : wr.cell? ⟨gb113, 10, none⟩ = some (.string a0_10) := (blk_cell BK113.out 10).trans rfl
                            have hcz35_11 : wr.cell? ⟨gb113, 11, none⟩ = some (.string a0_11) := (blk_cell BK113.out 11).trans rfl
                            have hcz35_12 : wr.cell? ⟨gb113, 12, none⟩ = some (.int .i64 a0_12) := (blk_cell BK113.out 12).trans rfl
                            have hcz35_13 : wr.cell? ⟨gb113, 13, none⟩ = some (.int .i64 a0_13) := (blk_cell BK113.out 13).trans rfl
                            have hcz35_14 : wr.cell? ⟨gb113, 14, none⟩ = some (.int .i64 a0_14) := (blk_cell BK113.out 14).trans rfl
                            have hcz35_15 : wr.cell? ⟨gb113, 15, none⟩ = some (.int .i64 a0_15) := (blk_cell BK113.out 15).trans rfl
                            have hfz35_0 := blk_frozen BK113.out 0
                            have hfz35_1 := blk_frozen BK113.out 1
                            have hfz35_2 := blk_frozen BK113.out 2
                            have hfz35_3 := blk_frozen BK113.out 3
                            have hfz35_4 := blk_frozen BK113.out 4
                            have hfz35_5 := blk_frozen BK113.out 5
                            have hfz35_6 := blk_frozen BK113.out 6
                            have hfz35_7 := blk_frozen BK113.out 7
                            have hfz35_8 := blk_frozen BK113.out 8
                            have hfz35_9 := blk_frozen BK113.out 9
                            have hfz35_10 := blk_frozen BK113.out 10
                            have hfz35_11 := blk_frozen BK113.out 11
                            have hfz35_12 := blk_frozen BK113.out 12
                            have hfz35_13 := blk_frozen BK113.out 13
                            have hfz35_14 := blk_frozen BK113.out 14
                            have hfz35_15 := blk_frozen BK113.out 15
                            have p115 : 0 ≤ (x4_3 : Int) := of_decide_eq_true (by first | (with_reducible assumption) | assumption)
                            have q115 : x4_3 < (l0_3.length : Int) := of_decide_eq_true (by first | (with_reducible assumption) | assumption)
                            obtain ⟨ad115, e115, hx115_0, hx115_1, hx115_2, hx115_3, hx115_4, hx115_5⟩ := at_T65 HR0_3.out x4_3 p115 q115
                            cases e115
                            replace hx115_0 := (HB.out.cell (World.block_lt_of_cell? w _ hx115_0)).trans hx115_0
                            replace hx115_1 := (HB.out.cell (World.block_lt_of_cell? w _ hx115_1)).trans hx115_1
                            replace hx115_2 := (HB.out.cell (World.block_lt_of_cell? w _ hx115_2)).trans hx115_2
                            replace hx115_3 := (HB.out.cell (World.block_lt_of_cell? w _ hx115_3)).trans hx115_3
                            replace hx115_4 := (HB.out.cell (World.block_lt_of_cell? w _ hx115_4)).trans hx115_4
                            replace hx115_5 := (HB.out.cell (World.block_lt_of_cell? w _ hx115_5)).trans hx115_5
                            replace p115 := eq_true p115
                            replace q115 := eq_true q115
                            have p116 : 0 ≤ (x4_3 : Int) := of_decide_eq_true (by first | (with_reducible assumption) | assumption)
                            have q116 : x4_3 < (l0_3.length : Int) := of_decide_eq_true (by first | (with_reducible assumption) | assumption)
                            obtain ⟨ad116, e116, hx116_0, hx116_1, hx116_2, hx116_3, hx116_4, hx116_5⟩ := at_T65 HR0_3.out x4_3 p116 q116
                            obtain rfl : ad115 = ad116 := (by injection e116)
                            replace hx116_0 := (HB.out.cell (World.block_lt_of_cell? w _ hx116_0)).trans hx116_0
                            replace hx116_1 := (HB.out.cell (World.block_lt_of_cell? w _ hx116_1)).trans hx116_1
                            replace hx116_2 := (HB.out.cell (World.block_lt_of_cell? w _ hx116_2)).trans hx116_2
                            replace hx116_3 := (HB.out.cell (World.block_lt_of_cell? w _ hx116_3)).trans hx116_3
                            replace hx116_4 := (HB.out.cell (World.block_lt_of_cell? w _ hx116_4)).trans hx116_4
                            replace hx116_5 := (HB.out.cell (World.block_lt_of_cell? w _ hx116_5)).trans hx116_5
                            replace p116 := eq_true p116
                            replace q116 := eq_true q116
                            have p117 : 0 ≤ (x4_3 : Int) := of_decide_eq_true (by first | (with_reducible assumption) | assumption)
                            have q117 : x4_3 < (l0_3.length : Int) := of_decide_eq_true (by first | (with_reducible assumption) | assumption)
                            obtain ⟨ad117, e117, hx117_0, hx117_1, hx117_2, hx117_3, hx117_4, hx117_5⟩ := at_T65 HR0_3.out x4_3 p117 q117
                            obtain rfl : ad115 = ad117 := (by injection e117)
                            replace hx117_0 := (HB.out.cell (World.block_lt_of_cell? w _ hx117_0)).trans hx117_0
                            replace hx117_1 := (HB.out.cell (World.block_lt_of_cell? w _ hx117_1)).trans hx117_1
                            replace hx117_2 := (HB.out.cell (World.block_lt_of_cell? w _ hx117_2)).trans hx117_2
                            replace hx117_3 := (HB.out.cell (World.block_lt_of_cell? w _ hx117_3)).trans hx117_3
                            replace hx117_4 := (HB.out.cell (World.block_lt_of_cell? w _ hx117_4)).trans hx117_4
                            replace hx117_5 := (HB.out.cell (World.block_lt_of_cell? w _ hx117_5)).trans hx117_5
                            replace p117 := eq_true p117
                            replace q117 := eq_true q117
                            go_wp2
                            go_ret
                            exact ⟨by first | rfl | (simp [errW_none, errW_some] <;> rfl) | (simp [*, errW_none, errW_some] <;> rfl), by repeat (first | (with_reducible first | exact HB.out | apply below_alloc | apply pw_below_drewN | apply below_drew1 | refine below_set ?_ GE113.out) | exact HB.out)⟩
                          · rw [if_neg c34] at H
                            have c34b0 : decide (100 < (((rd_T65 l0_3 x4_3).f3.f2).size : Int)) = false := decide_eq_false c34
                            have c34b1 : decide (100 < ((rd_T65 l0_3 x4_3).f3.f2).size) = false := decide_eq_false (by omega)
                            clear c34
                            have H' := Aside0.mk H
                            clear H
                            have hcz36_0 : wr.cell? ⟨gb113, 0, none⟩ = some (.int .i64 a0_0) := (blk_cell BK113.out 0).trans rfl
                            have hcz36_1 : wr.cell? ⟨gb113, 1, none⟩ = some (.string a0_1) := (blk_cell BK113.out 1).trans rfl
                            have hcz36_2 : wr.cell? ⟨gb113, 2, none⟩ = some (.string a0_2) := (blk_cell BK113.out 2).trans rfl
                            have hcz36_3 : wr.cell? ⟨gb113, 3, none⟩ = some (.slice A0_3 l0_3.length c0_3) := (blk_cell BK113.out 3).trans rfl
                            have hcz36_4 : wr.cell? ⟨gb113, 4, none⟩ = some (.string a0_4) := (blk_cell BK113.out 4).trans rfl
                            have hcz36_5 : wr.cell? ⟨gb113, 5, none⟩ = some (.string a0_5) := (blk_cell BK113.out 5).trans rfl
                            have hcz36_6 : wr.cell? ⟨gb113, 6, none⟩ = some (.int .i64 a0_6) := (blk_cell BK113.out 6).trans rfl
                            have hcz36_7 : wr.cell? ⟨gb113, 7, none⟩ = some (.int .i64 a0_7) := (blk_cell BK113.out 7).trans rfl
                            have hcz36_8 : wr.cell? ⟨gb113, 8, none⟩ = some (.string a0_8) := (blk_cell BK113.out 8).trans rfl
                            have hcz36_9 : wr.cell? ⟨gb113, 9, none⟩ = some (.slice A0_9 l0_9.length c0_9) := (blk_cell BK113.out 9).trans rfl
                            have hcz36_10 : wr.cell? ⟨gb113, 10, none⟩ = some (.string a0_10) := (blk_cell BK113.out 10).trans rfl
                            have hcz36_11 : wr.cell? ⟨gb113, 11, none⟩ = some (.string a0_11) := (blk_cell BK113.out 11).trans rfl
                            have hcz36_12 : wr.cell? ⟨gb113, 12, none⟩ = some (.int .i64 a0_12) := (blk_cell BK113.out 12).trans rfl
                            have hcz36_13 : wr.cell? ⟨gb113, 13, none⟩ = some (.int .i64 a0_13) := (blk_cell BK113.out 13).trans rfl
                            have hcz36_14 : wr.cell? ⟨gb113, 14, none⟩ = some (.int .i64 a0_14) := (blk_cell BK113.out 14).trans rfl
                            have hcz36_15 : wr.cell? ⟨gb113, 15, none⟩ = some (.int .i64 a0_15) := (blk_cell BK113.out 15).trans rfl
                            have hfz36_0 := blk_frozen BK113.out 0
                            have hfz36_1 := blk_frozen BK113.out 1
                            have hfz36_2 := blk_frozen BK113.out 2
                            have hfz36_3 := blk_frozen BK113.out 3
                            have hfz36_4 := blk_frozen BK113.out 4
                            have hfz36_5 := blk_frozen BK113.out 5
                            have hfz36_6 := blk_frozen BK113.out 6
                            have hfz36_7 := blk_frozen BK113.out 7
                            have hfz36_8 := blk_frozen BK113.out 8
                            have hfz36_9 := blk_frozen BK113.out 9
                            have hfz36_10 := blk_frozen BK113.out 10
                            have hfz36_11 := blk_frozen BK113.out 11
                            have hfz36_12 := blk_frozen BK113.out 12
                            have hfz36_13 := blk_frozen BK113.out 13
                            have hfz36_14 := blk_frozen BK113.out 14
                            have hfz36_15 := blk_frozen BK113.out 15
                            have p115 : 0 ≤ (x4_3 : Int) := of_decide_eq_true (by first | (with_reducible assumption) | assumption)
                            have q115 : x4_3 < (l0_3.length : Int) := of_decide_eq_true (by first | (with_reducible assumption) | assumption)
                            obtain ⟨ad115, e115, hx115_0, hx115_1, hx115_2, hx115_3, hx115_4, hx115_5⟩ := at_T65 HR0_3.out x4_3 p115 q115
                            cases e115
                            replace hx115_0 := (HB.out.cell (World.block_lt_of_cell? w _ hx115_0)).trans hx115_0
                            replace hx115_1 := (HB.out.cell (World.block_lt_of_cell? w _ hx115_1)).trans hx115_1
                            replace hx115_2 := (HB.out.cell (World.block_lt_of_cell? w _ hx115_2)).trans hx115_2
                            replace hx115_3 := (HB.out.cell (World.block_lt_of_cell? w _ hx115_3)).trans hx115_3
                            replace hx115_4 := (HB.out.cell (World.block_lt_of_cell? w _ hx115_4)).trans hx115_4
                            replace hx115_5 := (HB.out.cell (World.block_lt_of_cell? w _ hx115_5)).trans hx115_5
                            replace p115 := eq_true p115
                            replace q115 := eq_true q115
                            have p116 : 0 ≤ (x4_3 : Int) := of_decide_eq_true (by first | (with_reducible assumption) | assumption)
                            have q116 : x4_3 < (l0_3.length : Int) := of_decide_eq_true (by first | (with_reducible assumption) | assumption)
                            obtain ⟨ad116, e116, hx116_0, hx116_1, hx116_2, hx116_3, hx116_4, hx116_5⟩ := at_T65 HR0_3.out x4_3 p116 q116
                            obtain rfl : ad115 = ad116 := (by injection e116)
                            replace hx116_0 := (HB.out.cell (World.block_lt_of_cell? w _ hx116_0)).trans hx116_0
                            replace hx116_1 := (HB.out.cell (World.block_lt_of_cell? w _ hx116_1)).trans hx116_1
                            replace hx116_2 := (HB.out.cell (World.block_lt_of_cell? w _ hx116_2)).trans hx116_2
                            replace hx116_3 := (HB.out.cell (World.block_lt_of_cell? w _ hx116_3)).trans hx116_3
                            replace hx116_4 := (HB.out.cell (World.block_lt_of_cell? w _ hx116_4)).trans hx116_4
                            replace hx116_5 := (HB.out.cell (World.block_lt_of_cell? w _ hx116_5)).trans hx116_5
                            replace p116 := eq_true p116
                            replace q116 := eq_true q116
                            have p117 : 0 ≤ (x4_3 : Int) := of_decide_eq_true (by first | (with_reducible assumption) | assumption)
                            have q117 : x4_3 < (l0_3.length : Int) := of_decide_eq_true (by first | (with_reducible assumption) | assumption)
                            obtain ⟨ad117, e117, hx117_0, hx117_1, hx117_2, hx117_3, hx117_4, hx117_5⟩ := at_T65 HR0_3.out x4_3 p117 q117
                            obtain rfl : ad115 = ad117 := (by injection e117)
                            replace hx117_0 := (HB.out.cell (World.block_lt_of_cell? w _ hx117_0)).trans hx117_0
                            replace hx117_1 := (HB.out.cell (World.block_lt_of_cell? w _ hx117_1)).trans hx117_1
                            replace hx117_2 := (HB.out.cell (World.block_lt_of_cell? w _ hx117_2)).trans hx117_2
                            replace hx117_3 := (HB.out.cell (World.block_lt_of_cell? w _ hx117_3)).trans hx117_3
                            replace hx117_4 := (HB.out.cell (World.block_lt_of_cell? w _ hx117_4)).trans hx117_4
                            replace hx117_5 := (HB.out.cell (World.block_lt_of_cell? w _ hx117_5)).trans hx117_5
                            replace p117 := eq_true p117
                            replace q117 := eq_true q117
                            go_wp2
                            go_roundg k3
                            case measure => have := HJ1.out; have := HK2.out; have := HK3.out; omega
                            case rel => exact ⟨(wrap64 (x4_3 + 1)), (by first | rfl | (simp; done) | (simp [*]; done)), H', ⟨by have := HJ1.out; have := HK2.out; have := HK3.out; omega⟩, ⟨by (with_reducible repeat (first | refine blk_drewN ?_ _ | refine blk_drew ?_ | refine blk_alloc ?_ _)); exact BK113.out⟩, ⟨by repeat (first | (with_reducible first | exact HB.out | apply below_alloc | apply pw_below_drewN | apply below_drew1 | refine below_set ?_ GE113.out) | exact HB.out)⟩⟩
                    · rw [if_neg c29] at H
                      exact absurd H (by simp)
                  · rw [if_neg c28] at H
                    have c28b0 : decide (x4_3 < (l0_3.length : Int)) = false := decide_eq_false c28
                    clear c28
                    obtain rfl := Option.some.inj H
                    have hcz37_0 : wr.cell? ⟨gb113, 0, none⟩ = some (.int .i64 a0_0) := (blk_cell BK113.out 0).trans rfl
                    have hcz37_1 : wr.cell? ⟨gb113, 1, none⟩ = some (.string a0_1) := (blk_cell BK113.out 1).trans rfl
                    have hcz37_2 : wr.cell? ⟨gb113, 2, none⟩ = some (.string a0_2) := (blk_cell BK113.out 2).trans rfl
                    have hcz37_3 : wr.cell? ⟨gb113, 3, none⟩ = some (.slice A0_3 l0_3.length c0_3) := (blk_cell BK113.out 3).trans rfl
                    have hcz37_4 : wr.cell? ⟨gb113, 4, none⟩ = some (.string a0_4) := (blk_cell BK113.out 4).trans rfl
                    have hcz37_5 : wr.cell? ⟨gb113, 5, none⟩ = some (.string a0_5) := (blk_cell BK113.out 5).trans rfl
                    have hcz37_6 : wr.cell? ⟨gb113, 6, none⟩ = some (.int .i64 a0_6) := (blk_cell BK113.out 6).trans rfl
                    have hcz37_7 : wr.cell? ⟨gb113, 7, none⟩ = some (.int .i64 a0_7) := (blk_cell BK113.out 7).trans rfl
                    have hcz37_8 : wr.cell? ⟨gb113, 8, none⟩ = some (.string a0_8) := (blk_cell BK113.out 8).trans rfl
                    have hcz37_9 : wr.cell? ⟨gb113, 9, none⟩ = some (.slice A0_9 l0_9.length c0_9) := (blk_cell BK113.out 9).trans rfl
                    have hcz37_10 : wr.cell? ⟨gb113, 10, none⟩ = some (.string a0_10) := (blk_cell BK113.out 10).trans rfl
                    have hcz37_11 : wr.cell? ⟨gb113, 11, none⟩ = some (.string a0_11) := (blk_cell BK113.out 11).trans rfl
                    have hcz37_12 : wr.cell? ⟨gb113, 12, none⟩ = some (.int .i64 a0_12) := (blk_cell BK113.out 12).trans rfl
                    have hcz37_13 : wr.cell? ⟨gb113, 13, none⟩ = some (.int .i64 a0_13) := (blk_cell BK113.out 13).trans rfl
                    have hcz37_14 : wr.cell? ⟨gb113, 14, none⟩ = some (.int .i64 a0_14) := (blk_cell BK113.out 14).trans rfl
                    have hcz37_15 : wr.cell? ⟨gb113, 15, none⟩ = some (.int .i64 a0_15) := (blk_cell BK113.out 15).trans rfl
                    have hfz37_0 := blk_frozen BK113.out 0
                    have hfz37_1 := blk_frozen BK113.out 1
                    have hfz37_2 := blk_frozen BK113.out 2
                    have hfz37_3 := blk_frozen BK113.out 3
                    have hfz37_4 := blk_frozen BK113.out 4
                    have hfz37_5 := blk_frozen BK113.out 5
                    have hfz37_6 := blk_frozen BK113.out 6
                    have hfz37_7 := blk_frozen BK113.out 7
                    have hfz37_8 := blk_frozen BK113.out 8
                    have hfz37_9 := blk_frozen BK113.out 9
                    have hfz37_10 := blk_frozen BK113.out 10
                    have hfz37_11 := blk_frozen BK113.out 11
                    have hfz37_12 := blk_frozen BK113.out 12
                    have hfz37_13 := blk_frozen BK113.out 13
                    have hfz37_14 := blk_frozen BK113.out 14
                    have hfz37_15 := blk_frozen BK113.out 15
                    go_wp2
                    go_ret
                    exact ⟨by first | rfl | (simp [errW_none, errW_some] <;> rfl) | (simp [*, errW_none, errW_some] <;> rfl), by repeat (first | (with_reducible first | exact HB.out | apply below_alloc | apply pw_below_drewN | apply below_drew1 | refine below_set ?_ GE113.out) | exact HB.out)⟩

end Go.Proofs.Ythbgjaboghnpjaa.Q
