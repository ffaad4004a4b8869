import Derived.Test.YthbgjaboghnpjaaQx0
import Derived.Test.YthbgjaboghnpjaaQx13
-- Written by a program of this session, out of Lean's print of the loaded program (a patched copy of the kit's print).
namespace Go.Proofs.Ythbgjaboghnpjaa.Q
open Go.RowKit Go.Proofs.YthbgjaboghnpjaaW.PrintWords Go.Proofs.YthbgjaboghnpjaaW.PrintLast Go.Proofs.YthbgjaboghnpjaaW.PrintMore
attribute [local go_sem] max2_int min2_int max_two min_two max_three min_three max_four min_four   -- for this text's walks alone
set_option linter.unusedVariables false
set_option linter.unusedSimpArgs false

/-! ### filter_Sieve_turn: function 37 -/
def filter_Sieve_turn.j0 : Nat → Bool → List ByteArray → ByteArray → ByteArray → Int → Int → Int → Int → ByteArray → ByteArray → ByteArray → Int → Int → Int → Int → ByteArray → Bool → Int → Int → Bool → ByteArray → ByteArray → ByteArray → Int → Int → Int → Int → ByteArray → Option (ByteArray × ByteArray × Int × Int × Int × Int × ByteArray × ByteArray × ByteArray × Int × Int × Int × Int × ByteArray × Bool × Int × Int × Bool)
  | 0, _, _, _, _, _, _, _, _, _, _, _, _, _, _, _, _, _, _, _, _, _, _, _, _, _, _, _, _ => none
  | k + 1, x17, x1000, x1001, x1002, x1003, x1004, x1005, x1006, x1007, x1008, x1009, x1010, x1011, x1012, x1013, x1014, x1015, x1016, x1017, x1018, x112000, x112001, x112002, x112003, x112004, x112005, x112006, x112007 => if x17 = true then (if x1018 = true then (if x112000.toList = x1007.toList then (if x112001.toList = x1008.toList then (if x112002.toList = x1009.toList then (some (x1001, x1002, x1003, x1004, x1005, x1006, x112000, x112001, x112002, x112003, x112004, x112005, x112006, x112007, true, x1016, wrap64 (x1017 + 1), false)) else (some (x1001, x1002, x1003, x1004, x1005, x1006, x112000, x112001, x112002, x112003, x112004, x112005, x112006, x112007, true, 0, wrap64 (x1017 + 1), false))) else (some (x1001, x1002, x1003, x1004, x1005, x1006, x112000, x112001, x112002, x112003, x112004, x112005, x112006, x112007, true, 0, wrap64 (x1017 + 1), false))) else (some (x1001, x1002, x1003, x1004, x1005, x1006, x112000, x112001, x112002, x112003, x112004, x112005, x112006, x112007, true, 0, wrap64 (x1017 + 1), false))) else (if x112000.toList = x1007.toList then (if x112001.toList = x1008.toList then (if x112002.toList = x1009.toList then (some (x1001, x1002, x1003, x1004, x1005, x1006, x112000, x112001, x112002, x112003, x112004, x112005, x112006, x112007, true, x1016, x1017, false)) else (some (x1001, x1002, x1003, x1004, x1005, x1006, x112000, x112001, x112002, x112003, x112004, x112005, x112006, x112007, true, 0, x1017, false))) else (some (x1001, x1002, x1003, x1004, x1005, x1006, x112000, x112001, x112002, x112003, x112004, x112005, x112006, x112007, true, 0, x1017, false))) else (some (x1001, x1002, x1003, x1004, x1005, x1006, x112000, x112001, x112002, x112003, x112004, x112005, x112006, x112007, true, 0, x1017, false)))) else (if x112000.toList = x1007.toList then (if x112001.toList = x1008.toList then (if x112002.toList = x1009.toList then (some (x1001, x1002, x1003, x1004, x1005, x1006, x112000, x112001, x112002, x112003, x112004, x112005, x112006, x112007, true, x1016, x1017, x1018)) else (some (x1001, x1002, x1003, x1004, x1005, x1006, x112000, x112001, x112002, x112003, x112004, x112005, x112006, x112007, true, 0, x1017, x1018))) else (some (x1001, x1002, x1003, x1004, x1005, x1006, x112000, x112001, x112002, x112003, x112004, x112005, x112006, x112007, true, 0, x1017, x1018))) else (some (x1001, x1002, x1003, x1004, x1005, x1006, x112000, x112001, x112002, x112003, x112004, x112005, x112006, x112007, true, 0, x1017, x1018)))
def filter_Sieve_turn.f (k : Nat) (s0_0 : List ByteArray) (s0_1 : ByteArray) (s0_2 : ByteArray) (s0_3 : Int) (s0_4 : Int) (s0_5 : Int) (s0_6 : Int) (s0_7 : ByteArray) (s0_8 : ByteArray) (s0_9 : ByteArray) (s0_10 : Int) (s0_11 : Int) (s0_12 : Int) (s0_13 : Int) (s0_14 : ByteArray) (s0_15 : Bool) (s0_16 : Int) (s0_17 : Int) (s0_18 : Bool) (a1_0 : ByteArray) (a1_1 : ByteArray) (a1_2 : ByteArray) (a1_3 : Int) (a1_4 : Int) (a1_5 : Int) (a1_6 : Int) (a1_7 : ByteArray) : Option (ByteArray × ByteArray × Int × Int × Int × Int × ByteArray × ByteArray × ByteArray × Int × Int × Int × Int × ByteArray × Bool × Int × Int × Bool) := if s0_15 = true then (filter_Sieve_turn.j0 k (a1_0.toList != s0_7.toList) s0_0 s0_1 s0_2 s0_3 s0_4 s0_5 s0_6 s0_7 s0_8 s0_9 s0_10 s0_11 s0_12 s0_13 s0_14 s0_15 s0_16 s0_17 s0_18 a1_0 a1_1 a1_2 a1_3 a1_4 a1_5 a1_6 a1_7) else (filter_Sieve_turn.j0 k false s0_0 s0_1 s0_2 s0_3 s0_4 s0_5 s0_6 s0_7 s0_8 s0_9 s0_10 s0_11 s0_12 s0_13 s0_14 s0_15 s0_16 s0_17 s0_18 a1_0 a1_1 a1_2 a1_3 a1_4 a1_5 a1_6 a1_7)
theorem filter_Sieve_turn.mono_l : ∀ k, (∀ y0 y1 y2 y3 y4 y5 y6 y7 y8 y9 y10 y11 y12 y13 y14 y15 y16 y17 y18 y19 y20 y21 y22 y23 y24 y25 y26 y27, LeO (filter_Sieve_turn.j0 k y0 y1 y2 y3 y4 y5 y6 y7 y8 y9 y10 y11 y12 y13 y14 y15 y16 y17 y18 y19 y20 y21 y22 y23 y24 y25 y26 y27) (filter_Sieve_turn.j0 (k + 1) y0 y1 y2 y3 y4 y5 y6 y7 y8 y9 y10 y11 y12 y13 y14 y15 y16 y17 y18 y19 y20 y21 y22 y23 y24 y25 y26 y27))
  | 0 => fun _ _ _ _ _ _ _ _ _ _ _ _ _ _ _ _ _ _ _ _ _ _ _ _ _ _ _ _ r h => by simp [filter_Sieve_turn.j0] at h
  | k + 1 => by
    have ih0 := filter_Sieve_turn.mono_l k
    · intro y0 y1 y2 y3 y4 y5 y6 y7 y8 y9 y10 y11 y12 y13 y14 y15 y16 y17 y18 y19 y20 y21 y22 y23 y24 y25 y26 y27
      unfold filter_Sieve_turn.j0
      repeat' first
      | (with_reducible exact ih0 _ _ _ _ _ _ _ _ _ _ _ _ _ _ _ _ _ _ _ _ _ _ _ _ _ _ _ _)
      | (with_reducible exact LeO.refl _)
      | (with_reducible exact LeO.none _)
      | (with_reducible refine LeO.ite ?_ ?_)
      | (with_reducible refine LeO.bind ?_ (fun _ => ?_))
      | exact ih0 _ _ _ _ _ _ _ _ _ _ _ _ _ _ _ _ _ _ _ _ _ _ _ _ _ _ _ _
      | exact LeO.none _
      | refine LeO.ite ?_ ?_
      | refine LeO.bind ?_ (fun _ => ?_)
theorem filter_Sieve_turn.mono : ∀ a0 a1 a2 a3 a4 a5 a6 a7 a8 a9 a10 a11 a12 a13 a14 a15 a16 a17 a18 a19 a20 a21 a22 a23 a24 a25 a26 k, LeO (filter_Sieve_turn.f k a0 a1 a2 a3 a4 a5 a6 a7 a8 a9 a10 a11 a12 a13 a14 a15 a16 a17 a18 a19 a20 a21 a22 a23 a24 a25 a26) (filter_Sieve_turn.f (k + 1) a0 a1 a2 a3 a4 a5 a6 a7 a8 a9 a10 a11 a12 a13 a14 a15 a16 a17 a18 a19 a20 a21 a22 a23 a24 a25 a26) := by
  intro a0 a1 a2 a3 a4 a5 a6 a7 a8 a9 a10 a11 a12 a13 a14 a15 a16 a17 a18 a19 a20 a21 a22 a23 a24 a25 a26 k
  have ih0 := filter_Sieve_turn.mono_l k
  unfold filter_Sieve_turn.f
  repeat' first
      | (with_reducible exact ih0 _ _ _ _ _ _ _ _ _ _ _ _ _ _ _ _ _ _ _ _ _ _ _ _ _ _ _ _)
      | (with_reducible exact LeO.refl _)
      | (with_reducible exact LeO.none _)
      | (with_reducible refine LeO.ite ?_ ?_)
      | (with_reducible refine LeO.bind ?_ (fun _ => ?_))
      | exact ih0 _ _ _ _ _ _ _ _ _ _ _ _ _ _ _ _ _ _ _ _ _ _ _ _ _ _ _ _
      | exact LeO.none _
      | refine LeO.ite ?_ ?_
      | refine LeO.bind ?_ (fun _ => ?_)
set_option maxHeartbeats 8000000 in
set_option maxRecDepth 100000 in
theorem filter_Sieve_turn.calls (k : Nat) (g : Nat) (s0_0 : List ByteArray) (s0_1 : ByteArray) (s0_2 : ByteArray) (s0_3 : Int) (s0_4 : Int) (s0_5 : Int) (s0_6 : Int) (s0_7 : ByteArray) (s0_8 : ByteArray) (s0_9 : ByteArray) (s0_10 : Int) (s0_11 : Int) (s0_12 : Int) (s0_13 : Int) (s0_14 : ByteArray) (s0_15 : Bool) (s0_16 : Int) (s0_17 : Int) (s0_18 : Bool) (a1_0 : ByteArray) (a1_1 : ByteArray) (a1_2 : ByteArray) (a1_3 : Int) (a1_4 : Int) (a1_5 : Int) (a1_6 : Int) (a1_7 : ByteArray) (r1 : ByteArray) (r2 : ByteArray) (r3 : Int) (r4 : Int) (r5 : Int) (r6 : Int) (r7 : ByteArray) (r8 : ByteArray) (r9 : ByteArray) (r10 : Int) (r11 : Int) (r12 : Int) (r13 : Int) (r14 : ByteArray) (r15 : Bool) (r16 : Int) (r17 : Int) (r18 : Bool) (w0 w : World) (hI : IsS60 w0 w g s0_0 s0_1 s0_2 s0_3 s0_4 s0_5 s0_6 s0_7 s0_8 s0_9 s0_10 s0_11 s0_12 s0_13 s0_14 s0_15 s0_16 s0_17 s0_18) (hB : Below w0.heap.size w0 w) (h : filter_Sieve_turn.f k s0_0 s0_1 s0_2 s0_3 s0_4 s0_5 s0_6 s0_7 s0_8 s0_9 s0_10 s0_11 s0_12 s0_13 s0_14 s0_15 s0_16 s0_17 s0_18 a1_0 a1_1 a1_2 a1_3 a1_4 a1_5 a1_6 a1_7 = some (r1, r2, r3, r4, r5, r6, r7, r8, r9, r10, r11, r12, r13, r14, r15, r16, r17, r18)) :
    Calls Try.prog 37 #[.pointer (some ⟨g, 0, none⟩), .agg #[.string a1_0, .string a1_1, .string a1_2, .int .i64 a1_3, .int .i64 a1_4, .int .i64 a1_5, .int .i64 a1_6, .string a1_7]] w fun e w' => e = .returned (.tuple #[]) ∧ IsS60 w0 w' g s0_0 r1 r2 r3 r4 r5 r6 r7 r8 r9 r10 r11 r12 r13 r14 r15 r16 r17 r18 ∧ Below w0.heap.size w0 w' ∧ KeepBut w w' g none := by
  have hu29 := Try.underlying29
  have HI0 := Aside0.mk hI
  have HK := Aside0.mk (KeepBut.refl w g none)
  have HL := Aside0.mk hB.size
  clear hI
  have HW0 := Aside0.mk hB.size
  have HB := Aside0.mk hB
  clear hB
  have H : (if s0_15 = true then (filter_Sieve_turn.j0 k (a1_0.toList != s0_7.toList) s0_0 s0_1 s0_2 s0_3 s0_4 s0_5 s0_6 s0_7 s0_8 s0_9 s0_10 s0_11 s0_12 s0_13 s0_14 s0_15 s0_16 s0_17 s0_18 a1_0 a1_1 a1_2 a1_3 a1_4 a1_5 a1_6 a1_7) else (filter_Sieve_turn.j0 k false s0_0 s0_1 s0_2 s0_3 s0_4 s0_5 s0_6 s0_7 s0_8 s0_9 s0_10 s0_11 s0_12 s0_13 s0_14 s0_15 s0_16 s0_17 s0_18 a1_0 a1_1 a1_2 a1_3 a1_4 a1_5 a1_6 a1_7)) = some (r1, r2, r3, r4, r5, r6, r7, r8, r9, r10, r11, r12, r13, r14, r15, r16, r17, r18) := h
  clear h
  have HC3 := Aside0.mk H
  clear H
  go_enter Try.func37, Try.ntmps37
  go_upto_region 1 with (first | ((with_reducible refine gate_dst (N := 3) rfl ?_); refine box_event ?hg (N := 3) ?hd (cs := #[.string a1_0, .string a1_1, .string a1_2, .int .i64 a1_3, .int .i64 a1_4, .int .i64 a1_5, .int .i64 a1_6, .string a1_7]) (t := 29) ?hr ?_; (case hd => rfl); (case hg => rfl); (case hr => first | (go_simp; done) | (go_simp; rfl)); intro gb111 hg w4 hbox hb; have n0_ := Aside0.mk (IsS60.below (by repeat (first | (with_reducible first | exact HI0.out | apply IsS60.alloc | apply IsS60.drewN | apply IsS60.drew | apply IsS60.set_1 | apply IsS60.set_2 | apply IsS60.set_3 | apply IsS60.set_4 | apply IsS60.set_5 | apply IsS60.set_6 | apply IsS60.set_7 | apply IsS60.set_8 | apply IsS60.set_9 | apply IsS60.set_10 | apply IsS60.set_11 | apply IsS60.set_12 | apply IsS60.set_13 | apply IsS60.set_14 | apply IsS60.set_15 | apply IsS60.set_16 | apply IsS60.set_17 | apply IsS60.set_18) | exact HI0.out)) hb); have n1_ := Aside0.mk (KeepBut.trans (by repeat (first | (with_reducible first | exact HK.out | apply KeepBut.set_ | apply keep_drewN | apply keep_drew | apply keep_alloc) | exact HK.out)) (KeepBut.of_below hb g none) (.inl rfl)); have n2_ := Aside0.mk (below_step (by repeat (first | (with_reducible first | exact HB.out | apply below_alloc | apply pw_below_drewN | apply below_drew1 | refine below_set ?_ (IsS60.ge HI0.out)) | exact HB.out)) hb); have n3_ := Aside0.mk (hbox); have n4_ := Aside0.mk ((by rw [hg]; exact (keep_size (w := w) (g := g) (row := none) (by repeat (first | (with_reducible first | exact HK.out | apply KeepBut.set_ | apply keep_drewN | apply keep_drew | apply keep_alloc) | exact HK.out))) : w.heap.size ≤ gb111)); have n5_ := Aside0.mk ((Nat.le_trans HW0.out (by rw [hg]; exact (keep_size (w := w) (g := g) (row := none) (by repeat (first | (with_reducible first | exact HK.out | apply KeepBut.set_ | apply keep_drewN | apply keep_drew | apply keep_alloc) | exact HK.out))) : w.heap.size ≤ gb111) : w0.heap.size ≤ gb111)); have n6_ := Aside0.mk ((by rw [hg]; exact Nat.ne_of_lt (IsS60.lt (show IsS60 w0 _ g s0_0 s0_1 s0_2 s0_3 s0_4 s0_5 s0_6 s0_7 s0_8 s0_9 s0_10 s0_11 s0_12 s0_13 s0_14 s0_15 s0_16 s0_17 s0_18 from by repeat (first | (with_reducible first | exact HI0.out | apply IsS60.alloc | apply IsS60.drewN | apply IsS60.drew | apply IsS60.set_1 | apply IsS60.set_2 | apply IsS60.set_3 | apply IsS60.set_4 | apply IsS60.set_5 | apply IsS60.set_6 | apply IsS60.set_7 | apply IsS60.set_8 | apply IsS60.set_9 | apply IsS60.set_10 | apply IsS60.set_11 | apply IsS60.set_12 | apply IsS60.set_13 | apply IsS60.set_14 | apply IsS60.set_15 | apply IsS60.set_16 | apply IsS60.set_17 | apply IsS60.set_18) | exact HI0.out))) : g ≠ gb111)); have n7_ := Aside0.mk ((by rw [hg]; exact Nat.ne_of_gt (IsS60.lt (show IsS60 w0 _ g s0_0 s0_1 s0_2 s0_3 s0_4 s0_5 s0_6 s0_7 s0_8 s0_9 s0_10 s0_11 s0_12 s0_13 s0_14 s0_15 s0_16 s0_17 s0_18 from by repeat (first | (with_reducible first | exact HI0.out | apply IsS60.alloc | apply IsS60.drewN | apply IsS60.drew | apply IsS60.set_1 | apply IsS60.set_2 | apply IsS60.set_3 | apply IsS60.set_4 | apply IsS60.set_5 | apply IsS60.set_6 | apply IsS60.set_7 | apply IsS60.set_8 | apply IsS60.set_9 | apply IsS60.set_10 | apply IsS60.set_11 | apply IsS60.set_12 | apply IsS60.set_13 | apply IsS60.set_14 | apply IsS60.set_15 | apply IsS60.set_16 | apply IsS60.set_17 | apply IsS60.set_18) | exact HI0.out))) : gb111 ≠ g)); clear HI0; clear HK; clear HB; have HI0 := n0_; have HK := n1_; have HB := n2_; have BK111 := n3_; have GW111 := n4_; have GE111 := n5_; have NB0_111 := n6_; have NB111_0 := n7_; clear n0_ n1_ n2_ n3_ n4_ n5_ n6_ n7_; clear hb hbox hg))
  repeat (go_quiet (first | ((with_reducible refine gate_dst (N := 3) rfl ?_); refine box_event ?hg (N := 3) ?hd (cs := #[.string a1_0, .string a1_1, .string a1_2, .int .i64 a1_3, .int .i64 a1_4, .int .i64 a1_5, .int .i64 a1_6, .string a1_7]) (t := 29) ?hr ?_; (case hd => rfl); (case hg => rfl); (case hr => first | (go_simp; done) | (go_simp; rfl)); intro gb111 hg w4 hbox hb; have n0_ := Aside0.mk (IsS60.below (by repeat (first | (with_reducible first | exact HI0.out | apply IsS60.alloc | apply IsS60.drewN | apply IsS60.drew | apply IsS60.set_1 | apply IsS60.set_2 | apply IsS60.set_3 | apply IsS60.set_4 | apply IsS60.set_5 | apply IsS60.set_6 | apply IsS60.set_7 | apply IsS60.set_8 | apply IsS60.set_9 | apply IsS60.set_10 | apply IsS60.set_11 | apply IsS60.set_12 | apply IsS60.set_13 | apply IsS60.set_14 | apply IsS60.set_15 | apply IsS60.set_16 | apply IsS60.set_17 | apply IsS60.set_18) | exact HI0.out)) hb); have n1_ := Aside0.mk (KeepBut.trans (by repeat (first | (with_reducible first | exact HK.out | apply KeepBut.set_ | apply keep_drewN | apply keep_drew | apply keep_alloc) | exact HK.out)) (KeepBut.of_below hb g none) (.inl rfl)); have n2_ := Aside0.mk (below_step (by repeat (first | (with_reducible first | exact HB.out | apply below_alloc | apply pw_below_drewN | apply below_drew1 | refine below_set ?_ (IsS60.ge HI0.out)) | exact HB.out)) hb); have n3_ := Aside0.mk (hbox); have n4_ := Aside0.mk ((by rw [hg]; exact (keep_size (w := w) (g := g) (row := none) (by repeat (first | (with_reducible first | exact HK.out | apply KeepBut.set_ | apply keep_drewN | apply keep_drew | apply keep_alloc) | exact HK.out))) : w.heap.size ≤ gb111)); have n5_ := Aside0.mk ((Nat.le_trans HW0.out (by rw [hg]; exact (keep_size (w := w) (g := g) (row := none) (by repeat (first | (with_reducible first | exact HK.out | apply KeepBut.set_ | apply keep_drewN | apply keep_drew | apply keep_alloc) | exact HK.out))) : w.heap.size ≤ gb111) : w0.heap.size ≤ gb111)); have n6_ := Aside0.mk ((by rw [hg]; exact Nat.ne_of_lt (IsS60.lt (show IsS60 w0 _ g s0_0 s0_1 s0_2 s0_3 s0_4 s0_5 s0_6 s0_7 s0_8 s0_9 s0_10 s0_11 s0_12 s0_13 s0_14 s0_15 s0_16 s0_17 s0_18 from by repeat (first | (with_reducible first | exact HI0.out | apply IsS60.alloc | apply IsS60.drewN | apply IsS60.drew | apply IsS60.set_1 | apply IsS60.set_2 | apply IsS60.set_3 | apply IsS60.set_4 | apply IsS60.set_5 | apply IsS60.set_6 | apply IsS60.set_7 | apply IsS60.set_8 | apply IsS60.set_9 | apply IsS60.set_10 | apply IsS60.set_11 | apply IsS60.set_12 | apply IsS60.set_13 | apply IsS60.set_14 | apply IsS60.set_15 | apply IsS60.set_16 | apply IsS60.set_17 | apply IsS60.set_18) | exact HI0.out))) : g ≠ gb111)); have n7_ := Aside0.mk ((by rw [hg]; exact Nat.ne_of_gt (IsS60.lt (show IsS60 w0 _ g s0_0 s0_1 s0_2 s0_3 s0_4 s0_5 s0_6 s0_7 s0_8 s0_9 s0_10 s0_11 s0_12 s0_13 s0_14 s0_15 s0_16 s0_17 s0_18 from by repeat (first | (with_reducible first | exact HI0.out | apply IsS60.alloc | apply IsS60.drewN | apply IsS60.drew | apply IsS60.set_1 | apply IsS60.set_2 | apply IsS60.set_3 | apply IsS60.set_4 | apply IsS60.set_5 | apply IsS60.set_6 | apply IsS60.set_7 | apply IsS60.set_8 | apply IsS60.set_9 | apply IsS60.set_10 | apply IsS60.set_11 | apply IsS60.set_12 | apply IsS60.set_13 | apply IsS60.set_14 | apply IsS60.set_15 | apply IsS60.set_16 | apply IsS60.set_17 | apply IsS60.set_18) | exact HI0.out))) : gb111 ≠ g)); clear HI0; clear HK; clear HB; have HI0 := n0_; have HK := n1_; have HB := n2_; have BK111 := n3_; have GW111 := n4_; have GE111 := n5_; have NB0_111 := n6_; have NB111_0 := n7_; clear n0_ n1_ n2_ n3_ n4_ n5_ n6_ n7_; clear hb hbox hg)); go_upto_region 1 with (first | ((with_reducible refine gate_dst (N := 3) rfl ?_); refine box_event ?hg (N := 3) ?hd (cs := #[.string a1_0, .string a1_1, .string a1_2, .int .i64 a1_3, .int .i64 a1_4, .int .i64 a1_5, .int .i64 a1_6, .string a1_7]) (t := 29) ?hr ?_; (case hd => rfl); (case hg => rfl); (case hr => first | (go_simp; done) | (go_simp; rfl)); intro gb111 hg w4 hbox hb; have n0_ := Aside0.mk (IsS60.below (by repeat (first | (with_reducible first | exact HI0.out | apply IsS60.alloc | apply IsS60.drewN | apply IsS60.drew | apply IsS60.set_1 | apply IsS60.set_2 | apply IsS60.set_3 | apply IsS60.set_4 | apply IsS60.set_5 | apply IsS60.set_6 | apply IsS60.set_7 | apply IsS60.set_8 | apply IsS60.set_9 | apply IsS60.set_10 | apply IsS60.set_11 | apply IsS60.set_12 | apply IsS60.set_13 | apply IsS60.set_14 | apply IsS60.set_15 | apply IsS60.set_16 | apply IsS60.set_17 | apply IsS60.set_18) | exact HI0.out)) hb); have n1_ := Aside0.mk (KeepBut.trans (by repeat (first | (with_reducible first | exact HK.out | apply KeepBut.set_ | apply keep_drewN | apply keep_drew | apply keep_alloc) | exact HK.out)) (KeepBut.of_below hb g none) (.inl rfl)); have n2_ := Aside0.mk (below_step (by repeat (first | (with_reducible first | exact HB.out | apply below_alloc | apply pw_below_drewN | apply below_drew1 | refine below_set ?_ (IsS60.ge HI0.out)) | exact HB.out)) hb); have n3_ := Aside0.mk (hbox); have n4_ := Aside0.mk ((by rw [hg]; exact (keep_size (w := w) (g := g) (row := none) (by repeat (first | (with_reducible first | exact HK.out | apply KeepBut.set_ | apply keep_drewN | apply keep_drew | apply keep_alloc) | exact HK.out))) : w.heap.size ≤ gb111)); have n5_ := Aside0.mk ((Nat.le_trans HW0.out (by rw [hg]; exact (keep_size (w := w) (g := g) (row := none) (by repeat (first | (with_reducible first | exact HK.out | apply KeepBut.set_ | apply keep_drewN | apply keep_drew | apply keep_alloc) | exact HK.out))) : w.heap.size ≤ gb111) : w0.heap.size ≤ gb111)); have n6_ := Aside0.mk ((by rw [hg]; exact Nat.ne_of_lt (IsS60.lt (show IsS60 w0 _ g s0_0 s0_1 s0_2 s0_3 s0_4 s0_5 s0_6 s0_7 s0_8 s0_9 s0_10 s0_11 s0_12 s0_13 s0_14 s0_15 s0_16 s0_17 s0_18 from by repeat (first | (with_reducible first | exact HI0.out | apply IsS60.alloc | apply IsS60.drewN | apply IsS60.drew | apply IsS60.set_1 | apply IsS60.set_2 | apply IsS60.set_3 | apply IsS60.set_4 | apply IsS60.set_5 | apply IsS60.set_6 | apply IsS60.set_7 | apply IsS60.set_8 | apply IsS60.set_9 | apply IsS60.set_10 | apply IsS60.set_11 | apply IsS60.set_12 | apply IsS60.set_13 | apply IsS60.set_14 | apply IsS60.set_15 | apply IsS60.set_16 | apply IsS60.set_17 | apply IsS60.set_18) | exact HI0.out))) : g ≠ gb111)); have n7_ := Aside0.mk ((by rw [hg]; exact Nat.ne_of_gt (IsS60.lt (show IsS60 w0 _ g s0_0 s0_1 s0_2 s0_3 s0_4 s0_5 s0_6 s0_7 s0_8 s0_9 s0_10 s0_11 s0_12 s0_13 s0_14 s0_15 s0_16 s0_17 s0_18 from by repeat (first | (with_reducible first | exact HI0.out | apply IsS60.alloc | apply IsS60.drewN | apply IsS60.drew | apply IsS60.set_1 | apply IsS60.set_2 | apply IsS60.set_3 | apply IsS60.set_4 | apply IsS60.set_5 | apply IsS60.set_6 | apply IsS60.set_7 | apply IsS60.set_8 | apply IsS60.set_9 | apply IsS60.set_10 | apply IsS60.set_11 | apply IsS60.set_12 | apply IsS60.set_13 | apply IsS60.set_14 | apply IsS60.set_15 | apply IsS60.set_16 | apply IsS60.set_17 | apply IsS60.set_18) | exact HI0.out))) : gb111 ≠ g)); clear HI0; clear HK; clear HB; have HI0 := n0_; have HK := n1_; have HB := n2_; have BK111 := n3_; have GW111 := n4_; have GE111 := n5_; have NB0_111 := n6_; have NB111_0 := n7_; clear n0_ n1_ n2_ n3_ n4_ n5_ n6_ n7_; clear hb hbox hg)))
  (try simp only [Act.put, List.setIfInBounds_toArray, List.set_cons_zero, List.set_cons_succ])
  go_cut [17] (fun v17 wc => ∃ (kq : Nat) (x17_2 : Bool), v17 = .bool x17_2 ∧ Aside0 (filter_Sieve_turn.j0 kq x17_2 s0_0 s0_1 s0_2 s0_3 s0_4 s0_5 s0_6 s0_7 s0_8 s0_9 s0_10 s0_11 s0_12 s0_13 s0_14 s0_15 s0_16 s0_17 s0_18 a1_0 a1_1 a1_2 a1_3 a1_4 a1_5 a1_6 a1_7 = some (r1, r2, r3, r4, r5, r6, r7, r8, r9, r10, r11, r12, r13, r14, r15, r16, r17, r18)) ∧ Aside0 (kq ≤ k) ∧ Aside0 (wc.heap[gb111]? = some (.cells #[.string a1_0, .string a1_1, .string a1_2, .int .i64 a1_3, .int .i64 a1_4, .int .i64 a1_5, .int .i64 a1_6, .string a1_7] 29 (0, 0))) ∧ Aside0 (IsS60 w0 wc g s0_0 s0_1 s0_2 s0_3 s0_4 s0_5 s0_6 s0_7 s0_8 s0_9 s0_10 s0_11 s0_12 s0_13 s0_14 s0_15 s0_16 s0_17 s0_18) ∧ Aside0 (KeepBut w wc g none) ∧ Aside0 (Below w0.heap.size w0 wc))
  case first =>
    have H := HC3.out
    clear HC3
    by_cases c5 : s0_15 = true
    · subst c5
      have H1 : (filter_Sieve_turn.j0 k (a1_0.toList != s0_7.toList) s0_0 s0_1 s0_2 s0_3 s0_4 s0_5 s0_6 s0_7 s0_8 s0_9 s0_10 s0_11 s0_12 s0_13 s0_14 true s0_16 s0_17 s0_18 a1_0 a1_1 a1_2 a1_3 a1_4 a1_5 a1_6 a1_7) = some (r1, r2, r3, r4, r5, r6, r7, r8, r9, r10, r11, r12, r13, r14, r15, r16, r17, r18) := by rw [if_pos rfl] at H; exact H
      clear H
      have H := H1
      clear H1
      have H' := Aside0.mk H
      clear H
      obtain ⟨ASz6_0, cSz6_0, HGz6, hgz6, HSz6_0⟩ := HI0.out
      have hcz6_0 := cellS60_0 HGz6
      have hcz6_1 := cellS60_1 HGz6
      have hcz6_2 := cellS60_2 HGz6
      have hcz6_3 := cellS60_3 HGz6
      have hcz6_4 := cellS60_4 HGz6
      have hcz6_5 := cellS60_5 HGz6
      have hcz6_6 := cellS60_6 HGz6
      have hcz6_7 := cellS60_7 HGz6
      have hcz6_8 := cellS60_8 HGz6
      have hcz6_9 := cellS60_9 HGz6
      have hcz6_10 := cellS60_10 HGz6
      have hcz6_11 := cellS60_11 HGz6
      have hcz6_12 := cellS60_12 HGz6
      have hcz6_13 := cellS60_13 HGz6
      have hcz6_14 := cellS60_14 HGz6
      have hcz6_15 := cellS60_15 HGz6
      have hcz6_16 := cellS60_16 HGz6
      have hcz6_17 := cellS60_17 HGz6
      have hcz6_18 := cellS60_18 HGz6
      have hfz6_1 := blk_frozen HGz6 1
      have hfz6_2 := blk_frozen HGz6 2
      have hfz6_3 := blk_frozen HGz6 3
      have hfz6_4 := blk_frozen HGz6 4
      have hfz6_5 := blk_frozen HGz6 5
      have hfz6_6 := blk_frozen HGz6 6
      have hfz6_7 := blk_frozen HGz6 7
      have hfz6_8 := blk_frozen HGz6 8
      have hfz6_9 := blk_frozen HGz6 9
      have hfz6_10 := blk_frozen HGz6 10
      have hfz6_11 := blk_frozen HGz6 11
      have hfz6_12 := blk_frozen HGz6 12
      have hfz6_13 := blk_frozen HGz6 13
      have hfz6_14 := blk_frozen HGz6 14
      have hfz6_15 := blk_frozen HGz6 15
      have hfz6_16 := blk_frozen HGz6 16
      have hfz6_17 := blk_frozen HGz6 17
      have hfz6_18 := blk_frozen HGz6 18
      clear HGz6 hgz6
      have hnb7 := NB111_0.out
      have hnc7 := NB0_111.out
      have hcz8_0 : w4.cell? ⟨gb111, 0, none⟩ = some (.string a1_0) := (blk_cell BK111.out 0).trans rfl
      have hcz8_1 : w4.cell? ⟨gb111, 1, none⟩ = some (.string a1_1) := (blk_cell BK111.out 1).trans rfl
      have hcz8_2 : w4.cell? ⟨gb111, 2, none⟩ = some (.string a1_2) := (blk_cell BK111.out 2).trans rfl
      have hcz8_3 : w4.cell? ⟨gb111, 3, none⟩ = some (.int .i64 a1_3) := (blk_cell BK111.out 3).trans rfl
      have hcz8_4 : w4.cell? ⟨gb111, 4, none⟩ = some (.int .i64 a1_4) := (blk_cell BK111.out 4).trans rfl
      have hcz8_5 : w4.cell? ⟨gb111, 5, none⟩ = some (.int .i64 a1_5) := (blk_cell BK111.out 5).trans rfl
      have hcz8_6 : w4.cell? ⟨gb111, 6, none⟩ = some (.int .i64 a1_6) := (blk_cell BK111.out 6).trans rfl
      have hcz8_7 : w4.cell? ⟨gb111, 7, none⟩ = some (.string a1_7) := (blk_cell BK111.out 7).trans rfl
      have hfz8_0 := blk_frozen BK111.out 0
      have hfz8_1 := blk_frozen BK111.out 1
      have hfz8_2 := blk_frozen BK111.out 2
      have hfz8_3 := blk_frozen BK111.out 3
      have hfz8_4 := blk_frozen BK111.out 4
      have hfz8_5 := blk_frozen BK111.out 5
      have hfz8_6 := blk_frozen BK111.out 6
      have hfz8_7 := blk_frozen BK111.out 7
      go_wp2
      repeat (go_quiet (fail); try go_wp2)
      go_meet
      case rel => exact ⟨_, ((a1_0.toList != s0_7.toList)), (by first | rfl | (simp; done) | (simp [*]; done)), H', ⟨by first | omega | exact Nat.le_refl _⟩, ⟨by (with_reducible repeat (first | refine blk_drewN ?_ _ | refine blk_drew ?_ | refine blk_alloc ?_ _)); exact BK111.out⟩, ⟨by repeat (first | (with_reducible first | exact HI0.out | apply IsS60.alloc | apply IsS60.drewN | apply IsS60.drew | apply IsS60.set_1 | apply IsS60.set_2 | apply IsS60.set_3 | apply IsS60.set_4 | apply IsS60.set_5 | apply IsS60.set_6 | apply IsS60.set_7 | apply IsS60.set_8 | apply IsS60.set_9 | apply IsS60.set_10 | apply IsS60.set_11 | apply IsS60.set_12 | apply IsS60.set_13 | apply IsS60.set_14 | apply IsS60.set_15 | apply IsS60.set_16 | apply IsS60.set_17 | apply IsS60.set_18 | refine IsS60.far ?_ NB0_111.out _) | exact HI0.out)⟩, ⟨by repeat (first | (with_reducible first | exact HK.out | apply KeepBut.set_ | apply keep_drewN | apply keep_drew | apply keep_alloc | refine keep_far ?_ GW111.out _) | exact HK.out)⟩, ⟨by repeat (first | (with_reducible first | exact HB.out | apply below_alloc | apply pw_below_drewN | apply below_drew1 | refine below_set ?_ (IsS60.ge HI0.out) | refine below_set ?_ GE111.out) | exact HB.out)⟩⟩
    · replace c5 := Bool.eq_false_iff.mpr c5
      subst c5
      have H1 : (filter_Sieve_turn.j0 k false s0_0 s0_1 s0_2 s0_3 s0_4 s0_5 s0_6 s0_7 s0_8 s0_9 s0_10 s0_11 s0_12 s0_13 s0_14 false s0_16 s0_17 s0_18 a1_0 a1_1 a1_2 a1_3 a1_4 a1_5 a1_6 a1_7) = some (r1, r2, r3, r4, r5, r6, r7, r8, r9, r10, r11, r12, r13, r14, r15, r16, r17, r18) := by rw [if_neg (show ¬ (false = true) by decide)] at H; exact H
      clear H
      have H := H1
      clear H1
      have H' := Aside0.mk H
      clear H
      obtain ⟨ASz9_0, cSz9_0, HGz9, hgz9, HSz9_0⟩ := HI0.out
      have hcz9_0 := cellS60_0 HGz9
      have hcz9_1 := cellS60_1 HGz9
      have hcz9_2 := cellS60_2 HGz9
      have hcz9_3 := cellS60_3 HGz9
      have hcz9_4 := cellS60_4 HGz9
      have hcz9_5 := cellS60_5 HGz9
      have hcz9_6 := cellS60_6 HGz9
      have hcz9_7 := cellS60_7 HGz9
      have hcz9_8 := cellS60_8 HGz9
      have hcz9_9 := cellS60_9 HGz9
      have hcz9_10 := cellS60_10 HGz9
      have hcz9_11 := cellS60_11 HGz9
      have hcz9_12 := cellS60_12 HGz9
      have hcz9_13 := cellS60_13 HGz9
      have hcz9_14 := cellS60_14 HGz9
      have hcz9_15 := cellS60_15 HGz9
      have hcz9_16 := cellS60_16 HGz9
      have hcz9_17 := cellS60_17 HGz9
      have hcz9_18 := cellS60_18 HGz9
      have hfz9_1 := blk_frozen HGz9 1
      have hfz9_2 := blk_frozen HGz9 2
      have hfz9_3 := blk_frozen HGz9 3
      have hfz9_4 := blk_frozen HGz9 4
      have hfz9_5 := blk_frozen HGz9 5
      have hfz9_6 := blk_frozen HGz9 6
      have hfz9_7 := blk_frozen HGz9 7
      have hfz9_8 := blk_frozen HGz9 8
      have hfz9_9 := blk_frozen HGz9 9
      have hfz9_10 := blk_frozen HGz9 10
      have hfz9_11 := blk_frozen HGz9 11
      have hfz9_12 := blk_frozen HGz9 12
      have hfz9_13 := blk_frozen HGz9 13
      have hfz9_14 := blk_frozen HGz9 14
      have hfz9_15 := blk_frozen HGz9 15
      have hfz9_16 := blk_frozen HGz9 16
      have hfz9_17 := blk_frozen HGz9 17
      have hfz9_18 := blk_frozen HGz9 18
      clear HGz9 hgz9
      go_wp2
      repeat (go_quiet (fail); try go_wp2)
      go_meet
      case rel => exact ⟨_, (false), (by first | rfl | (simp; done) | (simp [*]; done)), H', ⟨by first | omega | exact Nat.le_refl _⟩, ⟨by (with_reducible repeat (first | refine blk_drewN ?_ _ | refine blk_drew ?_ | refine blk_alloc ?_ _)); exact BK111.out⟩, ⟨by repeat (first | (with_reducible first | exact HI0.out | apply IsS60.alloc | apply IsS60.drewN | apply IsS60.drew | apply IsS60.set_1 | apply IsS60.set_2 | apply IsS60.set_3 | apply IsS60.set_4 | apply IsS60.set_5 | apply IsS60.set_6 | apply IsS60.set_7 | apply IsS60.set_8 | apply IsS60.set_9 | apply IsS60.set_10 | apply IsS60.set_11 | apply IsS60.set_12 | apply IsS60.set_13 | apply IsS60.set_14 | apply IsS60.set_15 | apply IsS60.set_16 | apply IsS60.set_17 | apply IsS60.set_18 | refine IsS60.far ?_ NB0_111.out _) | exact HI0.out)⟩, ⟨by repeat (first | (with_reducible first | exact HK.out | apply KeepBut.set_ | apply keep_drewN | apply keep_drew | apply keep_alloc | refine keep_far ?_ GW111.out _) | exact HK.out)⟩, ⟨by repeat (first | (with_reducible first | exact HB.out | apply below_alloc | apply pw_below_drewN | apply below_drew1 | refine below_set ?_ (IsS60.ge HI0.out) | refine below_set ?_ GE111.out) | exact HB.out)⟩⟩
  case rest =>
    clear HC3
    try clear p2
    try clear c3
    try clear c5
    try clear c7
    try clear hcz6_0
    try clear hcz6_1
    try clear hcz6_10
    try clear hcz6_11
    try clear hcz6_12
    try clear hcz6_13
    try clear hcz6_14
    try clear hcz6_15
    try clear hcz6_16
    try clear hcz6_17
    try clear hcz6_18
    try clear hcz6_2
    try clear hcz6_3
    try clear hcz6_4
    try clear hcz6_5
    try clear hcz6_6
    try clear hcz6_7
    try clear hcz6_8
    try clear hcz6_9
    try clear hcz8_0
    try clear hcz8_1
    try clear hcz8_2
    try clear hcz8_3
    try clear hcz8_4
    try clear hcz8_5
    try clear hcz8_6
    try clear hcz8_7
    try clear hcz9_0
    try clear hcz9_1
    try clear hcz9_10
    try clear hcz9_11
    try clear hcz9_12
    try clear hcz9_13
    try clear hcz9_14
    try clear hcz9_15
    try clear hcz9_16
    try clear hcz9_17
    try clear hcz9_18
    try clear hcz9_2
    try clear hcz9_3
    try clear hcz9_4
    try clear hcz9_5
    try clear hcz9_6
    try clear hcz9_7
    try clear hcz9_8
    try clear hcz9_9
    try clear hfz6_1
    try clear hfz6_10
    try clear hfz6_11
    try clear hfz6_12
    try clear hfz6_13
    try clear hfz6_14
    try clear hfz6_15
    try clear hfz6_16
    try clear hfz6_17
    try clear hfz6_18
    try clear hfz6_2
    try clear hfz6_3
    try clear hfz6_4
    try clear hfz6_5
    try clear hfz6_6
    try clear hfz6_7
    try clear hfz6_8
    try clear hfz6_9
    try clear hfz8_0
    try clear hfz8_1
    try clear hfz8_2
    try clear hfz8_3
    try clear hfz8_4
    try clear hfz8_5
    try clear hfz8_6
    try clear hfz8_7
    try clear hfz9_1
    try clear hfz9_10
    try clear hfz9_11
    try clear hfz9_12
    try clear hfz9_13
    try clear hfz9_14
    try clear hfz9_15
    try clear hfz9_16
    try clear hfz9_17
    try clear hfz9_18
    try clear hfz9_2
    try clear hfz9_3
    try clear hfz9_4
    try clear hfz9_5
    try clear hfz9_6
    try clear hfz9_7
    try clear hfz9_8
    try clear hfz9_9
    obtain ⟨kq, x17_2, rfl, HA, HJ2, BK111, HI0, HK, HB⟩ := hcut
    cases kq with
    | zero => exact absurd HA.out (by simp [filter_Sieve_turn.j0])
    | succ kj2 =>
      have H := HA.out
      clear HA
      simp only [filter_Sieve_turn.j0] at H
      by_cases c10 : x17_2 = true
      · subst c10
        have H1 : (if s0_18 = true then (if a1_0.toList = s0_7.toList then (if a1_1.toList = s0_8.toList then (if a1_2.toList = s0_9.toList then (some (s0_1, s0_2, s0_3, s0_4, s0_5, s0_6, a1_0, a1_1, a1_2, a1_3, a1_4, a1_5, a1_6, a1_7, true, s0_16, wrap64 (s0_17 + 1), false)) else (some (s0_1, s0_2, s0_3, s0_4, s0_5, s0_6, a1_0, a1_1, a1_2, a1_3, a1_4, a1_5, a1_6, a1_7, true, 0, wrap64 (s0_17 + 1), false))) else (some (s0_1, s0_2, s0_3, s0_4, s0_5, s0_6, a1_0, a1_1, a1_2, a1_3, a1_4, a1_5, a1_6, a1_7, true, 0, wrap64 (s0_17 + 1), false))) else (some (s0_1, s0_2, s0_3, s0_4, s0_5, s0_6, a1_0, a1_1, a1_2, a1_3, a1_4, a1_5, a1_6, a1_7, true, 0, wrap64 (s0_17 + 1), false))) else (if a1_0.toList = s0_7.toList then (if a1_1.toList = s0_8.toList then (if a1_2.toList = s0_9.toList then (some (s0_1, s0_2, s0_3, s0_4, s0_5, s0_6, a1_0, a1_1, a1_2, a1_3, a1_4, a1_5, a1_6, a1_7, true, s0_16, s0_17, false)) else (some (s0_1, s0_2, s0_3, s0_4, s0_5, s0_6, a1_0, a1_1, a1_2, a1_3, a1_4, a1_5, a1_6, a1_7, true, 0, s0_17, false))) else (some (s0_1, s0_2, s0_3, s0_4, s0_5, s0_6, a1_0, a1_1, a1_2, a1_3, a1_4, a1_5, a1_6, a1_7, true, 0, s0_17, false))) else (some (s0_1, s0_2, s0_3, s0_4, s0_5, s0_6, a1_0, a1_1, a1_2, a1_3, a1_4, a1_5, a1_6, a1_7, true, 0, s0_17, false)))) = some (r1, r2, r3, r4, r5, r6, r7, r8, r9, r10, r11, r12, r13, r14, r15, r16, r17, r18) := by rw [if_pos rfl] at H; exact H
        clear H
        have H := H1
        clear H1
        by_cases c11 : s0_18 = true
        · subst c11
          have H1 : (if a1_0.toList = s0_7.toList then (if a1_1.toList = s0_8.toList then (if a1_2.toList = s0_9.toList then (some (s0_1, s0_2, s0_3, s0_4, s0_5, s0_6, a1_0, a1_1, a1_2, a1_3, a1_4, a1_5, a1_6, a1_7, true, s0_16, wrap64 (s0_17 + 1), false)) else (some (s0_1, s0_2, s0_3, s0_4, s0_5, s0_6, a1_0, a1_1, a1_2, a1_3, a1_4, a1_5, a1_6, a1_7, true, 0, wrap64 (s0_17 + 1), false))) else (some (s0_1, s0_2, s0_3, s0_4, s0_5, s0_6, a1_0, a1_1, a1_2, a1_3, a1_4, a1_5, a1_6, a1_7, true, 0, wrap64 (s0_17 + 1), false))) else (some (s0_1, s0_2, s0_3, s0_4, s0_5, s0_6, a1_0, a1_1, a1_2, a1_3, a1_4, a1_5, a1_6, a1_7, true, 0, wrap64 (s0_17 + 1), false))) = some (r1, r2, r3, r4, r5, r6, r7, r8, r9, r10, r11, r12, r13, r14, r15, r16, r17, r18) := by rw [if_pos rfl] at H; exact H
          clear H
          have H := H1
          clear H1
          by_cases c12 : a1_0.toList = s0_7.toList
          · rw [if_pos c12] at H
            have c12b0 : (a1_0.toList == s0_7.toList) = true := beq_iff_eq.mpr c12
            have c12b1 : (a1_0.toList != s0_7.toList) = false := bne_eq_false_iff_eq.mpr c12
            clear c12
            by_cases c13 : a1_1.toList = s0_8.toList
            · rw [if_pos c13] at H
              have c13b0 : (a1_1.toList == s0_8.toList) = true := beq_iff_eq.mpr c13
              have c13b1 : (a1_1.toList != s0_8.toList) = false := bne_eq_false_iff_eq.mpr c13
              clear c13
              by_cases c14 : a1_2.toList = s0_9.toList
              · rw [if_pos c14] at H
                have c14b0 : (a1_2.toList == s0_9.toList) = true := beq_iff_eq.mpr c14
                have c14b1 : (a1_2.toList != s0_9.toList) = false := bne_eq_false_iff_eq.mpr c14
                clear c14
                simp only [Option.some.injEq, Prod.mk.injEq] at H
                obtain ⟨rfl, rfl, rfl, rfl, rfl, rfl, rfl, rfl, rfl, rfl, rfl, rfl, rfl, rfl, rfl, rfl, rfl, rfl⟩ := H
                obtain ⟨ASz15_0, cSz15_0, HGz15, hgz15, HSz15_0⟩ := HI0.out
                have hcz15_0 := cellS60_0 HGz15
                have hcz15_1 := cellS60_1 HGz15
                have hcz15_2 := cellS60_2 HGz15
                have hcz15_3 := cellS60_3 HGz15
                have hcz15_4 := cellS60_4 HGz15
                have hcz15_5 := cellS60_5 HGz15
                have hcz15_6 := cellS60_6 HGz15
                have hcz15_7 := cellS60_7 HGz15
                have hcz15_8 := cellS60_8 HGz15
                have hcz15_9 := cellS60_9 HGz15
                have hcz15_10 := cellS60_10 HGz15
                have hcz15_11 := cellS60_11 HGz15
                have hcz15_12 := cellS60_12 HGz15
                have hcz15_13 := cellS60_13 HGz15
                have hcz15_14 := cellS60_14 HGz15
                have hcz15_15 := cellS60_15 HGz15
                have hcz15_16 := cellS60_16 HGz15
                have hcz15_17 := cellS60_17 HGz15
                have hcz15_18 := cellS60_18 HGz15
                have hfz15_1 := blk_frozen HGz15 1
                have hfz15_2 := blk_frozen HGz15 2
                have hfz15_3 := blk_frozen HGz15 3
                have hfz15_4 := blk_frozen HGz15 4
                have hfz15_5 := blk_frozen HGz15 5
                have hfz15_6 := blk_frozen HGz15 6
                have hfz15_7 := blk_frozen HGz15 7
                have hfz15_8 := blk_frozen HGz15 8
                have hfz15_9 := blk_frozen HGz15 9
                have hfz15_10 := blk_frozen HGz15 10
                have hfz15_11 := blk_frozen HGz15 11
                have hfz15_12 := blk_frozen HGz15 12
                have hfz15_13 := blk_frozen HGz15 13
                have hfz15_14 := blk_frozen HGz15 14
                have hfz15_15 := blk_frozen HGz15 15
                have hfz15_16 := blk_frozen HGz15 16
                have hfz15_17 := blk_frozen HGz15 17
                have hfz15_18 := blk_frozen HGz15 18
                clear HGz15 hgz15
                have hnb16 := NB111_0.out
                have hnc16 := NB0_111.out
                have hcz17_0 : wc.cell? ⟨gb111, 0, none⟩ = some (.string a1_0) := (blk_cell BK111.out 0).trans rfl
                have hcz17_1 : wc.cell? ⟨gb111, 1, none⟩ = some (.string a1_1) := (blk_cell BK111.out 1).trans rfl
                have hcz17_2 : wc.cell? ⟨gb111, 2, none⟩ = some (.string a1_2) := (blk_cell BK111.out 2).trans rfl
                have hcz17_3 : wc.cell? ⟨gb111, 3, none⟩ = some (.int .i64 a1_3) := (blk_cell BK111.out 3).trans rfl
                have hcz17_4 : wc.cell? ⟨gb111, 4, none⟩ = some (.int .i64 a1_4) := (blk_cell BK111.out 4).trans rfl
                have hcz17_5 : wc.cell? ⟨gb111, 5, none⟩ = some (.int .i64 a1_5) := (blk_cell BK111.out 5).trans rfl
                have hcz17_6 : wc.cell? ⟨gb111, 6, none⟩ = some (.int .i64 a1_6) := (blk_cell BK111.out 6).trans rfl
                have hcz17_7 : wc.cell? ⟨gb111, 7, none⟩ = some (.string a1_7) := (blk_cell BK111.out 7).trans rfl
                have hfz17_0 := blk_frozen BK111.out 0
                have hfz17_1 := blk_frozen BK111.out 1
                have hfz17_2 := blk_frozen BK111.out 2
                have hfz17_3 := blk_frozen BK111.out 3
                have hfz17_4 := blk_frozen BK111.out 4
                have hfz17_5 := blk_frozen BK111.out 5
                have hfz17_6 := blk_frozen BK111.out 6
                have hfz17_7 := blk_frozen BK111.out 7
                go_wp2
                repeat (go_quiet (fail); try go_wp2)
                first | go_end0 | ((try simp only [Exit.inBlock, Exit.then]); refine bodyPost_ret (results_none rfl _ _ _) rfl ?_)
                exact ⟨by first | rfl | (simp [errW_none, errW_some] <;> rfl) | (simp [*, errW_none, errW_some] <;> rfl), by repeat (first | (with_reducible first | exact HI0.out | apply IsS60.alloc | apply IsS60.drewN | apply IsS60.drew | apply IsS60.set_1 | apply IsS60.set_2 | apply IsS60.set_3 | apply IsS60.set_4 | apply IsS60.set_5 | apply IsS60.set_6 | apply IsS60.set_7 | apply IsS60.set_8 | apply IsS60.set_9 | apply IsS60.set_10 | apply IsS60.set_11 | apply IsS60.set_12 | apply IsS60.set_13 | apply IsS60.set_14 | apply IsS60.set_15 | apply IsS60.set_16 | apply IsS60.set_17 | apply IsS60.set_18 | refine IsS60.far ?_ NB0_111.out _) | exact HI0.out), by repeat (first | (with_reducible first | exact HB.out | apply below_alloc | apply pw_below_drewN | apply below_drew1 | refine below_set ?_ (IsS60.ge HI0.out) | refine below_set ?_ GE111.out) | exact HB.out), by repeat (first | (with_reducible first | exact HK.out | apply KeepBut.set_ | apply keep_drewN | apply keep_drew | apply keep_alloc | refine keep_far ?_ GW111.out _) | exact HK.out)⟩
              · rw [if_neg c14] at H
                have c14b0 : (a1_2.toList == s0_9.toList) = false := beq_eq_false_iff_ne.mpr c14
                have c14b1 : (a1_2.toList != s0_9.toList) = true := bne_iff_ne.mpr c14
                simp only [Option.some.injEq, Prod.mk.injEq] at H
                obtain ⟨rfl, rfl, rfl, rfl, rfl, rfl, rfl, rfl, rfl, rfl, rfl, rfl, rfl, rfl, rfl, rfl, rfl, rfl⟩ := H
                obtain ⟨ASz18_0, cSz18_0, HGz18, hgz18, HSz18_0⟩ := HI0.out
                have hcz18_0 := cellS60_0 HGz18
                have hcz18_1 := cellS60_1 HGz18
                have hcz18_2 := cellS60_2 HGz18
                have hcz18_3 := cellS60_3 HGz18
                have hcz18_4 := cellS60_4 HGz18
                have hcz18_5 := cellS60_5 HGz18
                have hcz18_6 := cellS60_6 HGz18
                have hcz18_7 := cellS60_7 HGz18
                have hcz18_8 := cellS60_8 HGz18
                have hcz18_9 := cellS60_9 HGz18
                have hcz18_10 := cellS60_10 HGz18
                have hcz18_11 := cellS60_11 HGz18
                have hcz18_12 := cellS60_12 HGz18
                have hcz18_13 := cellS60_13 HGz18
                have hcz18_14 := cellS60_14 HGz18
                have hcz18_15 := cellS60_15 HGz18
                have hcz18_16 := cellS60_16 HGz18
                have hcz18_17 := cellS60_17 HGz18
                have hcz18_18 := cellS60_18 HGz18
                have hfz18_1 := blk_frozen HGz18 1
                have hfz18_2 := blk_frozen HGz18 2
                have hfz18_3 := blk_frozen HGz18 3
                have hfz18_4 := blk_frozen HGz18 4
                have hfz18_5 := blk_frozen HGz18 5
                have hfz18_6 := blk_frozen HGz18 6
                have hfz18_7 := blk_frozen HGz18 7
                have hfz18_8 := blk_frozen HGz18 8
                have hfz18_9 := blk_frozen HGz18 9
                have hfz18_10 := blk_frozen HGz18 10
                have hfz18_11 := blk_frozen HGz18 11
                have hfz18_12 := blk_frozen HGz18 12
                have hfz18_13 := blk_frozen HGz18 13
                have hfz18_14 := blk_frozen HGz18 14
                have hfz18_15 := blk_frozen HGz18 15
                have hfz18_16 := blk_frozen HGz18 16
                have hfz18_17 := blk_frozen HGz18 17
                have hfz18_18 := blk_frozen HGz18 18
                clear HGz18 hgz18
                have hnb19 := NB111_0.out
                have hnc19 := NB0_111.out
                have hcz20_0 : wc.cell? ⟨gb111, 0, none⟩ = some (.string a1_0) := (blk_cell BK111.out 0).trans rfl
                have hcz20_1 : wc.cell? ⟨gb111, 1, none⟩ = some (.string a1_1) := (blk_cell BK111.out 1).trans rfl
                have hcz20_2 : wc.cell? ⟨gb111, 2, none⟩ = some (.string a1_2) := (blk_cell BK111.out 2).trans rfl
                have hcz20_3 : wc.cell? ⟨gb111, 3, none⟩ = some (.int .i64 a1_3) := (blk_cell BK111.out 3).trans rfl
                have hcz20_4 : wc.cell? ⟨gb111, 4, none⟩ = some (.int .i64 a1_4) := (blk_cell BK111.out 4).trans rfl
                have hcz20_5 : wc.cell? ⟨gb111, 5, none⟩ = some (.int .i64 a1_5) := (blk_cell BK111.out 5).trans rfl
                have hcz20_6 : wc.cell? ⟨gb111, 6, none⟩ = some (.int .i64 a1_6) := (blk_cell BK111.out 6).trans rfl
                have hcz20_7 : wc.cell? ⟨gb111, 7, none⟩ = some (.string a1_7) := (blk_cell BK111.out 7).trans rfl
                have hfz20_0 := blk_frozen BK111.out 0
                have hfz20_1 := blk_frozen BK111.out 1
                have hfz20_2 := blk_frozen BK111.out 2
                have hfz20_3 := blk_frozen BK111.out 3
                have hfz20_4 := blk_frozen BK111.out 4
                have hfz20_5 := blk_frozen BK111.out 5
                have hfz20_6 := blk_frozen BK111.out 6
                have hfz20_7 := blk_frozen BK111.out 7
                go_wp2
                repeat (go_quiet (fail); try go_wp2)
                first | go_end0 | ((try simp only [Exit.inBlock, Exit.then]); refine bodyPost_ret (results_none rfl _ _ _) rfl ?_)
                exact ⟨by first | rfl | (simp [errW_none, errW_some] <;> rfl) | (simp [*, errW_none, errW_some] <;> rfl), by repeat (first | (with_reducible first | exact HI0.out | apply IsS60.alloc | apply IsS60.drewN | apply IsS60.drew | apply IsS60.set_1 | apply IsS60.set_2 | apply IsS60.set_3 | apply IsS60.set_4 | apply IsS60.set_5 | apply IsS60.set_6 | apply IsS60.set_7 | apply IsS60.set_8 | apply IsS60.set_9 | apply IsS60.set_10 | apply IsS60.set_11 | apply IsS60.set_12 | apply IsS60.set_13 | apply IsS60.set_14 | apply IsS60.set_15 | apply IsS60.set_16 | apply IsS60.set_17 | apply IsS60.set_18 | refine IsS60.far ?_ NB0_111.out _) | exact HI0.out), by repeat (first | (with_reducible first | exact HB.out | apply below_alloc | apply pw_below_drewN | apply below_drew1 | refine below_set ?_ (IsS60.ge HI0.out) | refine below_set ?_ GE111.out) | exact HB.out), by repeat (first | (with_reducible first | exact HK.out | apply KeepBut.set_ | apply keep_drewN | apply keep_drew | apply keep_alloc | refine keep_far ?_ GW111.out _) | exact HK.out)⟩
            · rw [if_neg c13] at H
              have c13b0 : (a1_1.toList == s0_8.toList) = false := beq_eq_false_iff_ne.mpr c13
              have c13b1 : (a1_1.toList != s0_8.toList) = true := bne_iff_ne.mpr c13
              simp only [Option.some.injEq, Prod.mk.injEq] at H
              obtain ⟨rfl, rfl, rfl, rfl, rfl, rfl, rfl, rfl, rfl, rfl, rfl, rfl, rfl, rfl, rfl, rfl, rfl, rfl⟩ := H
              obtain ⟨ASz21_0, cSz21_0, HGz21, hgz21, HSz21_0⟩ := HI0.out
              have hcz21_0 := cellS60_0 HGz21
              have hcz21_1 := cellS60_1 HGz21
              have hcz21_2 := cellS60_2 HGz21
              have hcz21_3 := cellS60_3 HGz21
              have hcz21_4 := cellS60_4 HGz21
              have hcz21_5 := cellS60_5 HGz21
              have hcz21_6 := cellS60_6 HGz21
              have hcz21_7 := cellS60_7 HGz21
              have hcz21_8 := cellS60_8 HGz21
              have hcz21_9 := cellS60_9 HGz21
              have hcz21_10 := cellS60_10 HGz21
              have hcz21_11 := cellS60_11 HGz21
              have hcz21_12 := cellS60_12 HGz21
              have hcz21_13 := cellS60_13 HGz21
              have hcz21_14 := cellS60_14 HGz21
              have hcz21_15 := cellS60_15 HGz21
              have hcz21_16 := cellS60_16 HGz21
              have hcz21_17 := cellS60_17 HGz21
              have hcz21_18 := cellS60_18 HGz21
              have hfz21_1 := blk_frozen HGz21 1
              have hfz21_2 := blk_frozen HGz21 2
              have hfz21_3 := blk_frozen HGz21 3
              have hfz21_4 := blk_frozen HGz21 4
              have hfz21_5 := blk_frozen HGz21 5
              have hfz21_6 := blk_frozen HGz21 6
              have hfz21_7 := blk_frozen HGz21 7
              have hfz21_8 := blk_frozen HGz21 8
              have hfz21_9 := blk_frozen HGz21 9
              have hfz21_10 := blk_frozen HGz21 10
              have hfz21_11 := blk_frozen HGz21 11
              have hfz21_12 := blk_frozen HGz21 12
              have hfz21_13 := blk_frozen HGz21 13
              have hfz21_14 := blk_frozen HGz21 14
              have hfz21_15 := blk_frozen HGz21 15
              have hfz21_16 := blk_frozen HGz21 16
              have hfz21_17 := blk_frozen HGz21 17
              have hfz21_18 := blk_frozen HGz21 18
              clear HGz21 hgz21
              have hnb22 := NB111_0.out
              have hnc22 := NB0_111.out
              have hcz23_0 : wc.cell? ⟨gb111, 0, none⟩ = some (.string a1_0) := (blk_cell BK111.out 0).trans rfl
              have hcz23_1 : wc.cell? ⟨gb111, 1, none⟩ = some (.string a1_1) := (blk_cell BK111.out 1).trans rfl
              have hcz23_2 : wc.cell? ⟨gb111, 2, none⟩ = some (.string a1_2) := (blk_cell BK111.out 2).trans rfl
              have hcz23_3 : wc.cell? ⟨gb111, 3, none⟩ = some (.int .i64 a1_3) := (blk_cell BK111.out 3).trans rfl
              have hcz23_4 : wc.cell? ⟨gb111, 4, none⟩ = some (.int .i64 a1_4) := (blk_cell BK111.out 4).trans rfl
              have hcz23_5 : wc.cell? ⟨gb111, 5, none⟩ = some (.int .i64 a1_5) := (blk_cell BK111.out 5).trans rfl
              have hcz23_6 : wc.cell? ⟨gb111, 6, none⟩ = some (.int .i64 a1_6) := (blk_cell BK111.out 6).trans rfl
              have hcz23_7 : wc.cell? ⟨gb111, 7, none⟩ = some (.string a1_7) := (blk_cell BK111.out 7).trans rfl
              have hfz23_0 := blk_frozen BK111.out 0
              have hfz23_1 := blk_frozen BK111.out 1
              have hfz23_2 := blk_frozen BK111.out 2
              have hfz23_3 := blk_frozen BK111.out 3
              have hfz23_4 := blk_frozen BK111.out 4
              have hfz23_5 := blk_frozen BK111.out 5
              have hfz23_6 := blk_frozen BK111.out 6
              have hfz23_7 := blk_frozen BK111.out 7
              go_wp2
              repeat (go_quiet (fail); try go_wp2)
              first | go_end0 | ((try simp only [Exit.inBlock, Exit.then]); refine bodyPost_ret (results_none rfl _ _ _) rfl ?_)
              exact ⟨by first | rfl | (simp [errW_none, errW_some] <;> rfl) | (simp [*, errW_none, errW_some] <;> rfl), by repeat (first | (with_reducible first | exact HI0.out | apply IsS60.alloc | apply IsS60.drewN | apply IsS60.drew | apply IsS60.set_1 | apply IsS60.set_2 | apply IsS60.set_3 | apply IsS60.set_4 | apply IsS60.set_5 | apply IsS60.set_6 | apply IsS60.set_7 | apply IsS60.set_8 | apply IsS60.set_9 | apply IsS60.set_10 | apply IsS60.set_11 | apply IsS60.set_12 | apply IsS60.set_13 | apply IsS60.set_14 | apply IsS60.set_15 | apply IsS60.set_16 | apply IsS60.set_17 | apply IsS60.set_18 | refine IsS60.far ?_ NB0_111.out _) | exact HI0.out), by repeat (first | (with_reducible first | exact HB.out | apply below_alloc | apply pw_below_drewN | apply below_drew1 | refine below_set ?_ (IsS60.ge HI0.out) | refine below_set ?_ GE111.out) | exact HB.out), by repeat (first | (with_reducible first | exact HK.out | apply KeepBut.set_ | apply keep_drewN | apply keep_drew | apply keep_alloc | refine keep_far ?_ GW111.out _) | exact HK.out)⟩
          · rw [if_neg c12] at H
            have c12b0 : (a1_0.toList == s0_7.toList) = false := beq_eq_false_iff_ne.mpr c12
            have c12b1 : (a1_0.toList != s0_7.toList) = true := bne_iff_ne.mpr c12
            simp only [Option.some.injEq, Prod.mk.injEq] at H
            obtain ⟨rfl, rfl, rfl, rfl, rfl, rfl, rfl, rfl, rfl, rfl, rfl, rfl, rfl, rfl, rfl, rfl, rfl, rfl⟩ := H
            obtain ⟨ASz24_0, cSz24_0, HGz24, hgz24, HSz24_0⟩ := HI0.out
            have hcz24_0 := cellS60_0 HGz24
            have hcz24_1 := cellS60_1 HGz24
            have hcz24_2 := cellS60_2 HGz24
            have hcz24_3 := cellS60_3 HGz24
            have hcz24_4 := cellS60_4 HGz24
            have hcz24_5 := cellS60_5 HGz24
            have hcz24_6 := cellS60_6 HGz24
            have hcz24_7 := cellS60_7 HGz24
            have hcz24_8 := cellS60_8 HGz24
            have hcz24_9 := cellS60_9 HGz24
            have hcz24_10 := cellS60_10 HGz24
            have hcz24_11 := cellS60_11 HGz24
            have hcz24_12 := cellS60_12 HGz24
            have hcz24_13 := cellS60_13 HGz24
            have hcz24_14 := cellS60_14 HGz24
            have hcz24_15 := cellS60_15 HGz24
            have hcz24_16 := cellS60_16 HGz24
            have hcz24_17 := cellS60_17 HGz24
            have hcz24_18 := cellS60_18 HGz24
            have hfz24_1 := blk_frozen HGz24 1
            have hfz24_2 := blk_frozen HGz24 2
            have hfz24_3 := blk_frozen HGz24 3
            have hfz24_4 := blk_frozen HGz24 4
            have hfz24_5 := blk_frozen HGz24 5
            have hfz24_6 := blk_frozen HGz24 6
            have hfz24_7 := blk_frozen HGz24 7
            have hfz24_8 := blk_frozen HGz24 8
            have hfz24_9 := blk_frozen HGz24 9
            have hfz24_10 := blk_frozen HGz24 10
            have hfz24_11 := blk_frozen HGz24 11
            have hfz24_12 := blk_frozen HGz24 12
            have hfz24_13 := blk_frozen HGz24 13
            have hfz24_14 := blk_frozen HGz24 14
            have hfz24_15 := blk_frozen HGz24 15
            have hfz24_16 := blk_frozen HGz24 16
            have hfz24_17 := blk_frozen HGz24 17
            have hfz24_18 := blk_frozen HGz24 18
            clear HGz24 hgz24
            have hnb25 := NB111_0.out
            have hnc25 := NB0_111.out
            have hcz26_0 : wc.cell? ⟨gb111, 0, none⟩ = some (.string a1_0) := (blk_cell BK111.out 0).trans rfl
            have hcz26_1 : wc.cell? ⟨gb111, 1, none⟩ = some (.string a1_1) := (blk_cell BK111.out 1).trans rfl
            have hcz26_2 : wc.cell? ⟨gb111, 2, none⟩ = some (.string a1_2) := (blk_cell BK111.out 2).trans rfl
            have hcz26_3 : wc.cell? ⟨gb111, 3, none⟩ = some (.int .i64 a1_3) := (blk_cell BK111.out 3).trans rfl
            have hcz26_4 : wc.cell? ⟨gb111, 4, none⟩ = some (.int .i64 a1_4) := (blk_cell BK111.out 4).trans rfl
            have hcz26_5 : wc.cell? ⟨gb111, 5, none⟩ = some (.int .i64 a1_5) := (blk_cell BK111.out 5).trans rfl
            have hcz26_6 : wc.cell? ⟨gb111, 6, none⟩ = some (.int .i64 a1_6) := (blk_cell BK111.out 6).trans rfl
            have hcz26_7 : wc.cell? ⟨gb111, 7, none⟩ = some (.string a1_7) := (blk_cell BK111.out 7).trans rfl
            have hfz26_0 := blk_frozen BK111.out 0
            have hfz26_1 := blk_frozen BK111.out 1
            have hfz26_2 := blk_frozen BK111.out 2
            have hfz26_3 := blk_frozen BK111.out 3
            have hfz26_4 := blk_frozen BK111.out 4
            have hfz26_5 := blk_frozen BK111.out 5
            have hfz26_6 := blk_frozen BK111.out 6
            have hfz26_7 := blk_frozen BK111.out 7
            go_wp2
            repeat (go_quiet (fail); try go_wp2)
            first | go_end0 | ((try simp only [Exit.inBlock, Exit.then]); refine bodyPost_ret (results_none rfl _ _ _) rfl ?_)
            exact ⟨by first | rfl | (simp [errW_none, errW_some] <;> rfl) | (simp [*, errW_none, errW_some] <;> rfl), by repeat (first | (with_reducible first | exact HI0.out | apply IsS60.alloc | apply IsS60.drewN | apply IsS60.drew | apply IsS60.set_1 | apply IsS60.set_2 | apply IsS60.set_3 | apply IsS60.set_4 | apply IsS60.set_5 | apply IsS60.set_6 | apply IsS60.set_7 | apply IsS60.set_8 | apply IsS60.set_9 | apply IsS60.set_10 | apply IsS60.set_11 | apply IsS60.set_12 | apply IsS60.set_13 | apply IsS60.set_14 | apply IsS60.set_15 | apply IsS60.set_16 | apply IsS60.set_17 | apply IsS60.set_18 | refine IsS60.far ?_ NB0_111.out _) | exact HI0.out), by repeat (first | (with_reducible first | exact HB.out | apply below_alloc | apply pw_below_drewN | apply below_drew1 | refine below_set ?_ (IsS60.ge HI0.out) | refine below_set ?_ GE111.out) | exact HB.out), by repeat (first | (with_reducible first | exact HK.out | apply KeepBut.set_ | apply keep_drewN | apply keep_drew | apply keep_alloc | refine keep_far ?_ GW111.out _) | exact HK.out)⟩
        · replace c11 := Bool.eq_false_iff.mpr c11
          subst c11
          have H1 : (if a1_0.toList = s0_7.toList then (if a1_1.toList = s0_8.toList then (if a1_2.toList = s0_9.toList then (some (s0_1, s0_2, s0_3, s0_4, s0_5, s0_6, a1_0, a1_1, a1_2, a1_3, a1_4, a1_5, a1_6, a1_7, true, s0_16, s0_17, false)) else (some (s0_1, s0_2, s0_3, s0_4, s0_5, s0_6, a1_0, a1_1, a1_2, a1_3, a1_4, a1_5, a1_6, a1_7, true, 0, s0_17, false))) else (some (s0_1, s0_2, s0_3, s0_4, s0_5, s0_6, a1_0, a1_1, a1_2, a1_3, a1_4, a1_5, a1_6, a1_7, true, 0, s0_17, false))) else (some (s0_1, s0_2, s0_3, s0_4, s0_5, s0_6, a1_0, a1_1, a1_2, a1_3, a1_4, a1_5, a1_6, a1_7, true, 0, s0_17, false))) = some (r1, r2, r3, r4, r5, r6, r7, r8, r9, r10, r11, r12, r13, r14, r15, r16, r17, r18) := by rw [if_neg (show ¬ (false = true) by decide)] at H; exact H
          clear H
          have H := H1
          clear H1
          by_cases c27 : a1_0.toList = s0_7.toList
          · rw [if_pos c27] at H
            have c27b0 : (a1_0.toList == s0_7.toList) = true := beq_iff_eq.mpr c27
            have c27b1 : (a1_0.toList != s0_7.toList) = false := bne_eq_false_iff_eq.mpr c27
            clear c27
            by_cases c28 : a1_1.toList = s0_8.toList
            · rw [if_pos c28] at H
              have c28b0 : (a1_1.toList == s0_8.toList) = true := beq_iff_eq.mpr c28
              have c28b1 : (a1_1.toList != s0_8.toList) = false := bne_eq_false_iff_eq.mpr c28
              clear c28
              by_cases c29 : a1_2.toList = s0_9.toList
              · rw [if_pos c29] at H
                have c29b0 : (a1_2.toList == s0_9.toList) = true := beq_iff_eq.mpr c29
                have c29b1 : (a1_2.toList != s0_9.toList) = false := bne_eq_false_iff_eq.mpr c29
                clear c29
                simp only [Option.some.injEq, Prod.mk.injEq] at H
                obtain ⟨rfl, rfl, rfl, rfl, rfl, rfl, rfl, rfl, rfl, rfl, rfl, rfl, rfl, rfl, rfl, rfl, rfl, rfl⟩ := H
                obtain ⟨ASz30_0, cSz30_0, HGz30, hgz30, HSz30_0⟩ := HI0.out
                have hcz30_0 := cellS60_0 HGz30
                have hcz30_1 := cellS60_1 HGz30
                have hcz30_2 := cellS60_2 HGz30
                have hcz30_3 := cellS60_3 HGz30
                have hcz30_4 := cellS60_4 HGz30
                have hcz30_5 := cellS60_5 HGz30
                have hcz30_6 := cellS60_6 HGz30
                have hcz30_7 := cellS60_7 HGz30
                have hcz30_8 := cellS60_8 HGz30
                have hcz30_9 := cellS60_9 HGz30
                have hcz30_10 := cellS60_10 HGz30
                have hcz30_11 := cellS60_11 HGz30
                have hcz30_12 := cellS60_12 HGz30
                have hcz30_13 := cellS60_13 HGz30
                have hcz30_14 := cellS60_14 HGz30
                have hcz30_15 := cellS60_15 HGz30
                have hcz30_16 := cellS60_16 HGz30
                have hcz30_17 := cellS60_17 HGz30
                have hcz30_18 := cellS60_18 HGz30
                have hfz30_1 := blk_frozen HGz30 1
                have hfz30_2 := blk_frozen HGz30 2
                have hfz30_3 := blk_frozen HGz30 3
                have hfz30_4 := blk_frozen HGz30 4
                have hfz30_5 := blk_frozen HGz30 5
                have hfz30_6 := blk_frozen HGz30 6
                have hfz30_7 := blk_frozen HGz30 7
                have hfz30_8 := blk_frozen HGz30 8
                have hfz30_9 := blk_frozen HGz30 9
                have hfz30_10 := blk_frozen HGz30 10
                have hfz30_11 := blk_frozen HGz30 11
                have hfz30_12 := blk_frozen HGz30 12
                have hfz30_13 := blk_frozen HGz30 13
                have hfz30_14 := blk_frozen HGz30 14
                have hfz30_15 := blk_frozen HGz30 15
                have hfz30_16 := blk_frozen HGz30 16
                have hfz30_17 := blk_frozen HGz30 17
                have hfz30_18 := blk_frozen HGz30 18
                clear HGz30 hgz30
                have hnb31 := NB111_0.out
                have hnc31 := NB0_111.out
                have hcz32_0 : wc.cell? ⟨gb111, 0, none⟩ = some (.string a1_0) := (blk_cell BK111.out 0).trans rfl
                have hcz32_1 : wc.cell? ⟨gb111, 1, none⟩ = some (.string a1_1) := (blk_cell BK111.out 1).trans rfl
                have hcz32_2 : wc.cell? ⟨gb111, 2, none⟩ = some (.string a1_2) := (blk_cell BK111.out 2).trans rfl
                have hcz32_3 : wc.cell? ⟨gb111, 3, none⟩ = some (.int .i64 a1_3) := (blk_cell BK111.out 3).trans rfl
                have hcz32_4 : wc.cell? ⟨gb111, 4, none⟩ = some (.int .i64 a1_4) := (blk_cell BK111.out 4).trans rfl
                have hcz32_5 : wc.cell? ⟨gb111, 5, none⟩ = some (.int .i64 a1_5) := (blk_cell BK111.out 5).trans rfl
                have hcz32_6 : wc.cell? ⟨gb111, 6, none⟩ = some (.int .i64 a1_6) := (blk_cell BK111.out 6).trans rfl
                have hcz32_7 : wc.cell? ⟨gb111, 7, none⟩ = some (.string a1_7) := (blk_cell BK111.out 7).trans rfl
                have hfz32_0 := blk_frozen BK111.out 0
                have hfz32_1 := blk_frozen BK111.out 1
                have hfz32_2 := blk_frozen BK111.out 2
                have hfz32_3 := blk_frozen BK111.out 3
                have hfz32_4 := blk_frozen BK111.out 4
                have hfz32_5 := blk_frozen BK111.out 5
                have hfz32_6 := blk_frozen BK111.out 6
                have hfz32_7 := blk_frozen BK111.out 7
                go_wp2
                repeat (go_quiet (fail); try go_wp2)
                first | go_end0 | ((try simp only [Exit.inBlock, Exit.then]); refine bodyPost_ret (results_none rfl _ _ _) rfl ?_)
                exact ⟨by first | rfl | (simp [errW_none, errW_some] <;> rfl) | (simp [*, errW_none, errW_some] <;> rfl), by repeat (first | (with_reducible first | exact HI0.out | apply IsS60.alloc | apply IsS60.drewN | apply IsS60.drew | apply IsS60.set_1 | apply IsS60.set_2 | apply IsS60.set_3 | apply IsS60.set_4 | apply IsS60.set_5 | apply IsS60.set_6 | apply IsS60.set_7 | apply IsS60.set_8 | apply IsS60.set_9 | apply IsS60.set_10 | apply IsS60.set_11 | apply IsS60.set_12 | apply IsS60.set_13 | apply IsS60.set_14 | apply IsS60.set_15 | apply IsS60.set_16 | apply IsS60.set_17 | apply IsS60.set_18 | refine IsS60.far ?_ NB0_111.out _) | exact HI0.out), by repeat (first | (with_reducible first | exact HB.out | apply below_alloc | apply pw_below_drewN | apply below_drew1 | refine below_set ?_ (IsS60.ge HI0.out) | refine below_set ?_ GE111.out) | exact HB.out), by repeat (first | (with_reducible first | exact HK.out | apply KeepBut.set_ | apply keep_drewN | apply keep_drew | apply keep_alloc | refine keep_far ?_ GW111.out _) | exact HK.out)⟩
              · rw [if_neg c29] at H
                have c29b0 : (a1_2.toList == s0_9.toList) = false := beq_eq_false_iff_ne.mpr c29
                have c29b1 : (a1_2.toList != s0_9.toList) = true := bne_iff_ne.mpr c29
                simp only [Option.some.injEq, Prod.mk.injEq] at H
                obtain ⟨rfl, rfl, rfl, rfl, rfl, rfl, rfl, rfl, rfl, rfl, rfl, rfl, rfl, rfl, rfl, rfl, rfl, rfl⟩ := H
                obtain ⟨ASz33_0, cSz33_0, HGz33, hgz33, HSz33_0⟩ := HI0.out
                have hcz33_0 := cellS60_0 HGz33
                have hcz33_1 := cellS60_1 HGz33
                have hcz33_2 := cellS60_2 HGz33
                have hcz33_3 := cellS60_3 HGz33
                have hcz33_4 := cellS60_4 HGz33
                have hcz33_5 := cellS60_5 HGz33
                have hcz33_6 := cellS60_6 HGz33
                have hcz33_7 := cellS60_7 HGz33
                have hcz33_8 := cellS60_8 HGz33
                have hcz33_9 := cellS60_9 HGz33
                have hcz33_10 := cellS60_10 HGz33
                have hcz33_11 := cellS60_11 HGz33
                have hcz33_12 := cellS60_12 HGz33
                have hcz33_13 := cellS60_13 HGz33
                have hcz33_14 := cellS60_14 HGz33
                have hcz33_15 := cellS60_15 HGz33
                have hcz33_16 := cellS60_16 HGz33
                have hcz33_17 := cellS60_17 HGz33
                have hcz33_18 := cellS60_18 HGz33
                have hfz33_1 := blk_frozen HGz33 1
                have hfz33_2 := blk_frozen HGz33 2
                have hfz33_3 := blk_frozen HGz33 3
                have hfz33_4 := blk_frozen HGz33 4
                have hfz33_5 := blk_frozen HGz33 5
                have hfz33_6 := blk_frozen HGz33 6
                have hfz33_7 := blk_frozen HGz33 7
                have hfz33_8 := blk_frozen HGz33 8
                have hfz33_9 := blk_frozen HGz33 9
                have hfz33_10 := blk_frozen HGz33 10
                have hfz33_11 := blk_frozen HGz33 11
                have hfz33_12 := blk_frozen HGz33 12
                have hfz33_13 := blk_frozen HGz33 13
                have hfz33_14 := blk_frozen HGz33 14
                have hfz33_15 := blk_frozen HGz33 15
                have hfz33_16 := blk_frozen HGz33 16
                have hfz33_17 := blk_frozen HGz33 17
                have hfz33_18 := blk_frozen HGz33 18
                clear HGz33 hgz33
                have hnb34 := NB111_0.out
                have hnc34 := NB0_111.out
                have hcz35_0 : wc.cell? ⟨gb111, 0, none⟩ = some (.string a1_0) := (blk_cell BK111.out 0).trans rfl
                have hcz35_1 : wc.cell? ⟨gb111, 1, none⟩ = some (.string a1_1) := (blk_cell BK111.out 1).trans rfl
                have hcz35_2 : wc.cell? ⟨gb111, 2, none⟩ = some (.string a1_2) := (blk_cell BK111.out 2).trans rfl
                have hcz35_3 : wc.cell? ⟨gb111, 3, none⟩ = some (.int .i64 a1_3) := (blk_cell BK111.out 3).trans rfl
                have hcz35_4 : wc.cell? ⟨gb111, 4, none⟩ = some (.int .i64 a1_4) := (blk_cell BK111.out 4).trans rfl
                have hcz35_5 : wc.cell? ⟨gb111, 5, none⟩ = some (.int .i64 a1_5) := (blk_cell BK111.out 5).trans rfl
                have hcz35_6 : wc.cell? ⟨gb111, 6, none⟩ = some (.int .i64 a1_6) := (blk_cell BK111.out 6).trans rfl
                have hcz35_7 : wc.cell? ⟨gb111, 7, none⟩ = some (.string a1_7) := (blk_cell BK111.out 7).trans rfl
                have hfz35_0 := blk_frozen BK111.out 0
                have hfz35_1 := blk_frozen BK111.out 1
                have hfz35_2 := blk_frozen BK111.out 2
                have hfz35_3 := blk_frozen BK111.out 3
                have hfz35_4 := blk_frozen BK111.out 4
                have hfz35_5 := blk_frozen BK111.out 5
                have hfz35_6 := blk_frozen BK111.out 6
                have hfz35_7 := blk_frozen BK111.out 7
                go_wp2
                repeat (go_quiet (fail); try go_wp2)
                first | go_end0 | ((try simp only [Exit.inBlock, Exit.then]); refine bodyPost_ret (results_none rfl _ _ _) rfl ?_)
                exact ⟨by first | rfl | (simp [errW_none, errW_some] <;> rfl) | (simp [*, errW_none, errW_some] <;> rfl), by repeat (first | (with_reducible first | exact HI0.out | apply IsS60.alloc | apply IsS60.drewN | apply IsS60.drew | apply IsS60.set_1 | apply IsS60.set_2 | apply IsS60.set_3 | apply IsS60.set_4 | apply IsS60.set_5 | apply IsS60.set_6 | apply IsS60.set_7 | apply IsS60.set_8 | apply IsS60.set_9 | apply IsS60.set_10 | apply IsS60.set_11 | apply IsS60.set_12 | apply IsS60.set_13 | apply IsS60.set_14 | apply IsS60.set_15 | apply IsS60.set_16 | apply IsS60.set_17 | apply IsS60.set_18 | refine IsS60.far ?_ NB0_111.out _) | exact HI0.out), by repeat (first | (with_reducible first | exact HB.out | apply below_alloc | apply pw_below_drewN | apply below_drew1 | refine below_set ?_ (IsS60.ge HI0.out) | refine below_set ?_ GE111.out) | exact HB.out), by repeat (first | (with_reducible first | exact HK.out | apply KeepBut.set_ | apply keep_drewN | apply keep_drew | apply keep_alloc | refine keep_far ?_ GW111.out _) | exact HK.out)⟩
            · rw [if_neg c28] at H
              have c28b0 : (a1_1.toList == s0_8.toList) = false := beq_eq_false_iff_ne.mpr c28
              have c28b1 : (a1_1.toList != s0_8.toList) = true := bne_iff_ne.mpr c28
              simp only [Option.some.injEq, Prod.mk.injEq] at H
              obtain ⟨rfl, rfl, rfl, rfl, rfl, rfl, rfl, rfl, rfl, rfl, rfl, rfl, rfl, rfl, rfl, rfl, rfl, rfl⟩ := H
              obtain ⟨ASz36_0, cSz36_0, HGz36, hgz36, HSz36_0⟩ := HI0.out
              have hcz36_0 := cellS60_0 HGz36
              have hcz36_1 := cellS60_1 HGz36
              have hcz36_2 := cellS60_2 HGz36
              have hcz36_3 := cellS60_3 HGz36
              have hcz36_4 := cellS60_4 HGz36
              have hcz36_5 := cellS60_5 HGz36
              have hcz36_6 := cellS60_6 HGz36
              have hcz36_7 := cellS60_7 HGz36
              have hcz36_8 := cellS60_8 HGz36
              have hcz36_9 := cellS60_9 HGz36
              have hcz36_10 := cellS60_10 HGz36
              have hcz36_11 := cellS60_11 HGz36
              have hcz36_12 := cellS60_12 HGz36
              have hcz36_13 := cellS60_13 HGz36
              have hcz36_14 := cellS60_14 HGz36
              have hcz36_15 := cellS60_15 HGz36
              have hcz36_16 := cellS60_16 HGz36
              have hcz36_17 := cellS60_17 HGz36
              have hcz36_18 := cellS60_18 HGz36
              have hfz36_1 := blk_frozen HGz36 1
              have hfz36_2 := blk_frozen HGz36 2
              have hfz36_3 := blk_frozen HGz36 3
              have hfz36_4 := blk_frozen HGz36 4
              have hfz36_5 := blk_frozen HGz36 5
              have hfz36_6 := blk_frozen HGz36 6
              have hfz36_7 := blk_frozen HGz36 7
              have hfz36_8 := blk_frozen HGz36 8
              have hfz36_9 := blk_frozen HGz36 9
              have hfz36_10 := blk_frozen HGz36 10
              have hfz36_11 := blk_frozen HGz36 11
              have hfz36_12 := blk_frozen HGz36 12
              have hfz36_13 := blk_frozen HGz36 13
              have hfz36_14 := blk_frozen HGz36 14
              have hfz36_15 := blk_frozen HGz36 15
              have hfz36_16 := blk_frozen HGz36 16
              have hfz36_17 := blk_frozen HGz36 17
              have hfz36_18 := blk_frozen HGz36 18
              clear HGz36 hgz36
              have hnb37 := NB111_0.out
              have hnc37 := NB0_111.out
              have hcz38_0 : wc.cell? ⟨gb111, 0, none⟩ = some (.string a1_0) := (blk_cell BK111.out 0).trans rfl
              have hcz38_1 : wc.cell? ⟨gb111, 1, none⟩ = some (.string a1_1) := (blk_cell BK111.out 1).trans rfl
              have hcz38_2 : wc.cell? ⟨gb111, 2, none⟩ = some (.string a1_2) := (blk_cell BK111.out 2).trans rfl
              have hcz38_3 : wc.cell? ⟨gb111, 3, none⟩ = some (.int .i64 a1_3) := (blk_cell BK111.out 3).trans rfl
              have hcz38_4 : wc.cell? ⟨gb111, 4, none⟩ = some (.int .i64 a1_4) := (blk_cell BK111.out 4).trans rfl
              have hcz38_5 : wc.cell? ⟨gb111, 5, none⟩ = some (.int .i64 a1_5) := (blk_cell BK111.out 5).trans rfl
              have hcz38_6 : wc.cell? ⟨gb111, 6, none⟩ = some (.int .i64 a1_6) := (blk_cell BK111.out 6).trans rfl
              have hcz38_7 : wc.cell? ⟨gb111, 7, none⟩ = some (.string a1_7) := (blk_cell BK111.out 7).trans rfl
              have hfz38_0 := blk_frozen BK111.out 0
              have hfz38_1 := blk_frozen BK111.out 1
              have hfz38_2 := blk_frozen BK111.out 2
              have hfz38_3 := blk_frozen BK111.out 3
              have hfz38_4 := blk_frozen BK111.out 4
              have hfz38_5 := blk_frozen BK111.out 5
              have hfz38_6 := blk_frozen BK111.out 6
              have hfz38_7 := blk_frozen BK111.out 7
              go_wp2
              repeat (go_quiet (fail); try go_wp2)
              first | go_end0 | ((try simp only [Exit.inBlock, Exit.then]); refine bodyPost_ret (results_none rfl _ _ _) rfl ?_)
              exact ⟨by first | rfl | (simp [errW_none, errW_some] <;> rfl) | (simp [*, errW_none, errW_some] <;> rfl), by repeat (first | (with_reducible first | exact HI0.out | apply IsS60.alloc | apply IsS60.drewN | apply IsS60.drew | apply IsS60.set_1 | apply IsS60.set_2 | apply IsS60.set_3 | apply IsS60.set_4 | apply IsS60.set_5 | apply IsS60.set_6 | apply IsS60.set_7 | apply IsS60.set_8 | apply IsS60.set_9 | apply IsS60.set_10 | apply IsS60.set_11 | apply IsS60.set_12 | apply IsS60.set_13 | apply IsS60.set_14 | apply IsS60.set_15 | apply IsS60.set_16 | apply IsS60.set_17 | apply IsS60.set_18 | refine IsS60.far ?_ NB0_111.out _) | exact HI0.out), by repeat (first | (with_reducible first | exact HB.out | apply below_alloc | apply pw_below_drewN | apply below_drew1 | refine below_set ?_ (IsS60.ge HI0.out) | refine below_set ?_ GE111.out) | exact HB.out), by repeat (first | (with_reducible first | exact HK.out | apply KeepBut.set_ | apply keep_drewN | apply keep_drew | apply keep_alloc | refine keep_far ?_ GW111.out _) | exact HK.out)⟩
          · rw [if_neg c27] at H
            have c27b0 : (a1_0.toList == s0_7.toList) = false := beq_eq_false_iff_ne.mpr c27
            have c27b1 : (a1_0.toList != s0_7.toList) = true := bne_iff_ne.mpr c27
            simp only [Option.some.injEq, Prod.mk.injEq] at H
            obtain ⟨rfl, rfl, rfl, rfl, rfl, rfl, rfl, rfl, rfl, rfl, rfl, rfl, rfl, rfl, rfl, rfl, rfl, rfl⟩ := H
            obtain ⟨ASz39_0, cSz39_0, HGz39, hgz39, HSz39_0⟩ := HI0.out
            have hcz39_0 := cellS60_0 HGz39
            have hcz39_1 := cellS60_1 HGz39
            have hcz39_2 := cellS60_2 HGz39
            have hcz39_3 := cellS60_3 HGz39
            have hcz39_4 := cellS60_4 HGz39
            have hcz39_5 := cellS60_5 HGz39
            have hcz39_6 := cellS60_6 HGz39
            have hcz39_7 := cellS60_7 HGz39
            have hcz39_8 := cellS60_8 HGz39
            have hcz39_9 := cellS60_9 HGz39
            have hcz39_10 := cellS60_10 HGz39
            have hcz39_11 := cellS60_11 HGz39
            have hcz39_12 := cellS60_12 HGz39
            have hcz39_13 := cellS60_13 HGz39
            have hcz39_14 := cellS60_14 HGz39
            have hcz39_15 := cellS60_15 HGz39
            have hcz39_16 := cellS60_16 HGz39
            have hcz39_17 := cellS60_17 HGz39
            have hcz39_18 := cellS60_18 HGz39
            have hfz39_1 := blk_frozen HGz39 1
            have hfz39_2 := blk_frozen HGz39 2
            have hfz39_3 := blk_frozen HGz39 3
            have hfz39_4 := blk_frozen HGz39 4
            have hfz39_5 := blk_frozen HGz39 5
            have hfz39_6 := blk_frozen HGz39 6
            have hfz39_7 := blk_frozen HGz39 7
            have hfz39_8 := blk_frozen HGz39 8
            have hfz39_9 := blk_frozen HGz39 9
            have hfz39_10 := blk_frozen HGz39 10
            have hfz39_11 := blk_frozen HGz39 11
            have hfz39_12 := blk_frozen HGz39 12
            have hfz39_13 := blk_frozen HGz39 13
            have hfz39_14 := blk_frozen HGz39 14
            have hfz39_15 := blk_frozen HGz39 15
            have hfz39_16 := blk_frozen HGz39 16
            have hfz39_17 := blk_frozen HGz39 17
            have hfz39_18 := blk_frozen HGz39 18
            clear HGz39 hgz39
            have hnb40 := NB111_0.out
            have hnc40 := NB0_111.out
            have hcz41_0 : wc.cell? ⟨gb111, 0, none⟩ = some (.string a1_0) := (blk_cell BK111.out 0).trans rfl
            have hcz41_1 : wc.cell? ⟨gb111, 1, none⟩ = some (.string a1_1) := (blk_cell BK111.out 1).trans rfl
            have hcz41_2 : wc.cell? ⟨gb111, 2, none⟩ = some (.string a1_2) := (blk_cell BK111.out 2).trans rfl
            have hcz41_3 : wc.cell? ⟨gb111, 3, none⟩ = some (.int .i64 a1_3) := (blk_cell BK111.out 3).trans rfl
            have hcz41_4 : wc.cell? ⟨gb111, 4, none⟩ = some (.int .i64 a1_4) := (blk_cell BK111.out 4).trans rfl
            have hcz41_5 : wc.cell? ⟨gb111, 5, none⟩ = some (.int .i64 a1_5) := (blk_cell BK111.out 5).trans rfl
            have hcz41_6 : wc.cell? ⟨gb111, 6, none⟩ = some (.int .i64 a1_6) := (blk_cell BK111.out 6).trans rfl
            have hcz41_7 : wc.cell? ⟨gb111, 7, none⟩ = some (.string a1_7) := (blk_cell BK111.out 7).trans rfl
            have hfz41_0 := blk_frozen BK111.out 0
            have hfz41_1 := blk_frozen BK111.out 1
            have hfz41_2 := blk_frozen BK111.out 2
            have hfz41_3 := blk_frozen BK111.out 3
            have hfz41_4 := blk_frozen BK111.out 4
            have hfz41_5 := blk_frozen BK111.out 5
            have hfz41_6 := blk_frozen BK111.out 6
            have hfz41_7 := blk_frozen BK111.out 7
            go_wp2
            repeat (go_quiet (fail); try go_wp2)
            first | go_end0 | ((try simp only [Exit.inBlock, Exit.then]); refine bodyPost_ret (results_none rfl _ _ _) rfl ?_)
            exact ⟨by first | rfl | (simp [errW_none, errW_some] <;> rfl) | (simp [*, errW_none, errW_some] <;> rfl), by repeat (first | (with_reducible first | exact HI0.out | apply IsS60.alloc | apply IsS60.drewN | apply IsS60.drew | apply IsS60.set_1 | apply IsS60.set_2 | apply IsS60.set_3 | apply IsS60.set_4 | apply IsS60.set_5 | apply IsS60.set_6 | apply IsS60.set_7 | apply IsS60.set_8 | apply IsS60.set_9 | apply IsS60.set_10 | apply IsS60.set_11 | apply IsS60.set_12 | apply IsS60.set_13 | apply IsS60.set_14 | apply IsS60.set_15 | apply IsS60.set_16 | apply IsS60.set_17 | apply IsS60.set_18 | refine IsS60.far ?_ NB0_111.out _) | exact HI0.out), by repeat (first | (with_reducible first | exact HB.out | apply below_alloc | apply pw_below_drewN | apply below_drew1 | refine below_set ?_ (IsS60.ge HI0.out) | refine below_set ?_ GE111.out) | exact HB.out), by repeat (first | (with_reducible first | exact HK.out | apply KeepBut.set_ | apply keep_drewN | apply keep_drew | apply keep_alloc | refine keep_far ?_ GW111.out _) | exact HK.out)⟩
      · replace c10 := Bool.eq_false_iff.mpr c10
        subst c10
        have H1 : (if a1_0.toList = s0_7.toList then (if a1_1.toList = s0_8.toList then (if a1_2.toList = s0_9.toList then (some (s0_1, s0_2, s0_3, s0_4, s0_5, s0_6, a1_0, a1_1, a1_2, a1_3, a1_4, a1_5, a1_6, a1_7, true, s0_16, s0_17, s0_18)) else (some (s0_1, s0_2, s0_3, s0_4, s0_5, s0_6, a1_0, a1_1, a1_2, a1_3, a1_4, a1_5, a1_6, a1_7, true, 0, s0_17, s0_18))) else (some (s0_1, s0_2, s0_3, s0_4, s0_5, s0_6, a1_0, a1_1, a1_2, a1_3, a1_4, a1_5, a1_6, a1_7, true, 0, s0_17, s0_18))) else (some (s0_1, s0_2, s0_3, s0_4, s0_5, s0_6, a1_0, a1_1, a1_2, a1_3, a1_4, a1_5, a1_6, a1_7, true, 0, s0_17, s0_18))) = some (r1, r2, r3, r4, r5, r6, r7, r8, r9, r10, r11, r12, r13, r14, r15, r16, r17, r18) := by rw [if_neg (show ¬ (false = true) by decide)] at H; exact H
        clear H
        have H := H1
        clear H1
        by_cases c42 : a1_0.toList = s0_7.toList
        · rw [if_pos c42] at H
          have c42b0 : (a1_0.toList == s0_7.toList) = true := beq_iff_eq.mpr c42
          have c42b1 : (a1_0.toList != s0_7.toList) = false := bne_eq_false_iff_eq.mpr c42
          clear c42
          by_cases c43 : a1_1.toList = s0_8.toList
          · rw [if_pos c43] at H
            have c43b0 : (a1_1.toList == s0_8.toList) = true := beq_iff_eq.mpr c43
            have c43b1 : (a1_1.toList != s0_8.toList) = false := bne_eq_false_iff_eq.mpr c43
            clear c43
            by_cases c44 : a1_2.toList = s0_9.toList
            · rw [if_pos c44] at H
              have c44b0 : (a1_2.toList == s0_9.toList) = true := beq_iff_eq.mpr c44
              have c44b1 : (a1_2.toList != s0_9.toList) = false := bne_eq_false_iff_eq.mpr c44
              clear c44
              simp only [Option.some.injEq, Prod.mk.injEq] at H
              obtain ⟨rfl, rfl, rfl, rfl, rfl, rfl, rfl, rfl, rfl, rfl, rfl, rfl, rfl, rfl, rfl, rfl, rfl, rfl⟩ := H
              have hnb45 := NB111_0.out
              have hnc45 := NB0_111.out
              have hcz46_0 : wc.cell? ⟨gb111, 0, none⟩ = some (.string a1_0) := (blk_cell BK111.out 0).trans rfl
              have hcz46_1 : wc.cell? ⟨gb111, 1, none⟩ = some (.string a1_1) := (blk_cell BK111.out 1).trans rfl
              have hcz46_2 : wc.cell? ⟨gb111, 2, none⟩ = some (.string a1_2) := (blk_cell BK111.out 2).trans rfl
              have hcz46_3 : wc.cell? ⟨gb111, 3, none⟩ = some (.int .i64 a1_3) := (blk_cell BK111.out 3).trans rfl
              have hcz46_4 : wc.cell? ⟨gb111, 4, none⟩ = some (.int .i64 a1_4) := (blk_cell BK111.out 4).trans rfl
              have hcz46_5 : wc.cell? ⟨gb111, 5, none⟩ = some (.int .i64 a1_5) := (blk_cell BK111.out 5).trans rfl
              have hcz46_6 : wc.cell? ⟨gb111, 6, none⟩ = some (.int .i64 a1_6) := (blk_cell BK111.out 6).trans rfl
              have hcz46_7 : wc.cell? ⟨gb111, 7, none⟩ = some (.string a1_7) := (blk_cell BK111.out 7).trans rfl
              have hfz46_0 := blk_frozen BK111.out 0
              have hfz46_1 := blk_frozen BK111.out 1
              have hfz46_2 := blk_frozen BK111.out 2
              have hfz46_3 := blk_frozen BK111.out 3
              have hfz46_4 := blk_frozen BK111.out 4
              have hfz46_5 := blk_frozen BK111.out 5
              have hfz46_6 := blk_frozen BK111.out 6
              have hfz46_7 := blk_frozen BK111.out 7
              obtain ⟨ASz47_0, cSz47_0, HGz47, hgz47, HSz47_0⟩ := HI0.out
              have hcz47_0 := cellS60_0 HGz47
              have hcz47_1 := cellS60_1 HGz47
              have hcz47_2 := cellS60_2 HGz47
              have hcz47_3 := cellS60_3 HGz47
              have hcz47_4 := cellS60_4 HGz47
              have hcz47_5 := cellS60_5 HGz47
              have hcz47_6 := cellS60_6 HGz47
              have hcz47_7 := cellS60_7 HGz47
              have hcz47_8 := cellS60_8 HGz47
              have hcz47_9 := cellS60_9 HGz47
              have hcz47_10 := cellS60_10 HGz47
              have hcz47_11 := cellS60_11 HGz47
              have hcz47_12 := cellS60_12 HGz47
              have hcz47_13 := cellS60_13 HGz47
              have hcz47_14 := cellS60_14 HGz47
              have hcz47_15 := cellS60_15 HGz47
              have hcz47_16 := cellS60_16 HGz47
              have hcz47_17 := cellS60_17 HGz47
              have hcz47_18 := cellS60_18 HGz47
              have hfz47_1 := blk_frozen HGz47 1
              have hfz47_2 := blk_frozen HGz47 2
              have hfz47_3 := blk_frozen HGz47 3
              have hfz47_4 := blk_frozen HGz47 4
              have hfz47_5 := blk_frozen HGz47 5
              have hfz47_6 := blk_frozen HGz47 6
              have hfz47_7 := blk_frozen HGz47 7
              have hfz47_8 := blk_frozen HGz47 8
              have hfz47_9 := blk_frozen HGz47 9
              have hfz47_10 := blk_frozen HGz47 10
              have hfz47_11 := blk_frozen HGz47 11
              have hfz47_12 := blk_frozen HGz47 12
              have hfz47_13 := blk_frozen HGz47 13
              have hfz47_14 := blk_frozen HGz47 14
              have hfz47_15 := blk_frozen HGz47 15
              have hfz47_16 := blk_frozen HGz47 16
              have hfz47_17 := blk_frozen HGz47 17
              have hfz47_18 := blk_frozen HGz47 18
              clear HGz47 hgz47
              go_wp2
              repeat (go_quiet (fail); try go_wp2)
              first | go_end0 | ((try simp only [Exit.inBlock, Exit.then]); refine bodyPost_ret (results_none rfl _ _ _) rfl ?_)
              exact ⟨by first | rfl | (simp [errW_none, errW_some] <;> rfl) | (simp [*, errW_none, errW_some] <;> rfl), by repeat (first | (with_reducible first | exact HI0.out | apply IsS60.alloc | apply IsS60.drewN | apply IsS60.drew | apply IsS60.set_1 | apply IsS60.set_2 | apply IsS60.set_3 | apply IsS60.set_4 | apply IsS60.set_5 | apply IsS60.set_6 | apply IsS60.set_7 | apply IsS60.set_8 | apply IsS60.set_9 | apply IsS60.set_10 | apply IsS60.set_11 | apply IsS60.set_12 | apply IsS60.set_13 | apply IsS60.set_14 | apply IsS60.set_15 | apply IsS60.set_16 | apply IsS60.set_17 | apply IsS60.set_18 | refine IsS60.far ?_ NB0_111.out _) | exact HI0.out), by repeat (first | (with_reducible first | exact HB.out | apply below_alloc | apply pw_below_drewN | apply below_drew1 | refine below_set ?_ (IsS60.ge HI0.out) | refine below_set ?_ GE111.out) | exact HB.out), by repeat (first | (with_reducible first | exact HK.out | apply KeepBut.set_ | apply keep_drewN | apply keep_drew | apply keep_alloc | refine keep_far ?_ GW111.out _) | exact HK.out)⟩
            · rw [if_neg c44] at H
              have c44b0 : (a1_2.toList == s0_9.toList) = false := beq_eq_false_iff_ne.mpr c44
              have c44b1 : (a1_2.toList != s0_9.toList) = true := bne_iff_ne.mpr c44
              simp only [Option.some.injEq, Prod.mk.injEq] at H
              obtain ⟨rfl, rfl, rfl, rfl, rfl, rfl, rfl, rfl, rfl, rfl, rfl, rfl, rfl, rfl, rfl, rfl, rfl, rfl⟩ := H
              have hnb48 := NB111_0.out
              have hnc48 := NB0_111.out
              have hcz49_0 : wc.cell? ⟨gb111, 0, none⟩ = some (.string a1_0) := (blk_cell BK111.out 0).trans rfl
              have hcz49_1 : wc.cell? ⟨gb111, 1, none⟩ = some (.string a1_1) := (blk_cell BK111.out 1).trans rfl
              have hcz49_2 : wc.cell? ⟨gb111, 2, none⟩ = some (.string a1_2) := (blk_cell BK111.out 2).trans rfl
              have hcz49_3 : wc.cell? ⟨gb111, 3, none⟩ = some (.int .i64 a1_3) := (blk_cell BK111.out 3).trans rfl
              have hcz49_4 : wc.cell? ⟨gb111, 4, none⟩ = some (.int .i64 a1_4) := (blk_cell BK111.out 4).trans rfl
              have hcz49_5 : wc.cell? ⟨gb111, 5, none⟩ = some (.int .i64 a1_5) := (blk_cell BK111.out 5).trans rfl
              have hcz49_6 : wc.cell? ⟨gb111, 6, none⟩ = some (.int .i64 a1_6) := (blk_cell BK111.out 6).trans rfl
              have hcz49_7 : wc.cell? ⟨gb111, 7, none⟩ = some (.string a1_7) := (blk_cell BK111.out 7).trans rfl
              have hfz49_0 := blk_frozen BK111.out 0
              have hfz49_1 := blk_frozen BK111.out 1
              have hfz49_2 := blk_frozen BK111.out 2
              have hfz49_3 := blk_frozen BK111.out 3
              have hfz49_4 := blk_frozen BK111.out 4
              have hfz49_5 := blk_frozen BK111.out 5
              have hfz49_6 := blk_frozen BK111.out 6
              have hfz49_7 := blk_frozen BK111.out 7
              obtain ⟨ASz50_0, cSz50_0, HGz50, hgz50, HSz50_0⟩ := HI0.out
              have hcz50_0 := cellS60_0 HGz50
              have hcz50_1 := cellS60_1 HGz50
              have hcz50_2 := cellS60_2 HGz50
              have hcz50_3 := cellS60_3 HGz50
              have hcz50_4 := cellS60_4 HGz50
              have hcz50_5 := cellS60_5 HGz50
              have hcz50_6 := cellS60_6 HGz50
              have hcz50_7 := cellS60_7 HGz50
              have hcz50_8 := cellS60_8 HGz50
              have hcz50_9 := cellS60_9 HGz50
              have hcz50_10 := cellS60_10 HGz50
              have hcz50_11 := cellS60_11 HGz50
              have hcz50_12 := cellS60_12 HGz50
              have hcz50_13 := cellS60_13 HGz50
              have hcz50_14 := cellS60_14 HGz50
              have hcz50_15 := cellS60_15 HGz50
              have hcz50_16 := cellS60_16 HGz50
              have hcz50_17 := cellS60_17 HGz50
              have hcz50_18 := cellS60_18 HGz50
              have hfz50_1 := blk_frozen HGz50 1
              have hfz50_2 := blk_frozen HGz50 2
              have hfz50_3 := blk_frozen HGz50 3
              have hfz50_4 := blk_frozen HGz50 4
              have hfz50_5 := blk_frozen HGz50 5
              have hfz50_6 := blk_frozen HGz50 6
              have hfz50_7 := blk_frozen HGz50 7
              have hfz50_8 := blk_frozen HGz50 8
              have hfz50_9 := blk_frozen HGz50 9
              have hfz50_10 := blk_frozen HGz50 10
              have hfz50_11 := blk_frozen HGz50 11
              have hfz50_12 := blk_frozen HGz50 12
              have hfz50_13 := blk_frozen HGz50 13
              have hfz50_14 := blk_frozen HGz50 14
              have hfz50_15 := blk_frozen HGz50 15
              have hfz50_16 := blk_frozen HGz50 16
              have hfz50_17 := blk_frozen HGz50 17
              have hfz50_18 := blk_frozen HGz50 18
              clear HGz50 hgz50
              go_wp2
              repeat (go_quiet (fail); try go_wp2)
              first | go_end0 | ((try simp only [Exit.inBlock, Exit.then]); refine bodyPost_ret (results_none rfl _ _ _) rfl ?_)
              exact ⟨by first | rfl | (simp [errW_none, errW_some] <;> rfl) | (simp [*, errW_none, errW_some] <;> rfl), by repeat (first | (with_reducible first | exact HI0.out | apply IsS60.alloc | apply IsS60.drewN | apply IsS60.drew | apply IsS60.set_1 | apply IsS60.set_2 | apply IsS60.set_3 | apply IsS60.set_4 | apply IsS60.set_5 | apply IsS60.set_6 | apply IsS60.set_7 | apply IsS60.set_8 | apply IsS60.set_9 | apply IsS60.set_10 | apply IsS60.set_11 | apply IsS60.set_12 | apply IsS60.set_13 | apply IsS60.set_14 | apply IsS60.set_15 | apply IsS60.set_16 | apply IsS60.set_17 | apply IsS60.set_18 | refine IsS60.far ?_ NB0_111.out _) | exact HI0.out), by repeat (first | (with_reducible first | exact HB.out | apply below_alloc | apply pw_below_drewN | apply below_drew1 | refine below_set ?_ (IsS60.ge HI0.out) | refine below_set ?_ GE111.out) | exact HB.out), by repeat (first | (with_reducible first | exact HK.out | apply KeepBut.set_ | apply keep_drewN | apply keep_drew | apply keep_alloc | refine keep_far ?_ GW111.out _) | exact HK.out)⟩
          · rw [if_neg c43] at H
            have c43b0 : (a1_1.toList == s0_8.toList) = false := beq_eq_false_iff_ne.mpr c43
            have c43b1 : (a1_1.toList != s0_8.toList) = true := bne_iff_ne.mpr c43
            simp only [Option.some.injEq, Prod.mk.injEq] at H
            obtain ⟨rfl, rfl, rfl, rfl, rfl, rfl, rfl, rfl, rfl, rfl, rfl, rfl, rfl, rfl, rfl, rfl, rfl, rfl⟩ := H
            have hnb51 := NB111_0.out
            have hnc51 := NB0_111.out
            have hcz52_0 : wc.cell? ⟨gb111, 0, none⟩ = some (.string a1_0) := (blk_cell BK111.out 0).trans rfl
            have hcz52_1 : wc.cell? ⟨gb111, 1, none⟩ = some (.string a1_1) := (blk_cell BK111.out 1).trans rfl
            have hcz52_2 : wc.cell? ⟨gb111, 2, none⟩ = some (.string a1_2) := (blk_cell BK111.out 2).trans rfl
            have hcz52_3 : wc.cell? ⟨gb111, 3, none⟩ = some (.int .i64 a1_3) := (blk_cell BK111.out 3).trans rfl
            have hcz52_4 : wc.cell? ⟨gb111, 4, none⟩ = some (.int .i64 a1_4) := (blk_cell BK111.out 4).trans rfl
            have hcz52_5 : wc.cell? ⟨gb111, 5, none⟩ = some (.int .i64 a1_5) := (blk_cell BK111.out 5).trans rfl
            have hcz52_6 : wc.cell? ⟨gb111, 6, none⟩ = some (.int .i64 a1_6) := (blk_cell BK111.out 6).trans rfl
            have hcz52_7 : wc.cell? ⟨gb111, 7, none⟩ = some (.string a1_7) := (blk_cell BK111.out 7).trans rfl
            have hfz52_0 := blk_frozen BK111.out 0
            have hfz52_1 := blk_frozen BK111.out 1
            have hfz52_2 := blk_frozen BK111.out 2
            have hfz52_3 := blk_frozen BK111.out 3
            have hfz52_4 := blk_frozen BK111.out 4
            have hfz52_5 := blk_frozen BK111.out 5
            have hfz52_6 := blk_frozen BK111.out 6
            have hfz52_7 := blk_frozen BK111.out 7
            obtain ⟨ASz53_0, cSz53_0, HGz53, hgz53, HSz53_0⟩ := HI0.out
            have hcz53_0 := cellS60_0 HGz53
            have hcz53_1 := cellS60_1 HGz53
            have hcz53_2 := cellS60_2 HGz53
            have hcz53_3 := cellS60_3 HGz53
            have hcz53_4 := cellS60_4 HGz53
            have hcz53_5 := cellS60_5 HGz53
            have hcz53_6 := cellS60_6 HGz53
            have hcz53_7 := cellS60_7 HGz53
            have hcz53_8 := cellS60_8 HGz53
            have hcz53_9 := cellS60_9 HGz53
            have hcz53_10 := cellS60_10 HGz53
            have hcz53_11 := cellS60_11 HGz53
            have hcz53_12 := cellS60_12 HGz53
            have hcz53_13 := cellS60_13 HGz53
            have hcz53_14 := cellS60_14 HGz53
            have hcz53_15 := cellS60_15 HGz53
            have hcz53_16 := cellS60_16 HGz53
            have hcz53_17 := cellS60_17 HGz53
            have hcz53_18 := cellS60_18 HGz53
            have hfz53_1 := blk_frozen HGz53 1
            have hfz53_2 := blk_frozen HGz53 2
            have hfz53_3 := blk_frozen HGz53 3
            have hfz53_4 := blk_frozen HGz53 4
            have hfz53_5 := blk_frozen HGz53 5
            have hfz53_6 := blk_frozen HGz53 6
            have hfz53_7 := blk_frozen HGz53 7
            have hfz53_8 := blk_frozen HGz53 8
            have hfz53_9 := blk_frozen HGz53 9
            have hfz53_10 := blk_frozen HGz53 10
            have hfz53_11 := blk_frozen HGz53 11
            have hfz53_12 := blk_frozen HGz53 12
            have hfz53_13 := blk_frozen HGz53 13
            have hfz53_14 := blk_frozen HGz53 14
            have hfz53_15 := blk_frozen HGz53 15
            have hfz53_16 := blk_frozen HGz53 16
            have hfz53_17 := blk_frozen HGz53 17
            have hfz53_18 := blk_frozen HGz53 18
            clear HGz53 hgz53
            go_wp2
            repeat (go_quiet (fail); try go_wp2)
            first | go_end0 | ((try simp only [Exit.inBlock, Exit.then]); refine bodyPost_ret (results_none rfl _ _ _) rfl ?_)
            exact ⟨by first | rfl | (simp [errW_none, errW_some] <;> rfl) | (simp [*, errW_none, errW_some] <;> rfl), by repeat (first | (with_reducible first | exact HI0.out | apply IsS60.alloc | apply IsS60.drewN | apply IsS60.drew | apply IsS60.set_1 | apply IsS60.set_2 | apply IsS60.set_3 | apply IsS60.set_4 | apply IsS60.set_5 | apply IsS60.set_6 | apply IsS60.set_7 | apply IsS60.set_8 | apply IsS60.set_9 | apply IsS60.set_10 | apply IsS60.set_11 | apply IsS60.set_12 | apply IsS60.set_13 | apply IsS60.set_14 | apply IsS60.set_15 | apply IsS60.set_16 | apply IsS60.set_17 | apply IsS60.set_18 | refine IsS60.far ?_ NB0_111.out _) | exact HI0.out), by repeat (first | (with_reducible first | exact HB.out | apply below_alloc | apply pw_below_drewN | apply below_drew1 | refine below_set ?_ (IsS60.ge HI0.out) | refine below_set ?_ GE111.out) | exact HB.out), by repeat (first | (with_reducible first | exact HK.out | apply KeepBut.set_ | apply keep_drewN | apply keep_drew | apply keep_alloc | refine keep_far ?_ GW111.out _) | exact HK.out)⟩
        · rw [if_neg c42] at H
          have c42b0 : (a1_0.toList == s0_7.toList) = false := beq_eq_false_iff_ne.mpr c42
          have c42b1 : (a1_0.toList != s0_7.toList) = true := bne_iff_ne.mpr c42
          simp only [Option.some.injEq, Prod.mk.injEq] at H
          obtain ⟨rfl, rfl, rfl, rfl, rfl, rfl, rfl, rfl, rfl, rfl, rfl, rfl, rfl, rfl, rfl, rfl, rfl, rfl⟩ := H
          have hnb54 := NB111_0.out
          have hnc54 := NB0_111.out
          have hcz55_0 : wc.cell? ⟨gb111, 0, none⟩ = some (.string a1_0) := (blk_cell BK111.out 0).trans rfl
          have hcz55_1 : wc.cell? ⟨gb111, 1, none⟩ = some (.string a1_1) := (blk_cell BK111.out 1).trans rfl
          have hcz55_2 : wc.cell? ⟨gb111, 2, none⟩ = some (.string a1_2) := (blk_cell BK111.out 2).trans rfl
          have hcz55_3 : wc.cell? ⟨gb111, 3, none⟩ = some (.int .i64 a1_3) := (blk_cell BK111.out 3).trans rfl
          have hcz55_4 : wc.cell? ⟨gb111, 4, none⟩ = some (.int .i64 a1_4) := (blk_cell BK111.out 4).trans rfl
          have hcz55_5 : wc.cell? ⟨gb111, 5, none⟩ = some (.int .i64 a1_5) := (blk_cell BK111.out 5).trans rfl
          have hcz55_6 : wc.cell? ⟨gb111, 6, none⟩ = some (.int .i64 a1_6) := (blk_cell BK111.out 6).trans rfl
          have hcz55_7 : wc.cell? ⟨gb111, 7, none⟩ = some (.string a1_7) := (blk_cell BK111.out 7).trans rfl
          have hfz55_0 := blk_frozen BK111.out 0
          have hfz55_1 := blk_frozen BK111.out 1
          have hfz55_2 := blk_frozen BK111.out 2
          have hfz55_3 := blk_frozen BK111.out 3
          have hfz55_4 := blk_frozen BK111.out 4
          have hfz55_5 := blk_frozen BK111.out 5
          have hfz55_6 := blk_frozen BK111.out 6
          have hfz55_7 := blk_frozen BK111.out 7
          obtain ⟨ASz56_0, cSz56_0, HGz56, hgz56, HSz56_0⟩ := HI0.out
          have hcz56_0 := cellS60_0 HGz56
          have hcz56_1 := cellS60_1 HGz56
          have hcz56_2 := cellS60_2 HGz56
          have hcz56_3 := cellS60_3 HGz56
          have hcz56_4 := cellS60_4 HGz56
          have hcz56_5 := cellS60_5 HGz56
          have hcz56_6 := cellS60_6 HGz56
          have hcz56_7 := cellS60_7 HGz56
          have hcz56_8 := cellS60_8 HGz56
          have hcz56_9 := cellS60_9 HGz56
          have hcz56_10 := cellS60_10 HGz56
          have hcz56_11 := cellS60_11 HGz56
          have hcz56_12 := cellS60_12 HGz56
          have hcz56_13 := cellS60_13 HGz56
          have hcz56_14 := cellS60_14 HGz56
          have hcz56_15 := cellS60_15 HGz56
          have hcz56_16 := cellS60_16 HGz56
          have hcz56_17 := cellS60_17 HGz56
          have hcz56_18 := cellS60_18 HGz56
          have hfz56_1 := blk_frozen HGz56 1
          have hfz56_2 := blk_frozen HGz56 2
          have hfz56_3 := blk_frozen HGz56 3
          have hfz56_4 := blk_frozen HGz56 4
          have hfz56_5 := blk_frozen HGz56 5
          have hfz56_6 := blk_frozen HGz56 6
          have hfz56_7 := blk_frozen HGz56 7
          have hfz56_8 := blk_frozen HGz56 8
          have hfz56_9 := blk_frozen HGz56 9
          have hfz56_10 := blk_frozen HGz56 10
          have hfz56_11 := blk_frozen HGz56 11
          have hfz56_12 := blk_frozen HGz56 12
          have hfz56_13 := blk_frozen HGz56 13
          have hfz56_14 := blk_frozen HGz56 14
          have hfz56_15 := blk_frozen HGz56 15
          have hfz56_16 := blk_frozen HGz56 16
          have hfz56_17 := blk_frozen HGz56 17
          have hfz56_18 := blk_frozen HGz56 18
          clear HGz56 hgz56
          go_wp2
          repeat (go_quiet (fail); try go_wp2)
          first | go_end0 | ((try simp only [Exit.inBlock, Exit.then]); refine bodyPost_ret (results_none rfl _ _ _) rfl ?_)
          exact ⟨by first | rfl | (simp [errW_none, errW_some] <;> rfl) | (simp [*, errW_none, errW_some] <;> rfl), by repeat (first | (with_reducible first | exact HI0.out | apply IsS60.alloc | apply IsS60.drewN | apply IsS60.drew | apply IsS60.set_1 | apply IsS60.set_2 | apply IsS60.set_3 | apply IsS60.set_4 | apply IsS60.set_5 | apply IsS60.set_6 | apply IsS60.set_7 | apply IsS60.set_8 | apply IsS60.set_9 | apply IsS60.set_10 | apply IsS60.set_11 | apply IsS60.set_12 | apply IsS60.set_13 | apply IsS60.set_14 | apply IsS60.set_15 | apply IsS60.set_16 | apply IsS60.set_17 | apply IsS60.set_18 | refine IsS60.far ?_ NB0_111.out _) | exact HI0.out), by repeat (first | (with_reducible first | exact HB.out | apply below_alloc | apply pw_below_drewN | apply below_drew1 | refine below_set ?_ (IsS60.ge HI0.out) | refine below_set ?_ GE111.out) | exact HB.out), by repeat (first | (with_reducible first | exact HK.out | apply KeepBut.set_ | apply keep_drewN | apply keep_drew | apply keep_alloc | refine keep_far ?_ GW111.out _) | exact HK.out)⟩

end Go.Proofs.Ythbgjaboghnpjaa.Q
