/- Values: Order. -/
import Derived.Test.YtikpmlginojnhaaGreatDoorV3
import Derived.StillTailTactics
namespace Go.Proofs.YtikpmlginojnhaaGreatDoor.Fl
open Go.RowKit Go.Maps
set_option linter.unusedVariables false
set_option linter.unusedSimpArgs false
theorem box_a (w : World) (o1 o2 : Obj) : ((w.alloc o1).alloc o2).heap[w.heap.size]? = some o1 ∧ ((w.alloc o1).alloc o2).heap[w.heap.size + 1]? = some o2 := by
  constructor
  · rw [((Below.refl _ (w.alloc o1)).alloc (Nat.le_refl _) o2).block _ (by simp)]
    exact heap_alloc_new _ _
  · have := heap_alloc_new (w.alloc o1) o2
    simpa using this
set_option maxHeartbeats 4000000 in
set_option maxRecDepth 100000 in
theorem c_vorder (ka na : Int) (sa : ByteArray) (kb nb : Int) (sb : ByteArray) (w : World) :
    Calls Tryz.prog 15 #[vv ka na sa, vv kb nb sb] w fun e w' => e = .returned (.int .i64 (ordV ka na sa kb nb sb)) ∧ Below w.heap.size w w' := by
  obtain ⟨r, hr⟩ : ∃ r, ordV ka na sa kb nb sb = r := ⟨_, rfl⟩
  rw [hr]
  unfold ordV nOrd at hr
  unfold vv
  have HB := Lib.hid (((Below.refl w.heap.size w).alloc (Nat.le_refl _) (.cells #[.int .i64 ka, .int .i64 na, .string sa] 23)).alloc (by simp) (.cells #[.int .i64 kb, .int .i64 nb, .string sb] 23))
  have C1 := Lib.hid (c_cmp na nb)
  have C2 := Lib.hid (c_cmp ka kb)
  have C3 := Lib.hid (c_cmps sa sb)
  have C4 := Lib.hid (c_order na nb)
  generalize sgn ka kb = x at *
  generalize cmpB sa sb = z at *
  by_cases h5 : ka = 5
  · subst h5
    rw [if_pos rfl] at hr
    generalize sgn (rankU (U na)) (rankU (U nb)) = y at *
    have HR := Lib.hid hr
    clear hr
    go_enter Tryz.func15, Tryz.ntmps15
    go_wp2_with (first | (go_at_call 33; first | ((with_reducible refine (C1.out _).mono ?_); rintro e w' ⟨rfl, rfl⟩) | ((with_reducible refine (C2.out _).mono ?_); rintro e w' ⟨rfl, rfl⟩)) | (go_at_call 34; ((with_reducible refine (C4.out _).mono ?_); rintro e w' ⟨rfl, rfl⟩)))
    have hA := box_a w (.cells #[.int .i64 5, .int .i64 na, .string sa] 23) (.cells #[.int .i64 kb, .int .i64 nb, .string sb] 23)
    generalize (w.alloc (.cells #[.int .i64 5, .int .i64 na, .string sa] 23)).alloc (.cells #[.int .i64 kb, .int .i64 nb, .string sb] 23) = W at HB hA ⊢
    obtain ⟨x0, x1, x2⟩ := cells3 hA.1
    obtain ⟨y0, y1, y2⟩ := cells3 hA.2
    go_still_tail 11, (by kernel_rfl)
    still_call ((C2.out _).mono (fun e w' h => ⟨h.1, h.2.symm⟩))
    repeat still_step
    still_call ((C3.out _).mono (fun e w' h => ⟨h.1, h.2.symm⟩))
    refine wpStill_nil ?_
    change wpList _ _ _ _ _ W.drew
    have HB2 := Lib.hid ((HB.out.alloc HB.out.size (.cells #[.int .i64 x, .int .i64 y, .int .i64 z] 3)).drew)
    go_wp2_with (go_at_call 35; ((refine (c_or x y z W.heap.size (W.alloc (.cells #[.int .i64 x, .int .i64 y, .int .i64 z] 3)).drew (heap_alloc_new W _)).mono ?_); rintro e w' ⟨rfl, hb⟩; have HB3 := Lib.hid (HB2.out.trans (hb.mono HB2.out.size)); clear hb))
    go_ret
    have hr := HR.out
    subst hr
    exact ⟨rfl, HB3.out⟩
  · rw [if_neg h5] at hr
    have q5 : (ka == 5) = false := by simp [h5]
    clear h5
    generalize sgn na nb = y at *
    have HR := Lib.hid hr
    clear hr
    go_enter Tryz.func15, Tryz.ntmps15
    go_wp2_with (first | (go_at_call 33; first | ((with_reducible refine (C1.out _).mono ?_); rintro e w' ⟨rfl, rfl⟩) | ((with_reducible refine (C2.out _).mono ?_); rintro e w' ⟨rfl, rfl⟩)) | (go_at_call 34; ((with_reducible refine (C4.out _).mono ?_); rintro e w' ⟨rfl, rfl⟩)))
    have hA := box_a w (.cells #[.int .i64 ka, .int .i64 na, .string sa] 23) (.cells #[.int .i64 kb, .int .i64 nb, .string sb] 23)
    generalize (w.alloc (.cells #[.int .i64 ka, .int .i64 na, .string sa] 23)).alloc (.cells #[.int .i64 kb, .int .i64 nb, .string sb] 23) = W at HB hA ⊢
    obtain ⟨x0, x1, x2⟩ := cells3 hA.1
    obtain ⟨y0, y1, y2⟩ := cells3 hA.2
    go_still_tail 11, (by kernel_rfl)
    still_call ((C2.out _).mono (fun e w' h => ⟨h.1, h.2.symm⟩))
    repeat still_step
    still_call ((C3.out _).mono (fun e w' h => ⟨h.1, h.2.symm⟩))
    refine wpStill_nil ?_
    change wpList _ _ _ _ _ W.drew
    have HB2 := Lib.hid ((HB.out.alloc HB.out.size (.cells #[.int .i64 x, .int .i64 y, .int .i64 z] 3)).drew)
    go_wp2_with (go_at_call 35; ((refine (c_or x y z W.heap.size (W.alloc (.cells #[.int .i64 x, .int .i64 y, .int .i64 z] 3)).drew (heap_alloc_new W _)).mono ?_); rintro e w' ⟨rfl, hb⟩; have HB3 := Lib.hid (HB2.out.trans (hb.mono HB2.out.size)); clear hb))
    go_ret
    have hr := HR.out
    subst hr
    exact ⟨rfl, HB3.out⟩
theorem sgn_zero (p q : Int) : sgn p q = 0 ↔ p = q := by
  unfold sgn
  split
  · omega
  · split <;> omega
set_option maxHeartbeats 4000000 in
set_option maxRecDepth 100000 in
theorem c_rvorder (ka na : Int) (sa : ByteArray) (kb nb : Int) (sb : ByteArray) (hna : Wf na) (hnb : Wf nb) (hsa : sa.size ≤ 140737488351232) (hsb : sb.size ≤ 140737488351232) (w : World) :
    Calls Tryz.prog 16 #[vv ka na sa, vv kb nb sb] w fun e w' => e = .returned (.int .i64 (ordV ka na sa kb nb sb)) ∧ Below w.heap.size w w' := by
  obtain ⟨r, hr⟩ : ∃ r, ordV ka na sa kb nb sb = r := ⟨_, rfl⟩
  rw [hr]
  unfold ordV nOrd or3 at hr
  unfold vv
  have HB := Lib.hid (((Below.refl w.heap.size w).alloc (Nat.le_refl _) (.cells #[.int .i64 ka, .int .i64 na, .string sa] 23)).alloc (by simp) (.cells #[.int .i64 kb, .int .i64 nb, .string sb] 23))
  have C1 := Lib.hid (c_rcmp na nb)
  have C2 := Lib.hid (c_rcmp ka kb)
  have C3 := Lib.hid (c_texts sa sb hsa hsb)
  have C4 := Lib.hid (c_rorder na nb hna hnb)
  have hz := sgn_zero ka kb
  generalize sgn ka kb = x at *
  generalize cmpB sa sb = z at *
  clear hna hnb hsa hsb
  by_cases hk : ka = kb
  · have hx : x = 0 := hz.2 hk
    rw [if_pos hx] at hr
    clear hz hx C2
    subst hk
    have q0 : (ka != ka) = false := by simp
    by_cases h5 : ka = 5
    · subst h5
      rw [if_pos rfl] at hr
      generalize sgn (rankU (U na)) (rankU (U nb)) = y at *
      by_cases hy : y = 0
      · rw [if_pos hy] at hr
        subst hr
        have q1 : (y != 0) = false := by simp [hy]
        clear hy
        go_enter Tryz.func16, Tryz.ntmps16
        go_wp2_with (first | (go_at_call 37; first | ((with_reducible refine (C1.out _).mono ?_); rintro e w' ⟨rfl, rfl⟩) | ((with_reducible refine (C2.out _).mono ?_); rintro e w' ⟨rfl, rfl⟩)) | (go_at_call 38; ((with_reducible refine (C4.out _).mono ?_); rintro e w' ⟨rfl, rfl⟩)) | (go_at_call 39; ((with_reducible refine (C3.out _).mono ?_); rintro e w' ⟨rfl, hb⟩; have HB3 := Lib.hid (HB.out.trans (hb.mono HB.out.size)); clear hb)))
        go_ret
        exact ⟨rfl, HB3.out⟩
      · rw [if_neg hy] at hr
        subst hr
        have q1 : (y != 0) = true := by simp [hy]
        clear hy
        go_enter Tryz.func16, Tryz.ntmps16
        go_wp2_with (first | (go_at_call 37; first | ((with_reducible refine (C1.out _).mono ?_); rintro e w' ⟨rfl, rfl⟩) | ((with_reducible refine (C2.out _).mono ?_); rintro e w' ⟨rfl, rfl⟩)) | (go_at_call 38; ((with_reducible refine (C4.out _).mono ?_); rintro e w' ⟨rfl, rfl⟩)) | (go_at_call 39; ((with_reducible refine (C3.out _).mono ?_); rintro e w' ⟨rfl, hb⟩; have HB3 := Lib.hid (HB.out.trans (hb.mono HB.out.size)); clear hb)))
        go_ret
        exact ⟨rfl, HB.out⟩
    · rw [if_neg h5] at hr
      have q5 : (ka == 5) = false := by simp [h5]
      clear h5
      generalize sgn na nb = y at *
      by_cases hy : y = 0
      · rw [if_pos hy] at hr
        subst hr
        have q1 : (y != 0) = false := by simp [hy]
        clear hy
        go_enter Tryz.func16, Tryz.ntmps16
        go_wp2_with (first | (go_at_call 37; first | ((with_reducible refine (C1.out _).mono ?_); rintro e w' ⟨rfl, rfl⟩) | ((with_reducible refine (C2.out _).mono ?_); rintro e w' ⟨rfl, rfl⟩)) | (go_at_call 38; ((with_reducible refine (C4.out _).mono ?_); rintro e w' ⟨rfl, rfl⟩)) | (go_at_call 39; ((with_reducible refine (C3.out _).mono ?_); rintro e w' ⟨rfl, hb⟩; have HB3 := Lib.hid (HB.out.trans (hb.mono HB.out.size)); clear hb)))
        go_ret
        exact ⟨rfl, HB3.out⟩
      · rw [if_neg hy] at hr
        subst hr
        have q1 : (y != 0) = true := by simp [hy]
        clear hy
        go_enter Tryz.func16, Tryz.ntmps16
        go_wp2_with (first | (go_at_call 37; first | ((with_reducible refine (C1.out _).mono ?_); rintro e w' ⟨rfl, rfl⟩) | ((with_reducible refine (C2.out _).mono ?_); rintro e w' ⟨rfl, rfl⟩)) | (go_at_call 38; ((with_reducible refine (C4.out _).mono ?_); rintro e w' ⟨rfl, rfl⟩)) | (go_at_call 39; ((with_reducible refine (C3.out _).mono ?_); rintro e w' ⟨rfl, hb⟩; have HB3 := Lib.hid (HB.out.trans (hb.mono HB.out.size)); clear hb)))
        go_ret
        exact ⟨rfl, HB.out⟩
  · have hx : ¬ x = 0 := fun h => hk (hz.1 h)
    rw [if_neg hx] at hr
    subst hr
    have q0 : (ka != kb) = true := by simp [hk]
    clear hz hx hk
    go_enter Tryz.func16, Tryz.ntmps16
    go_wp2_with (first | (go_at_call 37; first | ((with_reducible refine (C1.out _).mono ?_); rintro e w' ⟨rfl, rfl⟩) | ((with_reducible refine (C2.out _).mono ?_); rintro e w' ⟨rfl, rfl⟩)) | (go_at_call 38; ((with_reducible refine (C4.out _).mono ?_); rintro e w' ⟨rfl, rfl⟩)) | (go_at_call 39; ((with_reducible refine (C3.out _).mono ?_); rintro e w' ⟨rfl, hb⟩; have HB3 := Lib.hid (HB.out.trans (hb.mono HB.out.size)); clear hb)))
    go_ret
    exact ⟨rfl, HB.out⟩
end Go.Proofs.YtikpmlginojnhaaGreatDoor.Fl
