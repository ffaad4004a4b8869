import Derived.Test.YthbgjaboghnpjaaQx0
import Derived.Test.YthbgjaboghnpjaaQx2
import Derived.Test.YthbgjaboghnpjaaQx6
import Derived.Test.YthbgjaboghnpjaaQx15
import Derived.Test.YthbgjaboghnpjaaQx16
import Derived.Test.YthbgjaboghnpjaaQx17
-- Written by a program of this session, out of Lean's print of the loaded program (a patched copy of the kit's print).
namespace Go.Proofs.Ythbgjaboghnpjaa.Q
open Go.RowKit Go.Proofs.YthbgjaboghnpjaaW.PrintWords Go.Proofs.YthbgjaboghnpjaaW.PrintLast Go.Proofs.YthbgjaboghnpjaaW.PrintMore
attribute [local go_sem] max2_int min2_int max_two min_two max_three min_three max_four min_four   -- for this text's walks alone
set_option linter.unusedVariables false
set_option linter.unusedSimpArgs false

/-! ### joistlaw13_alive: function 8 -/
attribute [local go_sem high] eqA29
def pc (a : ByteArray) (t : Int) : S29 := ⟨a, ⟨#[102]⟩, ⟨#[113]⟩, t, 1, ⟨1, 0, (⟨#[]⟩ : ByteArray)⟩⟩
def pcv (a : ByteArray) (t : Int) : List Value := [.string a, .string ⟨#[102]⟩, .string ⟨#[113]⟩, .int .i64 t, .int .i64 1, .int .i64 1, .int .i64 0, .string (⟨#[]⟩ : ByteArray)]
theorem alive_row {W : World} {b : Nat} {fr : Nat × Nat} (a1 a2 a3 : ByteArray) (t1 t2 t3 : Int) (h : W.heap[b]? = some (.cells #[.string a1, .string ⟨#[102]⟩, .string ⟨#[113]⟩, .int .i64 t1, .int .i64 1, .int .i64 1, .int .i64 0, .string (⟨#[]⟩ : ByteArray), .string a2, .string ⟨#[102]⟩, .string ⟨#[113]⟩, .int .i64 t2, .int .i64 1, .int .i64 1, .int .i64 0, .string (⟨#[]⟩ : ByteArray), .string a3, .string ⟨#[102]⟩, .string ⟨#[113]⟩, .int .i64 t3, .int .i64 1, .int .i64 1, .int .i64 0, .string (⟨#[]⟩ : ByteArray)] 29 fr)) : Kd.C k29 W (some ⟨b, 0, none⟩) 3 [pc a1 t1, pc a2 t2, pc a3 t3] := by
  refine ⟨rfl, by decide, fun _ => ⟨_, rfl, fun j p hp => ?_⟩⟩
  have hc : ∀ i : Nat, W.cell? ((⟨b, 0, none⟩ : Addr).add i) = (#[.string a1, .string ⟨#[102]⟩, .string ⟨#[113]⟩, .int .i64 t1, .int .i64 1, .int .i64 1, .int .i64 0, .string (⟨#[]⟩ : ByteArray), .string a2, .string ⟨#[102]⟩, .string ⟨#[113]⟩, .int .i64 t2, .int .i64 1, .int .i64 1, .int .i64 0, .string (⟨#[]⟩ : ByteArray), .string a3, .string ⟨#[102]⟩, .string ⟨#[113]⟩, .int .i64 t3, .int .i64 1, .int .i64 1, .int .i64 0, .string (⟨#[]⟩ : ByteArray)] : Array Value)[i]? := fun i => by
    rw [add_plain]
    simp [World.cell?, h]
  match j, hp with
  | 0, hp =>
    obtain rfl := Option.some.inj hp
    refine ⟨pcv a1 t1, rfl, k29_mk _ _, fun i u hi => ?_⟩
    rw [hc]
    match i, hi with
    | 0, hi => exact hi
    | 1, hi => exact hi
    | 2, hi => exact hi
    | 3, hi => exact hi
    | 4, hi => exact hi
    | 5, hi => exact hi
    | 6, hi => exact hi
    | 7, hi => exact hi
    | k + 8, hi => cases hi
  | 1, hp =>
    obtain rfl := Option.some.inj hp
    refine ⟨pcv a2 t2, rfl, k29_mk _ _, fun i u hi => ?_⟩
    rw [hc]
    match i, hi with
    | 0, hi => exact hi
    | 1, hi => exact hi
    | 2, hi => exact hi
    | 3, hi => exact hi
    | 4, hi => exact hi
    | 5, hi => exact hi
    | 6, hi => exact hi
    | 7, hi => exact hi
    | k + 8, hi => cases hi
  | 2, hp =>
    obtain rfl := Option.some.inj hp
    refine ⟨pcv a3 t3, rfl, k29_mk _ _, fun i u hi => ?_⟩
    rw [hc]
    match i, hi with
    | 0, hi => exact hi
    | 1, hi => exact hi
    | 2, hi => exact hi
    | 3, hi => exact hi
    | 4, hi => exact hi
    | 5, hi => exact hi
    | 6, hi => exact hi
    | 7, hi => exact hi
    | k + 8, hi => cases hi
  | k + 3, hp => cases hp
theorem alive_a : applyL [] (⟨#[]⟩ : ByteArray) (⟨#[]⟩ : ByteArray) 0 0 1 0 [pc (⟨#[97]⟩ : ByteArray) 2, pc (⟨#[97]⟩ : ByteArray) 1, pc (⟨#[98]⟩ : ByteArray) 1] = [pc (⟨#[97]⟩ : ByteArray) 2, pc (⟨#[98]⟩ : ByteArray) 1] := by
  simp [applyL, rightB, allNames, inR, svRun, svNext, svTake, takeB, letsB, turnN, turnRows, turnHit, pc, sv0, z29, z27, Lib.toList_data, Op.bytesLess, wrap64, ByteArray.size]
theorem alive_b : applyL [] (⟨#[]⟩ : ByteArray) (⟨#[]⟩ : ByteArray) 0 0 0 1 [pc (⟨#[97]⟩ : ByteArray) 2, pc (⟨#[97]⟩ : ByteArray) 1, pc (⟨#[98]⟩ : ByteArray) 1] = [pc (⟨#[97]⟩ : ByteArray) 2, pc (⟨#[97]⟩ : ByteArray) 1] := by
  simp [applyL, rightB, allNames, inR, svRun, svNext, svTake, takeB, letsB, turnN, turnRows, turnHit, pc, sv0, z29, z27, Lib.toList_data, Op.bytesLess, wrap64, ByteArray.size]
theorem alive_r : rightB [] (⟨#[]⟩ : ByteArray) (⟨#[]⟩ : ByteArray) 0 0 0 0 = true := by
  simp [rightB, allNames, inR, ByteArray.size]
theorem alive_r2 : rightB [] (⟨#[]⟩ : ByteArray) (⟨#[]⟩ : ByteArray) 0 0 0 (-1) = false := by
  simp [rightB, allNames, inR, ByteArray.size]
def joistlaw13_alive.f : Option Bool := some true
theorem alive_S {W : World} {ada adb : Addr} (ha : Kd.C k29 W (some ada) 2 [pc (⟨#[97]⟩ : ByteArray) 2, pc (⟨#[98]⟩ : ByteArray) 1]) (hb : Kd.C k29 W (some adb) 2 [pc (⟨#[97]⟩ : ByteArray) 2, pc (⟨#[97]⟩ : ByteArray) 1]) : W.cell? ⟨ada.block, ada.off + 8, none⟩ = some (.string (⟨#[98]⟩ : ByteArray)) ∧ W.cell? ⟨ada.block, ada.off + 8 + 1, none⟩ = some (.string ⟨#[102]⟩) ∧ W.cell? ⟨ada.block, ada.off + 8 + 2, none⟩ = some (.string ⟨#[113]⟩) ∧ W.cell? ⟨ada.block, ada.off + 8 + 3, none⟩ = some (.int .i64 1) ∧ W.cell? ⟨ada.block, ada.off + 8 + 4, none⟩ = some (.int .i64 1) ∧ W.cell? ⟨ada.block, ada.off + 8 + 5, none⟩ = some (.int .i64 1) ∧ W.cell? ⟨ada.block, ada.off + 8 + 6, none⟩ = some (.int .i64 0) ∧ W.cell? ⟨ada.block, ada.off + 8 + 7, none⟩ = some (.string (⟨#[]⟩ : ByteArray)) ∧ W.cell? ⟨adb.block, adb.off + 8, none⟩ = some (.string (⟨#[97]⟩ : ByteArray)) ∧ W.cell? ⟨adb.block, adb.off + 8 + 1, none⟩ = some (.string ⟨#[102]⟩) ∧ W.cell? ⟨adb.block, adb.off + 8 + 2, none⟩ = some (.string ⟨#[113]⟩) ∧ W.cell? ⟨adb.block, adb.off + 8 + 3, none⟩ = some (.int .i64 1) ∧ W.cell? ⟨adb.block, adb.off + 8 + 4, none⟩ = some (.int .i64 1) ∧ W.cell? ⟨adb.block, adb.off + 8 + 5, none⟩ = some (.int .i64 1) ∧ W.cell? ⟨adb.block, adb.off + 8 + 6, none⟩ = some (.int .i64 0) ∧ W.cell? ⟨adb.block, adb.off + 8 + 7, none⟩ = some (.string (⟨#[]⟩ : ByteArray)) := by
  obtain ⟨d1, e1, a0, a1, a2, a3, a4, a5, a6, a7⟩ := at_T29 ha 1 (by decide) (by decide)
  obtain ⟨d2, e2, b0, b1, b2, b3, b4, b5, b6, b7⟩ := at_T29 hb 1 (by decide) (by decide)
  cases e1
  cases e2
  exact ⟨a0, a1, a2, a3, a4, a5, a6, a7, b0, b1, b2, b3, b4, b5, b6, b7⟩
set_option maxHeartbeats 8000000 in
set_option maxRecDepth 100000 in
theorem joistlaw13_alive.calls (r : Bool) (w : World) (h : joistlaw13_alive.f = some r) :
    Calls Try.prog 8 #[] w fun e w' => e = .returned (.bool r) ∧ Below w.heap.size w w' := by
  obtain rfl := Option.some.inj h
  clear h
  have hu24 := Try.underlying24
  have hu29 := Try.underlying29
  have hu27 := Try.underlying27
  have hu60 := Try.underlying60
  have HB := Aside0.mk (Below.refl w.heap.size w)
  have FA := Aside0.mk (show filter_Apply.f [] (⟨#[]⟩ : ByteArray) (⟨#[]⟩ : ByteArray) 0 0 1 0 [pc (⟨#[97]⟩ : ByteArray) 2, pc (⟨#[97]⟩ : ByteArray) 1, pc (⟨#[98]⟩ : ByteArray) 1] = some [pc (⟨#[97]⟩ : ByteArray) 2, pc (⟨#[98]⟩ : ByteArray) 1] by unfold filter_Apply.f; rw [if_pos (by decide), alive_a])
  have FB := Aside0.mk (show filter_Apply.f [] (⟨#[]⟩ : ByteArray) (⟨#[]⟩ : ByteArray) 0 0 0 1 [pc (⟨#[97]⟩ : ByteArray) 2, pc (⟨#[97]⟩ : ByteArray) 1, pc (⟨#[98]⟩ : ByteArray) 1] = some [pc (⟨#[97]⟩ : ByteArray) 2, pc (⟨#[97]⟩ : ByteArray) 1] by unfold filter_Apply.f; rw [if_pos (by decide), alive_b])
  have FR := Aside0.mk (show filter_Right.f [] (⟨#[]⟩ : ByteArray) (⟨#[]⟩ : ByteArray) 0 0 0 0 = some true by unfold filter_Right.f; rw [alive_r])
  have FQ := Aside0.mk (show filter_Right.f [] (⟨#[]⟩ : ByteArray) (⟨#[]⟩ : ByteArray) 0 0 0 (-1) = some false by unfold filter_Right.f; rw [alive_r2])
  go_enter Try.func8, Try.ntmps8
  go_wp2_with (go_at_call 26; refine (joistlaw13_put.calls _ _ _ _ _ _ _ _ _ _ _ rfl).mono ?_; rintro e w' ⟨rfl, hb⟩; have n0_ := Aside0.mk (below_then (by repeat (first | (with_reducible first | exact HB.out | apply below_alloc | apply pw_below_drewN | apply below_drew1) | exact HB.out)) (below_size (by repeat (first | (with_reducible first | exact HB.out | apply below_alloc | apply pw_below_drewN | apply below_drew1) | exact HB.out))) hb); clear HB hb; have HB := n0_; clear n0_)
  refine (filter_Apply.calls none 0 [] (⟨#[]⟩ : ByteArray) (⟨#[]⟩ : ByteArray) 0 0 1 0 _ 3 [pc (⟨#[97]⟩ : ByteArray) 2, pc (⟨#[97]⟩ : ByteArray) 1, pc (⟨#[98]⟩ : ByteArray) 1] _ _ (Kd.C_nil _ _) (Nat.le_refl _) (alive_row _ _ _ _ _ _ (heap_alloc_new _ _)) (by decide) FA.out).mono ?_
  rintro e w5 ⟨va, rfl, ho, hb⟩
  have LR := Aside0.mk (blk_below (heap_alloc_new _ _) hb)
  have n0_ := Aside0.mk (below_then (by repeat (first | (with_reducible first | exact HB.out | apply below_alloc | apply pw_below_drewN | apply below_drew1) | exact HB.out)) (below_size (by repeat (first | (with_reducible first | exact HB.out | apply below_alloc | apply pw_below_drewN | apply below_drew1) | exact HB.out))) hb)
  clear HB hb
  have HB := n0_
  clear n0_
  obtain ⟨Aa, ca, rfl⟩ := Kd.R_slice ho
  have CA0 := Aside0.mk (Kd.R_reads' ho).2.2
  clear ho
  go_wp2_with fail
  refine (filter_Apply.calls none 0 [] (⟨#[]⟩ : ByteArray) (⟨#[]⟩ : ByteArray) 0 0 0 1 _ 3 [pc (⟨#[97]⟩ : ByteArray) 2, pc (⟨#[97]⟩ : ByteArray) 1, pc (⟨#[98]⟩ : ByteArray) 1] _ _ (Kd.C_nil _ _) (Nat.le_refl _) (alive_row _ _ _ _ _ _ LR.out) (by decide) FB.out).mono ?_
  rintro e w6 ⟨vb, rfl, ho, hb⟩
  have n0_ := Aside0.mk (below_then (by repeat (first | (with_reducible first | exact HB.out | apply below_alloc | apply pw_below_drewN | apply below_drew1) | exact HB.out)) (below_size (by repeat (first | (with_reducible first | exact HB.out | apply below_alloc | apply pw_below_drewN | apply below_drew1) | exact HB.out))) hb)
  have n1_ := Aside0.mk (Kd.C_below CA0.out hb)
  clear HB hb CA0 LR
  have HB := n0_
  have CA1 := n1_
  clear n0_ n1_
  obtain ⟨Ab, cb, rfl⟩ := Kd.R_slice ho
  have CB1 := Aside0.mk (Kd.R_reads' ho).2.2
  clear ho
  obtain ⟨ada, e1, -⟩ := at_T29 CA1.out 1 (by decide) (by decide)
  obtain ⟨adb, e2, -⟩ := at_T29 CB1.out 1 (by decide) (by decide)
  subst e1
  subst e2
  go_wp2_with fail
  have CA := Aside0.mk (Kd.C_drew CA1.out)
  have CB := Aside0.mk (Kd.C_drew CB1.out)
  have n0_ := Aside0.mk (below_drew1 HB.out)
  clear HB CA1 CB1
  have HB := n0_
  clear n0_
  have S0 := Aside0.mk (alive_S CA.out CB.out)
  refine wp_region_held_drew (S := fun W => W.cell? ⟨ada.block, ada.off + 8, none⟩ = some (.string (⟨#[98]⟩ : ByteArray)) ∧ W.cell? ⟨ada.block, ada.off + 8 + 1, none⟩ = some (.string ⟨#[102]⟩) ∧ W.cell? ⟨ada.block, ada.off + 8 + 2, none⟩ = some (.string ⟨#[113]⟩) ∧ W.cell? ⟨ada.block, ada.off + 8 + 3, none⟩ = some (.int .i64 1) ∧ W.cell? ⟨ada.block, ada.off + 8 + 4, none⟩ = some (.int .i64 1) ∧ W.cell? ⟨ada.block, ada.off + 8 + 5, none⟩ = some (.int .i64 1) ∧ W.cell? ⟨ada.block, ada.off + 8 + 6, none⟩ = some (.int .i64 0) ∧ W.cell? ⟨ada.block, ada.off + 8 + 7, none⟩ = some (.string (⟨#[]⟩ : ByteArray)) ∧ W.cell? ⟨adb.block, adb.off + 8, none⟩ = some (.string (⟨#[97]⟩ : ByteArray)) ∧ W.cell? ⟨adb.block, adb.off + 8 + 1, none⟩ = some (.string ⟨#[102]⟩) ∧ W.cell? ⟨adb.block, adb.off + 8 + 2, none⟩ = some (.string ⟨#[113]⟩) ∧ W.cell? ⟨adb.block, adb.off + 8 + 3, none⟩ = some (.int .i64 1) ∧ W.cell? ⟨adb.block, adb.off + 8 + 4, none⟩ = some (.int .i64 1) ∧ W.cell? ⟨adb.block, adb.off + 8 + 5, none⟩ = some (.int .i64 1) ∧ W.cell? ⟨adb.block, adb.off + 8 + 6, none⟩ = some (.int .i64 0) ∧ W.cell? ⟨adb.block, adb.off + 8 + 7, none⟩ = some (.string (⟨#[]⟩ : ByteArray))) (by kernel_rfl) S0.out (fun hHeld => ?_)
  refine wpAnyH_take (i := 0) (oi := ?o_1) (v := ?v_1) ?hi_1 ?hs_1 ?hf_1 ?hr_1 ?hQ_1 ?hy_1 ?hS_1 ?rest_1; (case hi_1 => (simp only [List.getElem?_toArray, List.getElem?_cons_zero, List.getElem?_cons_succ]; rfl)); (case hs_1 => kernel_rfl); (case hf_1 => kernel_rfl); (case hr_1 => kernel_rfl); (case hQ_1 => exact fun _ _ _ h => h); (case hS_1 => assumption); (case hy_1 => (refine Or.inl ⟨by rfl, ?_⟩; intro w hSw; go_simp; first | done | with_reducible rfl)); (try simp only [Act.put, List.setIfInBounds_toArray, List.set_cons_zero, List.set_cons_succ])
  refine wpAnyH_take (i := 1) (oi := ?o_2) (v := ?v_2) ?hi_2 ?hs_2 ?hf_2 ?hr_2 ?hQ_2 ?hy_2 ?hS_2 ?rest_2; (case hi_2 => (simp only [List.getElem?_toArray, List.getElem?_cons_zero, List.getElem?_cons_succ]; rfl)); (case hs_2 => kernel_rfl); (case hf_2 => kernel_rfl); (case hr_2 => kernel_rfl); (case hQ_2 => exact fun _ _ _ h => h); (case hS_2 => assumption); (case hy_2 => (refine Or.inl ⟨by rfl, ?_⟩; intro w hSw; go_simp; first | done | with_reducible rfl)); (try simp only [Act.put, List.setIfInBounds_toArray, List.set_cons_zero, List.set_cons_succ])
  refine wpAnyH_take (i := 2) (oi := ?o_3) (v := ?v_3) ?hi_3 ?hs_3 ?hf_3 ?hr_3 ?hQ_3 ?hy_3 ?hS_3 ?rest_3; (case hi_3 => (simp only [List.getElem?_toArray, List.getElem?_cons_zero, List.getElem?_cons_succ]; rfl)); (case hs_3 => kernel_rfl); (case hf_3 => kernel_rfl); (case hr_3 => kernel_rfl); (case hQ_3 => exact fun _ _ _ h => h); (case hS_3 => assumption); (case hy_3 => (refine Or.inl ⟨by rfl, ?_⟩; intro w hSw; go_simp; first | done | with_reducible rfl)); (try simp only [Act.put, List.setIfInBounds_toArray, List.set_cons_zero, List.set_cons_succ])
  refine wpAnyH_take (i := 3) (oi := ?o_4) (v := ?v_4) ?hi_4 ?hs_4 ?hf_4 ?hr_4 ?hQ_4 ?hy_4 ?hS_4 ?rest_4; (case hi_4 => (simp only [List.getElem?_toArray, List.getElem?_cons_zero, List.getElem?_cons_succ]; rfl)); (case hs_4 => kernel_rfl); (case hf_4 => kernel_rfl); (case hr_4 => kernel_rfl); (case hQ_4 => exact fun _ _ _ h => h); (case hS_4 => assumption); (case hy_4 => (refine Or.inl ⟨by rfl, ?_⟩; intro w hSw; go_simp; first | done | with_reducible rfl)); (try simp only [Act.put, List.setIfInBounds_toArray, List.set_cons_zero, List.set_cons_succ])
  refine wpAnyH_take (i := 4) (oi := ?o_5) (v := ?v_5) ?hi_5 ?hs_5 ?hf_5 ?hr_5 ?hQ_5 ?hy_5 ?hS_5 ?rest_5; (case hi_5 => (simp only [List.getElem?_toArray, List.getElem?_cons_zero, List.getElem?_cons_succ]; rfl)); (case hs_5 => kernel_rfl); (case hf_5 => kernel_rfl); (case hr_5 => kernel_rfl); (case hQ_5 => exact fun _ _ _ h => h); (case hS_5 => assumption); (case hy_5 => (refine Or.inl ⟨by rfl, ?_⟩; intro w hSw; go_simp; first | done | with_reducible rfl)); (try simp only [Act.put, List.setIfInBounds_toArray, List.set_cons_zero, List.set_cons_succ])
  refine wpAnyH_take (i := 5) (oi := ?o_6) (v := ?v_6) ?hi_6 ?hs_6 ?hf_6 ?hr_6 ?hQ_6 ?hy_6 ?hS_6 ?rest_6; (case hi_6 => (simp only [List.getElem?_toArray, List.getElem?_cons_zero, List.getElem?_cons_succ]; rfl)); (case hs_6 => kernel_rfl); (case hf_6 => kernel_rfl); (case hr_6 => kernel_rfl); (case hQ_6 => exact fun _ _ _ h => h); (case hS_6 => assumption); (case hy_6 => (refine Or.inl ⟨by rfl, ?_⟩; intro w hSw; go_simp; first | done | with_reducible rfl)); (try simp only [Act.put, List.setIfInBounds_toArray, List.set_cons_zero, List.set_cons_succ])
  refine wpAnyH_take (i := 6) (oi := ?o_7) (v := ?v_7) ?hi_7 ?hs_7 ?hf_7 ?hr_7 ?hQ_7 ?hy_7 ?hS_7 ?rest_7; (case hi_7 => (simp only [List.getElem?_toArray, List.getElem?_cons_zero, List.getElem?_cons_succ]; rfl)); (case hs_7 => kernel_rfl); (case hf_7 => kernel_rfl); (case hr_7 => kernel_rfl); (case hQ_7 => exact fun _ _ _ h => h); (case hS_7 => assumption); (case hy_7 => (refine Or.inl ⟨by rfl, ?_⟩; intro w hSw; go_simp; first | done | with_reducible rfl)); (try simp only [Act.put, List.setIfInBounds_toArray, List.set_cons_zero, List.set_cons_succ])
  refine wpAnyH_ready (rs := [7]) (by kernel_rfl) (by simp) ?_; refine AllReadyH.cons (o := ?o_8) ?hi_8 (fun K hK => ?_) AllReadyH.nil; (case hi_8 => (simp only [List.getElem?_toArray, List.getElem?_cons_zero, List.getElem?_cons_succ]; rfl)); go_simp; go_at_call 26; refine (joistlaw13_put.calls _ _ _ _ _ _ _ _ _ _ _ rfl).mono ?_; rintro e w8 ⟨rfl, hb⟩; have a_ := Aside0.mk (Kd.C_below CA.out hb); have b_ := Aside0.mk (Kd.C_below CB.out hb); have n_ := Aside0.mk (below_then HB.out (below_size HB.out) hb); clear CA CB HB hb; have CA := a_; have CB := b_; have HB := n_; clear a_ b_ n_; have hsv := Aside0.mk (alive_S CA.out CB.out); refine hK.out _ _ ?_ (fun hHeld => ?_); (· exact hsv.out); clear hK K; (try simp only [Act.put, List.setIfInBounds_toArray, List.set_cons_zero, List.set_cons_succ])
  refine wpAnyH_take (i := 8) (oi := ?o_9) (v := ?v_9) ?hi_9 ?hs_9 ?hf_9 ?hr_9 ?hQ_9 ?hy_9 ?hS_9 ?rest_9; (case hi_9 => (simp only [List.getElem?_toArray, List.getElem?_cons_zero, List.getElem?_cons_succ]; rfl)); (case hs_9 => kernel_rfl); (case hf_9 => kernel_rfl); (case hr_9 => kernel_rfl); (case hQ_9 => exact fun _ _ _ h => h); (case hS_9 => assumption); (case hy_9 => (refine Or.inl ⟨by rfl, ?_⟩; intro w hSw; go_simp; first | done | with_reducible rfl)); (try simp only [Act.put, List.setIfInBounds_toArray, List.set_cons_zero, List.set_cons_succ])
  refine wpAnyH_take (i := 9) (oi := ?o_10) (v := ?v_10) ?hi_10 ?hs_10 ?hf_10 ?hr_10 ?hQ_10 ?hy_10 ?hS_10 ?rest_10; (case hi_10 => (simp only [List.getElem?_toArray, List.getElem?_cons_zero, List.getElem?_cons_succ]; rfl)); (case hs_10 => kernel_rfl); (case hf_10 => kernel_rfl); (case hr_10 => kernel_rfl); (case hQ_10 => exact fun _ _ _ h => h); (case hS_10 => assumption); (case hy_10 => (refine Or.inl ⟨by rfl, ?_⟩; intro w hSw; go_simp; first | done | with_reducible rfl)); (try simp only [Act.put, List.setIfInBounds_toArray, List.set_cons_zero, List.set_cons_succ])
  refine wpAnyH_take (i := 10) (oi := ?o_11) (v := ?v_11) ?hi_11 ?hs_11 ?hf_11 ?hr_11 ?hQ_11 ?hy_11 ?hS_11 ?rest_11; (case hi_11 => (simp only [List.getElem?_toArray, List.getElem?_cons_zero, List.getElem?_cons_succ]; rfl)); (case hs_11 => kernel_rfl); (case hf_11 => kernel_rfl); (case hr_11 => kernel_rfl); (case hQ_11 => exact fun _ _ _ h => h); (case hS_11 => assumption); (case hy_11 => (refine Or.inl ⟨by rfl, ?_⟩; intro w hSw; go_simp; first | done | with_reducible rfl)); (try simp only [Act.put, List.setIfInBounds_toArray, List.set_cons_zero, List.set_cons_succ])
  refine wpAnyH_take (i := 11) (oi := ?o_12) (v := ?v_12) ?hi_12 ?hs_12 ?hf_12 ?hr_12 ?hQ_12 ?hy_12 ?hS_12 ?rest_12; (case hi_12 => (simp only [List.getElem?_toArray, List.getElem?_cons_zero, List.getElem?_cons_succ]; rfl)); (case hs_12 => kernel_rfl); (case hf_12 => kernel_rfl); (case hr_12 => kernel_rfl); (case hQ_12 => exact fun _ _ _ h => h); (case hS_12 => assumption); (case hy_12 => (refine Or.inl ⟨by rfl, ?_⟩; intro w hSw; go_simp; first | done | with_reducible rfl)); (try simp only [Act.put, List.setIfInBounds_toArray, List.set_cons_zero, List.set_cons_succ])
  refine wpAnyH_take (i := 12) (oi := ?o_13) (v := ?v_13) ?hi_13 ?hs_13 ?hf_13 ?hr_13 ?hQ_13 ?hy_13 ?hS_13 ?rest_13; (case hi_13 => (simp only [List.getElem?_toArray, List.getElem?_cons_zero, List.getElem?_cons_succ]; rfl)); (case hs_13 => kernel_rfl); (case hf_13 => kernel_rfl); (case hr_13 => kernel_rfl); (case hQ_13 => exact fun _ _ _ h => h); (case hS_13 => assumption); (case hy_13 => (refine Or.inl ⟨by rfl, ?_⟩; intro w hSw; go_simp; first | done | with_reducible rfl)); (try simp only [Act.put, List.setIfInBounds_toArray, List.set_cons_zero, List.set_cons_succ])
  refine wpAnyH_take (i := 13) (oi := ?o_14) (v := ?v_14) ?hi_14 ?hs_14 ?hf_14 ?hr_14 ?hQ_14 ?hy_14 ?hS_14 ?rest_14; (case hi_14 => (simp only [List.getElem?_toArray, List.getElem?_cons_zero, List.getElem?_cons_succ]; rfl)); (case hs_14 => kernel_rfl); (case hf_14 => kernel_rfl); (case hr_14 => kernel_rfl); (case hQ_14 => exact fun _ _ _ h => h); (case hS_14 => assumption); (case hy_14 => (refine Or.inl ⟨by rfl, ?_⟩; intro w hSw; go_simp; first | done | with_reducible rfl)); (try simp only [Act.put, List.setIfInBounds_toArray, List.set_cons_zero, List.set_cons_succ])
  refine wpAnyH_take (i := 14) (oi := ?o_15) (v := ?v_15) ?hi_15 ?hs_15 ?hf_15 ?hr_15 ?hQ_15 ?hy_15 ?hS_15 ?rest_15; (case hi_15 => (simp only [List.getElem?_toArray, List.getElem?_cons_zero, List.getElem?_cons_succ]; rfl)); (case hs_15 => kernel_rfl); (case hf_15 => kernel_rfl); (case hr_15 => kernel_rfl); (case hQ_15 => exact fun _ _ _ h => h); (case hS_15 => assumption); (case hy_15 => (refine Or.inl ⟨by rfl, ?_⟩; intro w hSw; go_simp; first | done | with_reducible rfl)); (try simp only [Act.put, List.setIfInBounds_toArray, List.set_cons_zero, List.set_cons_succ])
  refine wpAnyH_take (i := 15) (oi := ?o_16) (v := ?v_16) ?hi_16 ?hs_16 ?hf_16 ?hr_16 ?hQ_16 ?hy_16 ?hS_16 ?rest_16; (case hi_16 => (simp only [List.getElem?_toArray, List.getElem?_cons_zero, List.getElem?_cons_succ]; rfl)); (case hs_16 => kernel_rfl); (case hf_16 => kernel_rfl); (case hr_16 => kernel_rfl); (case hQ_16 => exact fun _ _ _ h => h); (case hS_16 => assumption); (case hy_16 => (refine Or.inl ⟨by rfl, ?_⟩; intro w hSw; go_simp; first | done | with_reducible rfl)); (try simp only [Act.put, List.setIfInBounds_toArray, List.set_cons_zero, List.set_cons_succ])
  refine wpAnyH_take (i := 16) (oi := ?o_17) (v := ?v_17) ?hi_17 ?hs_17 ?hf_17 ?hr_17 ?hQ_17 ?hy_17 ?hS_17 ?rest_17; (case hi_17 => (simp only [List.getElem?_toArray, List.getElem?_cons_zero, List.getElem?_cons_succ]; rfl)); (case hs_17 => kernel_rfl); (case hf_17 => kernel_rfl); (case hr_17 => kernel_rfl); (case hQ_17 => exact fun _ _ _ h => h); (case hS_17 => assumption); (case hy_17 => (refine Or.inl ⟨by rfl, ?_⟩; intro w hSw; go_simp; first | done | with_reducible rfl)); (try simp only [Act.put, List.setIfInBounds_toArray, List.set_cons_zero, List.set_cons_succ])
  refine wpAnyH_take (i := 17) (oi := ?o_18) (v := ?v_18) ?hi_18 ?hs_18 ?hf_18 ?hr_18 ?hQ_18 ?hy_18 ?hS_18 ?rest_18; (case hi_18 => (simp only [List.getElem?_toArray, List.getElem?_cons_zero, List.getElem?_cons_succ]; rfl)); (case hs_18 => kernel_rfl); (case hf_18 => kernel_rfl); (case hr_18 => kernel_rfl); (case hQ_18 => exact fun _ _ _ h => h); (case hS_18 => assumption); (case hy_18 => (refine Or.inl ⟨by rfl, ?_⟩; intro w hSw; go_simp; first | done | with_reducible rfl)); (try simp only [Act.put, List.setIfInBounds_toArray, List.set_cons_zero, List.set_cons_succ])
  refine wpAnyH_take (i := 18) (oi := ?o_19) (v := ?v_19) ?hi_19 ?hs_19 ?hf_19 ?hr_19 ?hQ_19 ?hy_19 ?hS_19 ?rest_19; (case hi_19 => (simp only [List.getElem?_toArray, List.getElem?_cons_zero, List.getElem?_cons_succ]; rfl)); (case hs_19 => kernel_rfl); (case hf_19 => kernel_rfl); (case hr_19 => kernel_rfl); (case hQ_19 => exact fun _ _ _ h => h); (case hS_19 => assumption); (case hy_19 => (refine Or.inl ⟨by rfl, ?_⟩; intro w hSw; go_simp; first | done | with_reducible rfl)); (try simp only [Act.put, List.setIfInBounds_toArray, List.set_cons_zero, List.set_cons_succ])
  refine wpAnyH_ready (rs := [19]) (by kernel_rfl) (by simp) ?_; refine AllReadyH.cons (o := ?o_20) ?hi_20 (fun K hK => ?_) AllReadyH.nil; (case hi_20 => (simp only [List.getElem?_toArray, List.getElem?_cons_zero, List.getElem?_cons_succ]; rfl)); go_simp; go_at_call 26; refine (joistlaw13_put.calls _ _ _ _ _ _ _ _ _ _ _ rfl).mono ?_; rintro e w8 ⟨rfl, hb⟩; have a_ := Aside0.mk (Kd.C_below CA.out hb); have b_ := Aside0.mk (Kd.C_below CB.out hb); have n_ := Aside0.mk (below_then HB.out (below_size HB.out) hb); clear CA CB HB hb; have CA := a_; have CB := b_; have HB := n_; clear a_ b_ n_; have hsv := Aside0.mk (alive_S CA.out CB.out); refine hK.out _ _ ?_ (fun hHeld => ?_); (· exact hsv.out); clear hK K; (try simp only [Act.put, List.setIfInBounds_toArray, List.set_cons_zero, List.set_cons_succ])
  refine wpAnyH_take (i := 20) (oi := ?o_21) (v := ?v_21) ?hi_21 ?hs_21 ?hf_21 ?hr_21 ?hQ_21 ?hy_21 ?hS_21 ?rest_21; (case hi_21 => (simp only [List.getElem?_toArray, List.getElem?_cons_zero, List.getElem?_cons_succ]; rfl)); (case hs_21 => kernel_rfl); (case hf_21 => kernel_rfl); (case hr_21 => kernel_rfl); (case hQ_21 => exact fun _ _ _ h => h); (case hS_21 => assumption); (case hy_21 => (refine Or.inl ⟨by rfl, ?_⟩; intro w hSw; go_simp; first | done | with_reducible rfl)); (try simp only [Act.put, List.setIfInBounds_toArray, List.set_cons_zero, List.set_cons_succ])
  refine wpAnyH_take (i := 21) (oi := ?o_22) (v := ?v_22) ?hi_22 ?hs_22 ?hf_22 ?hr_22 ?hQ_22 ?hy_22 ?hS_22 ?rest_22; (case hi_22 => (simp only [List.getElem?_toArray, List.getElem?_cons_zero, List.getElem?_cons_succ]; rfl)); (case hs_22 => kernel_rfl); (case hf_22 => kernel_rfl); (case hr_22 => kernel_rfl); (case hQ_22 => exact fun _ _ _ h => h); (case hS_22 => assumption); (case hy_22 => (refine Or.inl ⟨by rfl, ?_⟩; intro w hSw; go_simp; first | done | with_reducible rfl)); (try simp only [Act.put, List.setIfInBounds_toArray, List.set_cons_zero, List.set_cons_succ])
  refine wpAnyH_take (i := 22) (oi := ?o_23) (v := ?v_23) ?hi_23 ?hs_23 ?hf_23 ?hr_23 ?hQ_23 ?hy_23 ?hS_23 ?rest_23; (case hi_23 => (simp only [List.getElem?_toArray, List.getElem?_cons_zero, List.getElem?_cons_succ]; rfl)); (case hs_23 => kernel_rfl); (case hf_23 => kernel_rfl); (case hr_23 => kernel_rfl); (case hQ_23 => exact fun _ _ _ h => h); (case hS_23 => assumption); (case hy_23 => (refine Or.inl ⟨by rfl, ?_⟩; intro w hSw; go_simp; first | done | with_reducible rfl)); (try simp only [Act.put, List.setIfInBounds_toArray, List.set_cons_zero, List.set_cons_succ])
  refine wpAnyH_take (i := 23) (oi := ?o_24) (v := ?v_24) ?hi_24 ?hs_24 ?hf_24 ?hr_24 ?hQ_24 ?hy_24 ?hS_24 ?rest_24; (case hi_24 => (simp only [List.getElem?_toArray, List.getElem?_cons_zero, List.getElem?_cons_succ]; rfl)); (case hs_24 => kernel_rfl); (case hf_24 => kernel_rfl); (case hr_24 => kernel_rfl); (case hQ_24 => exact fun _ _ _ h => h); (case hS_24 => assumption); (case hy_24 => (refine Or.inl ⟨by rfl, ?_⟩; intro w hSw; go_simp; first | done | with_reducible rfl)); (try simp only [Act.put, List.setIfInBounds_toArray, List.set_cons_zero, List.set_cons_succ])
  refine wpAnyH_ready (rs := [24]) (by kernel_rfl) (by simp) ?_; refine AllReadyH.cons (o := ?o_25) ?hi_25 (fun K hK => ?_) AllReadyH.nil; (case hi_25 => (simp only [List.getElem?_toArray, List.getElem?_cons_zero, List.getElem?_cons_succ]; rfl)); go_simp; go_at_call 12; refine (filter_Right.calls none 0 [] (⟨#[]⟩ : ByteArray) (⟨#[]⟩ : ByteArray) 0 0 0 0 _ _ (Kd.C_nil _ _) (Nat.le_refl _) FR.out).mono ?_; rintro e w8 ⟨rfl, hb⟩; have a_ := Aside0.mk (Kd.C_below CA.out hb); have b_ := Aside0.mk (Kd.C_below CB.out hb); have n_ := Aside0.mk (below_then HB.out (below_size HB.out) hb); clear CA CB HB hb; have CA := a_; have CB := b_; have HB := n_; clear a_ b_ n_; have hsv := Aside0.mk (alive_S CA.out CB.out); refine hK.out _ _ ?_ (fun hHeld => ?_); (· exact hsv.out); clear hK K; (try simp only [Act.put, List.setIfInBounds_toArray, List.set_cons_zero, List.set_cons_succ])
  refine wpAnyH_take (i := 25) (oi := ?o_26) (v := ?v_26) ?hi_26 ?hs_26 ?hf_26 ?hr_26 ?hQ_26 ?hy_26 ?hS_26 ?rest_26; (case hi_26 => (simp only [List.getElem?_toArray, List.getElem?_cons_zero, List.getElem?_cons_succ]; rfl)); (case hs_26 => kernel_rfl); (case hf_26 => kernel_rfl); (case hr_26 => kernel_rfl); (case hQ_26 => exact fun _ _ _ h => h); (case hS_26 => assumption); (case hy_26 => (refine Or.inl ⟨by rfl, ?_⟩; intro w hSw; go_simp; first | done | with_reducible rfl)); (try simp only [Act.put, List.setIfInBounds_toArray, List.set_cons_zero, List.set_cons_succ])
  refine wpAnyH_take (i := 26) (oi := ?o_27) (v := ?v_27) ?hi_27 ?hs_27 ?hf_27 ?hr_27 ?hQ_27 ?hy_27 ?hS_27 ?rest_27; (case hi_27 => (simp only [List.getElem?_toArray, List.getElem?_cons_zero, List.getElem?_cons_succ]; rfl)); (case hs_27 => kernel_rfl); (case hf_27 => kernel_rfl); (case hr_27 => kernel_rfl); (case hQ_27 => exact fun _ _ _ h => h); (case hS_27 => assumption); (case hy_27 => (refine Or.inl ⟨by rfl, ?_⟩; intro w hSw; go_simp; first | done | with_reducible rfl)); (try simp only [Act.put, List.setIfInBounds_toArray, List.set_cons_zero, List.set_cons_succ])
  refine wpAnyH_take (i := 27) (oi := ?o_28) (v := ?v_28) ?hi_28 ?hs_28 ?hf_28 ?hr_28 ?hQ_28 ?hy_28 ?hS_28 ?rest_28; (case hi_28 => (simp only [List.getElem?_toArray, List.getElem?_cons_zero, List.getElem?_cons_succ]; rfl)); (case hs_28 => kernel_rfl); (case hf_28 => kernel_rfl); (case hr_28 => kernel_rfl); (case hQ_28 => exact fun _ _ _ h => h); (case hS_28 => assumption); (case hy_28 => (refine Or.inl ⟨by rfl, ?_⟩; intro w hSw; go_simp; first | done | with_reducible rfl)); (try simp only [Act.put, List.setIfInBounds_toArray, List.set_cons_zero, List.set_cons_succ])
  refine wpAnyH_ready (rs := [28]) (by kernel_rfl) (by simp) ?_; refine AllReadyH.cons (o := ?o_29) ?hi_29 (fun K hK => ?_) AllReadyH.nil; (case hi_29 => (simp only [List.getElem?_toArray, List.getElem?_cons_zero, List.getElem?_cons_succ]; rfl)); go_simp; go_at_call 12; refine (filter_Right.calls none 0 [] (⟨#[]⟩ : ByteArray) (⟨#[]⟩ : ByteArray) 0 0 0 (-1) _ _ (Kd.C_nil _ _) (Nat.le_refl _) FQ.out).mono ?_; rintro e w8 ⟨rfl, hb⟩; have a_ := Aside0.mk (Kd.C_below CA.out hb); have b_ := Aside0.mk (Kd.C_below CB.out hb); have n_ := Aside0.mk (below_then HB.out (below_size HB.out) hb); clear CA CB HB hb; have CA := a_; have CB := b_; have HB := n_; clear a_ b_ n_; have hsv := Aside0.mk (alive_S CA.out CB.out); refine hK.out _ _ ?_ (fun hHeld => ?_); (· exact hsv.out); clear hK K; (try simp only [Act.put, List.setIfInBounds_toArray, List.set_cons_zero, List.set_cons_succ])
  refine wpAnyH_take (i := 29) (oi := ?o_30) (v := ?v_30) ?hi_30 ?hs_30 ?hf_30 ?hr_30 ?hQ_30 ?hy_30 ?hS_30 ?rest_30; (case hi_30 => (simp only [List.getElem?_toArray, List.getElem?_cons_zero, List.getElem?_cons_succ]; rfl)); (case hs_30 => kernel_rfl); (case hf_30 => kernel_rfl); (case hr_30 => kernel_rfl); (case hQ_30 => exact fun _ _ _ h => h); (case hS_30 => assumption); (case hy_30 => (refine Or.inl ⟨by rfl, ?_⟩; intro w hSw; go_simp; first | done | with_reducible rfl)); (try simp only [Act.put, List.setIfInBounds_toArray, List.set_cons_zero, List.set_cons_succ])
  refine wpAnyH_take (i := 30) (oi := ?o_31) (v := ?v_31) ?hi_31 ?hs_31 ?hf_31 ?hr_31 ?hQ_31 ?hy_31 ?hS_31 ?rest_31; (case hi_31 => (simp only [List.getElem?_toArray, List.getElem?_cons_zero, List.getElem?_cons_succ]; rfl)); (case hs_31 => kernel_rfl); (case hf_31 => kernel_rfl); (case hr_31 => kernel_rfl); (case hQ_31 => exact fun _ _ _ h => h); (case hS_31 => assumption); (case hy_31 => (refine Or.inl ⟨by rfl, ?_⟩; intro w hSw; go_simp; first | done | with_reducible rfl)); (try simp only [Act.put, List.setIfInBounds_toArray, List.set_cons_zero, List.set_cons_succ])
  refine wpAnyH_take (i := 31) (oi := ?o_32) (v := ?v_32) ?hi_32 ?hs_32 ?hf_32 ?hr_32 ?hQ_32 ?hy_32 ?hS_32 ?rest_32; (case hi_32 => (simp only [List.getElem?_toArray, List.getElem?_cons_zero, List.getElem?_cons_succ]; rfl)); (case hs_32 => kernel_rfl); (case hf_32 => kernel_rfl); (case hr_32 => kernel_rfl); (case hQ_32 => exact fun _ _ _ h => h); (case hS_32 => assumption); (case hy_32 => (refine Or.inl ⟨by rfl, ?_⟩; intro w hSw; go_simp; first | done | with_reducible rfl)); (try simp only [Act.put, List.setIfInBounds_toArray, List.set_cons_zero, List.set_cons_succ])
  refine wpAnyH_take (i := 32) (oi := ?o_33) (v := ?v_33) ?hi_33 ?hs_33 ?hf_33 ?hr_33 ?hQ_33 ?hy_33 ?hS_33 ?rest_33; (case hi_33 => (simp only [List.getElem?_toArray, List.getElem?_cons_zero, List.getElem?_cons_succ]; rfl)); (case hs_33 => kernel_rfl); (case hf_33 => kernel_rfl); (case hr_33 => kernel_rfl); (case hQ_33 => exact fun _ _ _ h => h); (case hS_33 => assumption); (case hy_33 => (refine Or.inl ⟨by rfl, ?_⟩; intro w hSw; go_simp; first | done | with_reducible rfl)); (try simp only [Act.put, List.setIfInBounds_toArray, List.set_cons_zero, List.set_cons_succ])
  refine wpAnyH_ready (rs := [33]) (by kernel_rfl) (by simp) ?_; refine AllReadyH.cons (o := ?o_34) ?hi_34 (fun K hK => ?_) AllReadyH.nil; (case hi_34 => (simp only [List.getElem?_toArray, List.getElem?_cons_zero, List.getElem?_cons_succ]; rfl)); go_simp; go_at_call 20; refine (filter_new none 0 [] (⟨#[]⟩ : ByteArray) (⟨#[]⟩ : ByteArray) 0 0 0 0 _ (Kd.C_nil _ _) (Nat.le_refl _) (by decide)).mono ?_; rintro e w8 ⟨gn, wn, rfl, hin, hb1, hb2⟩; have hb := below_then hb1 (below_size hb1) hb2; clear hb1 hb2 hin; have a_ := Aside0.mk (Kd.C_below CA.out hb); have b_ := Aside0.mk (Kd.C_below CB.out hb); have n_ := Aside0.mk (below_then HB.out (below_size HB.out) hb); clear CA CB HB hb; have CA := a_; have CB := b_; have HB := n_; clear a_ b_ n_; have hsv := Aside0.mk (alive_S CA.out CB.out); refine hK.out _ _ ?_ (fun hHeld => ?_); (· exact hsv.out); clear hK K; (try simp only [Act.put, List.setIfInBounds_toArray, List.set_cons_zero, List.set_cons_succ])
  refine wpAnyH_take (i := 34) (oi := ?o_35) (v := ?v_35) ?hi_35 ?hs_35 ?hf_35 ?hr_35 ?hQ_35 ?hy_35 ?hS_35 ?rest_35; (case hi_35 => (simp only [List.getElem?_toArray, List.getElem?_cons_zero, List.getElem?_cons_succ]; rfl)); (case hs_35 => kernel_rfl); (case hf_35 => kernel_rfl); (case hr_35 => kernel_rfl); (case hQ_35 => exact fun _ _ _ h => h); (case hS_35 => assumption); (case hy_35 => (refine Or.inl ⟨by rfl, ?_⟩; intro w hSw; go_simp; first | done | with_reducible rfl)); (try simp only [Act.put, List.setIfInBounds_toArray, List.set_cons_zero, List.set_cons_succ])
  refine wpAnyH_take (i := 35) (oi := ?o_36) (v := ?v_36) ?hi_36 ?hs_36 ?hf_36 ?hr_36 ?hQ_36 ?hy_36 ?hS_36 ?rest_36; (case hi_36 => (simp only [List.getElem?_toArray, List.getElem?_cons_zero, List.getElem?_cons_succ]; rfl)); (case hs_36 => kernel_rfl); (case hf_36 => kernel_rfl); (case hr_36 => kernel_rfl); (case hQ_36 => exact fun _ _ _ h => h); (case hS_36 => assumption); (case hy_36 => (refine Or.inl ⟨by rfl, ?_⟩; intro w hSw; go_simp; first | done | with_reducible rfl)); (try simp only [Act.put, List.setIfInBounds_toArray, List.set_cons_zero, List.set_cons_succ])
  refine wpAnyH_take (i := 36) (oi := ?o_37) (v := ?v_37) ?hi_37 ?hs_37 ?hf_37 ?hr_37 ?hQ_37 ?hy_37 ?hS_37 ?rest_37; (case hi_37 => (simp only [List.getElem?_toArray, List.getElem?_cons_zero, List.getElem?_cons_succ]; rfl)); (case hs_37 => kernel_rfl); (case hf_37 => kernel_rfl); (case hr_37 => kernel_rfl); (case hQ_37 => exact fun _ _ _ h => h); (case hS_37 => assumption); (case hy_37 => (refine Or.inl ⟨by rfl, ?_⟩; intro w hSw; go_simp; first | done | with_reducible rfl)); (try simp only [Act.put, List.setIfInBounds_toArray, List.set_cons_zero, List.set_cons_succ])
  refine wpAnyH_done (by kernel_rfl) ?_ _
  clear hHeld S0
  go_wp2
  go_ret
  exact ⟨rfl, HB.out⟩

end Go.Proofs.Ythbgjaboghnpjaa.Q
