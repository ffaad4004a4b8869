/- Values: the statements' walks: back. -/
import Derived.Test.YtikpmlginojnhaaGreatDoorVU

namespace Go.Proofs.YtikpmlginojnhaaGreatDoor.Fl
open Go.RowKit Go.Maps
set_option linter.unusedVariables false
set_option linter.unusedSimpArgs false
/-- Two values in boxes. -/
structure Lw (w W : World) (ka na : Int) (sa : ByteArray) (kb nb : Int) (sb : ByteArray) : Prop where
  a : W.heap[w.heap.size]? = some (.cells #[.int .i64 ka, .int .i64 na, .string sa] 23 (0, 0))
  b : W.heap[w.heap.size + 1]? = some (.cells #[.int .i64 kb, .int .i64 nb, .string sb] 23 (0, 0))
  bel : Below w.heap.size w W
  gv : Gv W
theorem Lw.below {w W W' : World} {ka na : Int} {sa : ByteArray} {kb nb : Int} {sb : ByteArray} (h : Lw w W ka na sa kb nb sb) (hb : Below W.heap.size W W') : Lw w W' ka na sa kb nb sb :=
  ⟨box_keep h.a hb, box_keep h.b hb, below_to h.bel hb, h.gv.below hb⟩
theorem Lw.start (w : World) (hg : Gv w) (ka na : Int) (sa : ByteArray) (kb nb : Int) (sb : ByteArray) : Lw w ((w.alloc (.cells #[.int .i64 ka, .int .i64 na, .string sa] 23)).alloc (.cells #[.int .i64 kb, .int .i64 nb, .string sb] 23)) ka na sa kb nb sb :=
  ⟨(box_a w _ _).1, (box_a w _ _).2, below_to (below_alloc w _) (below_alloc _ _), (hg.below (below_alloc w _)).below (below_alloc _ _)⟩
theorem Lw.cells {w W : World} {ka na : Int} {sa : ByteArray} {kb nb : Int} {sb : ByteArray} (h : Lw w W ka na sa kb nb sb) : W.cell? ⟨w.heap.size, 0, none⟩ = some (.int .i64 ka) ∧ W.cell? ⟨w.heap.size, 1, none⟩ = some (.int .i64 na) ∧ W.cell? ⟨w.heap.size, 2, none⟩ = some (.string sa) ∧ W.cell? ⟨w.heap.size + 1, 0, none⟩ = some (.int .i64 kb) ∧ W.cell? ⟨w.heap.size + 1, 1, none⟩ = some (.int .i64 nb) ∧ W.cell? ⟨w.heap.size + 1, 2, none⟩ = some (.string sb) := by
  obtain ⟨x0, x1, x2⟩ := cells3 h.a
  obtain ⟨y0, y1, y2⟩ := cells3 h.b
  exact ⟨x0, x1, x2, y0, y1, y2⟩
theorem Lw.drew {w W : World} {ka na : Int} {sa : ByteArray} {kb nb : Int} {sb : ByteArray} (h : Lw w W ka na sa kb nb sb) : Lw w W.drew ka na sa kb nb sb := h.below (Below.refl _ _).drew
theorem HasB.first {w : World} {v : Value} {x : Int} {t : List Int} (h : HasB w v (x :: t)) : ∃ ad c, v = .slice (some ad) (t.length + 1) c ∧ t.length + 1 ≤ c ∧ w.cell? ad = some (.int .u8 x) := by
  obtain ⟨A, c, rfl, hc, hk⟩ := h
  obtain ⟨ad, rfl, h0⟩ := hk 0 (by simp)
  exact ⟨ad, c, rfl, hc, by simpa [Addr.add] using h0⟩
theorem HasB.len {w : World} {v : Value} {l : List Int} (h : HasB w v l) : ∃ A c, v = .slice A l.length c := by
  obtain ⟨A, c, rfl, _⟩ := h
  exact ⟨A, c, rfl⟩
set_option maxHeartbeats 4000000 in
set_option maxRecDepth 100000 in
theorem valKinds (w : World) (ka na : Int) (sa : ByteArray) (kb nb : Int) (sb : ByteArray) (hna : Wf na) (hnb : Wf nb) (hsa : sa.size ≤ 140737488351232) (hsb : sb.size ≤ 140737488351232) (hg : Gv w) :
    Calls Tryz.prog 8 #[vv ka na sa, vv kb nb sb] w fun e w' => e = .returned (.bool true) ∧ Below w.heap.size w w' := by
  have HL := Lib.hid (Lw.start w hg ka na sa kb nb sb)
  obtain ⟨la, hla⟩ : ∃ la, decide (500 < (sa.size : Int)) = la := ⟨_, rfl⟩
  obtain ⟨lb, hlb⟩ : ∃ lb, decide (500 < (sb.size : Int)) = lb := ⟨_, rfl⟩
  have CA := Lib.hid (fun W => c_vlong ka na sa la hla W)
  have CB := Lib.hid (fun W => c_vlong kb nb sb lb hlb W)
  have CE := Lib.hid (fun W hg => c_vencode ka na sa hna hsa W hg)
  have CO := Lib.hid (fun W => c_vorder ka na sa kb nb sb W)
  have HR := Lib.hid (show rightV ka na sa = true → ∃ t, encV ka na sa = ka :: t ∧ 1 ≤ t.length ∧ 0 ≤ ka ∧ ka < 256 from fun h => ⟨_, encV_right h, (encP_len ka na sa h).1, by rcases right_kinds h with ⟨e, c⟩ | ⟨e, c, c2⟩ | ⟨e, c, c2⟩ | ⟨e, e2, c⟩ | ⟨e, e2, c, c2⟩ <;> omega⟩)
  have HK := Lib.hid (fun h => ord_kinds (ka := ka) (na := na) (sa := sa) (kb := kb) (nb := nb) (sb := sb) h)
  generalize ordV ka na sa kb nb sb = q at CO HK
  generalize encV ka na sa = l at CE HR
  obtain ⟨r, hr⟩ : ∃ r, rightV ka na sa = r := ⟨_, rfl⟩
  rw [hr] at CE HR
  simp only [vv] at CA CB CE CO ⊢
  clear hg hna hnb hsa hsb hla hlb hr
  go_enter Tryz.func8, Tryz.ntmps8
  go_wp2_with fail
  refine (c_valive _ HL.out.gv).mono ?_
  rintro e w1 ⟨rfl, hb⟩
  have HL1 := Lib.hid (HL.out.below hb)
  clear hb HL
  obtain ⟨x0, x1, x2, y0, y1, y2⟩ := HL1.out.cells
  go_wp2_with fail
  refine (CA.out _).mono ?_
  rintro e w2 ⟨rfl, hb⟩
  have HL2 := Lib.hid (HL1.out.below hb)
  clear hb HL1 x0 x1 x2 y0 y1 y2 CA
  cases la with
  | true =>
    go_wp2
    go_ret
    exact ⟨rfl, HL2.out.bel⟩
  | false =>
    obtain ⟨x0, x1, x2, y0, y1, y2⟩ := HL2.out.cells
    go_wp2_with fail
    refine (CB.out _).mono ?_
    rintro e w3 ⟨rfl, hb⟩
    have HL3 := Lib.hid (HL2.out.below hb)
    clear hb HL2 x0 x1 x2 y0 y1 y2 CB
    cases lb with
    | true =>
      go_wp2
      go_ret
      exact ⟨rfl, HL3.out.bel⟩
    | false =>
      obtain ⟨x0, x1, x2, y0, y1, y2⟩ := HL3.out.cells
      go_wp2_with fail
      refine (CE.out _ HL3.out.gv).mono ?_
      rintro e w4 ⟨v, rfl, hv, hb⟩
      have HL4 := Lib.hid (HL3.out.below hb)
      clear hb HL3 x0 x1 x2 y0 y1 y2 CE
      by_cases hk : ka = kb
      · subst hk
        have t1 : (ka == ka) = true := by simp
        clear HK CO
        obtain ⟨x0, x1, x2, y0, y1, y2⟩ := HL4.out.cells
        cases r with
        | false =>
          clear hv
          go_wp2_with fail
          go_quiet (fail)
          go_wp2
          go_ret
          exact ⟨rfl, (HL4.out.below (below_drewN _ _)).bel⟩
        | true =>
          obtain ⟨t, rfl, ht, hk0, hk1⟩ := HR.out rfl
          obtain ⟨ad, c, rfl, hc, hcell⟩ := hv.first
          have t2 : decide ((t.length : Int) + 1 < 2) = false := decide_eq_false (by omega)
          have hwk : IntKind.i64.wrap ka = ka := by rw [IntKind.wrap_i64]; omega
          have hwk2 : wrap64 ka = ka := by unfold wrap64; omega
          clear hv ht hk0 hk1
          go_wp2_with fail
          go_quiet (fail)
          go_wp2
          go_ret
          exact ⟨rfl, (HL4.out.below (below_drewN _ _)).bel⟩
      · have t1 : (ka == kb) = false := by simp [hk]
        have hq := HK.out hk
        have t3 : decide (q < 0) = decide (ka < kb) := decide_eq_decide.2 hq.1
        have t4 : (q != 0) = true := by simp [hq.2]
        have t5 : (decide (q < 0) == decide (ka < kb)) = true := by rw [t3]; simp
        clear HK hk hq t3
        obtain ⟨x0, x1, x2, y0, y1, y2⟩ := HL4.out.cells
        cases r with
        | false =>
          clear hv
          go_wp2_with fail
          go_quiet (fail)
          have HL5 := Lib.hid (HL4.out.below (below_drewN w4 nq))
          clear x0 x1 x2 y0 y1 y2
          generalize w4.drewN nq = w5 at HL5 ⊢
          obtain ⟨x0, x1, x2, y0, y1, y2⟩ := HL5.out.cells
          go_wp2_with fail
          have HL6 := Lib.hid HL5.out.drew
          refine wp_region_held_drew (S := fun X => Lw w X ka na sa kb nb sb) (by kernel_rfl) HL6.out (fun hHeld => ?_)
          refine wpAnyH_take (i := 0) (oi := ?o_1) (v := ?v_1) ?hi_1 ?hs_1 ?hf_1 ?hr_1 ?hQ_1 ?hy_1 ?hS_1 ?rest_1; (case hi_1 => (simp only [List.getElem?_toArray, List.getElem?_cons_zero, List.getElem?_cons_succ]; rfl)); (case hs_1 => kernel_rfl); (case hf_1 => kernel_rfl); (case hr_1 => kernel_rfl); (case hQ_1 => exact fun _ _ _ h => h); (case hS_1 => assumption); (case hy_1 => (refine Or.inl ⟨by rfl, ?_⟩; intro w hSw; obtain ⟨x0, x1, x2, y0, y1, y2⟩ := Lw.cells hSw; go_simp; first | done | with_reducible rfl)); (try simp only [Act.put, List.setIfInBounds_toArray, List.set_cons_zero, List.set_cons_succ])
          refine wpAnyH_take (i := 1) (oi := ?o_2) (v := ?v_2) ?hi_2 ?hs_2 ?hf_2 ?hr_2 ?hQ_2 ?hy_2 ?hS_2 ?rest_2; (case hi_2 => (simp only [List.getElem?_toArray, List.getElem?_cons_zero, List.getElem?_cons_succ]; rfl)); (case hs_2 => kernel_rfl); (case hf_2 => kernel_rfl); (case hr_2 => kernel_rfl); (case hQ_2 => exact fun _ _ _ h => h); (case hS_2 => assumption); (case hy_2 => (refine Or.inl ⟨by rfl, ?_⟩; intro w hSw; obtain ⟨x0, x1, x2, y0, y1, y2⟩ := Lw.cells hSw; go_simp; first | done | with_reducible rfl)); (try simp only [Act.put, List.setIfInBounds_toArray, List.set_cons_zero, List.set_cons_succ])
          refine wpAnyH_take (i := 4) (oi := ?o_3) (v := ?v_3) ?hi_3 ?hs_3 ?hf_3 ?hr_3 ?hQ_3 ?hy_3 ?hS_3 ?rest_3; (case hi_3 => (simp only [List.getElem?_toArray, List.getElem?_cons_zero, List.getElem?_cons_succ]; rfl)); (case hs_3 => kernel_rfl); (case hf_3 => kernel_rfl); (case hr_3 => kernel_rfl); (case hQ_3 => exact fun _ _ _ h => h); (case hS_3 => assumption); (case hy_3 => (refine Or.inl ⟨by rfl, ?_⟩; intro w hSw; obtain ⟨x0, x1, x2, y0, y1, y2⟩ := Lw.cells hSw; go_simp; first | done | with_reducible rfl)); (try simp only [Act.put, List.setIfInBounds_toArray, List.set_cons_zero, List.set_cons_succ])
          refine wpAnyH_take (i := 5) (oi := ?o_4) (v := ?v_4) ?hi_4 ?hs_4 ?hf_4 ?hr_4 ?hQ_4 ?hy_4 ?hS_4 ?rest_4; (case hi_4 => (simp only [List.getElem?_toArray, List.getElem?_cons_zero, List.getElem?_cons_succ]; rfl)); (case hs_4 => kernel_rfl); (case hf_4 => kernel_rfl); (case hr_4 => kernel_rfl); (case hQ_4 => exact fun _ _ _ h => h); (case hS_4 => assumption); (case hy_4 => (refine Or.inl ⟨by rfl, ?_⟩; intro w hSw; obtain ⟨x0, x1, x2, y0, y1, y2⟩ := Lw.cells hSw; go_simp; first | done | with_reducible rfl)); (try simp only [Act.put, List.setIfInBounds_toArray, List.set_cons_zero, List.set_cons_succ])
          refine wpAnyH_take (i := 6) (oi := ?o_5) (v := ?v_5) ?hi_5 ?hs_5 ?hf_5 ?hr_5 ?hQ_5 ?hy_5 ?hS_5 ?rest_5; (case hi_5 => (simp only [List.getElem?_toArray, List.getElem?_cons_zero, List.getElem?_cons_succ]; rfl)); (case hs_5 => kernel_rfl); (case hf_5 => kernel_rfl); (case hr_5 => kernel_rfl); (case hQ_5 => exact fun _ _ _ h => h); (case hS_5 => assumption); (case hy_5 => (refine Or.inl ⟨by rfl, ?_⟩; intro w hSw; obtain ⟨x0, x1, x2, y0, y1, y2⟩ := Lw.cells hSw; go_simp; first | done | with_reducible rfl)); (try simp only [Act.put, List.setIfInBounds_toArray, List.set_cons_zero, List.set_cons_succ])
          refine wpAnyH_take (i := 7) (oi := ?o_6) (v := ?v_6) ?hi_6 ?hs_6 ?hf_6 ?hr_6 ?hQ_6 ?hy_6 ?hS_6 ?rest_6; (case hi_6 => (simp only [List.getElem?_toArray, List.getElem?_cons_zero, List.getElem?_cons_succ]; rfl)); (case hs_6 => kernel_rfl); (case hf_6 => kernel_rfl); (case hr_6 => kernel_rfl); (case hQ_6 => exact fun _ _ _ h => h); (case hS_6 => assumption); (case hy_6 => (refine Or.inl ⟨by rfl, ?_⟩; intro w hSw; obtain ⟨x0, x1, x2, y0, y1, y2⟩ := Lw.cells hSw; go_simp; first | done | with_reducible rfl)); (try simp only [Act.put, List.setIfInBounds_toArray, List.set_cons_zero, List.set_cons_succ])
          refine wpAnyH_take (i := 8) (oi := ?o_7) (v := ?v_7) ?hi_7 ?hs_7 ?hf_7 ?hr_7 ?hQ_7 ?hy_7 ?hS_7 ?rest_7; (case hi_7 => (simp only [List.getElem?_toArray, List.getElem?_cons_zero, List.getElem?_cons_succ]; rfl)); (case hs_7 => kernel_rfl); (case hf_7 => kernel_rfl); (case hr_7 => kernel_rfl); (case hQ_7 => exact fun _ _ _ h => h); (case hS_7 => assumption); (case hy_7 => (refine Or.inl ⟨by rfl, ?_⟩; intro w hSw; obtain ⟨x0, x1, x2, y0, y1, y2⟩ := Lw.cells hSw; go_simp; first | done | with_reducible rfl)); (try simp only [Act.put, List.setIfInBounds_toArray, List.set_cons_zero, List.set_cons_succ])
          refine wpAnyH_ready (rs := [2]) (by kernel_rfl) (by simp) ?_; refine AllReadyH.cons (o := ?o_8) ?hi_8 (fun K hK => ?_) AllReadyH.nil; (case hi_8 => (simp only [List.getElem?_toArray, List.getElem?_cons_zero, List.getElem?_cons_succ]; rfl)); go_simp; (go_at_call 15; ((refine (CO.out _).mono ?_); rintro e w7 ⟨rfl, hb⟩; have HL7 := Lib.hid (HL6.out.below hb); clear hb)); refine hK.out _ _ ?_ (fun hHeld => ?_); (· exact HL7.out); clear hK K; (try simp only [Act.put, List.setIfInBounds_toArray, List.set_cons_zero, List.set_cons_succ])
          refine wpAnyH_take (i := 3) (oi := ?o_9) (v := ?v_9) ?hi_9 ?hs_9 ?hf_9 ?hr_9 ?hQ_9 ?hy_9 ?hS_9 ?rest_9; (case hi_9 => (simp only [List.getElem?_toArray, List.getElem?_cons_zero, List.getElem?_cons_succ]; rfl)); (case hs_9 => kernel_rfl); (case hf_9 => kernel_rfl); (case hr_9 => kernel_rfl); (case hQ_9 => exact fun _ _ _ h => h); (case hS_9 => assumption); (case hy_9 => (refine Or.inl ⟨by rfl, ?_⟩; intro w hSw; obtain ⟨x0, x1, x2, y0, y1, y2⟩ := Lw.cells hSw; go_simp; first | done | with_reducible rfl)); (try simp only [Act.put, List.setIfInBounds_toArray, List.set_cons_zero, List.set_cons_succ])
          refine wpAnyH_take (i := 9) (oi := ?o_10) (v := ?v_10) ?hi_10 ?hs_10 ?hf_10 ?hr_10 ?hQ_10 ?hy_10 ?hS_10 ?rest_10; (case hi_10 => (simp only [List.getElem?_toArray, List.getElem?_cons_zero, List.getElem?_cons_succ]; rfl)); (case hs_10 => kernel_rfl); (case hf_10 => kernel_rfl); (case hr_10 => kernel_rfl); (case hQ_10 => exact fun _ _ _ h => h); (case hS_10 => assumption); (case hy_10 => (refine Or.inl ⟨by rfl, ?_⟩; intro w hSw; obtain ⟨x0, x1, x2, y0, y1, y2⟩ := Lw.cells hSw; go_simp; first | done | with_reducible rfl)); (try simp only [Act.put, List.setIfInBounds_toArray, List.set_cons_zero, List.set_cons_succ])
          refine wpAnyH_take (i := 10) (oi := ?o_11) (v := ?v_11) ?hi_11 ?hs_11 ?hf_11 ?hr_11 ?hQ_11 ?hy_11 ?hS_11 ?rest_11; (case hi_11 => (simp only [List.getElem?_toArray, List.getElem?_cons_zero, List.getElem?_cons_succ]; rfl)); (case hs_11 => kernel_rfl); (case hf_11 => kernel_rfl); (case hr_11 => kernel_rfl); (case hQ_11 => exact fun _ _ _ h => h); (case hS_11 => assumption); (case hy_11 => (refine Or.inl ⟨by rfl, ?_⟩; intro w hSw; obtain ⟨x0, x1, x2, y0, y1, y2⟩ := Lw.cells hSw; go_simp; first | done | with_reducible rfl)); (try simp only [Act.put, List.setIfInBounds_toArray, List.set_cons_zero, List.set_cons_succ])
          refine wpAnyH_take (i := 11) (oi := ?o_12) (v := ?v_12) ?hi_12 ?hs_12 ?hf_12 ?hr_12 ?hQ_12 ?hy_12 ?hS_12 ?rest_12; (case hi_12 => (simp only [List.getElem?_toArray, List.getElem?_cons_zero, List.getElem?_cons_succ]; rfl)); (case hs_12 => kernel_rfl); (case hf_12 => kernel_rfl); (case hr_12 => kernel_rfl); (case hQ_12 => exact fun _ _ _ h => h); (case hS_12 => assumption); (case hy_12 => (refine Or.inl ⟨by rfl, ?_⟩; intro w hSw; obtain ⟨x0, x1, x2, y0, y1, y2⟩ := Lw.cells hSw; go_simp; first | done | with_reducible rfl)); (try simp only [Act.put, List.setIfInBounds_toArray, List.set_cons_zero, List.set_cons_succ])
          refine wpAnyH_take (i := 12) (oi := ?o_13) (v := ?v_13) ?hi_13 ?hs_13 ?hf_13 ?hr_13 ?hQ_13 ?hy_13 ?hS_13 ?rest_13; (case hi_13 => (simp only [List.getElem?_toArray, List.getElem?_cons_zero, List.getElem?_cons_succ]; rfl)); (case hs_13 => kernel_rfl); (case hf_13 => kernel_rfl); (case hr_13 => kernel_rfl); (case hQ_13 => exact fun _ _ _ h => h); (case hS_13 => assumption); (case hy_13 => (refine Or.inl ⟨by rfl, ?_⟩; intro w hSw; obtain ⟨x0, x1, x2, y0, y1, y2⟩ := Lw.cells hSw; go_simp; first | done | with_reducible rfl)); (try simp only [Act.put, List.setIfInBounds_toArray, List.set_cons_zero, List.set_cons_succ])
          refine wpAnyH_ready (rs := [13]) (by kernel_rfl) (by simp) ?_; refine AllReadyH.cons (o := ?o_14) ?hi_14 (fun K hK => ?_) AllReadyH.nil; (case hi_14 => (simp only [List.getElem?_toArray, List.getElem?_cons_zero, List.getElem?_cons_succ]; rfl)); go_simp; (go_at_call 15; ((refine (CO.out _).mono ?_); rintro e w8 ⟨rfl, hb⟩; have HL8 := Lib.hid (HL7.out.below hb); clear hb)); refine hK.out _ _ ?_ (fun hHeld => ?_); (· exact HL8.out); clear hK K; (try simp only [Act.put, List.setIfInBounds_toArray, List.set_cons_zero, List.set_cons_succ])
          refine wpAnyH_take (i := 14) (oi := ?o_15) (v := ?v_15) ?hi_15 ?hs_15 ?hf_15 ?hr_15 ?hQ_15 ?hy_15 ?hS_15 ?rest_15; (case hi_15 => (simp only [List.getElem?_toArray, List.getElem?_cons_zero, List.getElem?_cons_succ]; rfl)); (case hs_15 => kernel_rfl); (case hf_15 => kernel_rfl); (case hr_15 => kernel_rfl); (case hQ_15 => exact fun _ _ _ h => h); (case hS_15 => assumption); (case hy_15 => (refine Or.inl ⟨by rfl, ?_⟩; intro w hSw; obtain ⟨x0, x1, x2, y0, y1, y2⟩ := Lw.cells hSw; go_simp; first | done | with_reducible rfl)); (try simp only [Act.put, List.setIfInBounds_toArray, List.set_cons_zero, List.set_cons_succ])
          refine wpAnyH_take (i := 15) (oi := ?o_16) (v := ?v_16) ?hi_16 ?hs_16 ?hf_16 ?hr_16 ?hQ_16 ?hy_16 ?hS_16 ?rest_16; (case hi_16 => (simp only [List.getElem?_toArray, List.getElem?_cons_zero, List.getElem?_cons_succ]; rfl)); (case hs_16 => kernel_rfl); (case hf_16 => kernel_rfl); (case hr_16 => kernel_rfl); (case hQ_16 => exact fun _ _ _ h => h); (case hS_16 => assumption); (case hy_16 => (refine Or.inl ⟨by rfl, ?_⟩; intro w hSw; obtain ⟨x0, x1, x2, y0, y1, y2⟩ := Lw.cells hSw; go_simp; first | done | with_reducible rfl)); (try simp only [Act.put, List.setIfInBounds_toArray, List.set_cons_zero, List.set_cons_succ])
          refine wpAnyH_take (i := 16) (oi := ?o_17) (v := ?v_17) ?hi_17 ?hs_17 ?hf_17 ?hr_17 ?hQ_17 ?hy_17 ?hS_17 ?rest_17; (case hi_17 => (simp only [List.getElem?_toArray, List.getElem?_cons_zero, List.getElem?_cons_succ]; rfl)); (case hs_17 => kernel_rfl); (case hf_17 => kernel_rfl); (case hr_17 => kernel_rfl); (case hQ_17 => exact fun _ _ _ h => h); (case hS_17 => assumption); (case hy_17 => (refine Or.inl ⟨by rfl, ?_⟩; intro w hSw; obtain ⟨x0, x1, x2, y0, y1, y2⟩ := Lw.cells hSw; go_simp; first | done | with_reducible rfl)); (try simp only [Act.put, List.setIfInBounds_toArray, List.set_cons_zero, List.set_cons_succ])
          refine wpAnyH_done (by kernel_rfl) ?_ _
          go_wp2
          go_ret
          exact ⟨rfl, HL8.out.bel⟩
        | true =>
          obtain ⟨t, rfl, ht, hk0, hk1⟩ := HR.out rfl
          obtain ⟨ad, c, rfl, hc, hcell⟩ := hv.first
          have t2 : decide ((t.length : Int) + 1 < 2) = false := decide_eq_false (by omega)
          have hwk : IntKind.i64.wrap ka = ka := by rw [IntKind.wrap_i64]; omega
          have hwk2 : wrap64 ka = ka := by unfold wrap64; omega
          clear hv ht hk0 hk1
          go_wp2_with fail
          go_quiet (fail)
          have HL5 := Lib.hid (HL4.out.below (below_drewN w4 nq))
          clear x0 x1 x2 y0 y1 y2 hcell
          generalize w4.drewN nq = w5 at HL5 ⊢
          obtain ⟨x0, x1, x2, y0, y1, y2⟩ := HL5.out.cells
          go_wp2_with fail
          have HL6 := Lib.hid HL5.out.drew
          refine wp_region_held_drew (S := fun X => Lw w X ka na sa kb nb sb) (by kernel_rfl) HL6.out (fun hHeld => ?_)
          refine wpAnyH_take (i := 0) (oi := ?o_101) (v := ?v_101) ?hi_101 ?hs_101 ?hf_101 ?hr_101 ?hQ_101 ?hy_101 ?hS_101 ?rest_101; (case hi_101 => (simp only [List.getElem?_toArray, List.getElem?_cons_zero, List.getElem?_cons_succ]; rfl)); (case hs_101 => kernel_rfl); (case hf_101 => kernel_rfl); (case hr_101 => kernel_rfl); (case hQ_101 => exact fun _ _ _ h => h); (case hS_101 => assumption); (case hy_101 => (refine Or.inl ⟨by rfl, ?_⟩; intro w hSw; obtain ⟨x0, x1, x2, y0, y1, y2⟩ := Lw.cells hSw; go_simp; first | done | with_reducible rfl)); (try simp only [Act.put, List.setIfInBounds_toArray, List.set_cons_zero, List.set_cons_succ])
          refine wpAnyH_take (i := 1) (oi := ?o_102) (v := ?v_102) ?hi_102 ?hs_102 ?hf_102 ?hr_102 ?hQ_102 ?hy_102 ?hS_102 ?rest_102; (case hi_102 => (simp only [List.getElem?_toArray, List.getElem?_cons_zero, List.getElem?_cons_succ]; rfl)); (case hs_102 => kernel_rfl); (case hf_102 => kernel_rfl); (case hr_102 => kernel_rfl); (case hQ_102 => exact fun _ _ _ h => h); (case hS_102 => assumption); (case hy_102 => (refine Or.inl ⟨by rfl, ?_⟩; intro w hSw; obtain ⟨x0, x1, x2, y0, y1, y2⟩ := Lw.cells hSw; go_simp; first | done | with_reducible rfl)); (try simp only [Act.put, List.setIfInBounds_toArray, List.set_cons_zero, List.set_cons_succ])
          refine wpAnyH_take (i := 4) (oi := ?o_103) (v := ?v_103) ?hi_103 ?hs_103 ?hf_103 ?hr_103 ?hQ_103 ?hy_103 ?hS_103 ?rest_103; (case hi_103 => (simp only [List.getElem?_toArray, List.getElem?_cons_zero, List.getElem?_cons_succ]; rfl)); (case hs_103 => kernel_rfl); (case hf_103 => kernel_rfl); (case hr_103 => kernel_rfl); (case hQ_103 => exact fun _ _ _ h => h); (case hS_103 => assumption); (case hy_103 => (refine Or.inl ⟨by rfl, ?_⟩; intro w hSw; obtain ⟨x0, x1, x2, y0, y1, y2⟩ := Lw.cells hSw; go_simp; first | done | with_reducible rfl)); (try simp only [Act.put, List.setIfInBounds_toArray, List.set_cons_zero, List.set_cons_succ])
          refine wpAnyH_take (i := 5) (oi := ?o_104) (v := ?v_104) ?hi_104 ?hs_104 ?hf_104 ?hr_104 ?hQ_104 ?hy_104 ?hS_104 ?rest_104; (case hi_104 => (simp only [List.getElem?_toArray, List.getElem?_cons_zero, List.getElem?_cons_succ]; rfl)); (case hs_104 => kernel_rfl); (case hf_104 => kernel_rfl); (case hr_104 => kernel_rfl); (case hQ_104 => exact fun _ _ _ h => h); (case hS_104 => assumption); (case hy_104 => (refine Or.inl ⟨by rfl, ?_⟩; intro w hSw; obtain ⟨x0, x1, x2, y0, y1, y2⟩ := Lw.cells hSw; go_simp; first | done | with_reducible rfl)); (try simp only [Act.put, List.setIfInBounds_toArray, List.set_cons_zero, List.set_cons_succ])
          refine wpAnyH_take (i := 6) (oi := ?o_105) (v := ?v_105) ?hi_105 ?hs_105 ?hf_105 ?hr_105 ?hQ_105 ?hy_105 ?hS_105 ?rest_105; (case hi_105 => (simp only [List.getElem?_toArray, List.getElem?_cons_zero, List.getElem?_cons_succ]; rfl)); (case hs_105 => kernel_rfl); (case hf_105 => kernel_rfl); (case hr_105 => kernel_rfl); (case hQ_105 => exact fun _ _ _ h => h); (case hS_105 => assumption); (case hy_105 => (refine Or.inl ⟨by rfl, ?_⟩; intro w hSw; obtain ⟨x0, x1, x2, y0, y1, y2⟩ := Lw.cells hSw; go_simp; first | done | with_reducible rfl)); (try simp only [Act.put, List.setIfInBounds_toArray, List.set_cons_zero, List.set_cons_succ])
          refine wpAnyH_take (i := 7) (oi := ?o_106) (v := ?v_106) ?hi_106 ?hs_106 ?hf_106 ?hr_106 ?hQ_106 ?hy_106 ?hS_106 ?rest_106; (case hi_106 => (simp only [List.getElem?_toArray, List.getElem?_cons_zero, List.getElem?_cons_succ]; rfl)); (case hs_106 => kernel_rfl); (case hf_106 => kernel_rfl); (case hr_106 => kernel_rfl); (case hQ_106 => exact fun _ _ _ h => h); (case hS_106 => assumption); (case hy_106 => (refine Or.inl ⟨by rfl, ?_⟩; intro w hSw; obtain ⟨x0, x1, x2, y0, y1, y2⟩ := Lw.cells hSw; go_simp; first | done | with_reducible rfl)); (try simp only [Act.put, List.setIfInBounds_toArray, List.set_cons_zero, List.set_cons_succ])
          refine wpAnyH_take (i := 8) (oi := ?o_107) (v := ?v_107) ?hi_107 ?hs_107 ?hf_107 ?hr_107 ?hQ_107 ?hy_107 ?hS_107 ?rest_107; (case hi_107 => (simp only [List.getElem?_toArray, List.getElem?_cons_zero, List.getElem?_cons_succ]; rfl)); (case hs_107 => kernel_rfl); (case hf_107 => kernel_rfl); (case hr_107 => kernel_rfl); (case hQ_107 => exact fun _ _ _ h => h); (case hS_107 => assumption); (case hy_107 => (refine Or.inl ⟨by rfl, ?_⟩; intro w hSw; obtain ⟨x0, x1, x2, y0, y1, y2⟩ := Lw.cells hSw; go_simp; first | done | with_reducible rfl)); (try simp only [Act.put, List.setIfInBounds_toArray, List.set_cons_zero, List.set_cons_succ])
          refine wpAnyH_ready (rs := [2]) (by kernel_rfl) (by simp) ?_; refine AllReadyH.cons (o := ?o_108) ?hi_108 (fun K hK => ?_) AllReadyH.nil; (case hi_108 => (simp only [List.getElem?_toArray, List.getElem?_cons_zero, List.getElem?_cons_succ]; rfl)); go_simp; (go_at_call 15; ((refine (CO.out _).mono ?_); rintro e w7 ⟨rfl, hb⟩; have HL7 := Lib.hid (HL6.out.below hb); clear hb)); refine hK.out _ _ ?_ (fun hHeld => ?_); (· exact HL7.out); clear hK K; (try simp only [Act.put, List.setIfInBounds_toArray, List.set_cons_zero, List.set_cons_succ])
          refine wpAnyH_take (i := 3) (oi := ?o_109) (v := ?v_109) ?hi_109 ?hs_109 ?hf_109 ?hr_109 ?hQ_109 ?hy_109 ?hS_109 ?rest_109; (case hi_109 => (simp only [List.getElem?_toArray, List.getElem?_cons_zero, List.getElem?_cons_succ]; rfl)); (case hs_109 => kernel_rfl); (case hf_109 => kernel_rfl); (case hr_109 => kernel_rfl); (case hQ_109 => exact fun _ _ _ h => h); (case hS_109 => assumption); (case hy_109 => (refine Or.inl ⟨by rfl, ?_⟩; intro w hSw; obtain ⟨x0, x1, x2, y0, y1, y2⟩ := Lw.cells hSw; go_simp; first | done | with_reducible rfl)); (try simp only [Act.put, List.setIfInBounds_toArray, List.set_cons_zero, List.set_cons_succ])
          refine wpAnyH_take (i := 9) (oi := ?o_110) (v := ?v_110) ?hi_110 ?hs_110 ?hf_110 ?hr_110 ?hQ_110 ?hy_110 ?hS_110 ?rest_110; (case hi_110 => (simp only [List.getElem?_toArray, List.getElem?_cons_zero, List.getElem?_cons_succ]; rfl)); (case hs_110 => kernel_rfl); (case hf_110 => kernel_rfl); (case hr_110 => kernel_rfl); (case hQ_110 => exact fun _ _ _ h => h); (case hS_110 => assumption); (case hy_110 => (refine Or.inl ⟨by rfl, ?_⟩; intro w hSw; obtain ⟨x0, x1, x2, y0, y1, y2⟩ := Lw.cells hSw; go_simp; first | done | with_reducible rfl)); (try simp only [Act.put, List.setIfInBounds_toArray, List.set_cons_zero, List.set_cons_succ])
          refine wpAnyH_take (i := 10) (oi := ?o_111) (v := ?v_111) ?hi_111 ?hs_111 ?hf_111 ?hr_111 ?hQ_111 ?hy_111 ?hS_111 ?rest_111; (case hi_111 => (simp only [List.getElem?_toArray, List.getElem?_cons_zero, List.getElem?_cons_succ]; rfl)); (case hs_111 => kernel_rfl); (case hf_111 => kernel_rfl); (case hr_111 => kernel_rfl); (case hQ_111 => exact fun _ _ _ h => h); (case hS_111 => assumption); (case hy_111 => (refine Or.inl ⟨by rfl, ?_⟩; intro w hSw; obtain ⟨x0, x1, x2, y0, y1, y2⟩ := Lw.cells hSw; go_simp; first | done | with_reducible rfl)); (try simp only [Act.put, List.setIfInBounds_toArray, List.set_cons_zero, List.set_cons_succ])
          refine wpAnyH_take (i := 11) (oi := ?o_112) (v := ?v_112) ?hi_112 ?hs_112 ?hf_112 ?hr_112 ?hQ_112 ?hy_112 ?hS_112 ?rest_112; (case hi_112 => (simp only [List.getElem?_toArray, List.getElem?_cons_zero, List.getElem?_cons_succ]; rfl)); (case hs_112 => kernel_rfl); (case hf_112 => kernel_rfl); (case hr_112 => kernel_rfl); (case hQ_112 => exact fun _ _ _ h => h); (case hS_112 => assumption); (case hy_112 => (refine Or.inl ⟨by rfl, ?_⟩; intro w hSw; obtain ⟨x0, x1, x2, y0, y1, y2⟩ := Lw.cells hSw; go_simp; first | done | with_reducible rfl)); (try simp only [Act.put, List.setIfInBounds_toArray, List.set_cons_zero, List.set_cons_succ])
          refine wpAnyH_take (i := 12) (oi := ?o_113) (v := ?v_113) ?hi_113 ?hs_113 ?hf_113 ?hr_113 ?hQ_113 ?hy_113 ?hS_113 ?rest_113; (case hi_113 => (simp only [List.getElem?_toArray, List.getElem?_cons_zero, List.getElem?_cons_succ]; rfl)); (case hs_113 => kernel_rfl); (case hf_113 => kernel_rfl); (case hr_113 => kernel_rfl); (case hQ_113 => exact fun _ _ _ h => h); (case hS_113 => assumption); (case hy_113 => (refine Or.inl ⟨by rfl, ?_⟩; intro w hSw; obtain ⟨x0, x1, x2, y0, y1, y2⟩ := Lw.cells hSw; go_simp; first | done | with_reducible rfl)); (try simp only [Act.put, List.setIfInBounds_toArray, List.set_cons_zero, List.set_cons_succ])
          refine wpAnyH_ready (rs := [13]) (by kernel_rfl) (by simp) ?_; refine AllReadyH.cons (o := ?o_114) ?hi_114 (fun K hK => ?_) AllReadyH.nil; (case hi_114 => (simp only [List.getElem?_toArray, List.getElem?_cons_zero, List.getElem?_cons_succ]; rfl)); go_simp; (go_at_call 15; ((refine (CO.out _).mono ?_); rintro e w8 ⟨rfl, hb⟩; have HL8 := Lib.hid (HL7.out.below hb); clear hb)); refine hK.out _ _ ?_ (fun hHeld => ?_); (· exact HL8.out); clear hK K; (try simp only [Act.put, List.setIfInBounds_toArray, List.set_cons_zero, List.set_cons_succ])
          refine wpAnyH_take (i := 14) (oi := ?o_115) (v := ?v_115) ?hi_115 ?hs_115 ?hf_115 ?hr_115 ?hQ_115 ?hy_115 ?hS_115 ?rest_115; (case hi_115 => (simp only [List.getElem?_toArray, List.getElem?_cons_zero, List.getElem?_cons_succ]; rfl)); (case hs_115 => kernel_rfl); (case hf_115 => kernel_rfl); (case hr_115 => kernel_rfl); (case hQ_115 => exact fun _ _ _ h => h); (case hS_115 => assumption); (case hy_115 => (refine Or.inl ⟨by rfl, ?_⟩; intro w hSw; obtain ⟨x0, x1, x2, y0, y1, y2⟩ := Lw.cells hSw; go_simp; first | done | with_reducible rfl)); (try simp only [Act.put, List.setIfInBounds_toArray, List.set_cons_zero, List.set_cons_succ])
          refine wpAnyH_take (i := 15) (oi := ?o_116) (v := ?v_116) ?hi_116 ?hs_116 ?hf_116 ?hr_116 ?hQ_116 ?hy_116 ?hS_116 ?rest_116; (case hi_116 => (simp only [List.getElem?_toArray, List.getElem?_cons_zero, List.getElem?_cons_succ]; rfl)); (case hs_116 => kernel_rfl); (case hf_116 => kernel_rfl); (case hr_116 => kernel_rfl); (case hQ_116 => exact fun _ _ _ h => h); (case hS_116 => assumption); (case hy_116 => (refine Or.inl ⟨by rfl, ?_⟩; intro w hSw; obtain ⟨x0, x1, x2, y0, y1, y2⟩ := Lw.cells hSw; go_simp; first | done | with_reducible rfl)); (try simp only [Act.put, List.setIfInBounds_toArray, List.set_cons_zero, List.set_cons_succ])
          refine wpAnyH_take (i := 16) (oi := ?o_117) (v := ?v_117) ?hi_117 ?hs_117 ?hf_117 ?hr_117 ?hQ_117 ?hy_117 ?hS_117 ?rest_117; (case hi_117 => (simp only [List.getElem?_toArray, List.getElem?_cons_zero, List.getElem?_cons_succ]; rfl)); (case hs_117 => kernel_rfl); (case hf_117 => kernel_rfl); (case hr_117 => kernel_rfl); (case hQ_117 => exact fun _ _ _ h => h); (case hS_117 => assumption); (case hy_117 => (refine Or.inl ⟨by rfl, ?_⟩; intro w hSw; obtain ⟨x0, x1, x2, y0, y1, y2⟩ := Lw.cells hSw; go_simp; first | done | with_reducible rfl)); (try simp only [Act.put, List.setIfInBounds_toArray, List.set_cons_zero, List.set_cons_succ])
          refine wpAnyH_done (by kernel_rfl) ?_ _
          go_wp2
          go_ret
          exact ⟨rfl, HL8.out.bel⟩
end Go.Proofs.YtikpmlginojnhaaGreatDoor.Fl

namespace Go.Proofs.YtikpmlginojnhaaGreatDoor.Fl
open Go.RowKit Go.Maps
set_option linter.unusedVariables false
set_option linter.unusedSimpArgs false
/-- Three values in boxes. -/
structure Lw3 (w W : World) (ka na : Int) (sa : ByteArray) (kb nb : Int) (sb : ByteArray) (kc nc : Int) (sc : ByteArray) : Prop where
  l : Lw w W ka na sa kb nb sb
  c : W.heap[w.heap.size + 2]? = some (.cells #[.int .i64 kc, .int .i64 nc, .string sc] 23 (0, 0))
theorem Lw3.below {w W W' : World} {ka na : Int} {sa : ByteArray} {kb nb : Int} {sb : ByteArray} {kc nc : Int} {sc : ByteArray} (h : Lw3 w W ka na sa kb nb sb kc nc sc) (hb : Below W.heap.size W W') : Lw3 w W' ka na sa kb nb sb kc nc sc := ⟨h.l.below hb, box_keep h.c hb⟩
theorem Lw3.start (w : World) (hg : Gv w) (ka na : Int) (sa : ByteArray) (kb nb : Int) (sb : ByteArray) (kc nc : Int) (sc : ByteArray) : Lw3 w (((w.alloc (.cells #[.int .i64 ka, .int .i64 na, .string sa] 23)).alloc (.cells #[.int .i64 kb, .int .i64 nb, .string sb] 23)).alloc (.cells #[.int .i64 kc, .int .i64 nc, .string sc] 23)) ka na sa kb nb sb kc nc sc := by
  refine ⟨(Lw.start w hg ka na sa kb nb sb).below (below_alloc _ _), ?_⟩
  have h := heap_alloc_new ((w.alloc (.cells #[.int .i64 ka, .int .i64 na, .string sa] 23)).alloc (.cells #[.int .i64 kb, .int .i64 nb, .string sb] 23)) (.cells #[.int .i64 kc, .int .i64 nc, .string sc] 23)
  rw [show ((w.alloc (.cells #[.int .i64 ka, .int .i64 na, .string sa] 23)).alloc (.cells #[.int .i64 kb, .int .i64 nb, .string sb] 23)).heap.size = w.heap.size + 2 by simp] at h
  exact h
theorem Lw3.cells {w W : World} {ka na : Int} {sa : ByteArray} {kb nb : Int} {sb : ByteArray} {kc nc : Int} {sc : ByteArray} (h : Lw3 w W ka na sa kb nb sb kc nc sc) : W.cell? ⟨w.heap.size, 0, none⟩ = some (.int .i64 ka) ∧ W.cell? ⟨w.heap.size, 1, none⟩ = some (.int .i64 na) ∧ W.cell? ⟨w.heap.size, 2, none⟩ = some (.string sa) ∧ W.cell? ⟨w.heap.size + 1, 0, none⟩ = some (.int .i64 kb) ∧ W.cell? ⟨w.heap.size + 1, 1, none⟩ = some (.int .i64 nb) ∧ W.cell? ⟨w.heap.size + 1, 2, none⟩ = some (.string sb) ∧ W.cell? ⟨w.heap.size + 2, 0, none⟩ = some (.int .i64 kc) ∧ W.cell? ⟨w.heap.size + 2, 1, none⟩ = some (.int .i64 nc) ∧ W.cell? ⟨w.heap.size + 2, 2, none⟩ = some (.string sc) := by
  obtain ⟨x0, x1, x2, y0, y1, y2⟩ := h.l.cells
  obtain ⟨z0, z1, z2⟩ := cells3 h.c
  exact ⟨x0, x1, x2, y0, y1, y2, z0, z1, z2⟩
theorem Lw3.drew {w W : World} {ka na : Int} {sa : ByteArray} {kb nb : Int} {sb : ByteArray} {kc nc : Int} {sc : ByteArray} (h : Lw3 w W ka na sa kb nb sb kc nc sc) : Lw3 w W.drew ka na sa kb nb sb kc nc sc := h.below (Below.refl _ _).drew
theorem ord_same {ka na : Int} {sa : ByteArray} {kb nb : Int} {sb : ByteArray} (ha : Wf na) (hb : Wf nb) (h1 : rightV ka na sa = true) (h2 : rightV kb nb sb = true) : (ordV ka na sa kb nb sb == 0) = decide (ka = kb ∧ na = nb ∧ sa.toList = sb.toList) := by
  rw [Bool.eq_iff_iff]
  simp only [beq_iff_eq, decide_eq_true_iff]
  constructor
  · intro h
    obtain ⟨e1, e2, e3⟩ := ord_zero ha hb h1 h2 h
    exact ⟨e1, e2, by rw [e3]⟩
  · rintro ⟨rfl, rfl, h⟩
    rw [toList_inj h]
    exact ord_self _ _ _
theorem ite3 {a b c : Prop} [Decidable a] [Decidable b] [Decidable c] {r : Bool} (h : decide (a ∧ b ∧ c) = r) (w : World) : (if a then if b then if c then Result.ok (Next.value (Value.bool true)) w else Result.ok (Next.value (Value.bool false)) w else Result.ok (Next.value (Value.bool false)) w else Result.ok (Next.value (Value.bool false)) w) = Result.ok (Next.value (Value.bool r)) w := by
  subst h
  by_cases ha : a <;> by_cases hb : b <;> by_cases hc : c <;> simp [ha, hb, hc]
theorem w64_small {q : Int} (h : -1 ≤ q ∧ q ≤ 1) : wrap64 (-q) = -q ∧ IntKind.i64.wrap (-q) = -q := by
  constructor
  · unfold wrap64; omega
  · rw [IntKind.wrap_i64]; omega
set_option maxHeartbeats 4000000 in
set_option maxRecDepth 100000 in
theorem valOrder (w : World) (ka na : Int) (sa : ByteArray) (kb nb : Int) (sb : ByteArray) (kc nc : Int) (sc : ByteArray) (hna : Wf na) (hnb : Wf nb) (hsa : sa.size ≤ 140737488351232) (hsb : sb.size ≤ 140737488351232) (hg : Gv w) :
    Calls Tryz.prog 7 #[vv ka na sa, vv kb nb sb, vv kc nc sc] w fun e w' => e = .returned (.bool true) ∧ Below w.heap.size w w' := by
  have HL := Lib.hid (Lw3.start w hg ka na sa kb nb sb kc nc sc)
  obtain ⟨la, hla⟩ : ∃ la, decide (500 < (sa.size : Int)) = la := ⟨_, rfl⟩
  obtain ⟨lb, hlb⟩ : ∃ lb, decide (500 < (sb.size : Int)) = lb := ⟨_, rfl⟩
  obtain ⟨lc, hlc⟩ : ∃ lc, decide (500 < (sc.size : Int)) = lc := ⟨_, rfl⟩
  have CA := Lib.hid (fun W => c_vlong ka na sa la hla W)
  have CB := Lib.hid (fun W => c_vlong kb nb sb lb hlb W)
  have CC := Lib.hid (fun W => c_vlong kc nc sc lc hlc W)
  have CAB := Lib.hid (fun W => c_vorder ka na sa kb nb sb W)
  have CBA := Lib.hid (fun W => c_vorder kb nb sb ka na sa W)
  have CAA := Lib.hid (fun W => c_vorder ka na sa ka na sa W)
  have CBC := Lib.hid (fun W => c_vorder kb nb sb kc nc sc W)
  have CAC := Lib.hid (fun W => c_vorder ka na sa kc nc sc W)
  have HT := Lib.hid (show ordV ka na sa kb nb sb ≤ 0 → ordV kb nb sb kc nc sc ≤ 0 → ordV ka na sa kc nc sc ≤ 0 from fun h1 h2 => ord_trans h1 h2)
  have HS := Lib.hid (fun h1 h2 => ord_same (ka := ka) (sa := sa) (kb := kb) (sb := sb) hna hnb h1 h2)
  have hbd := ord_bd kb nb sb ka na sa
  rw [ord_self] at CAA
  rw [ord_anti ka na sa kb nb sb] at CAB HT HS
  generalize ordV kb nb sb ka na sa = q at CAB CBA HT HS hbd
  generalize ordV kb nb sb kc nc sc = p at CBC HT
  generalize ordV ka na sa kc nc sc = r at CAC HT
  obtain ⟨m1a, m2a⟩ := w64_small hbd
  obtain ⟨q1, hq1⟩ : ∃ q1, -q = q1 := ⟨_, rfl⟩
  rw [hq1] at CAB HT HS
  have m1 : wrap64 (-q) = q1 := by rw [m1a, hq1]
  have m2 : IntKind.i64.wrap (-q) = q1 := by rw [m2a, hq1]
  clear hq1 m1a m2a
  obtain ⟨ra, hra⟩ : ∃ r, rightV ka na sa = r := ⟨_, rfl⟩
  obtain ⟨rb, hrb⟩ : ∃ r, rightV kb nb sb = r := ⟨_, rfl⟩
  have RA := Lib.hid (fun W hg => c_vright ka na sa hna (by omega) ra hra W hg)
  have RB := Lib.hid (fun W hg => c_vright kb nb sb hnb (by omega) rb hrb W hg)
  rw [hra, hrb] at HS
  simp only [vv] at CA CB CC CAB CBA CAA CBC CAC RA RB ⊢
  clear hg hna hnb hsa hsb hla hlb hlc hra hrb hbd
  go_enter Tryz.func7, Tryz.ntmps7
  go_wp2_with fail
  refine (c_valive _ HL.out.l.gv).mono ?_
  rintro e w1 ⟨rfl, hb⟩
  have HL1 := Lib.hid (HL.out.below hb)
  clear hb HL
  obtain ⟨x0, x1, x2, y0, y1, y2, z0, z1, z2⟩ := HL1.out.cells
  go_wp2_with fail
  refine (CA.out _).mono ?_
  rintro e w2 ⟨rfl, hb⟩
  have HL2 := Lib.hid (HL1.out.below hb)
  clear hb HL1 x0 x1 x2 y0 y1 y2 z0 z1 z2
  cases la with
  | true =>
    go_wp2
    go_ret
    exact ⟨rfl, HL2.out.l.bel⟩
  | false =>
    obtain ⟨x0, x1, x2, y0, y1, y2, z0, z1, z2⟩ := HL2.out.cells
    go_wp2_with fail
    refine (CB.out _).mono ?_
    rintro e w3 ⟨rfl, hb⟩
    have HL3 := Lib.hid (HL2.out.below hb)
    clear hb HL2 x0 x1 x2 y0 y1 y2 z0 z1 z2
    cases lb with
    | true =>
      go_wp2
      go_ret
      exact ⟨rfl, HL3.out.l.bel⟩
    | false =>
      obtain ⟨x0, x1, x2, y0, y1, y2, z0, z1, z2⟩ := HL3.out.cells
      go_wp2_with fail
      refine (CC.out _).mono ?_
      rintro e w4 ⟨rfl, hb⟩
      have HL4 := Lib.hid (HL3.out.below hb)
      clear hb HL3 x0 x1 x2 y0 y1 y2 z0 z1 z2
      cases lc with
      | true =>
        go_wp2
        go_ret
        exact ⟨rfl, HL4.out.l.bel⟩
      | false =>
        obtain ⟨x0, x1, x2, y0, y1, y2, z0, z1, z2⟩ := HL4.out.cells
        go_wp2_with fail
        have HA0 := Lib.hid HL4.out.drew
        refine wp_region_held_drew (S := fun X => Lw3 w X ka na sa kb nb sb kc nc sc) (by kernel_rfl) HA0.out (fun hHeld => ?_)
        refine wpAnyH_take (i := 0) (oi := ?o_1) (v := ?v_1) ?hi_1 ?hs_1 ?hf_1 ?hr_1 ?hQ_1 ?hy_1 ?hS_1 ?rest_1; (case hi_1 => (simp only [List.getElem?_toArray, List.getElem?_cons_zero, List.getElem?_cons_succ]; rfl)); (case hs_1 => kernel_rfl); (case hf_1 => kernel_rfl); (case hr_1 => kernel_rfl); (case hQ_1 => exact fun _ _ _ h => h); (case hS_1 => assumption); (case hy_1 => (refine Or.inl ⟨by rfl, ?_⟩; intro w hSw; obtain ⟨x0, x1, x2, y0, y1, y2, z0, z1, z2⟩ := Lw3.cells hSw; go_simp; first | done | with_reducible rfl)); (try simp only [Act.put, List.setIfInBounds_toArray, List.set_cons_zero, List.set_cons_succ])
        refine wpAnyH_take (i := 1) (oi := ?o_2) (v := ?v_2) ?hi_2 ?hs_2 ?hf_2 ?hr_2 ?hQ_2 ?hy_2 ?hS_2 ?rest_2; (case hi_2 => (simp only [List.getElem?_toArray, List.getElem?_cons_zero, List.getElem?_cons_succ]; rfl)); (case hs_2 => kernel_rfl); (case hf_2 => kernel_rfl); (case hr_2 => kernel_rfl); (case hQ_2 => exact fun _ _ _ h => h); (case hS_2 => assumption); (case hy_2 => (refine Or.inl ⟨by rfl, ?_⟩; intro w hSw; obtain ⟨x0, x1, x2, y0, y1, y2, z0, z1, z2⟩ := Lw3.cells hSw; go_simp; first | done | with_reducible rfl)); (try simp only [Act.put, List.setIfInBounds_toArray, List.set_cons_zero, List.set_cons_succ])
        refine wpAnyH_take (i := 3) (oi := ?o_3) (v := ?v_3) ?hi_3 ?hs_3 ?hf_3 ?hr_3 ?hQ_3 ?hy_3 ?hS_3 ?rest_3; (case hi_3 => (simp only [List.getElem?_toArray, List.getElem?_cons_zero, List.getElem?_cons_succ]; rfl)); (case hs_3 => kernel_rfl); (case hf_3 => kernel_rfl); (case hr_3 => kernel_rfl); (case hQ_3 => exact fun _ _ _ h => h); (case hS_3 => assumption); (case hy_3 => (refine Or.inl ⟨by rfl, ?_⟩; intro w hSw; obtain ⟨x0, x1, x2, y0, y1, y2, z0, z1, z2⟩ := Lw3.cells hSw; go_simp; first | done | with_reducible rfl)); (try simp only [Act.put, List.setIfInBounds_toArray, List.set_cons_zero, List.set_cons_succ])
        refine wpAnyH_take (i := 4) (oi := ?o_4) (v := ?v_4) ?hi_4 ?hs_4 ?hf_4 ?hr_4 ?hQ_4 ?hy_4 ?hS_4 ?rest_4; (case hi_4 => (simp only [List.getElem?_toArray, List.getElem?_cons_zero, List.getElem?_cons_succ]; rfl)); (case hs_4 => kernel_rfl); (case hf_4 => kernel_rfl); (case hr_4 => kernel_rfl); (case hQ_4 => exact fun _ _ _ h => h); (case hS_4 => assumption); (case hy_4 => (refine Or.inl ⟨by rfl, ?_⟩; intro w hSw; obtain ⟨x0, x1, x2, y0, y1, y2, z0, z1, z2⟩ := Lw3.cells hSw; go_simp; first | done | with_reducible rfl)); (try simp only [Act.put, List.setIfInBounds_toArray, List.set_cons_zero, List.set_cons_succ])
        refine wpAnyH_ready (rs := [2]) (by kernel_rfl) (by simp) ?_; refine AllReadyH.cons (o := ?o_5) ?hi_5 (fun K hK => ?_) AllReadyH.nil; (case hi_5 => (simp only [List.getElem?_toArray, List.getElem?_cons_zero, List.getElem?_cons_succ]; rfl)); go_simp; (go_at_call 15; ((refine (CAB.out _).mono ?_); rintro e w_A1 ⟨rfl, hb⟩; have HA1 := Lib.hid (HA0.out.below hb); clear hb)); refine hK.out _ _ ?_ (fun hHeld => ?_); (· exact HA1.out); clear hK K; (try simp only [Act.put, List.setIfInBounds_toArray, List.set_cons_zero, List.set_cons_succ])
        refine wpAnyH_ready (rs := [5]) (by kernel_rfl) (by simp) ?_; refine AllReadyH.cons (o := ?o_6) ?hi_6 (fun K hK => ?_) AllReadyH.nil; (case hi_6 => (simp only [List.getElem?_toArray, List.getElem?_cons_zero, List.getElem?_cons_succ]; rfl)); go_simp; (go_at_call 15; ((refine (CBA.out _).mono ?_); rintro e w_A2 ⟨rfl, hb⟩; have HA2 := Lib.hid (HA1.out.below hb); clear hb)); refine hK.out _ _ ?_ (fun hHeld => ?_); (· exact HA2.out); clear hK K; (try simp only [Act.put, List.setIfInBounds_toArray, List.set_cons_zero, List.set_cons_succ])
        refine wpAnyH_take (i := 6) (oi := ?o_7) (v := ?v_7) ?hi_7 ?hs_7 ?hf_7 ?hr_7 ?hQ_7 ?hy_7 ?hS_7 ?rest_7; (case hi_7 => (simp only [List.getElem?_toArray, List.getElem?_cons_zero, List.getElem?_cons_succ]; rfl)); (case hs_7 => kernel_rfl); (case hf_7 => kernel_rfl); (case hr_7 => kernel_rfl); (case hQ_7 => exact fun _ _ _ h => h); (case hS_7 => assumption); (case hy_7 => (refine Or.inl ⟨by rfl, ?_⟩; intro w hSw; obtain ⟨x0, x1, x2, y0, y1, y2, z0, z1, z2⟩ := Lw3.cells hSw; go_simp; first | done | with_reducible rfl)); (try simp only [Act.put, List.setIfInBounds_toArray, List.set_cons_zero, List.set_cons_succ])
        refine wpAnyH_take (i := 7) (oi := ?o_8) (v := ?v_8) ?hi_8 ?hs_8 ?hf_8 ?hr_8 ?hQ_8 ?hy_8 ?hS_8 ?rest_8; (case hi_8 => (simp only [List.getElem?_toArray, List.getElem?_cons_zero, List.getElem?_cons_succ]; rfl)); (case hs_8 => kernel_rfl); (case hf_8 => kernel_rfl); (case hr_8 => kernel_rfl); (case hQ_8 => exact fun _ _ _ h => h); (case hS_8 => assumption); (case hy_8 => (refine Or.inl ⟨by rfl, ?_⟩; intro w hSw; obtain ⟨x0, x1, x2, y0, y1, y2, z0, z1, z2⟩ := Lw3.cells hSw; go_simp; first | done | with_reducible rfl)); (try simp only [Act.put, List.setIfInBounds_toArray, List.set_cons_zero, List.set_cons_succ])
        refine wpAnyH_take (i := 8) (oi := ?o_9) (v := ?v_9) ?hi_9 ?hs_9 ?hf_9 ?hr_9 ?hQ_9 ?hy_9 ?hS_9 ?rest_9; (case hi_9 => (simp only [List.getElem?_toArray, List.getElem?_cons_zero, List.getElem?_cons_succ]; rfl)); (case hs_9 => kernel_rfl); (case hf_9 => kernel_rfl); (case hr_9 => kernel_rfl); (case hQ_9 => exact fun _ _ _ h => h); (case hS_9 => assumption); (case hy_9 => (refine Or.inl ⟨by rfl, ?_⟩; intro w hSw; obtain ⟨x0, x1, x2, y0, y1, y2, z0, z1, z2⟩ := Lw3.cells hSw; go_simp; first | done | with_reducible rfl)); (try simp only [Act.put, List.setIfInBounds_toArray, List.set_cons_zero, List.set_cons_succ])
        refine wpAnyH_take (i := 9) (oi := ?o_10) (v := ?v_10) ?hi_10 ?hs_10 ?hf_10 ?hr_10 ?hQ_10 ?hy_10 ?hS_10 ?rest_10; (case hi_10 => (simp only [List.getElem?_toArray, List.getElem?_cons_zero, List.getElem?_cons_succ]; rfl)); (case hs_10 => kernel_rfl); (case hf_10 => kernel_rfl); (case hr_10 => kernel_rfl); (case hQ_10 => exact fun _ _ _ h => h); (case hS_10 => assumption); (case hy_10 => (refine Or.inl ⟨by rfl, ?_⟩; intro w hSw; obtain ⟨x0, x1, x2, y0, y1, y2, z0, z1, z2⟩ := Lw3.cells hSw; go_simp; first | done | with_reducible rfl)); (try simp only [Act.put, List.setIfInBounds_toArray, List.set_cons_zero, List.set_cons_succ])
        refine wpAnyH_take (i := 10) (oi := ?o_11) (v := ?v_11) ?hi_11 ?hs_11 ?hf_11 ?hr_11 ?hQ_11 ?hy_11 ?hS_11 ?rest_11; (case hi_11 => (simp only [List.getElem?_toArray, List.getElem?_cons_zero, List.getElem?_cons_succ]; rfl)); (case hs_11 => kernel_rfl); (case hf_11 => kernel_rfl); (case hr_11 => kernel_rfl); (case hQ_11 => exact fun _ _ _ h => h); (case hS_11 => assumption); (case hy_11 => (refine Or.inl ⟨by rfl, ?_⟩; intro w hSw; obtain ⟨x0, x1, x2, y0, y1, y2, z0, z1, z2⟩ := Lw3.cells hSw; go_simp; first | done | with_reducible rfl)); (try simp only [Act.put, List.setIfInBounds_toArray, List.set_cons_zero, List.set_cons_succ])
        refine wpAnyH_ready (rs := [11]) (by kernel_rfl) (by simp) ?_; refine AllReadyH.cons (o := ?o_12) ?hi_12 (fun K hK => ?_) AllReadyH.nil; (case hi_12 => (simp only [List.getElem?_toArray, List.getElem?_cons_zero, List.getElem?_cons_succ]; rfl)); go_simp; (go_at_call 15; ((refine (CAA.out _).mono ?_); rintro e w_A3 ⟨rfl, hb⟩; have HA3 := Lib.hid (HA2.out.below hb); clear hb)); refine hK.out _ _ ?_ (fun hHeld => ?_); (· exact HA3.out); clear hK K; (try simp only [Act.put, List.setIfInBounds_toArray, List.set_cons_zero, List.set_cons_succ])
        refine wpAnyH_take (i := 12) (oi := ?o_13) (v := ?v_13) ?hi_13 ?hs_13 ?hf_13 ?hr_13 ?hQ_13 ?hy_13 ?hS_13 ?rest_13; (case hi_13 => (simp only [List.getElem?_toArray, List.getElem?_cons_zero, List.getElem?_cons_succ]; rfl)); (case hs_13 => kernel_rfl); (case hf_13 => kernel_rfl); (case hr_13 => kernel_rfl); (case hQ_13 => exact fun _ _ _ h => h); (case hS_13 => assumption); (case hy_13 => (refine Or.inl ⟨by rfl, ?_⟩; intro w hSw; obtain ⟨x0, x1, x2, y0, y1, y2, z0, z1, z2⟩ := Lw3.cells hSw; go_simp; first | done | with_reducible rfl)); (try simp only [Act.put, List.setIfInBounds_toArray, List.set_cons_zero, List.set_cons_succ])
        refine wpAnyH_take (i := 13) (oi := ?o_14) (v := ?v_14) ?hi_14 ?hs_14 ?hf_14 ?hr_14 ?hQ_14 ?hy_14 ?hS_14 ?rest_14; (case hi_14 => (simp only [List.getElem?_toArray, List.getElem?_cons_zero, List.getElem?_cons_succ]; rfl)); (case hs_14 => kernel_rfl); (case hf_14 => kernel_rfl); (case hr_14 => kernel_rfl); (case hQ_14 => exact fun _ _ _ h => h); (case hS_14 => assumption); (case hy_14 => (refine Or.inl ⟨by rfl, ?_⟩; intro w hSw; obtain ⟨x0, x1, x2, y0, y1, y2, z0, z1, z2⟩ := Lw3.cells hSw; go_simp; first | done | with_reducible rfl)); (try simp only [Act.put, List.setIfInBounds_toArray, List.set_cons_zero, List.set_cons_succ])
        refine wpAnyH_done (by kernel_rfl) ?_ _
        clear HA0 HA1 HA2 CBA CAA m1 m2 HL4 x0 x1 x2 y0 y1 y2 z0 z1 z2
        have HL9 := HA3
        clear HA3
        have hpost := HT.out
        clear HT
        by_cases c1 : q1 ≤ 0
        · have t1 : decide (q1 ≤ 0) = true := decide_eq_true c1
          obtain ⟨x0, x1, x2, y0, y1, y2, z0, z1, z2⟩ := HL9.out.cells
          go_wp2_with fail
          refine (CAB.out _).mono ?_
          rintro e w10 ⟨rfl, hb⟩
          have HL10 := Lib.hid (HL9.out.below hb)
          clear hb HL9 x0 x1 x2 y0 y1 y2 z0 z1 z2
          by_cases c2 : p ≤ 0
          · have t2 : decide (p ≤ 0) = true := decide_eq_true c2
            have t3 : decide (0 < r) = false := decide_eq_false (by have := hpost c1 c2; omega)
            clear c1 c2 hpost
            obtain ⟨x0, x1, x2, y0, y1, y2, z0, z1, z2⟩ := HL10.out.cells
            go_wp2_with fail
            refine (CBC.out _).mono ?_
            rintro e w11 ⟨rfl, hb⟩
            have HL11 := Lib.hid (HL10.out.below hb)
            clear hb HL10 x0 x1 x2 y0 y1 y2 z0 z1 z2
            obtain ⟨x0, x1, x2, y0, y1, y2, z0, z1, z2⟩ := HL11.out.cells
            go_wp2_with fail
            refine (CAC.out _).mono ?_
            rintro e w12 ⟨rfl, hb⟩
            have HL12 := Lib.hid (HL11.out.below hb)
            clear hb HL11 x0 x1 x2 y0 y1 y2 z0 z1 z2
            obtain ⟨x0, x1, x2, y0, y1, y2, z0, z1, z2⟩ := HL12.out.cells
            go_wp2_with fail
            have HB0 := Lib.hid HL12.out.drew
            cases ra with
            | false =>
              refine wp_region_held_drew (S := fun X => Lw3 w X ka na sa kb nb sb kc nc sc) (by kernel_rfl) HB0.out (fun hHeld => ?_)
              refine wpAnyH_take (i := 0) (oi := ?o_1001) (v := ?v_1001) ?hi_1001 ?hs_1001 ?hf_1001 ?hr_1001 ?hQ_1001 ?hy_1001 ?hS_1001 ?rest_1001; (case hi_1001 => (simp only [List.getElem?_toArray, List.getElem?_cons_zero, List.getElem?_cons_succ]; rfl)); (case hs_1001 => kernel_rfl); (case hf_1001 => kernel_rfl); (case hr_1001 => kernel_rfl); (case hQ_1001 => exact fun _ _ _ h => h); (case hS_1001 => assumption); (case hy_1001 => (refine Or.inl ⟨by rfl, ?_⟩; intro w hSw; obtain ⟨x0, x1, x2, y0, y1, y2, z0, z1, z2⟩ := Lw3.cells hSw; go_simp; first | done | with_reducible rfl)); (try simp only [Act.put, List.setIfInBounds_toArray, List.set_cons_zero, List.set_cons_succ])
              refine wpAnyH_ready (rs := [1]) (by kernel_rfl) (by simp) ?_; refine AllReadyH.cons (o := ?o_1002) ?hi_1002 (fun K hK => ?_) AllReadyH.nil; (case hi_1002 => (simp only [List.getElem?_toArray, List.getElem?_cons_zero, List.getElem?_cons_succ]; rfl)); go_simp; (go_at_call 13; ((refine (RA.out _ HB0.out.l.gv).mono ?_); rintro e w_B1 ⟨rfl, hb⟩; have HB1 := Lib.hid (HB0.out.below hb); clear hb)); refine hK.out _ _ ?_ (fun hHeld => ?_); (· exact HB1.out); clear hK K; (try simp only [Act.put, List.setIfInBounds_toArray, List.set_cons_zero, List.set_cons_succ])
              refine wpAnyH_take (i := 2) (oi := ?o_1003) (v := ?v_1003) ?hi_1003 ?hs_1003 ?hf_1003 ?hr_1003 ?hQ_1003 ?hy_1003 ?hS_1003 ?rest_1003; (case hi_1003 => (simp only [List.getElem?_toArray, List.getElem?_cons_zero, List.getElem?_cons_succ]; rfl)); (case hs_1003 => kernel_rfl); (case hf_1003 => kernel_rfl); (case hr_1003 => kernel_rfl); (case hQ_1003 => exact fun _ _ _ h => h); (case hS_1003 => assumption); (case hy_1003 => (refine Or.inl ⟨by rfl, ?_⟩; intro w hSw; obtain ⟨x0, x1, x2, y0, y1, y2, z0, z1, z2⟩ := Lw3.cells hSw; go_simp; first | done | with_reducible rfl)); (try simp only [Act.put, List.setIfInBounds_toArray, List.set_cons_zero, List.set_cons_succ])
              refine wpAnyH_take (i := 3) (oi := ?o_1004) (v := ?v_1004) ?hi_1004 ?hs_1004 ?hf_1004 ?hr_1004 ?hQ_1004 ?hy_1004 ?hS_1004 ?rest_1004; (case hi_1004 => (simp only [List.getElem?_toArray, List.getElem?_cons_zero, List.getElem?_cons_succ]; rfl)); (case hs_1004 => kernel_rfl); (case hf_1004 => kernel_rfl); (case hr_1004 => kernel_rfl); (case hQ_1004 => exact fun _ _ _ h => h); (case hS_1004 => assumption); (case hy_1004 => (refine Or.inl ⟨by rfl, ?_⟩; intro w hSw; obtain ⟨x0, x1, x2, y0, y1, y2, z0, z1, z2⟩ := Lw3.cells hSw; go_simp; first | done | with_reducible rfl)); (try simp only [Act.put, List.setIfInBounds_toArray, List.set_cons_zero, List.set_cons_succ])
              refine wpAnyH_take (i := 4) (oi := ?o_1005) (v := undef) ?hi_1005 ?hs_1005 ?hf_1005 ?hr_1005 ?hQ_1005 ?hy_1005 ?hS_1005 ?rest_1005; (case hi_1005 => (simp only [List.getElem?_toArray, List.getElem?_cons_zero, List.getElem?_cons_succ]; rfl)); (case hs_1005 => kernel_rfl); (case hf_1005 => kernel_rfl); (case hr_1005 => kernel_rfl); (case hQ_1005 => exact fun _ _ _ h => h); (case hS_1005 => assumption); (case hy_1005 => exact Or.inr ⟨by rfl, rfl⟩); (try simp only [Act.put, List.setIfInBounds_toArray, List.set_cons_zero, List.set_cons_succ])
              refine wpAnyH_take (i := 5) (oi := ?o_1006) (v := undef) ?hi_1006 ?hs_1006 ?hf_1006 ?hr_1006 ?hQ_1006 ?hy_1006 ?hS_1006 ?rest_1006; (case hi_1006 => (simp only [List.getElem?_toArray, List.getElem?_cons_zero, List.getElem?_cons_succ]; rfl)); (case hs_1006 => kernel_rfl); (case hf_1006 => kernel_rfl); (case hr_1006 => kernel_rfl); (case hQ_1006 => exact fun _ _ _ h => h); (case hS_1006 => assumption); (case hy_1006 => exact Or.inr ⟨by rfl, rfl⟩); (try simp only [Act.put, List.setIfInBounds_toArray, List.set_cons_zero, List.set_cons_succ])
              refine wpAnyH_take (i := 6) (oi := ?o_1007) (v := undef) ?hi_1007 ?hs_1007 ?hf_1007 ?hr_1007 ?hQ_1007 ?hy_1007 ?hS_1007 ?rest_1007; (case hi_1007 => (simp only [List.getElem?_toArray, List.getElem?_cons_zero, List.getElem?_cons_succ]; rfl)); (case hs_1007 => kernel_rfl); (case hf_1007 => kernel_rfl); (case hr_1007 => kernel_rfl); (case hQ_1007 => exact fun _ _ _ h => h); (case hS_1007 => assumption); (case hy_1007 => exact Or.inr ⟨by rfl, rfl⟩); (try simp only [Act.put, List.setIfInBounds_toArray, List.set_cons_zero, List.set_cons_succ])
              refine wpAnyH_take (i := 7) (oi := ?o_1008) (v := ?v_1008) ?hi_1008 ?hs_1008 ?hf_1008 ?hr_1008 ?hQ_1008 ?hy_1008 ?hS_1008 ?rest_1008; (case hi_1008 => (simp only [List.getElem?_toArray, List.getElem?_cons_zero, List.getElem?_cons_succ]; rfl)); (case hs_1008 => kernel_rfl); (case hf_1008 => kernel_rfl); (case hr_1008 => kernel_rfl); (case hQ_1008 => exact fun _ _ _ h => h); (case hS_1008 => assumption); (case hy_1008 => (refine Or.inl ⟨by rfl, ?_⟩; intro w hSw; obtain ⟨x0, x1, x2, y0, y1, y2, z0, z1, z2⟩ := Lw3.cells hSw; go_simp; first | done | with_reducible rfl)); (try simp only [Act.put, List.setIfInBounds_toArray, List.set_cons_zero, List.set_cons_succ])
              refine wpAnyH_take (i := 8) (oi := ?o_1009) (v := ?v_1009) ?hi_1009 ?hs_1009 ?hf_1009 ?hr_1009 ?hQ_1009 ?hy_1009 ?hS_1009 ?rest_1009; (case hi_1009 => (simp only [List.getElem?_toArray, List.getElem?_cons_zero, List.getElem?_cons_succ]; rfl)); (case hs_1009 => kernel_rfl); (case hf_1009 => kernel_rfl); (case hr_1009 => kernel_rfl); (case hQ_1009 => exact fun _ _ _ h => h); (case hS_1009 => assumption); (case hy_1009 => (refine Or.inl ⟨by rfl, ?_⟩; intro w hSw; obtain ⟨x0, x1, x2, y0, y1, y2, z0, z1, z2⟩ := Lw3.cells hSw; go_simp; first | done | with_reducible rfl)); (try simp only [Act.put, List.setIfInBounds_toArray, List.set_cons_zero, List.set_cons_succ])
              refine wpAnyH_take (i := 9) (oi := ?o_1010) (v := undef) ?hi_1010 ?hs_1010 ?hf_1010 ?hr_1010 ?hQ_1010 ?hy_1010 ?hS_1010 ?rest_1010; (case hi_1010 => (simp only [List.getElem?_toArray, List.getElem?_cons_zero, List.getElem?_cons_succ]; rfl)); (case hs_1010 => kernel_rfl); (case hf_1010 => kernel_rfl); (case hr_1010 => kernel_rfl); (case hQ_1010 => exact fun _ _ _ h => h); (case hS_1010 => assumption); (case hy_1010 => exact Or.inr ⟨by rfl, rfl⟩); (try simp only [Act.put, List.setIfInBounds_toArray, List.set_cons_zero, List.set_cons_succ])
              refine wpAnyH_take (i := 10) (oi := ?o_1011) (v := undef) ?hi_1011 ?hs_1011 ?hf_1011 ?hr_1011 ?hQ_1011 ?hy_1011 ?hS_1011 ?rest_1011; (case hi_1011 => (simp only [List.getElem?_toArray, List.getElem?_cons_zero, List.getElem?_cons_succ]; rfl)); (case hs_1011 => kernel_rfl); (case hf_1011 => kernel_rfl); (case hr_1011 => kernel_rfl); (case hQ_1011 => exact fun _ _ _ h => h); (case hS_1011 => assumption); (case hy_1011 => exact Or.inr ⟨by rfl, rfl⟩); (try simp only [Act.put, List.setIfInBounds_toArray, List.set_cons_zero, List.set_cons_succ])
              refine wpAnyH_take (i := 11) (oi := ?o_1012) (v := undef) ?hi_1012 ?hs_1012 ?hf_1012 ?hr_1012 ?hQ_1012 ?hy_1012 ?hS_1012 ?rest_1012; (case hi_1012 => (simp only [List.getElem?_toArray, List.getElem?_cons_zero, List.getElem?_cons_succ]; rfl)); (case hs_1012 => kernel_rfl); (case hf_1012 => kernel_rfl); (case hr_1012 => kernel_rfl); (case hQ_1012 => exact fun _ _ _ h => h); (case hS_1012 => assumption); (case hy_1012 => exact Or.inr ⟨by rfl, rfl⟩); (try simp only [Act.put, List.setIfInBounds_toArray, List.set_cons_zero, List.set_cons_succ])
              refine wpAnyH_take (i := 12) (oi := ?o_1013) (v := undef) ?hi_1013 ?hs_1013 ?hf_1013 ?hr_1013 ?hQ_1013 ?hy_1013 ?hS_1013 ?rest_1013; (case hi_1013 => (simp only [List.getElem?_toArray, List.getElem?_cons_zero, List.getElem?_cons_succ]; rfl)); (case hs_1013 => kernel_rfl); (case hf_1013 => kernel_rfl); (case hr_1013 => kernel_rfl); (case hQ_1013 => exact fun _ _ _ h => h); (case hS_1013 => assumption); (case hy_1013 => exact Or.inr ⟨by rfl, rfl⟩); (try simp only [Act.put, List.setIfInBounds_toArray, List.set_cons_zero, List.set_cons_succ])
              refine wpAnyH_take (i := 13) (oi := ?o_1014) (v := undef) ?hi_1014 ?hs_1014 ?hf_1014 ?hr_1014 ?hQ_1014 ?hy_1014 ?hS_1014 ?rest_1014; (case hi_1014 => (simp only [List.getElem?_toArray, List.getElem?_cons_zero, List.getElem?_cons_succ]; rfl)); (case hs_1014 => kernel_rfl); (case hf_1014 => kernel_rfl); (case hr_1014 => kernel_rfl); (case hQ_1014 => exact fun _ _ _ h => h); (case hS_1014 => assumption); (case hy_1014 => exact Or.inr ⟨by rfl, rfl⟩); (try simp only [Act.put, List.setIfInBounds_toArray, List.set_cons_zero, List.set_cons_succ])
              refine wpAnyH_take (i := 14) (oi := ?o_1015) (v := undef) ?hi_1015 ?hs_1015 ?hf_1015 ?hr_1015 ?hQ_1015 ?hy_1015 ?hS_1015 ?rest_1015; (case hi_1015 => (simp only [List.getElem?_toArray, List.getElem?_cons_zero, List.getElem?_cons_succ]; rfl)); (case hs_1015 => kernel_rfl); (case hf_1015 => kernel_rfl); (case hr_1015 => kernel_rfl); (case hQ_1015 => exact fun _ _ _ h => h); (case hS_1015 => assumption); (case hy_1015 => exact Or.inr ⟨by rfl, rfl⟩); (try simp only [Act.put, List.setIfInBounds_toArray, List.set_cons_zero, List.set_cons_succ])
              refine wpAnyH_take (i := 15) (oi := ?o_1016) (v := undef) ?hi_1016 ?hs_1016 ?hf_1016 ?hr_1016 ?hQ_1016 ?hy_1016 ?hS_1016 ?rest_1016; (case hi_1016 => (simp only [List.getElem?_toArray, List.getElem?_cons_zero, List.getElem?_cons_succ]; rfl)); (case hs_1016 => kernel_rfl); (case hf_1016 => kernel_rfl); (case hr_1016 => kernel_rfl); (case hQ_1016 => exact fun _ _ _ h => h); (case hS_1016 => assumption); (case hy_1016 => exact Or.inr ⟨by rfl, rfl⟩); (try simp only [Act.put, List.setIfInBounds_toArray, List.set_cons_zero, List.set_cons_succ])
              refine wpAnyH_take (i := 16) (oi := ?o_1017) (v := undef) ?hi_1017 ?hs_1017 ?hf_1017 ?hr_1017 ?hQ_1017 ?hy_1017 ?hS_1017 ?rest_1017; (case hi_1017 => (simp only [List.getElem?_toArray, List.getElem?_cons_zero, List.getElem?_cons_succ]; rfl)); (case hs_1017 => kernel_rfl); (case hf_1017 => kernel_rfl); (case hr_1017 => kernel_rfl); (case hQ_1017 => exact fun _ _ _ h => h); (case hS_1017 => assumption); (case hy_1017 => exact Or.inr ⟨by rfl, rfl⟩); (try simp only [Act.put, List.setIfInBounds_toArray, List.set_cons_zero, List.set_cons_succ])
              refine wpAnyH_take (i := 17) (oi := ?o_1018) (v := ?v_1018) ?hi_1018 ?hs_1018 ?hf_1018 ?hr_1018 ?hQ_1018 ?hy_1018 ?hS_1018 ?rest_1018; (case hi_1018 => (simp only [List.getElem?_toArray, List.getElem?_cons_zero, List.getElem?_cons_succ]; rfl)); (case hs_1018 => kernel_rfl); (case hf_1018 => kernel_rfl); (case hr_1018 => kernel_rfl); (case hQ_1018 => exact fun _ _ _ h => h); (case hS_1018 => assumption); (case hy_1018 => (refine Or.inl ⟨by rfl, ?_⟩; intro w hSw; obtain ⟨x0, x1, x2, y0, y1, y2, z0, z1, z2⟩ := Lw3.cells hSw; go_simp; first | done | with_reducible rfl)); (try simp only [Act.put, List.setIfInBounds_toArray, List.set_cons_zero, List.set_cons_succ])
              refine wpAnyH_take (i := 18) (oi := ?o_1019) (v := ?v_1019) ?hi_1019 ?hs_1019 ?hf_1019 ?hr_1019 ?hQ_1019 ?hy_1019 ?hS_1019 ?rest_1019; (case hi_1019 => (simp only [List.getElem?_toArray, List.getElem?_cons_zero, List.getElem?_cons_succ]; rfl)); (case hs_1019 => kernel_rfl); (case hf_1019 => kernel_rfl); (case hr_1019 => kernel_rfl); (case hQ_1019 => exact fun _ _ _ h => h); (case hS_1019 => assumption); (case hy_1019 => (refine Or.inl ⟨by rfl, ?_⟩; intro w hSw; obtain ⟨x0, x1, x2, y0, y1, y2, z0, z1, z2⟩ := Lw3.cells hSw; go_simp; first | done | with_reducible rfl)); (try simp only [Act.put, List.setIfInBounds_toArray, List.set_cons_zero, List.set_cons_succ])
              refine wpAnyH_done (by kernel_rfl) ?_ _
              go_wp2
              go_ret
              exact ⟨rfl, HB1.out.l.bel⟩
            | true =>
              cases rb with
              | false =>
                refine wp_region_held_drew (S := fun X => Lw3 w X ka na sa kb nb sb kc nc sc) (by kernel_rfl) HB0.out (fun hHeld => ?_)
                refine wpAnyH_take (i := 0) (oi := ?o_1301) (v := ?v_1301) ?hi_1301 ?hs_1301 ?hf_1301 ?hr_1301 ?hQ_1301 ?hy_1301 ?hS_1301 ?rest_1301; (case hi_1301 => (simp only [List.getElem?_toArray, List.getElem?_cons_zero, List.getElem?_cons_succ]; rfl)); (case hs_1301 => kernel_rfl); (case hf_1301 => kernel_rfl); (case hr_1301 => kernel_rfl); (case hQ_1301 => exact fun _ _ _ h => h); (case hS_1301 => assumption); (case hy_1301 => (refine Or.inl ⟨by rfl, ?_⟩; intro w hSw; obtain ⟨x0, x1, x2, y0, y1, y2, z0, z1, z2⟩ := Lw3.cells hSw; go_simp; first | done | with_reducible rfl)); (try simp only [Act.put, List.setIfInBounds_toArray, List.set_cons_zero, List.set_cons_succ])
                refine wpAnyH_ready (rs := [1]) (by kernel_rfl) (by simp) ?_; refine AllReadyH.cons (o := ?o_1302) ?hi_1302 (fun K hK => ?_) AllReadyH.nil; (case hi_1302 => (simp only [List.getElem?_toArray, List.getElem?_cons_zero, List.getElem?_cons_succ]; rfl)); go_simp; (go_at_call 13; ((refine (RA.out _ HB0.out.l.gv).mono ?_); rintro e w_B1 ⟨rfl, hb⟩; have HB1 := Lib.hid (HB0.out.below hb); clear hb)); refine hK.out _ _ ?_ (fun hHeld => ?_); (· exact HB1.out); clear hK K; (try simp only [Act.put, List.setIfInBounds_toArray, List.set_cons_zero, List.set_cons_succ])
                refine wpAnyH_take (i := 2) (oi := ?o_1303) (v := ?v_1303) ?hi_1303 ?hs_1303 ?hf_1303 ?hr_1303 ?hQ_1303 ?hy_1303 ?hS_1303 ?rest_1303; (case hi_1303 => (simp only [List.getElem?_toArray, List.getElem?_cons_zero, List.getElem?_cons_succ]; rfl)); (case hs_1303 => kernel_rfl); (case hf_1303 => kernel_rfl); (case hr_1303 => kernel_rfl); (case hQ_1303 => exact fun _ _ _ h => h); (case hS_1303 => assumption); (case hy_1303 => (refine Or.inl ⟨by rfl, ?_⟩; intro w hSw; obtain ⟨x0, x1, x2, y0, y1, y2, z0, z1, z2⟩ := Lw3.cells hSw; go_simp; first | done | with_reducible rfl)); (try simp only [Act.put, List.setIfInBounds_toArray, List.set_cons_zero, List.set_cons_succ])
                refine wpAnyH_take (i := 3) (oi := ?o_1304) (v := ?v_1304) ?hi_1304 ?hs_1304 ?hf_1304 ?hr_1304 ?hQ_1304 ?hy_1304 ?hS_1304 ?rest_1304; (case hi_1304 => (simp only [List.getElem?_toArray, List.getElem?_cons_zero, List.getElem?_cons_succ]; rfl)); (case hs_1304 => kernel_rfl); (case hf_1304 => kernel_rfl); (case hr_1304 => kernel_rfl); (case hQ_1304 => exact fun _ _ _ h => h); (case hS_1304 => assumption); (case hy_1304 => (refine Or.inl ⟨by rfl, ?_⟩; intro w hSw; obtain ⟨x0, x1, x2, y0, y1, y2, z0, z1, z2⟩ := Lw3.cells hSw; go_simp; first | done | with_reducible rfl)); (try simp only [Act.put, List.setIfInBounds_toArray, List.set_cons_zero, List.set_cons_succ])
                refine wpAnyH_take (i := 4) (oi := ?o_1305) (v := ?v_1305) ?hi_1305 ?hs_1305 ?hf_1305 ?hr_1305 ?hQ_1305 ?hy_1305 ?hS_1305 ?rest_1305; (case hi_1305 => (simp only [List.getElem?_toArray, List.getElem?_cons_zero, List.getElem?_cons_succ]; rfl)); (case hs_1305 => kernel_rfl); (case hf_1305 => kernel_rfl); (case hr_1305 => kernel_rfl); (case hQ_1305 => exact fun _ _ _ h => h); (case hS_1305 => assumption); (case hy_1305 => (refine Or.inl ⟨by rfl, ?_⟩; intro w hSw; obtain ⟨x0, x1, x2, y0, y1, y2, z0, z1, z2⟩ := Lw3.cells hSw; go_simp; first | done | with_reducible rfl)); (try simp only [Act.put, List.setIfInBounds_toArray, List.set_cons_zero, List.set_cons_succ])
                refine wpAnyH_ready (rs := [5]) (by kernel_rfl) (by simp) ?_; refine AllReadyH.cons (o := ?o_1306) ?hi_1306 (fun K hK => ?_) AllReadyH.nil; (case hi_1306 => (simp only [List.getElem?_toArray, List.getElem?_cons_zero, List.getElem?_cons_succ]; rfl)); go_simp; (go_at_call 13; ((refine (RB.out _ HB1.out.l.gv).mono ?_); rintro e w_B2 ⟨rfl, hb⟩; have HB2 := Lib.hid (HB1.out.below hb); clear hb)); refine hK.out _ _ ?_ (fun hHeld => ?_); (· exact HB2.out); clear hK K; (try simp only [Act.put, List.setIfInBounds_toArray, List.set_cons_zero, List.set_cons_succ])
                refine wpAnyH_take (i := 6) (oi := ?o_1307) (v := ?v_1307) ?hi_1307 ?hs_1307 ?hf_1307 ?hr_1307 ?hQ_1307 ?hy_1307 ?hS_1307 ?rest_1307; (case hi_1307 => (simp only [List.getElem?_toArray, List.getElem?_cons_zero, List.getElem?_cons_succ]; rfl)); (case hs_1307 => kernel_rfl); (case hf_1307 => kernel_rfl); (case hr_1307 => kernel_rfl); (case hQ_1307 => exact fun _ _ _ h => h); (case hS_1307 => assumption); (case hy_1307 => (refine Or.inl ⟨by rfl, ?_⟩; intro w hSw; obtain ⟨x0, x1, x2, y0, y1, y2, z0, z1, z2⟩ := Lw3.cells hSw; go_simp; first | done | with_reducible rfl)); (try simp only [Act.put, List.setIfInBounds_toArray, List.set_cons_zero, List.set_cons_succ])
                refine wpAnyH_take (i := 7) (oi := ?o_1308) (v := ?v_1308) ?hi_1308 ?hs_1308 ?hf_1308 ?hr_1308 ?hQ_1308 ?hy_1308 ?hS_1308 ?rest_1308; (case hi_1308 => (simp only [List.getElem?_toArray, List.getElem?_cons_zero, List.getElem?_cons_succ]; rfl)); (case hs_1308 => kernel_rfl); (case hf_1308 => kernel_rfl); (case hr_1308 => kernel_rfl); (case hQ_1308 => exact fun _ _ _ h => h); (case hS_1308 => assumption); (case hy_1308 => (refine Or.inl ⟨by rfl, ?_⟩; intro w hSw; obtain ⟨x0, x1, x2, y0, y1, y2, z0, z1, z2⟩ := Lw3.cells hSw; go_simp; first | done | with_reducible rfl)); (try simp only [Act.put, List.setIfInBounds_toArray, List.set_cons_zero, List.set_cons_succ])
                refine wpAnyH_take (i := 8) (oi := ?o_1309) (v := ?v_1309) ?hi_1309 ?hs_1309 ?hf_1309 ?hr_1309 ?hQ_1309 ?hy_1309 ?hS_1309 ?rest_1309; (case hi_1309 => (simp only [List.getElem?_toArray, List.getElem?_cons_zero, List.getElem?_cons_succ]; rfl)); (case hs_1309 => kernel_rfl); (case hf_1309 => kernel_rfl); (case hr_1309 => kernel_rfl); (case hQ_1309 => exact fun _ _ _ h => h); (case hS_1309 => assumption); (case hy_1309 => (refine Or.inl ⟨by rfl, ?_⟩; intro w hSw; obtain ⟨x0, x1, x2, y0, y1, y2, z0, z1, z2⟩ := Lw3.cells hSw; go_simp; first | done | with_reducible rfl)); (try simp only [Act.put, List.setIfInBounds_toArray, List.set_cons_zero, List.set_cons_succ])
                refine wpAnyH_take (i := 9) (oi := ?o_1310) (v := undef) ?hi_1310 ?hs_1310 ?hf_1310 ?hr_1310 ?hQ_1310 ?hy_1310 ?hS_1310 ?rest_1310; (case hi_1310 => (simp only [List.getElem?_toArray, List.getElem?_cons_zero, List.getElem?_cons_succ]; rfl)); (case hs_1310 => kernel_rfl); (case hf_1310 => kernel_rfl); (case hr_1310 => kernel_rfl); (case hQ_1310 => exact fun _ _ _ h => h); (case hS_1310 => assumption); (case hy_1310 => exact Or.inr ⟨by rfl, rfl⟩); (try simp only [Act.put, List.setIfInBounds_toArray, List.set_cons_zero, List.set_cons_succ])
                refine wpAnyH_take (i := 10) (oi := ?o_1311) (v := undef) ?hi_1311 ?hs_1311 ?hf_1311 ?hr_1311 ?hQ_1311 ?hy_1311 ?hS_1311 ?rest_1311; (case hi_1311 => (simp only [List.getElem?_toArray, List.getElem?_cons_zero, List.getElem?_cons_succ]; rfl)); (case hs_1311 => kernel_rfl); (case hf_1311 => kernel_rfl); (case hr_1311 => kernel_rfl); (case hQ_1311 => exact fun _ _ _ h => h); (case hS_1311 => assumption); (case hy_1311 => exact Or.inr ⟨by rfl, rfl⟩); (try simp only [Act.put, List.setIfInBounds_toArray, List.set_cons_zero, List.set_cons_succ])
                refine wpAnyH_take (i := 11) (oi := ?o_1312) (v := undef) ?hi_1312 ?hs_1312 ?hf_1312 ?hr_1312 ?hQ_1312 ?hy_1312 ?hS_1312 ?rest_1312; (case hi_1312 => (simp only [List.getElem?_toArray, List.getElem?_cons_zero, List.getElem?_cons_succ]; rfl)); (case hs_1312 => kernel_rfl); (case hf_1312 => kernel_rfl); (case hr_1312 => kernel_rfl); (case hQ_1312 => exact fun _ _ _ h => h); (case hS_1312 => assumption); (case hy_1312 => exact Or.inr ⟨by rfl, rfl⟩); (try simp only [Act.put, List.setIfInBounds_toArray, List.set_cons_zero, List.set_cons_succ])
                refine wpAnyH_take (i := 12) (oi := ?o_1313) (v := undef) ?hi_1313 ?hs_1313 ?hf_1313 ?hr_1313 ?hQ_1313 ?hy_1313 ?hS_1313 ?rest_1313; (case hi_1313 => (simp only [List.getElem?_toArray, List.getElem?_cons_zero, List.getElem?_cons_succ]; rfl)); (case hs_1313 => kernel_rfl); (case hf_1313 => kernel_rfl); (case hr_1313 => kernel_rfl); (case hQ_1313 => exact fun _ _ _ h => h); (case hS_1313 => assumption); (case hy_1313 => exact Or.inr ⟨by rfl, rfl⟩); (try simp only [Act.put, List.setIfInBounds_toArray, List.set_cons_zero, List.set_cons_succ])
                refine wpAnyH_take (i := 13) (oi := ?o_1314) (v := undef) ?hi_1314 ?hs_1314 ?hf_1314 ?hr_1314 ?hQ_1314 ?hy_1314 ?hS_1314 ?rest_1314; (case hi_1314 => (simp only [List.getElem?_toArray, List.getElem?_cons_zero, List.getElem?_cons_succ]; rfl)); (case hs_1314 => kernel_rfl); (case hf_1314 => kernel_rfl); (case hr_1314 => kernel_rfl); (case hQ_1314 => exact fun _ _ _ h => h); (case hS_1314 => assumption); (case hy_1314 => exact Or.inr ⟨by rfl, rfl⟩); (try simp only [Act.put, List.setIfInBounds_toArray, List.set_cons_zero, List.set_cons_succ])
                refine wpAnyH_take (i := 14) (oi := ?o_1315) (v := undef) ?hi_1315 ?hs_1315 ?hf_1315 ?hr_1315 ?hQ_1315 ?hy_1315 ?hS_1315 ?rest_1315; (case hi_1315 => (simp only [List.getElem?_toArray, List.getElem?_cons_zero, List.getElem?_cons_succ]; rfl)); (case hs_1315 => kernel_rfl); (case hf_1315 => kernel_rfl); (case hr_1315 => kernel_rfl); (case hQ_1315 => exact fun _ _ _ h => h); (case hS_1315 => assumption); (case hy_1315 => exact Or.inr ⟨by rfl, rfl⟩); (try simp only [Act.put, List.setIfInBounds_toArray, List.set_cons_zero, List.set_cons_succ])
                refine wpAnyH_take (i := 15) (oi := ?o_1316) (v := undef) ?hi_1316 ?hs_1316 ?hf_1316 ?hr_1316 ?hQ_1316 ?hy_1316 ?hS_1316 ?rest_1316; (case hi_1316 => (simp only [List.getElem?_toArray, List.getElem?_cons_zero, List.getElem?_cons_succ]; rfl)); (case hs_1316 => kernel_rfl); (case hf_1316 => kernel_rfl); (case hr_1316 => kernel_rfl); (case hQ_1316 => exact fun _ _ _ h => h); (case hS_1316 => assumption); (case hy_1316 => exact Or.inr ⟨by rfl, rfl⟩); (try simp only [Act.put, List.setIfInBounds_toArray, List.set_cons_zero, List.set_cons_succ])
                refine wpAnyH_take (i := 16) (oi := ?o_1317) (v := undef) ?hi_1317 ?hs_1317 ?hf_1317 ?hr_1317 ?hQ_1317 ?hy_1317 ?hS_1317 ?rest_1317; (case hi_1317 => (simp only [List.getElem?_toArray, List.getElem?_cons_zero, List.getElem?_cons_succ]; rfl)); (case hs_1317 => kernel_rfl); (case hf_1317 => kernel_rfl); (case hr_1317 => kernel_rfl); (case hQ_1317 => exact fun _ _ _ h => h); (case hS_1317 => assumption); (case hy_1317 => exact Or.inr ⟨by rfl, rfl⟩); (try simp only [Act.put, List.setIfInBounds_toArray, List.set_cons_zero, List.set_cons_succ])
                refine wpAnyH_take (i := 17) (oi := ?o_1318) (v := ?v_1318) ?hi_1318 ?hs_1318 ?hf_1318 ?hr_1318 ?hQ_1318 ?hy_1318 ?hS_1318 ?rest_1318; (case hi_1318 => (simp only [List.getElem?_toArray, List.getElem?_cons_zero, List.getElem?_cons_succ]; rfl)); (case hs_1318 => kernel_rfl); (case hf_1318 => kernel_rfl); (case hr_1318 => kernel_rfl); (case hQ_1318 => exact fun _ _ _ h => h); (case hS_1318 => assumption); (case hy_1318 => (refine Or.inl ⟨by rfl, ?_⟩; intro w hSw; obtain ⟨x0, x1, x2, y0, y1, y2, z0, z1, z2⟩ := Lw3.cells hSw; go_simp; first | done | with_reducible rfl)); (try simp only [Act.put, List.setIfInBounds_toArray, List.set_cons_zero, List.set_cons_succ])
                refine wpAnyH_take (i := 18) (oi := ?o_1319) (v := ?v_1319) ?hi_1319 ?hs_1319 ?hf_1319 ?hr_1319 ?hQ_1319 ?hy_1319 ?hS_1319 ?rest_1319; (case hi_1319 => (simp only [List.getElem?_toArray, List.getElem?_cons_zero, List.getElem?_cons_succ]; rfl)); (case hs_1319 => kernel_rfl); (case hf_1319 => kernel_rfl); (case hr_1319 => kernel_rfl); (case hQ_1319 => exact fun _ _ _ h => h); (case hS_1319 => assumption); (case hy_1319 => (refine Or.inl ⟨by rfl, ?_⟩; intro w hSw; obtain ⟨x0, x1, x2, y0, y1, y2, z0, z1, z2⟩ := Lw3.cells hSw; go_simp; first | done | with_reducible rfl)); (try simp only [Act.put, List.setIfInBounds_toArray, List.set_cons_zero, List.set_cons_succ])
                refine wpAnyH_done (by kernel_rfl) ?_ _
                go_wp2
                go_ret
                exact ⟨rfl, HB2.out.l.bel⟩
              | true =>
                have hE := HS.out rfl rfl
                obtain ⟨re, hre⟩ : ∃ re, decide (ka = kb ∧ na = nb ∧ sa.toList = sb.toList) = re := ⟨_, rfl⟩
                rw [hre] at hE
                have HE := Lib.hid hre
                clear hre HS
                refine wp_region_held_drew (S := fun X => Lw3 w X ka na sa kb nb sb kc nc sc) (by kernel_rfl) HB0.out (fun hHeld => ?_)
                refine wpAnyH_take (i := 0) (oi := ?o_1601) (v := ?v_1601) ?hi_1601 ?hs_1601 ?hf_1601 ?hr_1601 ?hQ_1601 ?hy_1601 ?hS_1601 ?rest_1601; (case hi_1601 => (simp only [List.getElem?_toArray, List.getElem?_cons_zero, List.getElem?_cons_succ]; rfl)); (case hs_1601 => kernel_rfl); (case hf_1601 => kernel_rfl); (case hr_1601 => kernel_rfl); (case hQ_1601 => exact fun _ _ _ h => h); (case hS_1601 => assumption); (case hy_1601 => (refine Or.inl ⟨by rfl, ?_⟩; intro w hSw; obtain ⟨x0, x1, x2, y0, y1, y2, z0, z1, z2⟩ := Lw3.cells hSw; go_simp; first | done | with_reducible rfl)); (try simp only [Act.put, List.setIfInBounds_toArray, List.set_cons_zero, List.set_cons_succ])
                refine wpAnyH_ready (rs := [1]) (by kernel_rfl) (by simp) ?_; refine AllReadyH.cons (o := ?o_1602) ?hi_1602 (fun K hK => ?_) AllReadyH.nil; (case hi_1602 => (simp only [List.getElem?_toArray, List.getElem?_cons_zero, List.getElem?_cons_succ]; rfl)); go_simp; (go_at_call 13; ((refine (RA.out _ HB0.out.l.gv).mono ?_); rintro e w_B1 ⟨rfl, hb⟩; have HB1 := Lib.hid (HB0.out.below hb); clear hb)); refine hK.out _ _ ?_ (fun hHeld => ?_); (· exact HB1.out); clear hK K; (try simp only [Act.put, List.setIfInBounds_toArray, List.set_cons_zero, List.set_cons_succ])
                refine wpAnyH_take (i := 2) (oi := ?o_1603) (v := ?v_1603) ?hi_1603 ?hs_1603 ?hf_1603 ?hr_1603 ?hQ_1603 ?hy_1603 ?hS_1603 ?rest_1603; (case hi_1603 => (simp only [List.getElem?_toArray, List.getElem?_cons_zero, List.getElem?_cons_succ]; rfl)); (case hs_1603 => kernel_rfl); (case hf_1603 => kernel_rfl); (case hr_1603 => kernel_rfl); (case hQ_1603 => exact fun _ _ _ h => h); (case hS_1603 => assumption); (case hy_1603 => (refine Or.inl ⟨by rfl, ?_⟩; intro w hSw; obtain ⟨x0, x1, x2, y0, y1, y2, z0, z1, z2⟩ := Lw3.cells hSw; go_simp; first | done | with_reducible rfl)); (try simp only [Act.put, List.setIfInBounds_toArray, List.set_cons_zero, List.set_cons_succ])
                refine wpAnyH_take (i := 3) (oi := ?o_1604) (v := ?v_1604) ?hi_1604 ?hs_1604 ?hf_1604 ?hr_1604 ?hQ_1604 ?hy_1604 ?hS_1604 ?rest_1604; (case hi_1604 => (simp only [List.getElem?_toArray, List.getElem?_cons_zero, List.getElem?_cons_succ]; rfl)); (case hs_1604 => kernel_rfl); (case hf_1604 => kernel_rfl); (case hr_1604 => kernel_rfl); (case hQ_1604 => exact fun _ _ _ h => h); (case hS_1604 => assumption); (case hy_1604 => (refine Or.inl ⟨by rfl, ?_⟩; intro w hSw; obtain ⟨x0, x1, x2, y0, y1, y2, z0, z1, z2⟩ := Lw3.cells hSw; go_simp; first | done | with_reducible rfl)); (try simp only [Act.put, List.setIfInBounds_toArray, List.set_cons_zero, List.set_cons_succ])
                refine wpAnyH_take (i := 4) (oi := ?o_1605) (v := ?v_1605) ?hi_1605 ?hs_1605 ?hf_1605 ?hr_1605 ?hQ_1605 ?hy_1605 ?hS_1605 ?rest_1605; (case hi_1605 => (simp only [List.getElem?_toArray, List.getElem?_cons_zero, List.getElem?_cons_succ]; rfl)); (case hs_1605 => kernel_rfl); (case hf_1605 => kernel_rfl); (case hr_1605 => kernel_rfl); (case hQ_1605 => exact fun _ _ _ h => h); (case hS_1605 => assumption); (case hy_1605 => (refine Or.inl ⟨by rfl, ?_⟩; intro w hSw; obtain ⟨x0, x1, x2, y0, y1, y2, z0, z1, z2⟩ := Lw3.cells hSw; go_simp; first | done | with_reducible rfl)); (try simp only [Act.put, List.setIfInBounds_toArray, List.set_cons_zero, List.set_cons_succ])
                refine wpAnyH_ready (rs := [5]) (by kernel_rfl) (by simp) ?_; refine AllReadyH.cons (o := ?o_1606) ?hi_1606 (fun K hK => ?_) AllReadyH.nil; (case hi_1606 => (simp only [List.getElem?_toArray, List.getElem?_cons_zero, List.getElem?_cons_succ]; rfl)); go_simp; (go_at_call 13; ((refine (RB.out _ HB1.out.l.gv).mono ?_); rintro e w_B2 ⟨rfl, hb⟩; have HB2 := Lib.hid (HB1.out.below hb); clear hb)); refine hK.out _ _ ?_ (fun hHeld => ?_); (· exact HB2.out); clear hK K; (try simp only [Act.put, List.setIfInBounds_toArray, List.set_cons_zero, List.set_cons_succ])
                refine wpAnyH_take (i := 6) (oi := ?o_1607) (v := ?v_1607) ?hi_1607 ?hs_1607 ?hf_1607 ?hr_1607 ?hQ_1607 ?hy_1607 ?hS_1607 ?rest_1607; (case hi_1607 => (simp only [List.getElem?_toArray, List.getElem?_cons_zero, List.getElem?_cons_succ]; rfl)); (case hs_1607 => kernel_rfl); (case hf_1607 => kernel_rfl); (case hr_1607 => kernel_rfl); (case hQ_1607 => exact fun _ _ _ h => h); (case hS_1607 => assumption); (case hy_1607 => (refine Or.inl ⟨by rfl, ?_⟩; intro w hSw; obtain ⟨x0, x1, x2, y0, y1, y2, z0, z1, z2⟩ := Lw3.cells hSw; go_simp; first | done | with_reducible rfl)); (try simp only [Act.put, List.setIfInBounds_toArray, List.set_cons_zero, List.set_cons_succ])
                refine wpAnyH_take (i := 7) (oi := ?o_1608) (v := ?v_1608) ?hi_1608 ?hs_1608 ?hf_1608 ?hr_1608 ?hQ_1608 ?hy_1608 ?hS_1608 ?rest_1608; (case hi_1608 => (simp only [List.getElem?_toArray, List.getElem?_cons_zero, List.getElem?_cons_succ]; rfl)); (case hs_1608 => kernel_rfl); (case hf_1608 => kernel_rfl); (case hr_1608 => kernel_rfl); (case hQ_1608 => exact fun _ _ _ h => h); (case hS_1608 => assumption); (case hy_1608 => (refine Or.inl ⟨by rfl, ?_⟩; intro w hSw; obtain ⟨x0, x1, x2, y0, y1, y2, z0, z1, z2⟩ := Lw3.cells hSw; go_simp; first | done | with_reducible rfl)); (try simp only [Act.put, List.setIfInBounds_toArray, List.set_cons_zero, List.set_cons_succ])
                refine wpAnyH_take (i := 8) (oi := ?o_1609) (v := ?v_1609) ?hi_1609 ?hs_1609 ?hf_1609 ?hr_1609 ?hQ_1609 ?hy_1609 ?hS_1609 ?rest_1609; (case hi_1609 => (simp only [List.getElem?_toArray, List.getElem?_cons_zero, List.getElem?_cons_succ]; rfl)); (case hs_1609 => kernel_rfl); (case hf_1609 => kernel_rfl); (case hr_1609 => kernel_rfl); (case hQ_1609 => exact fun _ _ _ h => h); (case hS_1609 => assumption); (case hy_1609 => (refine Or.inl ⟨by rfl, ?_⟩; intro w hSw; obtain ⟨x0, x1, x2, y0, y1, y2, z0, z1, z2⟩ := Lw3.cells hSw; go_simp; first | done | with_reducible rfl)); (try simp only [Act.put, List.setIfInBounds_toArray, List.set_cons_zero, List.set_cons_succ])
                refine wpAnyH_take (i := 9) (oi := ?o_1610) (v := ?v_1610) ?hi_1610 ?hs_1610 ?hf_1610 ?hr_1610 ?hQ_1610 ?hy_1610 ?hS_1610 ?rest_1610; (case hi_1610 => (simp only [List.getElem?_toArray, List.getElem?_cons_zero, List.getElem?_cons_succ]; rfl)); (case hs_1610 => kernel_rfl); (case hf_1610 => kernel_rfl); (case hr_1610 => kernel_rfl); (case hQ_1610 => exact fun _ _ _ h => h); (case hS_1610 => assumption); (case hy_1610 => (refine Or.inl ⟨by rfl, ?_⟩; intro w hSw; obtain ⟨x0, x1, x2, y0, y1, y2, z0, z1, z2⟩ := Lw3.cells hSw; go_simp; first | done | with_reducible rfl)); (try simp only [Act.put, List.setIfInBounds_toArray, List.set_cons_zero, List.set_cons_succ])
                refine wpAnyH_take (i := 10) (oi := ?o_1611) (v := ?v_1611) ?hi_1611 ?hs_1611 ?hf_1611 ?hr_1611 ?hQ_1611 ?hy_1611 ?hS_1611 ?rest_1611; (case hi_1611 => (simp only [List.getElem?_toArray, List.getElem?_cons_zero, List.getElem?_cons_succ]; rfl)); (case hs_1611 => kernel_rfl); (case hf_1611 => kernel_rfl); (case hr_1611 => kernel_rfl); (case hQ_1611 => exact fun _ _ _ h => h); (case hS_1611 => assumption); (case hy_1611 => (refine Or.inl ⟨by rfl, ?_⟩; intro w hSw; obtain ⟨x0, x1, x2, y0, y1, y2, z0, z1, z2⟩ := Lw3.cells hSw; go_simp; first | done | with_reducible rfl)); (try simp only [Act.put, List.setIfInBounds_toArray, List.set_cons_zero, List.set_cons_succ])
                refine wpAnyH_take (i := 13) (oi := ?o_1612) (v := ?v_1612) ?hi_1612 ?hs_1612 ?hf_1612 ?hr_1612 ?hQ_1612 ?hy_1612 ?hS_1612 ?rest_1612; (case hi_1612 => (simp only [List.getElem?_toArray, List.getElem?_cons_zero, List.getElem?_cons_succ]; rfl)); (case hs_1612 => kernel_rfl); (case hf_1612 => kernel_rfl); (case hr_1612 => kernel_rfl); (case hQ_1612 => exact fun _ _ _ h => h); (case hS_1612 => assumption); (case hy_1612 => (refine Or.inl ⟨by rfl, ?_⟩; intro w hSw; obtain ⟨x0, x1, x2, y0, y1, y2, z0, z1, z2⟩ := Lw3.cells hSw; go_simp; first | done | with_reducible rfl)); (try simp only [Act.put, List.setIfInBounds_toArray, List.set_cons_zero, List.set_cons_succ])
                refine wpAnyH_take (i := 14) (oi := ?o_1613) (v := ?v_1613) ?hi_1613 ?hs_1613 ?hf_1613 ?hr_1613 ?hQ_1613 ?hy_1613 ?hS_1613 ?rest_1613; (case hi_1613 => (simp only [List.getElem?_toArray, List.getElem?_cons_zero, List.getElem?_cons_succ]; rfl)); (case hs_1613 => kernel_rfl); (case hf_1613 => kernel_rfl); (case hr_1613 => kernel_rfl); (case hQ_1613 => exact fun _ _ _ h => h); (case hS_1613 => assumption); (case hy_1613 => (refine Or.inl ⟨by rfl, ?_⟩; intro w hSw; obtain ⟨x0, x1, x2, y0, y1, y2, z0, z1, z2⟩ := Lw3.cells hSw; go_simp; first | done | with_reducible rfl)); (try simp only [Act.put, List.setIfInBounds_toArray, List.set_cons_zero, List.set_cons_succ])
                refine wpAnyH_take (i := 15) (oi := ?o_1614) (v := ?v_1614) ?hi_1614 ?hs_1614 ?hf_1614 ?hr_1614 ?hQ_1614 ?hy_1614 ?hS_1614 ?rest_1614; (case hi_1614 => (simp only [List.getElem?_toArray, List.getElem?_cons_zero, List.getElem?_cons_succ]; rfl)); (case hs_1614 => kernel_rfl); (case hf_1614 => kernel_rfl); (case hr_1614 => kernel_rfl); (case hQ_1614 => exact fun _ _ _ h => h); (case hS_1614 => assumption); (case hy_1614 => (refine Or.inl ⟨by rfl, ?_⟩; intro w hSw; obtain ⟨x0, x1, x2, y0, y1, y2, z0, z1, z2⟩ := Lw3.cells hSw; go_simp; exact ite3 HE.out _)); (try simp only [Act.put, List.setIfInBounds_toArray, List.set_cons_zero, List.set_cons_succ])
                refine wpAnyH_ready (rs := [11]) (by kernel_rfl) (by simp) ?_; refine AllReadyH.cons (o := ?o_1615) ?hi_1615 (fun K hK => ?_) AllReadyH.nil; (case hi_1615 => (simp only [List.getElem?_toArray, List.getElem?_cons_zero, List.getElem?_cons_succ]; rfl)); go_simp; (go_at_call 15; ((refine (CAB.out _).mono ?_); rintro e w_B3 ⟨rfl, hb⟩; have HB3 := Lib.hid (HB2.out.below hb); clear hb)); refine hK.out _ _ ?_ (fun hHeld => ?_); (· exact HB3.out); clear hK K; (try simp only [Act.put, List.setIfInBounds_toArray, List.set_cons_zero, List.set_cons_succ])
                refine wpAnyH_take (i := 12) (oi := ?o_1616) (v := ?v_1616) ?hi_1616 ?hs_1616 ?hf_1616 ?hr_1616 ?hQ_1616 ?hy_1616 ?hS_1616 ?rest_1616; (case hi_1616 => (simp only [List.getElem?_toArray, List.getElem?_cons_zero, List.getElem?_cons_succ]; rfl)); (case hs_1616 => kernel_rfl); (case hf_1616 => kernel_rfl); (case hr_1616 => kernel_rfl); (case hQ_1616 => exact fun _ _ _ h => h); (case hS_1616 => assumption); (case hy_1616 => (refine Or.inl ⟨by rfl, ?_⟩; intro w hSw; obtain ⟨x0, x1, x2, y0, y1, y2, z0, z1, z2⟩ := Lw3.cells hSw; go_simp; first | done | with_reducible rfl)); (try simp only [Act.put, List.setIfInBounds_toArray, List.set_cons_zero, List.set_cons_succ])
                refine wpAnyH_take (i := 16) (oi := ?o_1617) (v := ?v_1617) ?hi_1617 ?hs_1617 ?hf_1617 ?hr_1617 ?hQ_1617 ?hy_1617 ?hS_1617 ?rest_1617; (case hi_1617 => (simp only [List.getElem?_toArray, List.getElem?_cons_zero, List.getElem?_cons_succ]; rfl)); (case hs_1617 => kernel_rfl); (case hf_1617 => kernel_rfl); (case hr_1617 => kernel_rfl); (case hQ_1617 => exact fun _ _ _ h => h); (case hS_1617 => assumption); (case hy_1617 => (refine Or.inl ⟨by rfl, ?_⟩; intro w hSw; obtain ⟨x0, x1, x2, y0, y1, y2, z0, z1, z2⟩ := Lw3.cells hSw; go_simp; first | done | with_reducible rfl)); (try simp only [Act.put, List.setIfInBounds_toArray, List.set_cons_zero, List.set_cons_succ])
                refine wpAnyH_take (i := 17) (oi := ?o_1618) (v := ?v_1618) ?hi_1618 ?hs_1618 ?hf_1618 ?hr_1618 ?hQ_1618 ?hy_1618 ?hS_1618 ?rest_1618; (case hi_1618 => (simp only [List.getElem?_toArray, List.getElem?_cons_zero, List.getElem?_cons_succ]; rfl)); (case hs_1618 => kernel_rfl); (case hf_1618 => kernel_rfl); (case hr_1618 => kernel_rfl); (case hQ_1618 => exact fun _ _ _ h => h); (case hS_1618 => assumption); (case hy_1618 => (refine Or.inl ⟨by rfl, ?_⟩; intro w hSw; obtain ⟨x0, x1, x2, y0, y1, y2, z0, z1, z2⟩ := Lw3.cells hSw; go_simp; first | done | with_reducible rfl)); (try simp only [Act.put, List.setIfInBounds_toArray, List.set_cons_zero, List.set_cons_succ])
                refine wpAnyH_take (i := 18) (oi := ?o_1619) (v := ?v_1619) ?hi_1619 ?hs_1619 ?hf_1619 ?hr_1619 ?hQ_1619 ?hy_1619 ?hS_1619 ?rest_1619; (case hi_1619 => (simp only [List.getElem?_toArray, List.getElem?_cons_zero, List.getElem?_cons_succ]; rfl)); (case hs_1619 => kernel_rfl); (case hf_1619 => kernel_rfl); (case hr_1619 => kernel_rfl); (case hQ_1619 => exact fun _ _ _ h => h); (case hS_1619 => assumption); (case hy_1619 => (refine Or.inl ⟨by rfl, ?_⟩; intro w hSw; obtain ⟨x0, x1, x2, y0, y1, y2, z0, z1, z2⟩ := Lw3.cells hSw; go_simp; first | done | with_reducible rfl)); (try simp only [Act.put, List.setIfInBounds_toArray, List.set_cons_zero, List.set_cons_succ])
                refine wpAnyH_done (by kernel_rfl) ?_ _
                go_wp2
                go_ret
                exact ⟨rfl, HB3.out.l.bel⟩
          · have t2 : decide (p ≤ 0) = false := decide_eq_false c2
            clear c1 c2 hpost
            obtain ⟨x0, x1, x2, y0, y1, y2, z0, z1, z2⟩ := HL10.out.cells
            go_wp2_with fail
            refine (CBC.out _).mono ?_
            rintro e w11 ⟨rfl, hb⟩
            have HL11 := Lib.hid (HL10.out.below hb)
            clear hb HL10 x0 x1 x2 y0 y1 y2 z0 z1 z2
            obtain ⟨x0, x1, x2, y0, y1, y2, z0, z1, z2⟩ := HL11.out.cells
            go_wp2_with fail
            have HB0 := Lib.hid HL11.out.drew
            cases ra with
            | false =>
              refine wp_region_held_drew (S := fun X => Lw3 w X ka na sa kb nb sb kc nc sc) (by kernel_rfl) HB0.out (fun hHeld => ?_)
              refine wpAnyH_take (i := 0) (oi := ?o_2001) (v := ?v_2001) ?hi_2001 ?hs_2001 ?hf_2001 ?hr_2001 ?hQ_2001 ?hy_2001 ?hS_2001 ?rest_2001; (case hi_2001 => (simp only [List.getElem?_toArray, List.getElem?_cons_zero, List.getElem?_cons_succ]; rfl)); (case hs_2001 => kernel_rfl); (case hf_2001 => kernel_rfl); (case hr_2001 => kernel_rfl); (case hQ_2001 => exact fun _ _ _ h => h); (case hS_2001 => assumption); (case hy_2001 => (refine Or.inl ⟨by rfl, ?_⟩; intro w hSw; obtain ⟨x0, x1, x2, y0, y1, y2, z0, z1, z2⟩ := Lw3.cells hSw; go_simp; first | done | with_reducible rfl)); (try simp only [Act.put, List.setIfInBounds_toArray, List.set_cons_zero, List.set_cons_succ])
              refine wpAnyH_ready (rs := [1]) (by kernel_rfl) (by simp) ?_; refine AllReadyH.cons (o := ?o_2002) ?hi_2002 (fun K hK => ?_) AllReadyH.nil; (case hi_2002 => (simp only [List.getElem?_toArray, List.getElem?_cons_zero, List.getElem?_cons_succ]; rfl)); go_simp; (go_at_call 13; ((refine (RA.out _ HB0.out.l.gv).mono ?_); rintro e w_B1 ⟨rfl, hb⟩; have HB1 := Lib.hid (HB0.out.below hb); clear hb)); refine hK.out _ _ ?_ (fun hHeld => ?_); (· exact HB1.out); clear hK K; (try simp only [Act.put, List.setIfInBounds_toArray, List.set_cons_zero, List.set_cons_succ])
              refine wpAnyH_take (i := 2) (oi := ?o_2003) (v := ?v_2003) ?hi_2003 ?hs_2003 ?hf_2003 ?hr_2003 ?hQ_2003 ?hy_2003 ?hS_2003 ?rest_2003; (case hi_2003 => (simp only [List.getElem?_toArray, List.getElem?_cons_zero, List.getElem?_cons_succ]; rfl)); (case hs_2003 => kernel_rfl); (case hf_2003 => kernel_rfl); (case hr_2003 => kernel_rfl); (case hQ_2003 => exact fun _ _ _ h => h); (case hS_2003 => assumption); (case hy_2003 => (refine Or.inl ⟨by rfl, ?_⟩; intro w hSw; obtain ⟨x0, x1, x2, y0, y1, y2, z0, z1, z2⟩ := Lw3.cells hSw; go_simp; first | done | with_reducible rfl)); (try simp only [Act.put, List.setIfInBounds_toArray, List.set_cons_zero, List.set_cons_succ])
              refine wpAnyH_take (i := 3) (oi := ?o_2004) (v := ?v_2004) ?hi_2004 ?hs_2004 ?hf_2004 ?hr_2004 ?hQ_2004 ?hy_2004 ?hS_2004 ?rest_2004; (case hi_2004 => (simp only [List.getElem?_toArray, List.getElem?_cons_zero, List.getElem?_cons_succ]; rfl)); (case hs_2004 => kernel_rfl); (case hf_2004 => kernel_rfl); (case hr_2004 => kernel_rfl); (case hQ_2004 => exact fun _ _ _ h => h); (case hS_2004 => assumption); (case hy_2004 => (refine Or.inl ⟨by rfl, ?_⟩; intro w hSw; obtain ⟨x0, x1, x2, y0, y1, y2, z0, z1, z2⟩ := Lw3.cells hSw; go_simp; first | done | with_reducible rfl)); (try simp only [Act.put, List.setIfInBounds_toArray, List.set_cons_zero, List.set_cons_succ])
              refine wpAnyH_take (i := 4) (oi := ?o_2005) (v := undef) ?hi_2005 ?hs_2005 ?hf_2005 ?hr_2005 ?hQ_2005 ?hy_2005 ?hS_2005 ?rest_2005; (case hi_2005 => (simp only [List.getElem?_toArray, List.getElem?_cons_zero, List.getElem?_cons_succ]; rfl)); (case hs_2005 => kernel_rfl); (case hf_2005 => kernel_rfl); (case hr_2005 => kernel_rfl); (case hQ_2005 => exact fun _ _ _ h => h); (case hS_2005 => assumption); (case hy_2005 => exact Or.inr ⟨by rfl, rfl⟩); (try simp only [Act.put, List.setIfInBounds_toArray, List.set_cons_zero, List.set_cons_succ])
              refine wpAnyH_take (i := 5) (oi := ?o_2006) (v := undef) ?hi_2006 ?hs_2006 ?hf_2006 ?hr_2006 ?hQ_2006 ?hy_2006 ?hS_2006 ?rest_2006; (case hi_2006 => (simp only [List.getElem?_toArray, List.getElem?_cons_zero, List.getElem?_cons_succ]; rfl)); (case hs_2006 => kernel_rfl); (case hf_2006 => kernel_rfl); (case hr_2006 => kernel_rfl); (case hQ_2006 => exact fun _ _ _ h => h); (case hS_2006 => assumption); (case hy_2006 => exact Or.inr ⟨by rfl, rfl⟩); (try simp only [Act.put, List.setIfInBounds_toArray, List.set_cons_zero, List.set_cons_succ])
              refine wpAnyH_take (i := 6) (oi := ?o_2007) (v := undef) ?hi_2007 ?hs_2007 ?hf_2007 ?hr_2007 ?hQ_2007 ?hy_2007 ?hS_2007 ?rest_2007; (case hi_2007 => (simp only [List.getElem?_toArray, List.getElem?_cons_zero, List.getElem?_cons_succ]; rfl)); (case hs_2007 => kernel_rfl); (case hf_2007 => kernel_rfl); (case hr_2007 => kernel_rfl); (case hQ_2007 => exact fun _ _ _ h => h); (case hS_2007 => assumption); (case hy_2007 => exact Or.inr ⟨by rfl, rfl⟩); (try simp only [Act.put, List.setIfInBounds_toArray, List.set_cons_zero, List.set_cons_succ])
              refine wpAnyH_take (i := 7) (oi := ?o_2008) (v := ?v_2008) ?hi_2008 ?hs_2008 ?hf_2008 ?hr_2008 ?hQ_2008 ?hy_2008 ?hS_2008 ?rest_2008; (case hi_2008 => (simp only [List.getElem?_toArray, List.getElem?_cons_zero, List.getElem?_cons_succ]; rfl)); (case hs_2008 => kernel_rfl); (case hf_2008 => kernel_rfl); (case hr_2008 => kernel_rfl); (case hQ_2008 => exact fun _ _ _ h => h); (case hS_2008 => assumption); (case hy_2008 => (refine Or.inl ⟨by rfl, ?_⟩; intro w hSw; obtain ⟨x0, x1, x2, y0, y1, y2, z0, z1, z2⟩ := Lw3.cells hSw; go_simp; first | done | with_reducible rfl)); (try simp only [Act.put, List.setIfInBounds_toArray, List.set_cons_zero, List.set_cons_succ])
              refine wpAnyH_take (i := 8) (oi := ?o_2009) (v := ?v_2009) ?hi_2009 ?hs_2009 ?hf_2009 ?hr_2009 ?hQ_2009 ?hy_2009 ?hS_2009 ?rest_2009; (case hi_2009 => (simp only [List.getElem?_toArray, List.getElem?_cons_zero, List.getElem?_cons_succ]; rfl)); (case hs_2009 => kernel_rfl); (case hf_2009 => kernel_rfl); (case hr_2009 => kernel_rfl); (case hQ_2009 => exact fun _ _ _ h => h); (case hS_2009 => assumption); (case hy_2009 => (refine Or.inl ⟨by rfl, ?_⟩; intro w hSw; obtain ⟨x0, x1, x2, y0, y1, y2, z0, z1, z2⟩ := Lw3.cells hSw; go_simp; first | done | with_reducible rfl)); (try simp only [Act.put, List.setIfInBounds_toArray, List.set_cons_zero, List.set_cons_succ])
              refine wpAnyH_take (i := 9) (oi := ?o_2010) (v := undef) ?hi_2010 ?hs_2010 ?hf_2010 ?hr_2010 ?hQ_2010 ?hy_2010 ?hS_2010 ?rest_2010; (case hi_2010 => (simp only [List.getElem?_toArray, List.getElem?_cons_zero, List.getElem?_cons_succ]; rfl)); (case hs_2010 => kernel_rfl); (case hf_2010 => kernel_rfl); (case hr_2010 => kernel_rfl); (case hQ_2010 => exact fun _ _ _ h => h); (case hS_2010 => assumption); (case hy_2010 => exact Or.inr ⟨by rfl, rfl⟩); (try simp only [Act.put, List.setIfInBounds_toArray, List.set_cons_zero, List.set_cons_succ])
              refine wpAnyH_take (i := 10) (oi := ?o_2011) (v := undef) ?hi_2011 ?hs_2011 ?hf_2011 ?hr_2011 ?hQ_2011 ?hy_2011 ?hS_2011 ?rest_2011; (case hi_2011 => (simp only [List.getElem?_toArray, List.getElem?_cons_zero, List.getElem?_cons_succ]; rfl)); (case hs_2011 => kernel_rfl); (case hf_2011 => kernel_rfl); (case hr_2011 => kernel_rfl); (case hQ_2011 => exact fun _ _ _ h => h); (case hS_2011 => assumption); (case hy_2011 => exact Or.inr ⟨by rfl, rfl⟩); (try simp only [Act.put, List.setIfInBounds_toArray, List.set_cons_zero, List.set_cons_succ])
              refine wpAnyH_take (i := 11) (oi := ?o_2012) (v := undef) ?hi_2012 ?hs_2012 ?hf_2012 ?hr_2012 ?hQ_2012 ?hy_2012 ?hS_2012 ?rest_2012; (case hi_2012 => (simp only [List.getElem?_toArray, List.getElem?_cons_zero, List.getElem?_cons_succ]; rfl)); (case hs_2012 => kernel_rfl); (case hf_2012 => kernel_rfl); (case hr_2012 => kernel_rfl); (case hQ_2012 => exact fun _ _ _ h => h); (case hS_2012 => assumption); (case hy_2012 => exact Or.inr ⟨by rfl, rfl⟩); (try simp only [Act.put, List.setIfInBounds_toArray, List.set_cons_zero, List.set_cons_succ])
              refine wpAnyH_take (i := 12) (oi := ?o_2013) (v := undef) ?hi_2013 ?hs_2013 ?hf_2013 ?hr_2013 ?hQ_2013 ?hy_2013 ?hS_2013 ?rest_2013; (case hi_2013 => (simp only [List.getElem?_toArray, List.getElem?_cons_zero, List.getElem?_cons_succ]; rfl)); (case hs_2013 => kernel_rfl); (case hf_2013 => kernel_rfl); (case hr_2013 => kernel_rfl); (case hQ_2013 => exact fun _ _ _ h => h); (case hS_2013 => assumption); (case hy_2013 => exact Or.inr ⟨by rfl, rfl⟩); (try simp only [Act.put, List.setIfInBounds_toArray, List.set_cons_zero, List.set_cons_succ])
              refine wpAnyH_take (i := 13) (oi := ?o_2014) (v := undef) ?hi_2014 ?hs_2014 ?hf_2014 ?hr_2014 ?hQ_2014 ?hy_2014 ?hS_2014 ?rest_2014; (case hi_2014 => (simp only [List.getElem?_toArray, List.getElem?_cons_zero, List.getElem?_cons_succ]; rfl)); (case hs_2014 => kernel_rfl); (case hf_2014 => kernel_rfl); (case hr_2014 => kernel_rfl); (case hQ_2014 => exact fun _ _ _ h => h); (case hS_2014 => assumption); (case hy_2014 => exact Or.inr ⟨by rfl, rfl⟩); (try simp only [Act.put, List.setIfInBounds_toArray, List.set_cons_zero, List.set_cons_succ])
              refine wpAnyH_take (i := 14) (oi := ?o_2015) (v := undef) ?hi_2015 ?hs_2015 ?hf_2015 ?hr_2015 ?hQ_2015 ?hy_2015 ?hS_2015 ?rest_2015; (case hi_2015 => (simp only [List.getElem?_toArray, List.getElem?_cons_zero, List.getElem?_cons_succ]; rfl)); (case hs_2015 => kernel_rfl); (case hf_2015 => kernel_rfl); (case hr_2015 => kernel_rfl); (case hQ_2015 => exact fun _ _ _ h => h); (case hS_2015 => assumption); (case hy_2015 => exact Or.inr ⟨by rfl, rfl⟩); (try simp only [Act.put, List.setIfInBounds_toArray, List.set_cons_zero, List.set_cons_succ])
              refine wpAnyH_take (i := 15) (oi := ?o_2016) (v := undef) ?hi_2016 ?hs_2016 ?hf_2016 ?hr_2016 ?hQ_2016 ?hy_2016 ?hS_2016 ?rest_2016; (case hi_2016 => (simp only [List.getElem?_toArray, List.getElem?_cons_zero, List.getElem?_cons_succ]; rfl)); (case hs_2016 => kernel_rfl); (case hf_2016 => kernel_rfl); (case hr_2016 => kernel_rfl); (case hQ_2016 => exact fun _ _ _ h => h); (case hS_2016 => assumption); (case hy_2016 => exact Or.inr ⟨by rfl, rfl⟩); (try simp only [Act.put, List.setIfInBounds_toArray, List.set_cons_zero, List.set_cons_succ])
              refine wpAnyH_take (i := 16) (oi := ?o_2017) (v := undef) ?hi_2017 ?hs_2017 ?hf_2017 ?hr_2017 ?hQ_2017 ?hy_2017 ?hS_2017 ?rest_2017; (case hi_2017 => (simp only [List.getElem?_toArray, List.getElem?_cons_zero, List.getElem?_cons_succ]; rfl)); (case hs_2017 => kernel_rfl); (case hf_2017 => kernel_rfl); (case hr_2017 => kernel_rfl); (case hQ_2017 => exact fun _ _ _ h => h); (case hS_2017 => assumption); (case hy_2017 => exact Or.inr ⟨by rfl, rfl⟩); (try simp only [Act.put, List.setIfInBounds_toArray, List.set_cons_zero, List.set_cons_succ])
              refine wpAnyH_take (i := 17) (oi := ?o_2018) (v := ?v_2018) ?hi_2018 ?hs_2018 ?hf_2018 ?hr_2018 ?hQ_2018 ?hy_2018 ?hS_2018 ?rest_2018; (case hi_2018 => (simp only [List.getElem?_toArray, List.getElem?_cons_zero, List.getElem?_cons_succ]; rfl)); (case hs_2018 => kernel_rfl); (case hf_2018 => kernel_rfl); (case hr_2018 => kernel_rfl); (case hQ_2018 => exact fun _ _ _ h => h); (case hS_2018 => assumption); (case hy_2018 => (refine Or.inl ⟨by rfl, ?_⟩; intro w hSw; obtain ⟨x0, x1, x2, y0, y1, y2, z0, z1, z2⟩ := Lw3.cells hSw; go_simp; first | done | with_reducible rfl)); (try simp only [Act.put, List.setIfInBounds_toArray, List.set_cons_zero, List.set_cons_succ])
              refine wpAnyH_take (i := 18) (oi := ?o_2019) (v := ?v_2019) ?hi_2019 ?hs_2019 ?hf_2019 ?hr_2019 ?hQ_2019 ?hy_2019 ?hS_2019 ?rest_2019; (case hi_2019 => (simp only [List.getElem?_toArray, List.getElem?_cons_zero, List.getElem?_cons_succ]; rfl)); (case hs_2019 => kernel_rfl); (case hf_2019 => kernel_rfl); (case hr_2019 => kernel_rfl); (case hQ_2019 => exact fun _ _ _ h => h); (case hS_2019 => assumption); (case hy_2019 => (refine Or.inl ⟨by rfl, ?_⟩; intro w hSw; obtain ⟨x0, x1, x2, y0, y1, y2, z0, z1, z2⟩ := Lw3.cells hSw; go_simp; first | done | with_reducible rfl)); (try simp only [Act.put, List.setIfInBounds_toArray, List.set_cons_zero, List.set_cons_succ])
              refine wpAnyH_done (by kernel_rfl) ?_ _
              go_wp2
              go_ret
              exact ⟨rfl, HB1.out.l.bel⟩
            | true =>
              cases rb with
              | false =>
                refine wp_region_held_drew (S := fun X => Lw3 w X ka na sa kb nb sb kc nc sc) (by kernel_rfl) HB0.out (fun hHeld => ?_)
                refine wpAnyH_take (i := 0) (oi := ?o_2301) (v := ?v_2301) ?hi_2301 ?hs_2301 ?hf_2301 ?hr_2301 ?hQ_2301 ?hy_2301 ?hS_2301 ?rest_2301; (case hi_2301 => (simp only [List.getElem?_toArray, List.getElem?_cons_zero, List.getElem?_cons_succ]; rfl)); (case hs_2301 => kernel_rfl); (case hf_2301 => kernel_rfl); (case hr_2301 => kernel_rfl); (case hQ_2301 => exact fun _ _ _ h => h); (case hS_2301 => assumption); (case hy_2301 => (refine Or.inl ⟨by rfl, ?_⟩; intro w hSw; obtain ⟨x0, x1, x2, y0, y1, y2, z0, z1, z2⟩ := Lw3.cells hSw; go_simp; first | done | with_reducible rfl)); (try simp only [Act.put, List.setIfInBounds_toArray, List.set_cons_zero, List.set_cons_succ])
                refine wpAnyH_ready (rs := [1]) (by kernel_rfl) (by simp) ?_; refine AllReadyH.cons (o := ?o_2302) ?hi_2302 (fun K hK => ?_) AllReadyH.nil; (case hi_2302 => (simp only [List.getElem?_toArray, List.getElem?_cons_zero, List.getElem?_cons_succ]; rfl)); go_simp; (go_at_call 13; ((refine (RA.out _ HB0.out.l.gv).mono ?_); rintro e w_B1 ⟨rfl, hb⟩; have HB1 := Lib.hid (HB0.out.below hb); clear hb)); refine hK.out _ _ ?_ (fun hHeld => ?_); (· exact HB1.out); clear hK K; (try simp only [Act.put, List.setIfInBounds_toArray, List.set_cons_zero, List.set_cons_succ])
                refine wpAnyH_take (i := 2) (oi := ?o_2303) (v := ?v_2303) ?hi_2303 ?hs_2303 ?hf_2303 ?hr_2303 ?hQ_2303 ?hy_2303 ?hS_2303 ?rest_2303; (case hi_2303 => (simp only [List.getElem?_toArray, List.getElem?_cons_zero, List.getElem?_cons_succ]; rfl)); (case hs_2303 => kernel_rfl); (case hf_2303 => kernel_rfl); (case hr_2303 => kernel_rfl); (case hQ_2303 => exact fun _ _ _ h => h); (case hS_2303 => assumption); (case hy_2303 => (refine Or.inl ⟨by rfl, ?_⟩; intro w hSw; obtain ⟨x0, x1, x2, y0, y1, y2, z0, z1, z2⟩ := Lw3.cells hSw; go_simp; first | done | with_reducible rfl)); (try simp only [Act.put, List.setIfInBounds_toArray, List.set_cons_zero, List.set_cons_succ])
                refine wpAnyH_take (i := 3) (oi := ?o_2304) (v := ?v_2304) ?hi_2304 ?hs_2304 ?hf_2304 ?hr_2304 ?hQ_2304 ?hy_2304 ?hS_2304 ?rest_2304; (case hi_2304 => (simp only [List.getElem?_toArray, List.getElem?_cons_zero, List.getElem?_cons_succ]; rfl)); (case hs_2304 => kernel_rfl); (case hf_2304 => kernel_rfl); (case hr_2304 => kernel_rfl); (case hQ_2304 => exact fun _ _ _ h => h); (case hS_2304 => assumption); (case hy_2304 => (refine Or.inl ⟨by rfl, ?_⟩; intro w hSw; obtain ⟨x0, x1, x2, y0, y1, y2, z0, z1, z2⟩ := Lw3.cells hSw; go_simp; first | done | with_reducible rfl)); (try simp only [Act.put, List.setIfInBounds_toArray, List.set_cons_zero, List.set_cons_succ])
                refine wpAnyH_take (i := 4) (oi := ?o_2305) (v := ?v_2305) ?hi_2305 ?hs_2305 ?hf_2305 ?hr_2305 ?hQ_2305 ?hy_2305 ?hS_2305 ?rest_2305; (case hi_2305 => (simp only [List.getElem?_toArray, List.getElem?_cons_zero, List.getElem?_cons_succ]; rfl)); (case hs_2305 => kernel_rfl); (case hf_2305 => kernel_rfl); (case hr_2305 => kernel_rfl); (case hQ_2305 => exact fun _ _ _ h => h); (case hS_2305 => assumption); (case hy_2305 => (refine Or.inl ⟨by rfl, ?_⟩; intro w hSw; obtain ⟨x0, x1, x2, y0, y1, y2, z0, z1, z2⟩ := Lw3.cells hSw; go_simp; first | done | with_reducible rfl)); (try simp only [Act.put, List.setIfInBounds_toArray, List.set_cons_zero, List.set_cons_succ])
                refine wpAnyH_ready (rs := [5]) (by kernel_rfl) (by simp) ?_; refine AllReadyH.cons (o := ?o_2306) ?hi_2306 (fun K hK => ?_) AllReadyH.nil; (case hi_2306 => (simp only [List.getElem?_toArray, List.getElem?_cons_zero, List.getElem?_cons_succ]; rfl)); go_simp; (go_at_call 13; ((refine (RB.out _ HB1.out.l.gv).mono ?_); rintro e w_B2 ⟨rfl, hb⟩; have HB2 := Lib.hid (HB1.out.below hb); clear hb)); refine hK.out _ _ ?_ (fun hHeld => ?_); (· exact HB2.out); clear hK K; (try simp only [Act.put, List.setIfInBounds_toArray, List.set_cons_zero, List.set_cons_succ])
                refine wpAnyH_take (i := 6) (oi := ?o_2307) (v := ?v_2307) ?hi_2307 ?hs_2307 ?hf_2307 ?hr_2307 ?hQ_2307 ?hy_2307 ?hS_2307 ?rest_2307; (case hi_2307 => (simp only [List.getElem?_toArray, List.getElem?_cons_zero, List.getElem?_cons_succ]; rfl)); (case hs_2307 => kernel_rfl); (case hf_2307 => kernel_rfl); (case hr_2307 => kernel_rfl); (case hQ_2307 => exact fun _ _ _ h => h); (case hS_2307 => assumption); (case hy_2307 => (refine Or.inl ⟨by rfl, ?_⟩; intro w hSw; obtain ⟨x0, x1, x2, y0, y1, y2, z0, z1, z2⟩ := Lw3.cells hSw; go_simp; first | done | with_reducible rfl)); (try simp only [Act.put, List.setIfInBounds_toArray, List.set_cons_zero, List.set_cons_succ])
                refine wpAnyH_take (i := 7) (oi := ?o_2308) (v := ?v_2308) ?hi_2308 ?hs_2308 ?hf_2308 ?hr_2308 ?hQ_2308 ?hy_2308 ?hS_2308 ?rest_2308; (case hi_2308 => (simp only [List.getElem?_toArray, List.getElem?_cons_zero, List.getElem?_cons_succ]; rfl)); (case hs_2308 => kernel_rfl); (case hf_2308 => kernel_rfl); (case hr_2308 => kernel_rfl); (case hQ_2308 => exact fun _ _ _ h => h); (case hS_2308 => assumption); (case hy_2308 => (refine Or.inl ⟨by rfl, ?_⟩; intro w hSw; obtain ⟨x0, x1, x2, y0, y1, y2, z0, z1, z2⟩ := Lw3.cells hSw; go_simp; first | done | with_reducible rfl)); (try simp only [Act.put, List.setIfInBounds_toArray, List.set_cons_zero, List.set_cons_succ])
                refine wpAnyH_take (i := 8) (oi := ?o_2309) (v := ?v_2309) ?hi_2309 ?hs_2309 ?hf_2309 ?hr_2309 ?hQ_2309 ?hy_2309 ?hS_2309 ?rest_2309; (case hi_2309 => (simp only [List.getElem?_toArray, List.getElem?_cons_zero, List.getElem?_cons_succ]; rfl)); (case hs_2309 => kernel_rfl); (case hf_2309 => kernel_rfl); (case hr_2309 => kernel_rfl); (case hQ_2309 => exact fun _ _ _ h => h); (case hS_2309 => assumption); (case hy_2309 => (refine Or.inl ⟨by rfl, ?_⟩; intro w hSw; obtain ⟨x0, x1, x2, y0, y1, y2, z0, z1, z2⟩ := Lw3.cells hSw; go_simp; first | done | with_reducible rfl)); (try simp only [Act.put, List.setIfInBounds_toArray, List.set_cons_zero, List.set_cons_succ])
                refine wpAnyH_take (i := 9) (oi := ?o_2310) (v := undef) ?hi_2310 ?hs_2310 ?hf_2310 ?hr_2310 ?hQ_2310 ?hy_2310 ?hS_2310 ?rest_2310; (case hi_2310 => (simp only [List.getElem?_toArray, List.getElem?_cons_zero, List.getElem?_cons_succ]; rfl)); (case hs_2310 => kernel_rfl); (case hf_2310 => kernel_rfl); (case hr_2310 => kernel_rfl); (case hQ_2310 => exact fun _ _ _ h => h); (case hS_2310 => assumption); (case hy_2310 => exact Or.inr ⟨by rfl, rfl⟩); (try simp only [Act.put, List.setIfInBounds_toArray, List.set_cons_zero, List.set_cons_succ])
                refine wpAnyH_take (i := 10) (oi := ?o_2311) (v := undef) ?hi_2311 ?hs_2311 ?hf_2311 ?hr_2311 ?hQ_2311 ?hy_2311 ?hS_2311 ?rest_2311; (case hi_2311 => (simp only [List.getElem?_toArray, List.getElem?_cons_zero, List.getElem?_cons_succ]; rfl)); (case hs_2311 => kernel_rfl); (case hf_2311 => kernel_rfl); (case hr_2311 => kernel_rfl); (case hQ_2311 => exact fun _ _ _ h => h); (case hS_2311 => assumption); (case hy_2311 => exact Or.inr ⟨by rfl, rfl⟩); (try simp only [Act.put, List.setIfInBounds_toArray, List.set_cons_zero, List.set_cons_succ])
                refine wpAnyH_take (i := 11) (oi := ?o_2312) (v := undef) ?hi_2312 ?hs_2312 ?hf_2312 ?hr_2312 ?hQ_2312 ?hy_2312 ?hS_2312 ?rest_2312; (case hi_2312 => (simp only [List.getElem?_toArray, List.getElem?_cons_zero, List.getElem?_cons_succ]; rfl)); (case hs_2312 => kernel_rfl); (case hf_2312 => kernel_rfl); (case hr_2312 => kernel_rfl); (case hQ_2312 => exact fun _ _ _ h => h); (case hS_2312 => assumption); (case hy_2312 => exact Or.inr ⟨by rfl, rfl⟩); (try simp only [Act.put, List.setIfInBounds_toArray, List.set_cons_zero, List.set_cons_succ])
                refine wpAnyH_take (i := 12) (oi := ?o_2313) (v := undef) ?hi_2313 ?hs_2313 ?hf_2313 ?hr_2313 ?hQ_2313 ?hy_2313 ?hS_2313 ?rest_2313; (case hi_2313 => (simp only [List.getElem?_toArray, List.getElem?_cons_zero, List.getElem?_cons_succ]; rfl)); (case hs_2313 => kernel_rfl); (case hf_2313 => kernel_rfl); (case hr_2313 => kernel_rfl); (case hQ_2313 => exact fun _ _ _ h => h); (case hS_2313 => assumption); (case hy_2313 => exact Or.inr ⟨by rfl, rfl⟩); (try simp only [Act.put, List.setIfInBounds_toArray, List.set_cons_zero, List.set_cons_succ])
                refine wpAnyH_take (i := 13) (oi := ?o_2314) (v := undef) ?hi_2314 ?hs_2314 ?hf_2314 ?hr_2314 ?hQ_2314 ?hy_2314 ?hS_2314 ?rest_2314; (case hi_2314 => (simp only [List.getElem?_toArray, List.getElem?_cons_zero, List.getElem?_cons_succ]; rfl)); (case hs_2314 => kernel_rfl); (case hf_2314 => kernel_rfl); (case hr_2314 => kernel_rfl); (case hQ_2314 => exact fun _ _ _ h => h); (case hS_2314 => assumption); (case hy_2314 => exact Or.inr ⟨by rfl, rfl⟩); (try simp only [Act.put, List.setIfInBounds_toArray, List.set_cons_zero, List.set_cons_succ])
                refine wpAnyH_take (i := 14) (oi := ?o_2315) (v := undef) ?hi_2315 ?hs_2315 ?hf_2315 ?hr_2315 ?hQ_2315 ?hy_2315 ?hS_2315 ?rest_2315; (case hi_2315 => (simp only [List.getElem?_toArray, List.getElem?_cons_zero, List.getElem?_cons_succ]; rfl)); (case hs_2315 => kernel_rfl); (case hf_2315 => kernel_rfl); (case hr_2315 => kernel_rfl); (case hQ_2315 => exact fun _ _ _ h => h); (case hS_2315 => assumption); (case hy_2315 => exact Or.inr ⟨by rfl, rfl⟩); (try simp only [Act.put, List.setIfInBounds_toArray, List.set_cons_zero, List.set_cons_succ])
                refine wpAnyH_take (i := 15) (oi := ?o_2316) (v := undef) ?hi_2316 ?hs_2316 ?hf_2316 ?hr_2316 ?hQ_2316 ?hy_2316 ?hS_2316 ?rest_2316; (case hi_2316 => (simp only [List.getElem?_toArray, List.getElem?_cons_zero, List.getElem?_cons_succ]; rfl)); (case hs_2316 => kernel_rfl); (case hf_2316 => kernel_rfl); (case hr_2316 => kernel_rfl); (case hQ_2316 => exact fun _ _ _ h => h); (case hS_2316 => assumption); (case hy_2316 => exact Or.inr ⟨by rfl, rfl⟩); (try simp only [Act.put, List.setIfInBounds_toArray, List.set_cons_zero, List.set_cons_succ])
                refine wpAnyH_take (i := 16) (oi := ?o_2317) (v := undef) ?hi_2317 ?hs_2317 ?hf_2317 ?hr_2317 ?hQ_2317 ?hy_2317 ?hS_2317 ?rest_2317; (case hi_2317 => (simp only [List.getElem?_toArray, List.getElem?_cons_zero, List.getElem?_cons_succ]; rfl)); (case hs_2317 => kernel_rfl); (case hf_2317 => kernel_rfl); (case hr_2317 => kernel_rfl); (case hQ_2317 => exact fun _ _ _ h => h); (case hS_2317 => assumption); (case hy_2317 => exact Or.inr ⟨by rfl, rfl⟩); (try simp only [Act.put, List.setIfInBounds_toArray, List.set_cons_zero, List.set_cons_succ])
                refine wpAnyH_take (i := 17) (oi := ?o_2318) (v := ?v_2318) ?hi_2318 ?hs_2318 ?hf_2318 ?hr_2318 ?hQ_2318 ?hy_2318 ?hS_2318 ?rest_2318; (case hi_2318 => (simp only [List.getElem?_toArray, List.getElem?_cons_zero, List.getElem?_cons_succ]; rfl)); (case hs_2318 => kernel_rfl); (case hf_2318 => kernel_rfl); (case hr_2318 => kernel_rfl); (case hQ_2318 => exact fun _ _ _ h => h); (case hS_2318 => assumption); (case hy_2318 => (refine Or.inl ⟨by rfl, ?_⟩; intro w hSw; obtain ⟨x0, x1, x2, y0, y1, y2, z0, z1, z2⟩ := Lw3.cells hSw; go_simp; first | done | with_reducible rfl)); (try simp only [Act.put, List.setIfInBounds_toArray, List.set_cons_zero, List.set_cons_succ])
                refine wpAnyH_take (i := 18) (oi := ?o_2319) (v := ?v_2319) ?hi_2319 ?hs_2319 ?hf_2319 ?hr_2319 ?hQ_2319 ?hy_2319 ?hS_2319 ?rest_2319; (case hi_2319 => (simp only [List.getElem?_toArray, List.getElem?_cons_zero, List.getElem?_cons_succ]; rfl)); (case hs_2319 => kernel_rfl); (case hf_2319 => kernel_rfl); (case hr_2319 => kernel_rfl); (case hQ_2319 => exact fun _ _ _ h => h); (case hS_2319 => assumption); (case hy_2319 => (refine Or.inl ⟨by rfl, ?_⟩; intro w hSw; obtain ⟨x0, x1, x2, y0, y1, y2, z0, z1, z2⟩ := Lw3.cells hSw; go_simp; first | done | with_reducible rfl)); (try simp only [Act.put, List.setIfInBounds_toArray, List.set_cons_zero, List.set_cons_succ])
                refine wpAnyH_done (by kernel_rfl) ?_ _
                go_wp2
                go_ret
                exact ⟨rfl, HB2.out.l.bel⟩
              | true =>
                have hE := HS.out rfl rfl
                obtain ⟨re, hre⟩ : ∃ re, decide (ka = kb ∧ na = nb ∧ sa.toList = sb.toList) = re := ⟨_, rfl⟩
                rw [hre] at hE
                have HE := Lib.hid hre
                clear hre HS
                refine wp_region_held_drew (S := fun X => Lw3 w X ka na sa kb nb sb kc nc sc) (by kernel_rfl) HB0.out (fun hHeld => ?_)
                refine wpAnyH_take (i := 0) (oi := ?o_2601) (v := ?v_2601) ?hi_2601 ?hs_2601 ?hf_2601 ?hr_2601 ?hQ_2601 ?hy_2601 ?hS_2601 ?rest_2601; (case hi_2601 => (simp only [List.getElem?_toArray, List.getElem?_cons_zero, List.getElem?_cons_succ]; rfl)); (case hs_2601 => kernel_rfl); (case hf_2601 => kernel_rfl); (case hr_2601 => kernel_rfl); (case hQ_2601 => exact fun _ _ _ h => h); (case hS_2601 => assumption); (case hy_2601 => (refine Or.inl ⟨by rfl, ?_⟩; intro w hSw; obtain ⟨x0, x1, x2, y0, y1, y2, z0, z1, z2⟩ := Lw3.cells hSw; go_simp; first | done | with_reducible rfl)); (try simp only [Act.put, List.setIfInBounds_toArray, List.set_cons_zero, List.set_cons_succ])
                refine wpAnyH_ready (rs := [1]) (by kernel_rfl) (by simp) ?_; refine AllReadyH.cons (o := ?o_2602) ?hi_2602 (fun K hK => ?_) AllReadyH.nil; (case hi_2602 => (simp only [List.getElem?_toArray, List.getElem?_cons_zero, List.getElem?_cons_succ]; rfl)); go_simp; (go_at_call 13; ((refine (RA.out _ HB0.out.l.gv).mono ?_); rintro e w_B1 ⟨rfl, hb⟩; have HB1 := Lib.hid (HB0.out.below hb); clear hb)); refine hK.out _ _ ?_ (fun hHeld => ?_); (· exact HB1.out); clear hK K; (try simp only [Act.put, List.setIfInBounds_toArray, List.set_cons_zero, List.set_cons_succ])
                refine wpAnyH_take (i := 2) (oi := ?o_2603) (v := ?v_2603) ?hi_2603 ?hs_2603 ?hf_2603 ?hr_2603 ?hQ_2603 ?hy_2603 ?hS_2603 ?rest_2603; (case hi_2603 => (simp only [List.getElem?_toArray, List.getElem?_cons_zero, List.getElem?_cons_succ]; rfl)); (case hs_2603 => kernel_rfl); (case hf_2603 => kernel_rfl); (case hr_2603 => kernel_rfl); (case hQ_2603 => exact fun _ _ _ h => h); (case hS_2603 => assumption); (case hy_2603 => (refine Or.inl ⟨by rfl, ?_⟩; intro w hSw; obtain ⟨x0, x1, x2, y0, y1, y2, z0, z1, z2⟩ := Lw3.cells hSw; go_simp; first | done | with_reducible rfl)); (try simp only [Act.put, List.setIfInBounds_toArray, List.set_cons_zero, List.set_cons_succ])
                refine wpAnyH_take (i := 3) (oi := ?o_2604) (v := ?v_2604) ?hi_2604 ?hs_2604 ?hf_2604 ?hr_2604 ?hQ_2604 ?hy_2604 ?hS_2604 ?rest_2604; (case hi_2604 => (simp only [List.getElem?_toArray, List.getElem?_cons_zero, List.getElem?_cons_succ]; rfl)); (case hs_2604 => kernel_rfl); (case hf_2604 => kernel_rfl); (case hr_2604 => kernel_rfl); (case hQ_2604 => exact fun _ _ _ h => h); (case hS_2604 => assumption); (case hy_2604 => (refine Or.inl ⟨by rfl, ?_⟩; intro w hSw; obtain ⟨x0, x1, x2, y0, y1, y2, z0, z1, z2⟩ := Lw3.cells hSw; go_simp; first | done | with_reducible rfl)); (try simp only [Act.put, List.setIfInBounds_toArray, List.set_cons_zero, List.set_cons_succ])
                refine wpAnyH_take (i := 4) (oi := ?o_2605) (v := ?v_2605) ?hi_2605 ?hs_2605 ?hf_2605 ?hr_2605 ?hQ_2605 ?hy_2605 ?hS_2605 ?rest_2605; (case hi_2605 => (simp only [List.getElem?_toArray, List.getElem?_cons_zero, List.getElem?_cons_succ]; rfl)); (case hs_2605 => kernel_rfl); (case hf_2605 => kernel_rfl); (case hr_2605 => kernel_rfl); (case hQ_2605 => exact fun _ _ _ h => h); (case hS_2605 => assumption); (case hy_2605 => (refine Or.inl ⟨by rfl, ?_⟩; intro w hSw; obtain ⟨x0, x1, x2, y0, y1, y2, z0, z1, z2⟩ := Lw3.cells hSw; go_simp; first | done | with_reducible rfl)); (try simp only [Act.put, List.setIfInBounds_toArray, List.set_cons_zero, List.set_cons_succ])
                refine wpAnyH_ready (rs := [5]) (by kernel_rfl) (by simp) ?_; refine AllReadyH.cons (o := ?o_2606) ?hi_2606 (fun K hK => ?_) AllReadyH.nil; (case hi_2606 => (simp only [List.getElem?_toArray, List.getElem?_cons_zero, List.getElem?_cons_succ]; rfl)); go_simp; (go_at_call 13; ((refine (RB.out _ HB1.out.l.gv).mono ?_); rintro e w_B2 ⟨rfl, hb⟩; have HB2 := Lib.hid (HB1.out.below hb); clear hb)); refine hK.out _ _ ?_ (fun hHeld => ?_); (· exact HB2.out); clear hK K; (try simp only [Act.put, List.setIfInBounds_toArray, List.set_cons_zero, List.set_cons_succ])
                refine wpAnyH_take (i := 6) (oi := ?o_2607) (v := ?v_2607) ?hi_2607 ?hs_2607 ?hf_2607 ?hr_2607 ?hQ_2607 ?hy_2607 ?hS_2607 ?rest_2607; (case hi_2607 => (simp only [List.getElem?_toArray, List.getElem?_cons_zero, List.getElem?_cons_succ]; rfl)); (case hs_2607 => kernel_rfl); (case hf_2607 => kernel_rfl); (case hr_2607 => kernel_rfl); (case hQ_2607 => exact fun _ _ _ h => h); (case hS_2607 => assumption); (case hy_2607 => (refine Or.inl ⟨by rfl, ?_⟩; intro w hSw; obtain ⟨x0, x1, x2, y0, y1, y2, z0, z1, z2⟩ := Lw3.cells hSw; go_simp; first | done | with_reducible rfl)); (try simp only [Act.put, List.setIfInBounds_toArray, List.set_cons_zero, List.set_cons_succ])
                refine wpAnyH_take (i := 7) (oi := ?o_2608) (v := ?v_2608) ?hi_2608 ?hs_2608 ?hf_2608 ?hr_2608 ?hQ_2608 ?hy_2608 ?hS_2608 ?rest_2608; (case hi_2608 => (simp only [List.getElem?_toArray, List.getElem?_cons_zero, List.getElem?_cons_succ]; rfl)); (case hs_2608 => kernel_rfl); (case hf_2608 => kernel_rfl); (case hr_2608 => kernel_rfl); (case hQ_2608 => exact fun _ _ _ h => h); (case hS_2608 => assumption); (case hy_2608 => (refine Or.inl ⟨by rfl, ?_⟩; intro w hSw; obtain ⟨x0, x1, x2, y0, y1, y2, z0, z1, z2⟩ := Lw3.cells hSw; go_simp; first | done | with_reducible rfl)); (try simp only [Act.put, List.setIfInBounds_toArray, List.set_cons_zero, List.set_cons_succ])
                refine wpAnyH_take (i := 8) (oi := ?o_2609) (v := ?v_2609) ?hi_2609 ?hs_2609 ?hf_2609 ?hr_2609 ?hQ_2609 ?hy_2609 ?hS_2609 ?rest_2609; (case hi_2609 => (simp only [List.getElem?_toArray, List.getElem?_cons_zero, List.getElem?_cons_succ]; rfl)); (case hs_2609 => kernel_rfl); (case hf_2609 => kernel_rfl); (case hr_2609 => kernel_rfl); (case hQ_2609 => exact fun _ _ _ h => h); (case hS_2609 => assumption); (case hy_2609 => (refine Or.inl ⟨by rfl, ?_⟩; intro w hSw; obtain ⟨x0, x1, x2, y0, y1, y2, z0, z1, z2⟩ := Lw3.cells hSw; go_simp; first | done | with_reducible rfl)); (try simp only [Act.put, List.setIfInBounds_toArray, List.set_cons_zero, List.set_cons_succ])
                refine wpAnyH_take (i := 9) (oi := ?o_2610) (v := ?v_2610) ?hi_2610 ?hs_2610 ?hf_2610 ?hr_2610 ?hQ_2610 ?hy_2610 ?hS_2610 ?rest_2610; (case hi_2610 => (simp only [List.getElem?_toArray, List.getElem?_cons_zero, List.getElem?_cons_succ]; rfl)); (case hs_2610 => kernel_rfl); (case hf_2610 => kernel_rfl); (case hr_2610 => kernel_rfl); (case hQ_2610 => exact fun _ _ _ h => h); (case hS_2610 => assumption); (case hy_2610 => (refine Or.inl ⟨by rfl, ?_⟩; intro w hSw; obtain ⟨x0, x1, x2, y0, y1, y2, z0, z1, z2⟩ := Lw3.cells hSw; go_simp; first | done | with_reducible rfl)); (try simp only [Act.put, List.setIfInBounds_toArray, List.set_cons_zero, List.set_cons_succ])
                refine wpAnyH_take (i := 10) (oi := ?o_2611) (v := ?v_2611) ?hi_2611 ?hs_2611 ?hf_2611 ?hr_2611 ?hQ_2611 ?hy_2611 ?hS_2611 ?rest_2611; (case hi_2611 => (simp only [List.getElem?_toArray, List.getElem?_cons_zero, List.getElem?_cons_succ]; rfl)); (case hs_2611 => kernel_rfl); (case hf_2611 => kernel_rfl); (case hr_2611 => kernel_rfl); (case hQ_2611 => exact fun _ _ _ h => h); (case hS_2611 => assumption); (case hy_2611 => (refine Or.inl ⟨by rfl, ?_⟩; intro w hSw; obtain ⟨x0, x1, x2, y0, y1, y2, z0, z1, z2⟩ := Lw3.cells hSw; go_simp; first | done | with_reducible rfl)); (try simp only [Act.put, List.setIfInBounds_toArray, List.set_cons_zero, List.set_cons_succ])
                refine wpAnyH_take (i := 13) (oi := ?o_2612) (v := ?v_2612) ?hi_2612 ?hs_2612 ?hf_2612 ?hr_2612 ?hQ_2612 ?hy_2612 ?hS_2612 ?rest_2612; (case hi_2612 => (simp only [List.getElem?_toArray, List.getElem?_cons_zero, List.getElem?_cons_succ]; rfl)); (case hs_2612 => kernel_rfl); (case hf_2612 => kernel_rfl); (case hr_2612 => kernel_rfl); (case hQ_2612 => exact fun _ _ _ h => h); (case hS_2612 => assumption); (case hy_2612 => (refine Or.inl ⟨by rfl, ?_⟩; intro w hSw; obtain ⟨x0, x1, x2, y0, y1, y2, z0, z1, z2⟩ := Lw3.cells hSw; go_simp; first | done | with_reducible rfl)); (try simp only [Act.put, List.setIfInBounds_toArray, List.set_cons_zero, List.set_cons_succ])
                refine wpAnyH_take (i := 14) (oi := ?o_2613) (v := ?v_2613) ?hi_2613 ?hs_2613 ?hf_2613 ?hr_2613 ?hQ_2613 ?hy_2613 ?hS_2613 ?rest_2613; (case hi_2613 => (simp only [List.getElem?_toArray, List.getElem?_cons_zero, List.getElem?_cons_succ]; rfl)); (case hs_2613 => kernel_rfl); (case hf_2613 => kernel_rfl); (case hr_2613 => kernel_rfl); (case hQ_2613 => exact fun _ _ _ h => h); (case hS_2613 => assumption); (case hy_2613 => (refine Or.inl ⟨by rfl, ?_⟩; intro w hSw; obtain ⟨x0, x1, x2, y0, y1, y2, z0, z1, z2⟩ := Lw3.cells hSw; go_simp; first | done | with_reducible rfl)); (try simp only [Act.put, List.setIfInBounds_toArray, List.set_cons_zero, List.set_cons_succ])
                refine wpAnyH_take (i := 15) (oi := ?o_2614) (v := ?v_2614) ?hi_2614 ?hs_2614 ?hf_2614 ?hr_2614 ?hQ_2614 ?hy_2614 ?hS_2614 ?rest_2614; (case hi_2614 => (simp only [List.getElem?_toArray, List.getElem?_cons_zero, List.getElem?_cons_succ]; rfl)); (case hs_2614 => kernel_rfl); (case hf_2614 => kernel_rfl); (case hr_2614 => kernel_rfl); (case hQ_2614 => exact fun _ _ _ h => h); (case hS_2614 => assumption); (case hy_2614 => (refine Or.inl ⟨by rfl, ?_⟩; intro w hSw; obtain ⟨x0, x1, x2, y0, y1, y2, z0, z1, z2⟩ := Lw3.cells hSw; go_simp; exact ite3 HE.out _)); (try simp only [Act.put, List.setIfInBounds_toArray, List.set_cons_zero, List.set_cons_succ])
                refine wpAnyH_ready (rs := [11]) (by kernel_rfl) (by simp) ?_; refine AllReadyH.cons (o := ?o_2615) ?hi_2615 (fun K hK => ?_) AllReadyH.nil; (case hi_2615 => (simp only [List.getElem?_toArray, List.getElem?_cons_zero, List.getElem?_cons_succ]; rfl)); go_simp; (go_at_call 15; ((refine (CAB.out _).mono ?_); rintro e w_B3 ⟨rfl, hb⟩; have HB3 := Lib.hid (HB2.out.below hb); clear hb)); refine hK.out _ _ ?_ (fun hHeld => ?_); (· exact HB3.out); clear hK K; (try simp only [Act.put, List.setIfInBounds_toArray, List.set_cons_zero, List.set_cons_succ])
                refine wpAnyH_take (i := 12) (oi := ?o_2616) (v := ?v_2616) ?hi_2616 ?hs_2616 ?hf_2616 ?hr_2616 ?hQ_2616 ?hy_2616 ?hS_2616 ?rest_2616; (case hi_2616 => (simp only [List.getElem?_toArray, List.getElem?_cons_zero, List.getElem?_cons_succ]; rfl)); (case hs_2616 => kernel_rfl); (case hf_2616 => kernel_rfl); (case hr_2616 => kernel_rfl); (case hQ_2616 => exact fun _ _ _ h => h); (case hS_2616 => assumption); (case hy_2616 => (refine Or.inl ⟨by rfl, ?_⟩; intro w hSw; obtain ⟨x0, x1, x2, y0, y1, y2, z0, z1, z2⟩ := Lw3.cells hSw; go_simp; first | done | with_reducible rfl)); (try simp only [Act.put, List.setIfInBounds_toArray, List.set_cons_zero, List.set_cons_succ])
                refine wpAnyH_take (i := 16) (oi := ?o_2617) (v := ?v_2617) ?hi_2617 ?hs_2617 ?hf_2617 ?hr_2617 ?hQ_2617 ?hy_2617 ?hS_2617 ?rest_2617; (case hi_2617 => (simp only [List.getElem?_toArray, List.getElem?_cons_zero, List.getElem?_cons_succ]; rfl)); (case hs_2617 => kernel_rfl); (case hf_2617 => kernel_rfl); (case hr_2617 => kernel_rfl); (case hQ_2617 => exact fun _ _ _ h => h); (case hS_2617 => assumption); (case hy_2617 => (refine Or.inl ⟨by rfl, ?_⟩; intro w hSw; obtain ⟨x0, x1, x2, y0, y1, y2, z0, z1, z2⟩ := Lw3.cells hSw; go_simp; first | done | with_reducible rfl)); (try simp only [Act.put, List.setIfInBounds_toArray, List.set_cons_zero, List.set_cons_succ])
                refine wpAnyH_take (i := 17) (oi := ?o_2618) (v := ?v_2618) ?hi_2618 ?hs_2618 ?hf_2618 ?hr_2618 ?hQ_2618 ?hy_2618 ?hS_2618 ?rest_2618; (case hi_2618 => (simp only [List.getElem?_toArray, List.getElem?_cons_zero, List.getElem?_cons_succ]; rfl)); (case hs_2618 => kernel_rfl); (case hf_2618 => kernel_rfl); (case hr_2618 => kernel_rfl); (case hQ_2618 => exact fun _ _ _ h => h); (case hS_2618 => assumption); (case hy_2618 => (refine Or.inl ⟨by rfl, ?_⟩; intro w hSw; obtain ⟨x0, x1, x2, y0, y1, y2, z0, z1, z2⟩ := Lw3.cells hSw; go_simp; first | done | with_reducible rfl)); (try simp only [Act.put, List.setIfInBounds_toArray, List.set_cons_zero, List.set_cons_succ])
                refine wpAnyH_take (i := 18) (oi := ?o_2619) (v := ?v_2619) ?hi_2619 ?hs_2619 ?hf_2619 ?hr_2619 ?hQ_2619 ?hy_2619 ?hS_2619 ?rest_2619; (case hi_2619 => (simp only [List.getElem?_toArray, List.getElem?_cons_zero, List.getElem?_cons_succ]; rfl)); (case hs_2619 => kernel_rfl); (case hf_2619 => kernel_rfl); (case hr_2619 => kernel_rfl); (case hQ_2619 => exact fun _ _ _ h => h); (case hS_2619 => assumption); (case hy_2619 => (refine Or.inl ⟨by rfl, ?_⟩; intro w hSw; obtain ⟨x0, x1, x2, y0, y1, y2, z0, z1, z2⟩ := Lw3.cells hSw; go_simp; first | done | with_reducible rfl)); (try simp only [Act.put, List.setIfInBounds_toArray, List.set_cons_zero, List.set_cons_succ])
                refine wpAnyH_done (by kernel_rfl) ?_ _
                go_wp2
                go_ret
                exact ⟨rfl, HB3.out.l.bel⟩
        · have t1 : decide (q1 ≤ 0) = false := decide_eq_false c1
          clear c1 hpost
          obtain ⟨x0, x1, x2, y0, y1, y2, z0, z1, z2⟩ := HL9.out.cells
          go_wp2_with fail
          refine (CAB.out _).mono ?_
          rintro e w10 ⟨rfl, hb⟩
          have HL10 := Lib.hid (HL9.out.below hb)
          clear hb HL9 x0 x1 x2 y0 y1 y2 z0 z1 z2
          obtain ⟨x0, x1, x2, y0, y1, y2, z0, z1, z2⟩ := HL10.out.cells
          go_wp2_with fail
          have HB0 := Lib.hid HL10.out.drew
          cases ra with
          | false =>
            refine wp_region_held_drew (S := fun X => Lw3 w X ka na sa kb nb sb kc nc sc) (by kernel_rfl) HB0.out (fun hHeld => ?_)
            refine wpAnyH_take (i := 0) (oi := ?o_3001) (v := ?v_3001) ?hi_3001 ?hs_3001 ?hf_3001 ?hr_3001 ?hQ_3001 ?hy_3001 ?hS_3001 ?rest_3001; (case hi_3001 => (simp only [List.getElem?_toArray, List.getElem?_cons_zero, List.getElem?_cons_succ]; rfl)); (case hs_3001 => kernel_rfl); (case hf_3001 => kernel_rfl); (case hr_3001 => kernel_rfl); (case hQ_3001 => exact fun _ _ _ h => h); (case hS_3001 => assumption); (case hy_3001 => (refine Or.inl ⟨by rfl, ?_⟩; intro w hSw; obtain ⟨x0, x1, x2, y0, y1, y2, z0, z1, z2⟩ := Lw3.cells hSw; go_simp; first | done | with_reducible rfl)); (try simp only [Act.put, List.setIfInBounds_toArray, List.set_cons_zero, List.set_cons_succ])
            refine wpAnyH_ready (rs := [1]) (by kernel_rfl) (by simp) ?_; refine AllReadyH.cons (o := ?o_3002) ?hi_3002 (fun K hK => ?_) AllReadyH.nil; (case hi_3002 => (simp only [List.getElem?_toArray, List.getElem?_cons_zero, List.getElem?_cons_succ]; rfl)); go_simp; (go_at_call 13; ((refine (RA.out _ HB0.out.l.gv).mono ?_); rintro e w_B1 ⟨rfl, hb⟩; have HB1 := Lib.hid (HB0.out.below hb); clear hb)); refine hK.out _ _ ?_ (fun hHeld => ?_); (· exact HB1.out); clear hK K; (try simp only [Act.put, List.setIfInBounds_toArray, List.set_cons_zero, List.set_cons_succ])
            refine wpAnyH_take (i := 2) (oi := ?o_3003) (v := ?v_3003) ?hi_3003 ?hs_3003 ?hf_3003 ?hr_3003 ?hQ_3003 ?hy_3003 ?hS_3003 ?rest_3003; (case hi_3003 => (simp only [List.getElem?_toArray, List.getElem?_cons_zero, List.getElem?_cons_succ]; rfl)); (case hs_3003 => kernel_rfl); (case hf_3003 => kernel_rfl); (case hr_3003 => kernel_rfl); (case hQ_3003 => exact fun _ _ _ h => h); (case hS_3003 => assumption); (case hy_3003 => (refine Or.inl ⟨by rfl, ?_⟩; intro w hSw; obtain ⟨x0, x1, x2, y0, y1, y2, z0, z1, z2⟩ := Lw3.cells hSw; go_simp; first | done | with_reducible rfl)); (try simp only [Act.put, List.setIfInBounds_toArray, List.set_cons_zero, List.set_cons_succ])
            refine wpAnyH_take (i := 3) (oi := ?o_3004) (v := ?v_3004) ?hi_3004 ?hs_3004 ?hf_3004 ?hr_3004 ?hQ_3004 ?hy_3004 ?hS_3004 ?rest_3004; (case hi_3004 => (simp only [List.getElem?_toArray, List.getElem?_cons_zero, List.getElem?_cons_succ]; rfl)); (case hs_3004 => kernel_rfl); (case hf_3004 => kernel_rfl); (case hr_3004 => kernel_rfl); (case hQ_3004 => exact fun _ _ _ h => h); (case hS_3004 => assumption); (case hy_3004 => (refine Or.inl ⟨by rfl, ?_⟩; intro w hSw; obtain ⟨x0, x1, x2, y0, y1, y2, z0, z1, z2⟩ := Lw3.cells hSw; go_simp; first | done | with_reducible rfl)); (try simp only [Act.put, List.setIfInBounds_toArray, List.set_cons_zero, List.set_cons_succ])
            refine wpAnyH_take (i := 4) (oi := ?o_3005) (v := undef) ?hi_3005 ?hs_3005 ?hf_3005 ?hr_3005 ?hQ_3005 ?hy_3005 ?hS_3005 ?rest_3005; (case hi_3005 => (simp only [List.getElem?_toArray, List.getElem?_cons_zero, List.getElem?_cons_succ]; rfl)); (case hs_3005 => kernel_rfl); (case hf_3005 => kernel_rfl); (case hr_3005 => kernel_rfl); (case hQ_3005 => exact fun _ _ _ h => h); (case hS_3005 => assumption); (case hy_3005 => exact Or.inr ⟨by rfl, rfl⟩); (try simp only [Act.put, List.setIfInBounds_toArray, List.set_cons_zero, List.set_cons_succ])
            refine wpAnyH_take (i := 5) (oi := ?o_3006) (v := undef) ?hi_3006 ?hs_3006 ?hf_3006 ?hr_3006 ?hQ_3006 ?hy_3006 ?hS_3006 ?rest_3006; (case hi_3006 => (simp only [List.getElem?_toArray, List.getElem?_cons_zero, List.getElem?_cons_succ]; rfl)); (case hs_3006 => kernel_rfl); (case hf_3006 => kernel_rfl); (case hr_3006 => kernel_rfl); (case hQ_3006 => exact fun _ _ _ h => h); (case hS_3006 => assumption); (case hy_3006 => exact Or.inr ⟨by rfl, rfl⟩); (try simp only [Act.put, List.setIfInBounds_toArray, List.set_cons_zero, List.set_cons_succ])
            refine wpAnyH_take (i := 6) (oi := ?o_3007) (v := undef) ?hi_3007 ?hs_3007 ?hf_3007 ?hr_3007 ?hQ_3007 ?hy_3007 ?hS_3007 ?rest_3007; (case hi_3007 => (simp only [List.getElem?_toArray, List.getElem?_cons_zero, List.getElem?_cons_succ]; rfl)); (case hs_3007 => kernel_rfl); (case hf_3007 => kernel_rfl); (case hr_3007 => kernel_rfl); (case hQ_3007 => exact fun _ _ _ h => h); (case hS_3007 => assumption); (case hy_3007 => exact Or.inr ⟨by rfl, rfl⟩); (try simp only [Act.put, List.setIfInBounds_toArray, List.set_cons_zero, List.set_cons_succ])
            refine wpAnyH_take (i := 7) (oi := ?o_3008) (v := ?v_3008) ?hi_3008 ?hs_3008 ?hf_3008 ?hr_3008 ?hQ_3008 ?hy_3008 ?hS_3008 ?rest_3008; (case hi_3008 => (simp only [List.getElem?_toArray, List.getElem?_cons_zero, List.getElem?_cons_succ]; rfl)); (case hs_3008 => kernel_rfl); (case hf_3008 => kernel_rfl); (case hr_3008 => kernel_rfl); (case hQ_3008 => exact fun _ _ _ h => h); (case hS_3008 => assumption); (case hy_3008 => (refine Or.inl ⟨by rfl, ?_⟩; intro w hSw; obtain ⟨x0, x1, x2, y0, y1, y2, z0, z1, z2⟩ := Lw3.cells hSw; go_simp; first | done | with_reducible rfl)); (try simp only [Act.put, List.setIfInBounds_toArray, List.set_cons_zero, List.set_cons_succ])
            refine wpAnyH_take (i := 8) (oi := ?o_3009) (v := ?v_3009) ?hi_3009 ?hs_3009 ?hf_3009 ?hr_3009 ?hQ_3009 ?hy_3009 ?hS_3009 ?rest_3009; (case hi_3009 => (simp only [List.getElem?_toArray, List.getElem?_cons_zero, List.getElem?_cons_succ]; rfl)); (case hs_3009 => kernel_rfl); (case hf_3009 => kernel_rfl); (case hr_3009 => kernel_rfl); (case hQ_3009 => exact fun _ _ _ h => h); (case hS_3009 => assumption); (case hy_3009 => (refine Or.inl ⟨by rfl, ?_⟩; intro w hSw; obtain ⟨x0, x1, x2, y0, y1, y2, z0, z1, z2⟩ := Lw3.cells hSw; go_simp; first | done | with_reducible rfl)); (try simp only [Act.put, List.setIfInBounds_toArray, List.set_cons_zero, List.set_cons_succ])
            refine wpAnyH_take (i := 9) (oi := ?o_3010) (v := undef) ?hi_3010 ?hs_3010 ?hf_3010 ?hr_3010 ?hQ_3010 ?hy_3010 ?hS_3010 ?rest_3010; (case hi_3010 => (simp only [List.getElem?_toArray, List.getElem?_cons_zero, List.getElem?_cons_succ]; rfl)); (case hs_3010 => kernel_rfl); (case hf_3010 => kernel_rfl); (case hr_3010 => kernel_rfl); (case hQ_3010 => exact fun _ _ _ h => h); (case hS_3010 => assumption); (case hy_3010 => exact Or.inr ⟨by rfl, rfl⟩); (try simp only [Act.put, List.setIfInBounds_toArray, List.set_cons_zero, List.set_cons_succ])
            refine wpAnyH_take (i := 10) (oi := ?o_3011) (v := undef) ?hi_3011 ?hs_3011 ?hf_3011 ?hr_3011 ?hQ_3011 ?hy_3011 ?hS_3011 ?rest_3011; (case hi_3011 => (simp only [List.getElem?_toArray, List.getElem?_cons_zero, List.getElem?_cons_succ]; rfl)); (case hs_3011 => kernel_rfl); (case hf_3011 => kernel_rfl); (case hr_3011 => kernel_rfl); (case hQ_3011 => exact fun _ _ _ h => h); (case hS_3011 => assumption); (case hy_3011 => exact Or.inr ⟨by rfl, rfl⟩); (try simp only [Act.put, List.setIfInBounds_toArray, List.set_cons_zero, List.set_cons_succ])
            refine wpAnyH_take (i := 11) (oi := ?o_3012) (v := undef) ?hi_3012 ?hs_3012 ?hf_3012 ?hr_3012 ?hQ_3012 ?hy_3012 ?hS_3012 ?rest_3012; (case hi_3012 => (simp only [List.getElem?_toArray, List.getElem?_cons_zero, List.getElem?_cons_succ]; rfl)); (case hs_3012 => kernel_rfl); (case hf_3012 => kernel_rfl); (case hr_3012 => kernel_rfl); (case hQ_3012 => exact fun _ _ _ h => h); (case hS_3012 => assumption); (case hy_3012 => exact Or.inr ⟨by rfl, rfl⟩); (try simp only [Act.put, List.setIfInBounds_toArray, List.set_cons_zero, List.set_cons_succ])
            refine wpAnyH_take (i := 12) (oi := ?o_3013) (v := undef) ?hi_3013 ?hs_3013 ?hf_3013 ?hr_3013 ?hQ_3013 ?hy_3013 ?hS_3013 ?rest_3013; (case hi_3013 => (simp only [List.getElem?_toArray, List.getElem?_cons_zero, List.getElem?_cons_succ]; rfl)); (case hs_3013 => kernel_rfl); (case hf_3013 => kernel_rfl); (case hr_3013 => kernel_rfl); (case hQ_3013 => exact fun _ _ _ h => h); (case hS_3013 => assumption); (case hy_3013 => exact Or.inr ⟨by rfl, rfl⟩); (try simp only [Act.put, List.setIfInBounds_toArray, List.set_cons_zero, List.set_cons_succ])
            refine wpAnyH_take (i := 13) (oi := ?o_3014) (v := undef) ?hi_3014 ?hs_3014 ?hf_3014 ?hr_3014 ?hQ_3014 ?hy_3014 ?hS_3014 ?rest_3014; (case hi_3014 => (simp only [List.getElem?_toArray, List.getElem?_cons_zero, List.getElem?_cons_succ]; rfl)); (case hs_3014 => kernel_rfl); (case hf_3014 => kernel_rfl); (case hr_3014 => kernel_rfl); (case hQ_3014 => exact fun _ _ _ h => h); (case hS_3014 => assumption); (case hy_3014 => exact Or.inr ⟨by rfl, rfl⟩); (try simp only [Act.put, List.setIfInBounds_toArray, List.set_cons_zero, List.set_cons_succ])
            refine wpAnyH_take (i := 14) (oi := ?o_3015) (v := undef) ?hi_3015 ?hs_3015 ?hf_3015 ?hr_3015 ?hQ_3015 ?hy_3015 ?hS_3015 ?rest_3015; (case hi_3015 => (simp only [List.getElem?_toArray, List.getElem?_cons_zero, List.getElem?_cons_succ]; rfl)); (case hs_3015 => kernel_rfl); (case hf_3015 => kernel_rfl); (case hr_3015 => kernel_rfl); (case hQ_3015 => exact fun _ _ _ h => h); (case hS_3015 => assumption); (case hy_3015 => exact Or.inr ⟨by rfl, rfl⟩); (try simp only [Act.put, List.setIfInBounds_toArray, List.set_cons_zero, List.set_cons_succ])
            refine wpAnyH_take (i := 15) (oi := ?o_3016) (v := undef) ?hi_3016 ?hs_3016 ?hf_3016 ?hr_3016 ?hQ_3016 ?hy_3016 ?hS_3016 ?rest_3016; (case hi_3016 => (simp only [List.getElem?_toArray, List.getElem?_cons_zero, List.getElem?_cons_succ]; rfl)); (case hs_3016 => kernel_rfl); (case hf_3016 => kernel_rfl); (case hr_3016 => kernel_rfl); (case hQ_3016 => exact fun _ _ _ h => h); (case hS_3016 => assumption); (case hy_3016 => exact Or.inr ⟨by rfl, rfl⟩); (try simp only [Act.put, List.setIfInBounds_toArray, List.set_cons_zero, List.set_cons_succ])
            refine wpAnyH_take (i := 16) (oi := ?o_3017) (v := undef) ?hi_3017 ?hs_3017 ?hf_3017 ?hr_3017 ?hQ_3017 ?hy_3017 ?hS_3017 ?rest_3017; (case hi_3017 => (simp only [List.getElem?_toArray, List.getElem?_cons_zero, List.getElem?_cons_succ]; rfl)); (case hs_3017 => kernel_rfl); (case hf_3017 => kernel_rfl); (case hr_3017 => kernel_rfl); (case hQ_3017 => exact fun _ _ _ h => h); (case hS_3017 => assumption); (case hy_3017 => exact Or.inr ⟨by rfl, rfl⟩); (try simp only [Act.put, List.setIfInBounds_toArray, List.set_cons_zero, List.set_cons_succ])
            refine wpAnyH_take (i := 17) (oi := ?o_3018) (v := ?v_3018) ?hi_3018 ?hs_3018 ?hf_3018 ?hr_3018 ?hQ_3018 ?hy_3018 ?hS_3018 ?rest_3018; (case hi_3018 => (simp only [List.getElem?_toArray, List.getElem?_cons_zero, List.getElem?_cons_succ]; rfl)); (case hs_3018 => kernel_rfl); (case hf_3018 => kernel_rfl); (case hr_3018 => kernel_rfl); (case hQ_3018 => exact fun _ _ _ h => h); (case hS_3018 => assumption); (case hy_3018 => (refine Or.inl ⟨by rfl, ?_⟩; intro w hSw; obtain ⟨x0, x1, x2, y0, y1, y2, z0, z1, z2⟩ := Lw3.cells hSw; go_simp; first | done | with_reducible rfl)); (try simp only [Act.put, List.setIfInBounds_toArray, List.set_cons_zero, List.set_cons_succ])
            refine wpAnyH_take (i := 18) (oi := ?o_3019) (v := ?v_3019) ?hi_3019 ?hs_3019 ?hf_3019 ?hr_3019 ?hQ_3019 ?hy_3019 ?hS_3019 ?rest_3019; (case hi_3019 => (simp only [List.getElem?_toArray, List.getElem?_cons_zero, List.getElem?_cons_succ]; rfl)); (case hs_3019 => kernel_rfl); (case hf_3019 => kernel_rfl); (case hr_3019 => kernel_rfl); (case hQ_3019 => exact fun _ _ _ h => h); (case hS_3019 => assumption); (case hy_3019 => (refine Or.inl ⟨by rfl, ?_⟩; intro w hSw; obtain ⟨x0, x1, x2, y0, y1, y2, z0, z1, z2⟩ := Lw3.cells hSw; go_simp; first | done | with_reducible rfl)); (try simp only [Act.put, List.setIfInBounds_toArray, List.set_cons_zero, List.set_cons_succ])
            refine wpAnyH_done (by kernel_rfl) ?_ _
            go_wp2
            go_ret
            exact ⟨rfl, HB1.out.l.bel⟩
          | true =>
            cases rb with
            | false =>
              refine wp_region_held_drew (S := fun X => Lw3 w X ka na sa kb nb sb kc nc sc) (by kernel_rfl) HB0.out (fun hHeld => ?_)
              refine wpAnyH_take (i := 0) (oi := ?o_3301) (v := ?v_3301) ?hi_3301 ?hs_3301 ?hf_3301 ?hr_3301 ?hQ_3301 ?hy_3301 ?hS_3301 ?rest_3301; (case hi_3301 => (simp only [List.getElem?_toArray, List.getElem?_cons_zero, List.getElem?_cons_succ]; rfl)); (case hs_3301 => kernel_rfl); (case hf_3301 => kernel_rfl); (case hr_3301 => kernel_rfl); (case hQ_3301 => exact fun _ _ _ h => h); (case hS_3301 => assumption); (case hy_3301 => (refine Or.inl ⟨by rfl, ?_⟩; intro w hSw; obtain ⟨x0, x1, x2, y0, y1, y2, z0, z1, z2⟩ := Lw3.cells hSw; go_simp; first | done | with_reducible rfl)); (try simp only [Act.put, List.setIfInBounds_toArray, List.set_cons_zero, List.set_cons_succ])
              refine wpAnyH_ready (rs := [1]) (by kernel_rfl) (by simp) ?_; refine AllReadyH.cons (o := ?o_3302) ?hi_3302 (fun K hK => ?_) AllReadyH.nil; (case hi_3302 => (simp only [List.getElem?_toArray, List.getElem?_cons_zero, List.getElem?_cons_succ]; rfl)); go_simp; (go_at_call 13; ((refine (RA.out _ HB0.out.l.gv).mono ?_); rintro e w_B1 ⟨rfl, hb⟩; have HB1 := Lib.hid (HB0.out.below hb); clear hb)); refine hK.out _ _ ?_ (fun hHeld => ?_); (· exact HB1.out); clear hK K; (try simp only [Act.put, List.setIfInBounds_toArray, List.set_cons_zero, List.set_cons_succ])
              refine wpAnyH_take (i := 2) (oi := ?o_3303) (v := ?v_3303) ?hi_3303 ?hs_3303 ?hf_3303 ?hr_3303 ?hQ_3303 ?hy_3303 ?hS_3303 ?rest_3303; (case hi_3303 => (simp only [List.getElem?_toArray, List.getElem?_cons_zero, List.getElem?_cons_succ]; rfl)); (case hs_3303 => kernel_rfl); (case hf_3303 => kernel_rfl); (case hr_3303 => kernel_rfl); (case hQ_3303 => exact fun _ _ _ h => h); (case hS_3303 => assumption); (case hy_3303 => (refine Or.inl ⟨by rfl, ?_⟩; intro w hSw; obtain ⟨x0, x1, x2, y0, y1, y2, z0, z1, z2⟩ := Lw3.cells hSw; go_simp; first | done | with_reducible rfl)); (try simp only [Act.put, List.setIfInBounds_toArray, List.set_cons_zero, List.set_cons_succ])
              refine wpAnyH_take (i := 3) (oi := ?o_3304) (v := ?v_3304) ?hi_3304 ?hs_3304 ?hf_3304 ?hr_3304 ?hQ_3304 ?hy_3304 ?hS_3304 ?rest_3304; (case hi_3304 => (simp only [List.getElem?_toArray, List.getElem?_cons_zero, List.getElem?_cons_succ]; rfl)); (case hs_3304 => kernel_rfl); (case hf_3304 => kernel_rfl); (case hr_3304 => kernel_rfl); (case hQ_3304 => exact fun _ _ _ h => h); (case hS_3304 => assumption); (case hy_3304 => (refine Or.inl ⟨by rfl, ?_⟩; intro w hSw; obtain ⟨x0, x1, x2, y0, y1, y2, z0, z1, z2⟩ := Lw3.cells hSw; go_simp; first | done | with_reducible rfl)); (try simp only [Act.put, List.setIfInBounds_toArray, List.set_cons_zero, List.set_cons_succ])
              refine wpAnyH_take (i := 4) (oi := ?o_3305) (v := ?v_3305) ?hi_3305 ?hs_3305 ?hf_3305 ?hr_3305 ?hQ_3305 ?hy_3305 ?hS_3305 ?rest_3305; (case hi_3305 => (simp only [List.getElem?_toArray, List.getElem?_cons_zero, List.getElem?_cons_succ]; rfl)); (case hs_3305 => kernel_rfl); (case hf_3305 => kernel_rfl); (case hr_3305 => kernel_rfl); (case hQ_3305 => exact fun _ _ _ h => h); (case hS_3305 => assumption); (case hy_3305 => (refine Or.inl ⟨by rfl, ?_⟩; intro w hSw; obtain ⟨x0, x1, x2, y0, y1, y2, z0, z1, z2⟩ := Lw3.cells hSw; go_simp; first | done | with_reducible rfl)); (try simp only [Act.put, List.setIfInBounds_toArray, List.set_cons_zero, List.set_cons_succ])
              refine wpAnyH_ready (rs := [5]) (by kernel_rfl) (by simp) ?_; refine AllReadyH.cons (o := ?o_3306) ?hi_3306 (fun K hK => ?_) AllReadyH.nil; (case hi_3306 => (simp only [List.getElem?_toArray, List.getElem?_cons_zero, List.getElem?_cons_succ]; rfl)); go_simp; (go_at_call 13; ((refine (RB.out _ HB1.out.l.gv).mono ?_); rintro e w_B2 ⟨rfl, hb⟩; have HB2 := Lib.hid (HB1.out.below hb); clear hb)); refine hK.out _ _ ?_ (fun hHeld => ?_); (· exact HB2.out); clear hK K; (try simp only [Act.put, List.setIfInBounds_toArray, List.set_cons_zero, List.set_cons_succ])
              refine wpAnyH_take (i := 6) (oi := ?o_3307) (v := ?v_3307) ?hi_3307 ?hs_3307 ?hf_3307 ?hr_3307 ?hQ_3307 ?hy_3307 ?hS_3307 ?rest_3307; (case hi_3307 => (simp only [List.getElem?_toArray, List.getElem?_cons_zero, List.getElem?_cons_succ]; rfl)); (case hs_3307 => kernel_rfl); (case hf_3307 => kernel_rfl); (case hr_3307 => kernel_rfl); (case hQ_3307 => exact fun _ _ _ h => h); (case hS_3307 => assumption); (case hy_3307 => (refine Or.inl ⟨by rfl, ?_⟩; intro w hSw; obtain ⟨x0, x1, x2, y0, y1, y2, z0, z1, z2⟩ := Lw3.cells hSw; go_simp; first | done | with_reducible rfl)); (try simp only [Act.put, List.setIfInBounds_toArray, List.set_cons_zero, List.set_cons_succ])
              refine wpAnyH_take (i := 7) (oi := ?o_3308) (v := ?v_3308) ?hi_3308 ?hs_3308 ?hf_3308 ?hr_3308 ?hQ_3308 ?hy_3308 ?hS_3308 ?rest_3308; (case hi_3308 => (simp only [List.getElem?_toArray, List.getElem?_cons_zero, List.getElem?_cons_succ]; rfl)); (case hs_3308 => kernel_rfl); (case hf_3308 => kernel_rfl); (case hr_3308 => kernel_rfl); (case hQ_3308 => exact fun _ _ _ h => h); (case hS_3308 => assumption); (case hy_3308 => (refine Or.inl ⟨by rfl, ?_⟩; intro w hSw; obtain ⟨x0, x1, x2, y0, y1, y2, z0, z1, z2⟩ := Lw3.cells hSw; go_simp; first | done | with_reducible rfl)); (try simp only [Act.put, List.setIfInBounds_toArray, List.set_cons_zero, List.set_cons_succ])
              refine wpAnyH_take (i := 8) (oi := ?o_3309) (v := ?v_3309) ?hi_3309 ?hs_3309 ?hf_3309 ?hr_3309 ?hQ_3309 ?hy_3309 ?hS_3309 ?rest_3309; (case hi_3309 => (simp only [List.getElem?_toArray, List.getElem?_cons_zero, List.getElem?_cons_succ]; rfl)); (case hs_3309 => kernel_rfl); (case hf_3309 => kernel_rfl); (case hr_3309 => kernel_rfl); (case hQ_3309 => exact fun _ _ _ h => h); (case hS_3309 => assumption); (case hy_3309 => (refine Or.inl ⟨by rfl, ?_⟩; intro w hSw; obtain ⟨x0, x1, x2, y0, y1, y2, z0, z1, z2⟩ := Lw3.cells hSw; go_simp; first | done | with_reducible rfl)); (try simp only [Act.put, List.setIfInBounds_toArray, List.set_cons_zero, List.set_cons_succ])
              refine wpAnyH_take (i := 9) (oi := ?o_3310) (v := undef) ?hi_3310 ?hs_3310 ?hf_3310 ?hr_3310 ?hQ_3310 ?hy_3310 ?hS_3310 ?rest_3310; (case hi_3310 => (simp only [List.getElem?_toArray, List.getElem?_cons_zero, List.getElem?_cons_succ]; rfl)); (case hs_3310 => kernel_rfl); (case hf_3310 => kernel_rfl); (case hr_3310 => kernel_rfl); (case hQ_3310 => exact fun _ _ _ h => h); (case hS_3310 => assumption); (case hy_3310 => exact Or.inr ⟨by rfl, rfl⟩); (try simp only [Act.put, List.setIfInBounds_toArray, List.set_cons_zero, List.set_cons_succ])
              refine wpAnyH_take (i := 10) (oi := ?o_3311) (v := undef) ?hi_3311 ?hs_3311 ?hf_3311 ?hr_3311 ?hQ_3311 ?hy_3311 ?hS_3311 ?rest_3311; (case hi_3311 => (simp only [List.getElem?_toArray, List.getElem?_cons_zero, List.getElem?_cons_succ]; rfl)); (case hs_3311 => kernel_rfl); (case hf_3311 => kernel_rfl); (case hr_3311 => kernel_rfl); (case hQ_3311 => exact fun _ _ _ h => h); (case hS_3311 => assumption); (case hy_3311 => exact Or.inr ⟨by rfl, rfl⟩); (try simp only [Act.put, List.setIfInBounds_toArray, List.set_cons_zero, List.set_cons_succ])
              refine wpAnyH_take (i := 11) (oi := ?o_3312) (v := undef) ?hi_3312 ?hs_3312 ?hf_3312 ?hr_3312 ?hQ_3312 ?hy_3312 ?hS_3312 ?rest_3312; (case hi_3312 => (simp only [List.getElem?_toArray, List.getElem?_cons_zero, List.getElem?_cons_succ]; rfl)); (case hs_3312 => kernel_rfl); (case hf_3312 => kernel_rfl); (case hr_3312 => kernel_rfl); (case hQ_3312 => exact fun _ _ _ h => h); (case hS_3312 => assumption); (case hy_3312 => exact Or.inr ⟨by rfl, rfl⟩); (try simp only [Act.put, List.setIfInBounds_toArray, List.set_cons_zero, List.set_cons_succ])
              refine wpAnyH_take (i := 12) (oi := ?o_3313) (v := undef) ?hi_3313 ?hs_3313 ?hf_3313 ?hr_3313 ?hQ_3313 ?hy_3313 ?hS_3313 ?rest_3313; (case hi_3313 => (simp only [List.getElem?_toArray, List.getElem?_cons_zero, List.getElem?_cons_succ]; rfl)); (case hs_3313 => kernel_rfl); (case hf_3313 => kernel_rfl); (case hr_3313 => kernel_rfl); (case hQ_3313 => exact fun _ _ _ h => h); (case hS_3313 => assumption); (case hy_3313 => exact Or.inr ⟨by rfl, rfl⟩); (try simp only [Act.put, List.setIfInBounds_toArray, List.set_cons_zero, List.set_cons_succ])
              refine wpAnyH_take (i := 13) (oi := ?o_3314) (v := undef) ?hi_3314 ?hs_3314 ?hf_3314 ?hr_3314 ?hQ_3314 ?hy_3314 ?hS_3314 ?rest_3314; (case hi_3314 => (simp only [List.getElem?_toArray, List.getElem?_cons_zero, List.getElem?_cons_succ]; rfl)); (case hs_3314 => kernel_rfl); (case hf_3314 => kernel_rfl); (case hr_3314 => kernel_rfl); (case hQ_3314 => exact fun _ _ _ h => h); (case hS_3314 => assumption); (case hy_3314 => exact Or.inr ⟨by rfl, rfl⟩); (try simp only [Act.put, List.setIfInBounds_toArray, List.set_cons_zero, List.set_cons_succ])
              refine wpAnyH_take (i := 14) (oi := ?o_3315) (v := undef) ?hi_3315 ?hs_3315 ?hf_3315 ?hr_3315 ?hQ_3315 ?hy_3315 ?hS_3315 ?rest_3315; (case hi_3315 => (simp only [List.getElem?_toArray, List.getElem?_cons_zero, List.getElem?_cons_succ]; rfl)); (case hs_3315 => kernel_rfl); (case hf_3315 => kernel_rfl); (case hr_3315 => kernel_rfl); (case hQ_3315 => exact fun _ _ _ h => h); (case hS_3315 => assumption); (case hy_3315 => exact Or.inr ⟨by rfl, rfl⟩); (try simp only [Act.put, List.setIfInBounds_toArray, List.set_cons_zero, List.set_cons_succ])
              refine wpAnyH_take (i := 15) (oi := ?o_3316) (v := undef) ?hi_3316 ?hs_3316 ?hf_3316 ?hr_3316 ?hQ_3316 ?hy_3316 ?hS_3316 ?rest_3316; (case hi_3316 => (simp only [List.getElem?_toArray, List.getElem?_cons_zero, List.getElem?_cons_succ]; rfl)); (case hs_3316 => kernel_rfl); (case hf_3316 => kernel_rfl); (case hr_3316 => kernel_rfl); (case hQ_3316 => exact fun _ _ _ h => h); (case hS_3316 => assumption); (case hy_3316 => exact Or.inr ⟨by rfl, rfl⟩); (try simp only [Act.put, List.setIfInBounds_toArray, List.set_cons_zero, List.set_cons_succ])
              refine wpAnyH_take (i := 16) (oi := ?o_3317) (v := undef) ?hi_3317 ?hs_3317 ?hf_3317 ?hr_3317 ?hQ_3317 ?hy_3317 ?hS_3317 ?rest_3317; (case hi_3317 => (simp only [List.getElem?_toArray, List.getElem?_cons_zero, List.getElem?_cons_succ]; rfl)); (case hs_3317 => kernel_rfl); (case hf_3317 => kernel_rfl); (case hr_3317 => kernel_rfl); (case hQ_3317 => exact fun _ _ _ h => h); (case hS_3317 => assumption); (case hy_3317 => exact Or.inr ⟨by rfl, rfl⟩); (try simp only [Act.put, List.setIfInBounds_toArray, List.set_cons_zero, List.set_cons_succ])
              refine wpAnyH_take (i := 17) (oi := ?o_3318) (v := ?v_3318) ?hi_3318 ?hs_3318 ?hf_3318 ?hr_3318 ?hQ_3318 ?hy_3318 ?hS_3318 ?rest_3318; (case hi_3318 => (simp only [List.getElem?_toArray, List.getElem?_cons_zero, List.getElem?_cons_succ]; rfl)); (case hs_3318 => kernel_rfl); (case hf_3318 => kernel_rfl); (case hr_3318 => kernel_rfl); (case hQ_3318 => exact fun _ _ _ h => h); (case hS_3318 => assumption); (case hy_3318 => (refine Or.inl ⟨by rfl, ?_⟩; intro w hSw; obtain ⟨x0, x1, x2, y0, y1, y2, z0, z1, z2⟩ := Lw3.cells hSw; go_simp; first | done | with_reducible rfl)); (try simp only [Act.put, List.setIfInBounds_toArray, List.set_cons_zero, List.set_cons_succ])
              refine wpAnyH_take (i := 18) (oi := ?o_3319) (v := ?v_3319) ?hi_3319 ?hs_3319 ?hf_3319 ?hr_3319 ?hQ_3319 ?hy_3319 ?hS_3319 ?rest_3319; (case hi_3319 => (simp only [List.getElem?_toArray, List.getElem?_cons_zero, List.getElem?_cons_succ]; rfl)); (case hs_3319 => kernel_rfl); (case hf_3319 => kernel_rfl); (case hr_3319 => kernel_rfl); (case hQ_3319 => exact fun _ _ _ h => h); (case hS_3319 => assumption); (case hy_3319 => (refine Or.inl ⟨by rfl, ?_⟩; intro w hSw; obtain ⟨x0, x1, x2, y0, y1, y2, z0, z1, z2⟩ := Lw3.cells hSw; go_simp; first | done | with_reducible rfl)); (try simp only [Act.put, List.setIfInBounds_toArray, List.set_cons_zero, List.set_cons_succ])
              refine wpAnyH_done (by kernel_rfl) ?_ _
              go_wp2
              go_ret
              exact ⟨rfl, HB2.out.l.bel⟩
            | true =>
              have hE := HS.out rfl rfl
              obtain ⟨re, hre⟩ : ∃ re, decide (ka = kb ∧ na = nb ∧ sa.toList = sb.toList) = re := ⟨_, rfl⟩
              rw [hre] at hE
              have HE := Lib.hid hre
              clear hre HS
              refine wp_region_held_drew (S := fun X => Lw3 w X ka na sa kb nb sb kc nc sc) (by kernel_rfl) HB0.out (fun hHeld => ?_)
              refine wpAnyH_take (i := 0) (oi := ?o_3601) (v := ?v_3601) ?hi_3601 ?hs_3601 ?hf_3601 ?hr_3601 ?hQ_3601 ?hy_3601 ?hS_3601 ?rest_3601; (case hi_3601 => (simp only [List.getElem?_toArray, List.getElem?_cons_zero, List.getElem?_cons_succ]; rfl)); (case hs_3601 => kernel_rfl); (case hf_3601 => kernel_rfl); (case hr_3601 => kernel_rfl); (case hQ_3601 => exact fun _ _ _ h => h); (case hS_3601 => assumption); (case hy_3601 => (refine Or.inl ⟨by rfl, ?_⟩; intro w hSw; obtain ⟨x0, x1, x2, y0, y1, y2, z0, z1, z2⟩ := Lw3.cells hSw; go_simp; first | done | with_reducible rfl)); (try simp only [Act.put, List.setIfInBounds_toArray, List.set_cons_zero, List.set_cons_succ])
              refine wpAnyH_ready (rs := [1]) (by kernel_rfl) (by simp) ?_; refine AllReadyH.cons (o := ?o_3602) ?hi_3602 (fun K hK => ?_) AllReadyH.nil; (case hi_3602 => (simp only [List.getElem?_toArray, List.getElem?_cons_zero, List.getElem?_cons_succ]; rfl)); go_simp; (go_at_call 13; ((refine (RA.out _ HB0.out.l.gv).mono ?_); rintro e w_B1 ⟨rfl, hb⟩; have HB1 := Lib.hid (HB0.out.below hb); clear hb)); refine hK.out _ _ ?_ (fun hHeld => ?_); (· exact HB1.out); clear hK K; (try simp only [Act.put, List.setIfInBounds_toArray, List.set_cons_zero, List.set_cons_succ])
              refine wpAnyH_take (i := 2) (oi := ?o_3603) (v := ?v_3603) ?hi_3603 ?hs_3603 ?hf_3603 ?hr_3603 ?hQ_3603 ?hy_3603 ?hS_3603 ?rest_3603; (case hi_3603 => (simp only [List.getElem?_toArray, List.getElem?_cons_zero, List.getElem?_cons_succ]; rfl)); (case hs_3603 => kernel_rfl); (case hf_3603 => kernel_rfl); (case hr_3603 => kernel_rfl); (case hQ_3603 => exact fun _ _ _ h => h); (case hS_3603 => assumption); (case hy_3603 => (refine Or.inl ⟨by rfl, ?_⟩; intro w hSw; obtain ⟨x0, x1, x2, y0, y1, y2, z0, z1, z2⟩ := Lw3.cells hSw; go_simp; first | done | with_reducible rfl)); (try simp only [Act.put, List.setIfInBounds_toArray, List.set_cons_zero, List.set_cons_succ])
              refine wpAnyH_take (i := 3) (oi := ?o_3604) (v := ?v_3604) ?hi_3604 ?hs_3604 ?hf_3604 ?hr_3604 ?hQ_3604 ?hy_3604 ?hS_3604 ?rest_3604; (case hi_3604 => (simp only [List.getElem?_toArray, List.getElem?_cons_zero, List.getElem?_cons_succ]; rfl)); (case hs_3604 => kernel_rfl); (case hf_3604 => kernel_rfl); (case hr_3604 => kernel_rfl); (case hQ_3604 => exact fun _ _ _ h => h); (case hS_3604 => assumption); (case hy_3604 => (refine Or.inl ⟨by rfl, ?_⟩; intro w hSw; obtain ⟨x0, x1, x2, y0, y1, y2, z0, z1, z2⟩ := Lw3.cells hSw; go_simp; first | done | with_reducible rfl)); (try simp only [Act.put, List.setIfInBounds_toArray, List.set_cons_zero, List.set_cons_succ])
              refine wpAnyH_take (i := 4) (oi := ?o_3605) (v := ?v_3605) ?hi_3605 ?hs_3605 ?hf_3605 ?hr_3605 ?hQ_3605 ?hy_3605 ?hS_3605 ?rest_3605; (case hi_3605 => (simp only [List.getElem?_toArray, List.getElem?_cons_zero, List.getElem?_cons_succ]; rfl)); (case hs_3605 => kernel_rfl); (case hf_3605 => kernel_rfl); (case hr_3605 => kernel_rfl); (case hQ_3605 => exact fun _ _ _ h => h); (case hS_3605 => assumption); (case hy_3605 => (refine Or.inl ⟨by rfl, ?_⟩; intro w hSw; obtain ⟨x0, x1, x2, y0, y1, y2, z0, z1, z2⟩ := Lw3.cells hSw; go_simp; first | done | with_reducible rfl)); (try simp only [Act.put, List.setIfInBounds_toArray, List.set_cons_zero, List.set_cons_succ])
              refine wpAnyH_ready (rs := [5]) (by kernel_rfl) (by simp) ?_; refine AllReadyH.cons (o := ?o_3606) ?hi_3606 (fun K hK => ?_) AllReadyH.nil; (case hi_3606 => (simp only [List.getElem?_toArray, List.getElem?_cons_zero, List.getElem?_cons_succ]; rfl)); go_simp; (go_at_call 13; ((refine (RB.out _ HB1.out.l.gv).mono ?_); rintro e w_B2 ⟨rfl, hb⟩; have HB2 := Lib.hid (HB1.out.below hb); clear hb)); refine hK.out _ _ ?_ (fun hHeld => ?_); (· exact HB2.out); clear hK K; (try simp only [Act.put, List.setIfInBounds_toArray, List.set_cons_zero, List.set_cons_succ])
              refine wpAnyH_take (i := 6) (oi := ?o_3607) (v := ?v_3607) ?hi_3607 ?hs_3607 ?hf_3607 ?hr_3607 ?hQ_3607 ?hy_3607 ?hS_3607 ?rest_3607; (case hi_3607 => (simp only [List.getElem?_toArray, List.getElem?_cons_zero, List.getElem?_cons_succ]; rfl)); (case hs_3607 => kernel_rfl); (case hf_3607 => kernel_rfl); (case hr_3607 => kernel_rfl); (case hQ_3607 => exact fun _ _ _ h => h); (case hS_3607 => assumption); (case hy_3607 => (refine Or.inl ⟨by rfl, ?_⟩; intro w hSw; obtain ⟨x0, x1, x2, y0, y1, y2, z0, z1, z2⟩ := Lw3.cells hSw; go_simp; first | done | with_reducible rfl)); (try simp only [Act.put, List.setIfInBounds_toArray, List.set_cons_zero, List.set_cons_succ])
              refine wpAnyH_take (i := 7) (oi := ?o_3608) (v := ?v_3608) ?hi_3608 ?hs_3608 ?hf_3608 ?hr_3608 ?hQ_3608 ?hy_3608 ?hS_3608 ?rest_3608; (case hi_3608 => (simp only [List.getElem?_toArray, List.getElem?_cons_zero, List.getElem?_cons_succ]; rfl)); (case hs_3608 => kernel_rfl); (case hf_3608 => kernel_rfl); (case hr_3608 => kernel_rfl); (case hQ_3608 => exact fun _ _ _ h => h); (case hS_3608 => assumption); (case hy_3608 => (refine Or.inl ⟨by rfl, ?_⟩; intro w hSw; obtain ⟨x0, x1, x2, y0, y1, y2, z0, z1, z2⟩ := Lw3.cells hSw; go_simp; first | done | with_reducible rfl)); (try simp only [Act.put, List.setIfInBounds_toArray, List.set_cons_zero, List.set_cons_succ])
              refine wpAnyH_take (i := 8) (oi := ?o_3609) (v := ?v_3609) ?hi_3609 ?hs_3609 ?hf_3609 ?hr_3609 ?hQ_3609 ?hy_3609 ?hS_3609 ?rest_3609; (case hi_3609 => (simp only [List.getElem?_toArray, List.getElem?_cons_zero, List.getElem?_cons_succ]; rfl)); (case hs_3609 => kernel_rfl); (case hf_3609 => kernel_rfl); (case hr_3609 => kernel_rfl); (case hQ_3609 => exact fun _ _ _ h => h); (case hS_3609 => assumption); (case hy_3609 => (refine Or.inl ⟨by rfl, ?_⟩; intro w hSw; obtain ⟨x0, x1, x2, y0, y1, y2, z0, z1, z2⟩ := Lw3.cells hSw; go_simp; first | done | with_reducible rfl)); (try simp only [Act.put, List.setIfInBounds_toArray, List.set_cons_zero, List.set_cons_succ])
              refine wpAnyH_take (i := 9) (oi := ?o_3610) (v := ?v_3610) ?hi_3610 ?hs_3610 ?hf_3610 ?hr_3610 ?hQ_3610 ?hy_3610 ?hS_3610 ?rest_3610; (case hi_3610 => (simp only [List.getElem?_toArray, List.getElem?_cons_zero, List.getElem?_cons_succ]; rfl)); (case hs_3610 => kernel_rfl); (case hf_3610 => kernel_rfl); (case hr_3610 => kernel_rfl); (case hQ_3610 => exact fun _ _ _ h => h); (case hS_3610 => assumption); (case hy_3610 => (refine Or.inl ⟨by rfl, ?_⟩; intro w hSw; obtain ⟨x0, x1, x2, y0, y1, y2, z0, z1, z2⟩ := Lw3.cells hSw; go_simp; first | done | with_reducible rfl)); (try simp only [Act.put, List.setIfInBounds_toArray, List.set_cons_zero, List.set_cons_succ])
              refine wpAnyH_take (i := 10) (oi := ?o_3611) (v := ?v_3611) ?hi_3611 ?hs_3611 ?hf_3611 ?hr_3611 ?hQ_3611 ?hy_3611 ?hS_3611 ?rest_3611; (case hi_3611 => (simp only [List.getElem?_toArray, List.getElem?_cons_zero, List.getElem?_cons_succ]; rfl)); (case hs_3611 => kernel_rfl); (case hf_3611 => kernel_rfl); (case hr_3611 => kernel_rfl); (case hQ_3611 => exact fun _ _ _ h => h); (case hS_3611 => assumption); (case hy_3611 => (refine Or.inl ⟨by rfl, ?_⟩; intro w hSw; obtain ⟨x0, x1, x2, y0, y1, y2, z0, z1, z2⟩ := Lw3.cells hSw; go_simp; first | done | with_reducible rfl)); (try simp only [Act.put, List.setIfInBounds_toArray, List.set_cons_zero, List.set_cons_succ])
              refine wpAnyH_take (i := 13) (oi := ?o_3612) (v := ?v_3612) ?hi_3612 ?hs_3612 ?hf_3612 ?hr_3612 ?hQ_3612 ?hy_3612 ?hS_3612 ?rest_3612; (case hi_3612 => (simp only [List.getElem?_toArray, List.getElem?_cons_zero, List.getElem?_cons_succ]; rfl)); (case hs_3612 => kernel_rfl); (case hf_3612 => kernel_rfl); (case hr_3612 => kernel_rfl); (case hQ_3612 => exact fun _ _ _ h => h); (case hS_3612 => assumption); (case hy_3612 => (refine Or.inl ⟨by rfl, ?_⟩; intro w hSw; obtain ⟨x0, x1, x2, y0, y1, y2, z0, z1, z2⟩ := Lw3.cells hSw; go_simp; first | done | with_reducible rfl)); (try simp only [Act.put, List.setIfInBounds_toArray, List.set_cons_zero, List.set_cons_succ])
              refine wpAnyH_take (i := 14) (oi := ?o_3613) (v := ?v_3613) ?hi_3613 ?hs_3613 ?hf_3613 ?hr_3613 ?hQ_3613 ?hy_3613 ?hS_3613 ?rest_3613; (case hi_3613 => (simp only [List.getElem?_toArray, List.getElem?_cons_zero, List.getElem?_cons_succ]; rfl)); (case hs_3613 => kernel_rfl); (case hf_3613 => kernel_rfl); (case hr_3613 => kernel_rfl); (case hQ_3613 => exact fun _ _ _ h => h); (case hS_3613 => assumption); (case hy_3613 => (refine Or.inl ⟨by rfl, ?_⟩; intro w hSw; obtain ⟨x0, x1, x2, y0, y1, y2, z0, z1, z2⟩ := Lw3.cells hSw; go_simp; first | done | with_reducible rfl)); (try simp only [Act.put, List.setIfInBounds_toArray, List.set_cons_zero, List.set_cons_succ])
              refine wpAnyH_take (i := 15) (oi := ?o_3614) (v := ?v_3614) ?hi_3614 ?hs_3614 ?hf_3614 ?hr_3614 ?hQ_3614 ?hy_3614 ?hS_3614 ?rest_3614; (case hi_3614 => (simp only [List.getElem?_toArray, List.getElem?_cons_zero, List.getElem?_cons_succ]; rfl)); (case hs_3614 => kernel_rfl); (case hf_3614 => kernel_rfl); (case hr_3614 => kernel_rfl); (case hQ_3614 => exact fun _ _ _ h => h); (case hS_3614 => assumption); (case hy_3614 => (refine Or.inl ⟨by rfl, ?_⟩; intro w hSw; obtain ⟨x0, x1, x2, y0, y1, y2, z0, z1, z2⟩ := Lw3.cells hSw; go_simp; exact ite3 HE.out _)); (try simp only [Act.put, List.setIfInBounds_toArray, List.set_cons_zero, List.set_cons_succ])
              refine wpAnyH_ready (rs := [11]) (by kernel_rfl) (by simp) ?_; refine AllReadyH.cons (o := ?o_3615) ?hi_3615 (fun K hK => ?_) AllReadyH.nil; (case hi_3615 => (simp only [List.getElem?_toArray, List.getElem?_cons_zero, List.getElem?_cons_succ]; rfl)); go_simp; (go_at_call 15; ((refine (CAB.out _).mono ?_); rintro e w_B3 ⟨rfl, hb⟩; have HB3 := Lib.hid (HB2.out.below hb); clear hb)); refine hK.out _ _ ?_ (fun hHeld => ?_); (· exact HB3.out); clear hK K; (try simp only [Act.put, List.setIfInBounds_toArray, List.set_cons_zero, List.set_cons_succ])
              refine wpAnyH_take (i := 12) (oi := ?o_3616) (v := ?v_3616) ?hi_3616 ?hs_3616 ?hf_3616 ?hr_3616 ?hQ_3616 ?hy_3616 ?hS_3616 ?rest_3616; (case hi_3616 => (simp only [List.getElem?_toArray, List.getElem?_cons_zero, List.getElem?_cons_succ]; rfl)); (case hs_3616 => kernel_rfl); (case hf_3616 => kernel_rfl); (case hr_3616 => kernel_rfl); (case hQ_3616 => exact fun _ _ _ h => h); (case hS_3616 => assumption); (case hy_3616 => (refine Or.inl ⟨by rfl, ?_⟩; intro w hSw; obtain ⟨x0, x1, x2, y0, y1, y2, z0, z1, z2⟩ := Lw3.cells hSw; go_simp; first | done | with_reducible rfl)); (try simp only [Act.put, List.setIfInBounds_toArray, List.set_cons_zero, List.set_cons_succ])
              refine wpAnyH_take (i := 16) (oi := ?o_3617) (v := ?v_3617) ?hi_3617 ?hs_3617 ?hf_3617 ?hr_3617 ?hQ_3617 ?hy_3617 ?hS_3617 ?rest_3617; (case hi_3617 => (simp only [List.getElem?_toArray, List.getElem?_cons_zero, List.getElem?_cons_succ]; rfl)); (case hs_3617 => kernel_rfl); (case hf_3617 => kernel_rfl); (case hr_3617 => kernel_rfl); (case hQ_3617 => exact fun _ _ _ h => h); (case hS_3617 => assumption); (case hy_3617 => (refine Or.inl ⟨by rfl, ?_⟩; intro w hSw; obtain ⟨x0, x1, x2, y0, y1, y2, z0, z1, z2⟩ := Lw3.cells hSw; go_simp; first | done | with_reducible rfl)); (try simp only [Act.put, List.setIfInBounds_toArray, List.set_cons_zero, List.set_cons_succ])
              refine wpAnyH_take (i := 17) (oi := ?o_3618) (v := ?v_3618) ?hi_3618 ?hs_3618 ?hf_3618 ?hr_3618 ?hQ_3618 ?hy_3618 ?hS_3618 ?rest_3618; (case hi_3618 => (simp only [List.getElem?_toArray, List.getElem?_cons_zero, List.getElem?_cons_succ]; rfl)); (case hs_3618 => kernel_rfl); (case hf_3618 => kernel_rfl); (case hr_3618 => kernel_rfl); (case hQ_3618 => exact fun _ _ _ h => h); (case hS_3618 => assumption); (case hy_3618 => (refine Or.inl ⟨by rfl, ?_⟩; intro w hSw; obtain ⟨x0, x1, x2, y0, y1, y2, z0, z1, z2⟩ := Lw3.cells hSw; go_simp; first | done | with_reducible rfl)); (try simp only [Act.put, List.setIfInBounds_toArray, List.set_cons_zero, List.set_cons_succ])
              refine wpAnyH_take (i := 18) (oi := ?o_3619) (v := ?v_3619) ?hi_3619 ?hs_3619 ?hf_3619 ?hr_3619 ?hQ_3619 ?hy_3619 ?hS_3619 ?rest_3619; (case hi_3619 => (simp only [List.getElem?_toArray, List.getElem?_cons_zero, List.getElem?_cons_succ]; rfl)); (case hs_3619 => kernel_rfl); (case hf_3619 => kernel_rfl); (case hr_3619 => kernel_rfl); (case hQ_3619 => exact fun _ _ _ h => h); (case hS_3619 => assumption); (case hy_3619 => (refine Or.inl ⟨by rfl, ?_⟩; intro w hSw; obtain ⟨x0, x1, x2, y0, y1, y2, z0, z1, z2⟩ := Lw3.cells hSw; go_simp; first | done | with_reducible rfl)); (try simp only [Act.put, List.setIfInBounds_toArray, List.set_cons_zero, List.set_cons_succ])
              refine wpAnyH_done (by kernel_rfl) ?_ _
              go_wp2
              go_ret
              exact ⟨rfl, HB3.out.l.bel⟩
end Go.Proofs.YtikpmlginojnhaaGreatDoor.Fl

namespace Go.Proofs.YtikpmlginojnhaaGreatDoor.Fl
open Go.RowKit Go.Maps
set_option linter.unusedVariables false
set_option linter.unusedSimpArgs false
theorem encV_small (k n : Int) (s : ByteArray) : (encV k n s).length ≤ 67 := by
  cases h : rightV k n s with
  | true => rw [encV_right h, List.length_cons]; have := encP_small h; omega
  | false => unfold encV; rw [if_neg (by rw [h]; decide)]; exact Nat.zero_le _
/-- Two values in boxes, and two rows of bytes. -/
structure LwV (w W : World) (ka na : Int) (sa : ByteArray) (kb nb : Int) (sb : ByteArray) (v u : Value) (l m : List Int) : Prop where
  lw : Lw w W ka na sa kb nb sb
  hv : HasB W v l
  hu : HasB W u m
theorem LwV.below {w W W' : World} {ka na : Int} {sa : ByteArray} {kb nb : Int} {sb : ByteArray} {v u : Value} {l m : List Int} (h : LwV w W ka na sa kb nb sb v u l m) (hb : Below W.heap.size W W') : LwV w W' ka na sa kb nb sb v u l m := ⟨h.lw.below hb, h.hv.below hb, h.hu.below hb⟩
set_option maxHeartbeats 4000000 in
set_option maxRecDepth 100000 in
theorem valAsks (w : World) (ka na : Int) (sa : ByteArray) (kb nb : Int) (sb : ByteArray) (hna : Wf na) (hnb : Wf nb) (hsa : sa.size ≤ 140737488351232) (hsb : sb.size ≤ 140737488351232) (hg : Gv w) :
    Calls Tryz.prog 3 #[vv ka na sa, vv kb nb sb] w fun e w' => e = .returned (.bool true) ∧ Below w.heap.size w w' := by
  have HL := Lib.hid (Lw.start w hg ka na sa kb nb sb)
  obtain ⟨la, hla⟩ : ∃ la, decide (500 < (sa.size : Int)) = la := ⟨_, rfl⟩
  obtain ⟨lb, hlb⟩ : ∃ lb, decide (500 < (sb.size : Int)) = lb := ⟨_, rfl⟩
  obtain ⟨r, hr⟩ : ∃ r, rightV ka na sa = r := ⟨_, rfl⟩
  have CA := Lib.hid (fun W => c_vlong ka na sa la hla W)
  have CB := Lib.hid (fun W => c_vlong kb nb sb lb hlb W)
  have CE := Lib.hid (fun W hg => c_vencode ka na sa hna hsa W hg)
  have CF := Lib.hid (fun W => c_rvencode ka na sa hna hsa W)
  have CR := Lib.hid (fun W hg => c_vright ka na sa hna (by omega) r hr W hg)
  have CS := Lib.hid (fun W => c_rvright ka na sa hna hsa r hr W)
  have CO := Lib.hid (fun W => c_vorder ka na sa kb nb sb W)
  have CP := Lib.hid (fun W => c_rvorder ka na sa kb nb sb hna hnb hsa hsb W)
  have CT := Lib.hid (fun W hg => c_vshow ka na sa hna hsa W hg)
  have CU := Lib.hid (fun W => c_rvshow ka na sa hna hsa W)
  have hlen := encV_small ka na sa
  rw [hr] at CE CF
  generalize ordV ka na sa kb nb sb = q at CO CP
  generalize encV ka na sa = l at CE CF hlen
  generalize showV ka na sa = u at CT CU
  have CM := Lib.hid (fun W v1 v2 h1 h2 => c_same W v1 v2 l l h1 h2 (by omega) true (by simp))
  simp only [vv] at CA CB CE CF CR CS CO CP CT CU ⊢
  clear hg hna hnb hsa hsb hla hlb hr hlen
  go_enter Tryz.func3, Tryz.ntmps3
  go_wp2_with fail
  refine (c_valive _ HL.out.gv).mono ?_
  rintro e w1 ⟨rfl, hb⟩
  have HL1 := Lib.hid (HL.out.below hb)
  clear hb HL
  obtain ⟨x0, x1, x2, y0, y1, y2⟩ := HL1.out.cells
  go_wp2_with fail
  refine (CA.out _).mono ?_
  rintro e w2 ⟨rfl, hb⟩
  have HL2 := Lib.hid (HL1.out.below hb)
  clear hb HL1 x0 x1 x2 y0 y1 y2
  cases la with
  | true =>
    go_wp2
    go_ret
    exact ⟨rfl, HL2.out.bel⟩
  | false =>
    obtain ⟨x0, x1, x2, y0, y1, y2⟩ := HL2.out.cells
    go_wp2_with fail
    refine (CB.out _).mono ?_
    rintro e w3 ⟨rfl, hb⟩
    have HL3 := Lib.hid (HL2.out.below hb)
    clear hb HL2 x0 x1 x2 y0 y1 y2
    cases lb with
    | true =>
      go_wp2
      go_ret
      exact ⟨rfl, HL3.out.bel⟩
    | false =>
      obtain ⟨x0, x1, x2, y0, y1, y2⟩ := HL3.out.cells
      go_wp2_with fail
      refine (CE.out _ HL3.out.gv).mono ?_
      rintro e w4 ⟨v, rfl, hv, hb⟩
      have HL4 := Lib.hid (HL3.out.below hb)
      have HV4 := Lib.hid hv
      clear hb hv HL3 x0 x1 x2 y0 y1 y2
      obtain ⟨x0, x1, x2, y0, y1, y2⟩ := HL4.out.cells
      go_wp2_with fail
      refine (CF.out _).mono ?_
      rintro e w5 ⟨v2, rfl, hv, hb⟩
      have H5 := Lib.hid (LwV.mk (HL4.out.below hb) (HV4.out.below hb) hv)
      clear hb hv HL4 HV4 x0 x1 x2 y0 y1 y2
      obtain ⟨x0, x1, x2, y0, y1, y2⟩ := H5.out.lw.cells
      go_wp2_with fail
      have HA0 := Lib.hid (H5.out.below (Below.refl _ _).drew)
      clear x0 x1 x2 y0 y1 y2
      refine wp_region_held_drew (S := fun X => Lw w X ka na sa kb nb sb) (by kernel_rfl) HA0.out.lw (fun hHeld => ?_)
      refine wpAnyH_take (i := 0) (oi := ?o_1) (v := ?v_1) ?hi_1 ?hs_1 ?hf_1 ?hr_1 ?hQ_1 ?hy_1 ?hS_1 ?rest_1; (case hi_1 => (simp only [List.getElem?_toArray, List.getElem?_cons_zero, List.getElem?_cons_succ]; rfl)); (case hs_1 => kernel_rfl); (case hf_1 => kernel_rfl); (case hr_1 => kernel_rfl); (case hQ_1 => exact fun _ _ _ h => h); (case hS_1 => assumption); (case hy_1 => (refine Or.inl ⟨by rfl, ?_⟩; intro w hSw; obtain ⟨x0, x1, x2, y0, y1, y2⟩ := Lw.cells hSw; go_simp; first | done | with_reducible rfl)); (try simp only [Act.put, List.setIfInBounds_toArray, List.set_cons_zero, List.set_cons_succ])
      refine wpAnyH_take (i := 2) (oi := ?o_2) (v := ?v_2) ?hi_2 ?hs_2 ?hf_2 ?hr_2 ?hQ_2 ?hy_2 ?hS_2 ?rest_2; (case hi_2 => (simp only [List.getElem?_toArray, List.getElem?_cons_zero, List.getElem?_cons_succ]; rfl)); (case hs_2 => kernel_rfl); (case hf_2 => kernel_rfl); (case hr_2 => kernel_rfl); (case hQ_2 => exact fun _ _ _ h => h); (case hS_2 => assumption); (case hy_2 => (refine Or.inl ⟨by rfl, ?_⟩; intro w hSw; obtain ⟨x0, x1, x2, y0, y1, y2⟩ := Lw.cells hSw; go_simp; first | done | with_reducible rfl)); (try simp only [Act.put, List.setIfInBounds_toArray, List.set_cons_zero, List.set_cons_succ])
      refine wpAnyH_ready (rs := [1]) (by kernel_rfl) (by simp) ?_; refine AllReadyH.cons (o := ?o_3) ?hi_3 (fun K hK => ?_) AllReadyH.nil; (case hi_3 => (simp only [List.getElem?_toArray, List.getElem?_cons_zero, List.getElem?_cons_succ]; rfl)); go_simp; (go_at_call 13; ((refine (CR.out _ HA0.out.lw.gv).mono ?_); rintro e w_A1 ⟨rfl, hb⟩; have HA1 := Lib.hid (HA0.out.below hb); clear hb)); refine hK.out _ _ ?_ (fun hHeld => ?_); (· exact HA1.out.lw); clear hK K; (try simp only [Act.put, List.setIfInBounds_toArray, List.set_cons_zero, List.set_cons_succ])
      refine wpAnyH_ready (rs := [3]) (by kernel_rfl) (by simp) ?_; refine AllReadyH.cons (o := ?o_4) ?hi_4 (fun K hK => ?_) AllReadyH.nil; (case hi_4 => (simp only [List.getElem?_toArray, List.getElem?_cons_zero, List.getElem?_cons_succ]; rfl)); go_simp; (go_at_call 14; ((refine (CS.out _).mono ?_); rintro e w_A2 ⟨rfl, hb⟩; have HA2 := Lib.hid (HA1.out.below hb); clear hb)); refine hK.out _ _ ?_ (fun hHeld => ?_); (· exact HA2.out.lw); clear hK K; (try simp only [Act.put, List.setIfInBounds_toArray, List.set_cons_zero, List.set_cons_succ])
      refine wpAnyH_take (i := 4) (oi := ?o_5) (v := ?v_5) ?hi_5 ?hs_5 ?hf_5 ?hr_5 ?hQ_5 ?hy_5 ?hS_5 ?rest_5; (case hi_5 => (simp only [List.getElem?_toArray, List.getElem?_cons_zero, List.getElem?_cons_succ]; rfl)); (case hs_5 => kernel_rfl); (case hf_5 => kernel_rfl); (case hr_5 => kernel_rfl); (case hQ_5 => exact fun _ _ _ h => h); (case hS_5 => assumption); (case hy_5 => (refine Or.inl ⟨by rfl, ?_⟩; intro w hSw; obtain ⟨x0, x1, x2, y0, y1, y2⟩ := Lw.cells hSw; go_simp; first | done | with_reducible rfl)); (try simp only [Act.put, List.setIfInBounds_toArray, List.set_cons_zero, List.set_cons_succ])
      refine wpAnyH_take (i := 5) (oi := ?o_6) (v := ?v_6) ?hi_6 ?hs_6 ?hf_6 ?hr_6 ?hQ_6 ?hy_6 ?hS_6 ?rest_6; (case hi_6 => (simp only [List.getElem?_toArray, List.getElem?_cons_zero, List.getElem?_cons_succ]; rfl)); (case hs_6 => kernel_rfl); (case hf_6 => kernel_rfl); (case hr_6 => kernel_rfl); (case hQ_6 => exact fun _ _ _ h => h); (case hS_6 => assumption); (case hy_6 => (refine Or.inl ⟨by rfl, ?_⟩; intro w hSw; obtain ⟨x0, x1, x2, y0, y1, y2⟩ := Lw.cells hSw; go_simp; first | done | with_reducible rfl)); (try simp only [Act.put, List.setIfInBounds_toArray, List.set_cons_zero, List.set_cons_succ])
      refine wpAnyH_take (i := 6) (oi := ?o_7) (v := ?v_7) ?hi_7 ?hs_7 ?hf_7 ?hr_7 ?hQ_7 ?hy_7 ?hS_7 ?rest_7; (case hi_7 => (simp only [List.getElem?_toArray, List.getElem?_cons_zero, List.getElem?_cons_succ]; rfl)); (case hs_7 => kernel_rfl); (case hf_7 => kernel_rfl); (case hr_7 => kernel_rfl); (case hQ_7 => exact fun _ _ _ h => h); (case hS_7 => assumption); (case hy_7 => (refine Or.inl ⟨by rfl, ?_⟩; intro w hSw; obtain ⟨x0, x1, x2, y0, y1, y2⟩ := Lw.cells hSw; go_simp; first | done | with_reducible rfl)); (try simp only [Act.put, List.setIfInBounds_toArray, List.set_cons_zero, List.set_cons_succ])
      refine wpAnyH_take (i := 7) (oi := ?o_8) (v := ?v_8) ?hi_8 ?hs_8 ?hf_8 ?hr_8 ?hQ_8 ?hy_8 ?hS_8 ?rest_8; (case hi_8 => (simp only [List.getElem?_toArray, List.getElem?_cons_zero, List.getElem?_cons_succ]; rfl)); (case hs_8 => kernel_rfl); (case hf_8 => kernel_rfl); (case hr_8 => kernel_rfl); (case hQ_8 => exact fun _ _ _ h => h); (case hS_8 => assumption); (case hy_8 => (refine Or.inl ⟨by rfl, ?_⟩; intro w hSw; obtain ⟨x0, x1, x2, y0, y1, y2⟩ := Lw.cells hSw; go_simp; first | done | with_reducible rfl)); (try simp only [Act.put, List.setIfInBounds_toArray, List.set_cons_zero, List.set_cons_succ])
      refine wpAnyH_take (i := 9) (oi := ?o_9) (v := ?v_9) ?hi_9 ?hs_9 ?hf_9 ?hr_9 ?hQ_9 ?hy_9 ?hS_9 ?rest_9; (case hi_9 => (simp only [List.getElem?_toArray, List.getElem?_cons_zero, List.getElem?_cons_succ]; rfl)); (case hs_9 => kernel_rfl); (case hf_9 => kernel_rfl); (case hr_9 => kernel_rfl); (case hQ_9 => exact fun _ _ _ h => h); (case hS_9 => assumption); (case hy_9 => (refine Or.inl ⟨by rfl, ?_⟩; intro w hSw; obtain ⟨x0, x1, x2, y0, y1, y2⟩ := Lw.cells hSw; go_simp; first | done | with_reducible rfl)); (try simp only [Act.put, List.setIfInBounds_toArray, List.set_cons_zero, List.set_cons_succ])
      refine wpAnyH_take (i := 10) (oi := ?o_10) (v := ?v_10) ?hi_10 ?hs_10 ?hf_10 ?hr_10 ?hQ_10 ?hy_10 ?hS_10 ?rest_10; (case hi_10 => (simp only [List.getElem?_toArray, List.getElem?_cons_zero, List.getElem?_cons_succ]; rfl)); (case hs_10 => kernel_rfl); (case hf_10 => kernel_rfl); (case hr_10 => kernel_rfl); (case hQ_10 => exact fun _ _ _ h => h); (case hS_10 => assumption); (case hy_10 => (refine Or.inl ⟨by rfl, ?_⟩; intro w hSw; obtain ⟨x0, x1, x2, y0, y1, y2⟩ := Lw.cells hSw; go_simp; first | done | with_reducible rfl)); (try simp only [Act.put, List.setIfInBounds_toArray, List.set_cons_zero, List.set_cons_succ])
      refine wpAnyH_ready (rs := [8]) (by kernel_rfl) (by simp) ?_; refine AllReadyH.cons (o := ?o_11) ?hi_11 (fun K hK => ?_) AllReadyH.nil; (case hi_11 => (simp only [List.getElem?_toArray, List.getElem?_cons_zero, List.getElem?_cons_succ]; rfl)); go_simp; (go_at_call 15; ((refine (CO.out _).mono ?_); rintro e w_A3 ⟨rfl, hb⟩; have HA3 := Lib.hid (HA2.out.below hb); clear hb)); refine hK.out _ _ ?_ (fun hHeld => ?_); (· exact HA3.out.lw); clear hK K; (try simp only [Act.put, List.setIfInBounds_toArray, List.set_cons_zero, List.set_cons_succ])
      refine wpAnyH_ready (rs := [11]) (by kernel_rfl) (by simp) ?_; refine AllReadyH.cons (o := ?o_12) ?hi_12 (fun K hK => ?_) AllReadyH.nil; (case hi_12 => (simp only [List.getElem?_toArray, List.getElem?_cons_zero, List.getElem?_cons_succ]; rfl)); go_simp; (go_at_call 16; ((refine (CP.out _).mono ?_); rintro e w_A4 ⟨rfl, hb⟩; have HA4 := Lib.hid (HA3.out.below hb); clear hb)); refine hK.out _ _ ?_ (fun hHeld => ?_); (· exact HA4.out.lw); clear hK K; (try simp only [Act.put, List.setIfInBounds_toArray, List.set_cons_zero, List.set_cons_succ])
      refine wpAnyH_take (i := 12) (oi := ?o_13) (v := ?v_13) ?hi_13 ?hs_13 ?hf_13 ?hr_13 ?hQ_13 ?hy_13 ?hS_13 ?rest_13; (case hi_13 => (simp only [List.getElem?_toArray, List.getElem?_cons_zero, List.getElem?_cons_succ]; rfl)); (case hs_13 => kernel_rfl); (case hf_13 => kernel_rfl); (case hr_13 => kernel_rfl); (case hQ_13 => exact fun _ _ _ h => h); (case hS_13 => assumption); (case hy_13 => (refine Or.inl ⟨by rfl, ?_⟩; intro w hSw; obtain ⟨x0, x1, x2, y0, y1, y2⟩ := Lw.cells hSw; go_simp; first | done | with_reducible rfl)); (try simp only [Act.put, List.setIfInBounds_toArray, List.set_cons_zero, List.set_cons_succ])
      refine wpAnyH_take (i := 13) (oi := ?o_14) (v := ?v_14) ?hi_14 ?hs_14 ?hf_14 ?hr_14 ?hQ_14 ?hy_14 ?hS_14 ?rest_14; (case hi_14 => (simp only [List.getElem?_toArray, List.getElem?_cons_zero, List.getElem?_cons_succ]; rfl)); (case hs_14 => kernel_rfl); (case hf_14 => kernel_rfl); (case hr_14 => kernel_rfl); (case hQ_14 => exact fun _ _ _ h => h); (case hS_14 => assumption); (case hy_14 => (refine Or.inl ⟨by rfl, ?_⟩; intro w hSw; obtain ⟨x0, x1, x2, y0, y1, y2⟩ := Lw.cells hSw; go_simp; first | done | with_reducible rfl)); (try simp only [Act.put, List.setIfInBounds_toArray, List.set_cons_zero, List.set_cons_succ])
      refine wpAnyH_take (i := 14) (oi := ?o_15) (v := ?v_15) ?hi_15 ?hs_15 ?hf_15 ?hr_15 ?hQ_15 ?hy_15 ?hS_15 ?rest_15; (case hi_15 => (simp only [List.getElem?_toArray, List.getElem?_cons_zero, List.getElem?_cons_succ]; rfl)); (case hs_15 => kernel_rfl); (case hf_15 => kernel_rfl); (case hr_15 => kernel_rfl); (case hQ_15 => exact fun _ _ _ h => h); (case hS_15 => assumption); (case hy_15 => (refine Or.inl ⟨by rfl, ?_⟩; intro w hSw; obtain ⟨x0, x1, x2, y0, y1, y2⟩ := Lw.cells hSw; go_simp; first | done | with_reducible rfl)); (try simp only [Act.put, List.setIfInBounds_toArray, List.set_cons_zero, List.set_cons_succ])
      refine wpAnyH_take (i := 15) (oi := ?o_16) (v := ?v_16) ?hi_16 ?hs_16 ?hf_16 ?hr_16 ?hQ_16 ?hy_16 ?hS_16 ?rest_16; (case hi_16 => (simp only [List.getElem?_toArray, List.getElem?_cons_zero, List.getElem?_cons_succ]; rfl)); (case hs_16 => kernel_rfl); (case hf_16 => kernel_rfl); (case hr_16 => kernel_rfl); (case hQ_16 => exact fun _ _ _ h => h); (case hS_16 => assumption); (case hy_16 => (refine Or.inl ⟨by rfl, ?_⟩; intro w hSw; obtain ⟨x0, x1, x2, y0, y1, y2⟩ := Lw.cells hSw; go_simp; first | done | with_reducible rfl)); (try simp only [Act.put, List.setIfInBounds_toArray, List.set_cons_zero, List.set_cons_succ])
      refine wpAnyH_take (i := 16) (oi := ?o_17) (v := ?v_17) ?hi_17 ?hs_17 ?hf_17 ?hr_17 ?hQ_17 ?hy_17 ?hS_17 ?rest_17; (case hi_17 => (simp only [List.getElem?_toArray, List.getElem?_cons_zero, List.getElem?_cons_succ]; rfl)); (case hs_17 => kernel_rfl); (case hf_17 => kernel_rfl); (case hr_17 => kernel_rfl); (case hQ_17 => exact fun _ _ _ h => h); (case hS_17 => assumption); (case hy_17 => (refine Or.inl ⟨by rfl, ?_⟩; intro w hSw; obtain ⟨x0, x1, x2, y0, y1, y2⟩ := Lw.cells hSw; go_simp; first | done | with_reducible rfl)); (try simp only [Act.put, List.setIfInBounds_toArray, List.set_cons_zero, List.set_cons_succ])
      refine wpAnyH_ready (rs := [17]) (by kernel_rfl) (by simp) ?_; refine AllReadyH.cons (o := ?o_18) ?hi_18 (fun K hK => ?_) AllReadyH.nil; (case hi_18 => (simp only [List.getElem?_toArray, List.getElem?_cons_zero, List.getElem?_cons_succ]; rfl)); go_simp; (go_at_call 17; ((refine (CM.out _ _ _ HA4.out.hv HA4.out.hu).mono ?_); rintro e w_A5 ⟨rfl, hb⟩; have HA5 := Lib.hid (HA4.out.below hb); clear hb)); refine hK.out _ _ ?_ (fun hHeld => ?_); (· exact HA5.out.lw); clear hK K; (try simp only [Act.put, List.setIfInBounds_toArray, List.set_cons_zero, List.set_cons_succ])
      refine wpAnyH_take (i := 18) (oi := ?o_19) (v := ?v_19) ?hi_19 ?hs_19 ?hf_19 ?hr_19 ?hQ_19 ?hy_19 ?hS_19 ?rest_19; (case hi_19 => (simp only [List.getElem?_toArray, List.getElem?_cons_zero, List.getElem?_cons_succ]; rfl)); (case hs_19 => kernel_rfl); (case hf_19 => kernel_rfl); (case hr_19 => kernel_rfl); (case hQ_19 => exact fun _ _ _ h => h); (case hS_19 => assumption); (case hy_19 => (refine Or.inl ⟨by rfl, ?_⟩; intro w hSw; obtain ⟨x0, x1, x2, y0, y1, y2⟩ := Lw.cells hSw; go_simp; first | done | with_reducible rfl)); (try simp only [Act.put, List.setIfInBounds_toArray, List.set_cons_zero, List.set_cons_succ])
      refine wpAnyH_take (i := 19) (oi := ?o_20) (v := ?v_20) ?hi_20 ?hs_20 ?hf_20 ?hr_20 ?hQ_20 ?hy_20 ?hS_20 ?rest_20; (case hi_20 => (simp only [List.getElem?_toArray, List.getElem?_cons_zero, List.getElem?_cons_succ]; rfl)); (case hs_20 => kernel_rfl); (case hf_20 => kernel_rfl); (case hr_20 => kernel_rfl); (case hQ_20 => exact fun _ _ _ h => h); (case hS_20 => assumption); (case hy_20 => (refine Or.inl ⟨by rfl, ?_⟩; intro w hSw; obtain ⟨x0, x1, x2, y0, y1, y2⟩ := Lw.cells hSw; go_simp; first | done | with_reducible rfl)); (try simp only [Act.put, List.setIfInBounds_toArray, List.set_cons_zero, List.set_cons_succ])
      refine wpAnyH_take (i := 20) (oi := ?o_21) (v := ?v_21) ?hi_21 ?hs_21 ?hf_21 ?hr_21 ?hQ_21 ?hy_21 ?hS_21 ?rest_21; (case hi_21 => (simp only [List.getElem?_toArray, List.getElem?_cons_zero, List.getElem?_cons_succ]; rfl)); (case hs_21 => kernel_rfl); (case hf_21 => kernel_rfl); (case hr_21 => kernel_rfl); (case hQ_21 => exact fun _ _ _ h => h); (case hS_21 => assumption); (case hy_21 => (refine Or.inl ⟨by rfl, ?_⟩; intro w hSw; obtain ⟨x0, x1, x2, y0, y1, y2⟩ := Lw.cells hSw; go_simp; first | done | with_reducible rfl)); (try simp only [Act.put, List.setIfInBounds_toArray, List.set_cons_zero, List.set_cons_succ])
      refine wpAnyH_take (i := 21) (oi := ?o_22) (v := ?v_22) ?hi_22 ?hs_22 ?hf_22 ?hr_22 ?hQ_22 ?hy_22 ?hS_22 ?rest_22; (case hi_22 => (simp only [List.getElem?_toArray, List.getElem?_cons_zero, List.getElem?_cons_succ]; rfl)); (case hs_22 => kernel_rfl); (case hf_22 => kernel_rfl); (case hr_22 => kernel_rfl); (case hQ_22 => exact fun _ _ _ h => h); (case hS_22 => assumption); (case hy_22 => (refine Or.inl ⟨by rfl, ?_⟩; intro w hSw; obtain ⟨x0, x1, x2, y0, y1, y2⟩ := Lw.cells hSw; go_simp; first | done | with_reducible rfl)); (try simp only [Act.put, List.setIfInBounds_toArray, List.set_cons_zero, List.set_cons_succ])
      refine wpAnyH_take (i := 22) (oi := ?o_23) (v := ?v_23) ?hi_23 ?hs_23 ?hf_23 ?hr_23 ?hQ_23 ?hy_23 ?hS_23 ?rest_23; (case hi_23 => (simp only [List.getElem?_toArray, List.getElem?_cons_zero, List.getElem?_cons_succ]; rfl)); (case hs_23 => kernel_rfl); (case hf_23 => kernel_rfl); (case hr_23 => kernel_rfl); (case hQ_23 => exact fun _ _ _ h => h); (case hS_23 => assumption); (case hy_23 => (refine Or.inl ⟨by rfl, ?_⟩; intro w hSw; obtain ⟨x0, x1, x2, y0, y1, y2⟩ := Lw.cells hSw; go_simp; first | done | with_reducible rfl)); (try simp only [Act.put, List.setIfInBounds_toArray, List.set_cons_zero, List.set_cons_succ])
      refine wpAnyH_take (i := 23) (oi := ?o_24) (v := ?v_24) ?hi_24 ?hs_24 ?hf_24 ?hr_24 ?hQ_24 ?hy_24 ?hS_24 ?rest_24; (case hi_24 => (simp only [List.getElem?_toArray, List.getElem?_cons_zero, List.getElem?_cons_succ]; rfl)); (case hs_24 => kernel_rfl); (case hf_24 => kernel_rfl); (case hr_24 => kernel_rfl); (case hQ_24 => exact fun _ _ _ h => h); (case hS_24 => assumption); (case hy_24 => (refine Or.inl ⟨by rfl, ?_⟩; intro w hSw; obtain ⟨x0, x1, x2, y0, y1, y2⟩ := Lw.cells hSw; go_simp; first | done | with_reducible rfl)); (try simp only [Act.put, List.setIfInBounds_toArray, List.set_cons_zero, List.set_cons_succ])
      refine wpAnyH_take (i := 24) (oi := ?o_25) (v := ?v_25) ?hi_25 ?hs_25 ?hf_25 ?hr_25 ?hQ_25 ?hy_25 ?hS_25 ?rest_25; (case hi_25 => (simp only [List.getElem?_toArray, List.getElem?_cons_zero, List.getElem?_cons_succ]; rfl)); (case hs_25 => kernel_rfl); (case hf_25 => kernel_rfl); (case hr_25 => kernel_rfl); (case hQ_25 => exact fun _ _ _ h => h); (case hS_25 => assumption); (case hy_25 => (refine Or.inl ⟨by rfl, ?_⟩; intro w hSw; obtain ⟨x0, x1, x2, y0, y1, y2⟩ := Lw.cells hSw; go_simp; first | done | with_reducible rfl)); (try simp only [Act.put, List.setIfInBounds_toArray, List.set_cons_zero, List.set_cons_succ])
      refine wpAnyH_take (i := 25) (oi := ?o_26) (v := ?v_26) ?hi_26 ?hs_26 ?hf_26 ?hr_26 ?hQ_26 ?hy_26 ?hS_26 ?rest_26; (case hi_26 => (simp only [List.getElem?_toArray, List.getElem?_cons_zero, List.getElem?_cons_succ]; rfl)); (case hs_26 => kernel_rfl); (case hf_26 => kernel_rfl); (case hr_26 => kernel_rfl); (case hQ_26 => exact fun _ _ _ h => h); (case hS_26 => assumption); (case hy_26 => (refine Or.inl ⟨by rfl, ?_⟩; intro w hSw; obtain ⟨x0, x1, x2, y0, y1, y2⟩ := Lw.cells hSw; go_simp; first | done | with_reducible rfl)); (try simp only [Act.put, List.setIfInBounds_toArray, List.set_cons_zero, List.set_cons_succ])
      refine wpAnyH_take (i := 27) (oi := ?o_27) (v := ?v_27) ?hi_27 ?hs_27 ?hf_27 ?hr_27 ?hQ_27 ?hy_27 ?hS_27 ?rest_27; (case hi_27 => (simp only [List.getElem?_toArray, List.getElem?_cons_zero, List.getElem?_cons_succ]; rfl)); (case hs_27 => kernel_rfl); (case hf_27 => kernel_rfl); (case hr_27 => kernel_rfl); (case hQ_27 => exact fun _ _ _ h => h); (case hS_27 => assumption); (case hy_27 => (refine Or.inl ⟨by rfl, ?_⟩; intro w hSw; obtain ⟨x0, x1, x2, y0, y1, y2⟩ := Lw.cells hSw; go_simp; first | done | with_reducible rfl)); (try simp only [Act.put, List.setIfInBounds_toArray, List.set_cons_zero, List.set_cons_succ])
      refine wpAnyH_ready (rs := [26]) (by kernel_rfl) (by simp) ?_; refine AllReadyH.cons (o := ?o_28) ?hi_28 (fun K hK => ?_) AllReadyH.nil; (case hi_28 => (simp only [List.getElem?_toArray, List.getElem?_cons_zero, List.getElem?_cons_succ]; rfl)); go_simp; (go_at_call 18; ((refine (CT.out _ HA5.out.lw.gv).mono ?_); rintro e w_A6 ⟨rfl, hb⟩; have HA6 := Lib.hid (HA5.out.below hb); clear hb)); refine hK.out _ _ ?_ (fun hHeld => ?_); (· exact HA6.out.lw); clear hK K; (try simp only [Act.put, List.setIfInBounds_toArray, List.set_cons_zero, List.set_cons_succ])
      refine wpAnyH_ready (rs := [28]) (by kernel_rfl) (by simp) ?_; refine AllReadyH.cons (o := ?o_29) ?hi_29 (fun K hK => ?_) AllReadyH.nil; (case hi_29 => (simp only [List.getElem?_toArray, List.getElem?_cons_zero, List.getElem?_cons_succ]; rfl)); go_simp; (go_at_call 19; ((refine (CU.out _).mono ?_); rintro e w_A7 ⟨rfl, hb⟩; have HA7 := Lib.hid (HA6.out.below hb); clear hb)); refine hK.out _ _ ?_ (fun hHeld => ?_); (· exact HA7.out.lw); clear hK K; (try simp only [Act.put, List.setIfInBounds_toArray, List.set_cons_zero, List.set_cons_succ])
      refine wpAnyH_take (i := 29) (oi := ?o_30) (v := ?v_30) ?hi_30 ?hs_30 ?hf_30 ?hr_30 ?hQ_30 ?hy_30 ?hS_30 ?rest_30; (case hi_30 => (simp only [List.getElem?_toArray, List.getElem?_cons_zero, List.getElem?_cons_succ]; rfl)); (case hs_30 => kernel_rfl); (case hf_30 => kernel_rfl); (case hr_30 => kernel_rfl); (case hQ_30 => exact fun _ _ _ h => h); (case hS_30 => assumption); (case hy_30 => (refine Or.inl ⟨by rfl, ?_⟩; intro w hSw; obtain ⟨x0, x1, x2, y0, y1, y2⟩ := Lw.cells hSw; go_simp; first | done | with_reducible rfl)); (try simp only [Act.put, List.setIfInBounds_toArray, List.set_cons_zero, List.set_cons_succ])
      refine wpAnyH_take (i := 30) (oi := ?o_31) (v := ?v_31) ?hi_31 ?hs_31 ?hf_31 ?hr_31 ?hQ_31 ?hy_31 ?hS_31 ?rest_31; (case hi_31 => (simp only [List.getElem?_toArray, List.getElem?_cons_zero, List.getElem?_cons_succ]; rfl)); (case hs_31 => kernel_rfl); (case hf_31 => kernel_rfl); (case hr_31 => kernel_rfl); (case hQ_31 => exact fun _ _ _ h => h); (case hS_31 => assumption); (case hy_31 => (refine Or.inl ⟨by rfl, ?_⟩; intro w hSw; obtain ⟨x0, x1, x2, y0, y1, y2⟩ := Lw.cells hSw; go_simp; first | done | with_reducible rfl)); (try simp only [Act.put, List.setIfInBounds_toArray, List.set_cons_zero, List.set_cons_succ])
      refine wpAnyH_take (i := 31) (oi := ?o_32) (v := ?v_32) ?hi_32 ?hs_32 ?hf_32 ?hr_32 ?hQ_32 ?hy_32 ?hS_32 ?rest_32; (case hi_32 => (simp only [List.getElem?_toArray, List.getElem?_cons_zero, List.getElem?_cons_succ]; rfl)); (case hs_32 => kernel_rfl); (case hf_32 => kernel_rfl); (case hr_32 => kernel_rfl); (case hQ_32 => exact fun _ _ _ h => h); (case hS_32 => assumption); (case hy_32 => (refine Or.inl ⟨by rfl, ?_⟩; intro w hSw; obtain ⟨x0, x1, x2, y0, y1, y2⟩ := Lw.cells hSw; go_simp; first | done | with_reducible rfl)); (try simp only [Act.put, List.setIfInBounds_toArray, List.set_cons_zero, List.set_cons_succ])
      refine wpAnyH_done (by kernel_rfl) ?_ _
      go_wp2
      go_ret
      exact ⟨rfl, HA7.out.lw.bel⟩
set_option maxHeartbeats 4000000 in
set_option maxRecDepth 100000 in
theorem valReads (w : World) (A : Option Addr) (c : Nat) (l : List Int) (s : ByteArray) (hv : HasB w (.slice A l.length c) l) (hy : Byts l) (hs : s.size ≤ 140737488351232) (hg : Gv w) :
    Calls Tryz.prog 4 #[.slice A l.length c, .string s] w fun e w' => e = .returned (.bool true) ∧ Below w.heap.size w w' := by
  have C0 := Lib.hid (c_valive w hg)
  have HV := Lib.hid hv
  have HG := Lib.hid hg
  by_cases h1 : l.length ≤ 300
  · have t1 : decide (300 < (l.length : Int)) = false := decide_eq_false (by omega)
    by_cases h2 : s.size ≤ 300
    · have t2 : decide (300 < (s.size : Int)) = false := decide_eq_false (by omega)
      obtain ⟨k, n, t, b, hd⟩ := dec_ex l
      obtain ⟨k2, n2, u, b2, hd2⟩ := rdv_ex s
      have C1 := Lib.hid (fun W hv hg => c_vdecode W (.slice A l.length c) l hv hy (by omega) hg k n t b hd)
      have C2 := Lib.hid (fun W hv => c_rvdecode W (.slice A l.length c) l hv hy (by omega) k n t b hd)
      have C3 := Lib.hid (fun W hg => c_vread s (by omega) W hg k2 n2 u b2 hd2)
      have C4 := Lib.hid (fun W => c_rvread s (by omega) W k2 n2 u b2 hd2)
      simp only [vv] at C1 C2 C3 C4
      clear hv hy hs hg h1 h2 hd hd2
      go_enter Tryz.func4, Tryz.ntmps4
      go_wp2_with fail
      refine C0.out.mono ?_
      rintro e w1 ⟨rfl, hb⟩
      have HB1 := Lib.hid hb
      have HG1 := Lib.hid (HG.out.below hb)
      have HV1 := Lib.hid (HV.out.below hb)
      clear hb HG HV C0
      go_wp2_with fail
      refine (C1.out _ HV1.out HG1.out).mono ?_
      rintro e w2 ⟨rfl, hb⟩
      have ha := below_alloc w2 (.cells #[.int .i64 k, .int .i64 n, .string t] 23)
      have HB2 := Lib.hid (below_to (below_to HB1.out hb) ha)
      have HG2 := Lib.hid ((HG1.out.below hb).below ha)
      have HV2 := Lib.hid ((HV1.out.below hb).below ha)
      have HX2 := Lib.hid (heap_alloc_new w2 (.cells #[.int .i64 k, .int .i64 n, .string t] 23))
      clear hb ha HB1 HG1 HV1 C1
      go_wp2_with fail
      refine (C2.out _ HV2.out).mono ?_
      rintro e w3 ⟨rfl, hb⟩
      have ha := below_alloc w3 (.cells #[.int .i64 k, .int .i64 n, .string t] 23)
      have HB3 := Lib.hid (below_to (below_to HB2.out hb) ha)
      have HG3 := Lib.hid ((HG2.out.below hb).below ha)
      have HX3 := Lib.hid (box_keep (box_keep HX2.out hb) ha)
      have HY3 := Lib.hid (heap_alloc_new w3 (.cells #[.int .i64 k, .int .i64 n, .string t] 23))
      clear hb ha HB2 HG2 HV2 HX2 C2
      go_wp2_with fail
      refine (C3.out _ HG3.out).mono ?_
      rintro e w4 ⟨rfl, hb⟩
      have ha := below_alloc w4 (.cells #[.int .i64 k2, .int .i64 n2, .string u] 23)
      have HB4 := Lib.hid (below_to (below_to HB3.out hb) ha)
      have HX4 := Lib.hid (box_keep (box_keep HX3.out hb) ha)
      have HY4 := Lib.hid (box_keep (box_keep HY3.out hb) ha)
      have HZ4 := Lib.hid (heap_alloc_new w4 (.cells #[.int .i64 k2, .int .i64 n2, .string u] 23))
      clear hb ha HB3 HG3 HX3 HY3 C3
      go_wp2_with fail
      refine (C4.out _).mono ?_
      rintro e w5 ⟨rfl, hb⟩
      have ha := below_alloc w5 (.cells #[.int .i64 k2, .int .i64 n2, .string u] 23)
      have HB5 := Lib.hid (below_to (below_to HB4.out hb) ha)
      have HX5 := Lib.hid (box_keep (box_keep HX4.out hb) ha)
      have HY5 := Lib.hid (box_keep (box_keep HY4.out hb) ha)
      have HZ5 := Lib.hid (box_keep (box_keep HZ4.out hb) ha)
      have HU5 := Lib.hid (heap_alloc_new w5 (.cells #[.int .i64 k2, .int .i64 n2, .string u] 23))
      clear hb ha HB4 HX4 HY4 HZ4 C4
      go_upto_region 9 with fail
      generalize w5.alloc (.cells #[.int .i64 k2, .int .i64 n2, .string u] 23) = W at HB5 HX5 HY5 HZ5 HU5 ⊢
      obtain ⟨x0, x1, x2⟩ := cells3 HX5.out
      obtain ⟨y0, y1, y2⟩ := cells3 HY5.out
      obtain ⟨z0, z1, z2⟩ := cells3 HZ5.out
      obtain ⟨u0, u1, u2⟩ := cells3 HU5.out
      go_wp2
      go_ret
      exact ⟨rfl, HB5.out⟩
    · have t2 : decide (300 < (s.size : Int)) = true := decide_eq_true (by omega)
      clear h1 h2 hv hy hs hg HV HG
      go_enter Tryz.func4, Tryz.ntmps4
      go_wp2_with fail
      refine C0.out.mono ?_
      rintro e w1 ⟨rfl, hb⟩
      have HB1 := Lib.hid hb
      clear hb
      go_wp2_with fail
      go_ret
      exact ⟨rfl, HB1.out⟩
  · have t1 : decide (300 < (l.length : Int)) = true := decide_eq_true (by omega)
    clear h1 hv hy hs hg HV HG
    go_enter Tryz.func4, Tryz.ntmps4
    go_wp2_with fail
    refine C0.out.mono ?_
    rintro e w1 ⟨rfl, hb⟩
    have HB1 := Lib.hid hb
    clear hb
    go_wp2_with fail
    go_ret
    exact ⟨rfl, HB1.out⟩
end Go.Proofs.YtikpmlginojnhaaGreatDoor.Fl

namespace Go.Proofs.YtikpmlginojnhaaGreatDoor.Fl
open Go.RowKit Go.Maps
set_option linter.unusedVariables false
set_option linter.unusedSimpArgs false
theorem HasB.at {w : World} {A : Option Addr} {n c : Nat} {l : List Int} (h : HasB w (.slice A n c) l) (k : Nat) (hk : k < l.length) : ∃ ad, A = some ad ∧ w.cell? (ad.add k) = some (.int .u8 (l.getD k 0)) := by
  obtain ⟨A', c', e, _, h2⟩ := h
  injection e with e1 e2 e3
  subst e1
  exact h2 k hk
set_option maxHeartbeats 4000000 in
set_option maxRecDepth 100000 in
theorem valBytes (w : World) (ka na : Int) (sa : ByteArray) (kb nb : Int) (sb : ByteArray) (hna : Wf na) (hnb : Wf nb) (hsa : sa.size ≤ 140737488351232) (hsb : sb.size ≤ 140737488351232) (hg : Gv w) :
    Calls Tryz.prog 5 #[vv ka na sa, vv kb nb sb] w fun e w' => e = .returned (.bool true) ∧ Below w.heap.size w w' := by
  have HL := Lib.hid (Lw.start w hg ka na sa kb nb sb)
  obtain ⟨la, hla⟩ : ∃ la, decide (500 < (sa.size : Int)) = la := ⟨_, rfl⟩
  obtain ⟨lb, hlb⟩ : ∃ lb, decide (500 < (sb.size : Int)) = lb := ⟨_, rfl⟩
  obtain ⟨ra, hra⟩ : ∃ r, rightV ka na sa = r := ⟨_, rfl⟩
  obtain ⟨rb, hrb⟩ : ∃ r, rightV kb nb sb = r := ⟨_, rfl⟩
  have CA := Lib.hid (fun W => c_vlong ka na sa la hla W)
  have CB := Lib.hid (fun W => c_vlong kb nb sb lb hlb W)
  have RA := Lib.hid (fun W hg => c_vright ka na sa hna (by omega) ra hra W hg)
  have RB := Lib.hid (fun W hg => c_vright kb nb sb hnb (by omega) rb hrb W hg)
  have CE := Lib.hid (fun W hg => c_vencode ka na sa hna hsa W hg)
  have CF := Lib.hid (fun W hg => c_vencode kb nb sb hnb hsb W hg)
  have CO := Lib.hid (fun W => c_vorder ka na sa kb nb sb W)
  have HP := Lib.hid (fun h1 h2 => enc_part (ka := ka) (sa := sa) (kb := kb) (sb := sb) hna hnb h1 h2)
  have HQ := Lib.hid (fun h1 h2 => enc_all (ka := ka) (sa := sa) (kb := kb) (sb := sb) hna hnb h1 h2)
  have hlen := encV_small ka na sa
  have hlen2 := encV_small kb nb sb
  rw [hra] at CE HP HQ
  rw [hrb] at CF HP HQ
  generalize ordV ka na sa kb nb sb = q at CO HP HQ
  generalize encV ka na sa = l at CE HP HQ hlen
  generalize encV kb nb sb = m at CF HP HQ hlen2
  simp only [vv] at CA CB CE CF CO RA RB ⊢
  clear hg hna hnb hsa hsb hla hlb hra hrb
  go_enter Tryz.func5, Tryz.ntmps5
  go_wp2_with fail
  refine (c_valive _ HL.out.gv).mono ?_
  rintro e w1 ⟨rfl, hb⟩
  have HL1 := Lib.hid (HL.out.below hb)
  clear hb HL
  obtain ⟨x0, x1, x2, y0, y1, y2⟩ := HL1.out.cells
  go_wp2_with fail
  refine (CA.out _).mono ?_
  rintro e w2 ⟨rfl, hb⟩
  have HL2 := Lib.hid (HL1.out.below hb)
  clear hb HL1 x0 x1 x2 y0 y1 y2
  cases la with
  | true =>
    go_wp2
    go_ret
    exact ⟨rfl, HL2.out.bel⟩
  | false =>
    obtain ⟨x0, x1, x2, y0, y1, y2⟩ := HL2.out.cells
    go_wp2_with fail
    refine (CB.out _).mono ?_
    rintro e w3 ⟨rfl, hb⟩
    have HL3 := Lib.hid (HL2.out.below hb)
    clear hb HL2 x0 x1 x2 y0 y1 y2
    cases lb with
    | true =>
      go_wp2
      go_ret
      exact ⟨rfl, HL3.out.bel⟩
    | false =>
      obtain ⟨x0, x1, x2, y0, y1, y2⟩ := HL3.out.cells
      go_wp2_with fail
      refine (RA.out _ HL3.out.gv).mono ?_
      rintro e w4 ⟨rfl, hb⟩
      have HL4 := Lib.hid (HL3.out.below hb)
      clear hb HL3 x0 x1 x2 y0 y1 y2
      cases ra with
      | false =>
        go_wp2
        go_ret
        exact ⟨rfl, HL4.out.bel⟩
      | true =>
        obtain ⟨x0, x1, x2, y0, y1, y2⟩ := HL4.out.cells
        go_wp2_with fail
        refine (RB.out _ HL4.out.gv).mono ?_
        rintro e w5 ⟨rfl, hb⟩
        have HL5 := Lib.hid (HL4.out.below hb)
        clear hb HL4 x0 x1 x2 y0 y1 y2
        cases rb with
        | false =>
          go_wp2
          go_ret
          exact ⟨rfl, HL5.out.bel⟩
        | true =>
          have HPO := Lib.hid (HP.out (by trivial) (by trivial))
          have HQO := Lib.hid (HQ.out (by trivial) (by trivial))
          clear HP HQ
          obtain ⟨x0, x1, x2, y0, y1, y2⟩ := HL5.out.cells
          go_wp2_with fail
          refine (CE.out _ HL5.out.gv).mono ?_
          rintro e w6 ⟨v, rfl, hv, hb⟩
          have HL6 := Lib.hid (HL5.out.below hb)
          have HV6 := Lib.hid hv
          clear hb hv HL5 x0 x1 x2 y0 y1 y2
          obtain ⟨x0, x1, x2, y0, y1, y2⟩ := HL6.out.cells
          go_wp2_with fail
          refine (CF.out _ HL6.out.gv).mono ?_
          rintro e w7 ⟨v2, rfl, hv, hb⟩
          have H7 := Lib.hid (LwV.mk (HL6.out.below hb) (HV6.out.below hb) hv)
          clear hb hv HL6 HV6 x0 x1 x2 y0 y1 y2 CE CF
          obtain ⟨A1, c1, rfl⟩ := H7.out.hv.len
          obtain ⟨A2, c2, rfl⟩ := H7.out.hu.len
          go_wp2
          go_loopw [9] (fun v9 W => ∃ k : Nat, k ≤ l.length ∧ k ≤ m.length ∧ v9 = .int .i64 k ∧ Hid (∀ j, j < k → l.getD j 0 = m.getD j 0) ∧ Hid (LwV w W ka na sa kb nb sb (.slice A1 l.length c1) (.slice A2 m.length c2) l m)) (fun v9 _ => l.length - (intOf v9).toNat)
          case atStart => exact ⟨0, by omega, by omega, rfl, Lib.hid (fun j h => by omega), H7⟩
          case round =>
            clear H7
            obtain ⟨k, hk1, hk2, rfl, HE, HW⟩ := hrel
            by_cases h1 : k < l.length
            · have t1 : decide ((k : Int) < (l.length : Int)) = true := decide_eq_true (by omega)
              by_cases h2 : k < m.length
              · have t2 : decide ((k : Int) < (m.length : Int)) = true := decide_eq_true (by omega)
                obtain ⟨ad1, rfl, p1⟩ := HW.out.hv.at k h1
                obtain ⟨ad2, rfl, p2⟩ := HW.out.hu.at k h2
                have HPK := Lib.hid (HPO.out k h1 h2 HE.out)
                obtain ⟨x, hx⟩ : ∃ x, l.getD k 0 = x := ⟨_, rfl⟩
                obtain ⟨y, hy⟩ : ∃ y, m.getD k 0 = y := ⟨_, rfl⟩
                rw [hx] at p1 HPK
                rw [hy] at p2 HPK
                have HXY := Lib.hid (And.intro hx hy)
                clear hx hy
                have hk0 : (0 : Int) ≤ (k : Int) := by omega
                have hk3 : (k : Int) < (l.length : Int) := by omega
                have hk4 : (k : Int) < (m.length : Int) := by omega
                have HKK := Lib.hid (And.intro h1 h2)
                by_cases hxy : x = y
                · have hd : (x != y) = false := by simp [hxy]
                  have HN := Lib.hid (show ∀ j, j < k + 1 → l.getD j 0 = m.getD j 0 from fun j hj => by
                    by_cases e : j = k
                    · subst e; rw [HXY.out.1, HXY.out.2, hxy]
                    · exact HE.out j (by omega))
                  clear hxy
                  go_wp2_with fail
                  go_quiet (fail)
                  go_wp2
                  go_roundw
                  case rel => exact ⟨k + 1, HKK.out.1, HKK.out.2, by go_num, HN, Lib.hid (HW.out.below (below_drewN wr nq))⟩
                  case measure => have := HKK.out.1; simp [intOf]; omega
                · have hd : (x != y) = true := by simp [hxy]
                  obtain ⟨g1, g2⟩ := HPK.out hxy
                  have t3 : (decide (x < y) == decide (q < 0)) = true := by rw [beq_iff_eq]; exact decide_eq_decide.2 g1
                  have t4 : (q != 0) = true := by simp [g2]
                  clear hxy g1 g2 HPK
                  go_wp2_with fail
                  go_quiet (fail)
                  have HA := Lib.hid (HW.out.below (below_drewN wr nq))
                  have HC := Lib.hid (show (wr.drewN nq).cell? (ad1.add k) = some (.int .u8 x) ∧ (wr.drewN nq).cell? (ad2.add k) = some (.int .u8 y) from ⟨((below_drewN wr nq).cell (World.block_lt_of_cell? wr _ p1)).trans p1, ((below_drewN wr nq).cell (World.block_lt_of_cell? wr _ p2)).trans p2⟩)
                  clear p1 p2
                  generalize wr.drewN nq = w8 at HA HC ⊢
                  go_wp2_with fail
                  have HA0 := Lib.hid (HA.out.below (Below.refl _ _).drew)
                  have HC0 := Lib.hid (show w8.drew.cell? (ad1.add k) = some (.int .u8 x) ∧ w8.drew.cell? (ad2.add k) = some (.int .u8 y) from HC.out)
                  refine wp_region_held_drew (S := fun X => Lw w X ka na sa kb nb sb ∧ X.cell? (ad1.add k) = some (.int .u8 x) ∧ X.cell? (ad2.add k) = some (.int .u8 y)) (by kernel_rfl) ⟨HA0.out.lw, HC0.out⟩ (fun hHeld => ?_)
                  refine wpAnyH_take (i := 0) (oi := ?o_1) (v := ?v_1) ?hi_1 ?hs_1 ?hf_1 ?hr_1 ?hQ_1 ?hy_1 ?hS_1 ?rest_1; (case hi_1 => (simp only [List.getElem?_toArray, List.getElem?_cons_zero, List.getElem?_cons_succ]; rfl)); (case hs_1 => kernel_rfl); (case hf_1 => kernel_rfl); (case hr_1 => kernel_rfl); (case hQ_1 => exact fun _ _ _ h => h); (case hS_1 => assumption); (case hy_1 => (refine Or.inl ⟨by rfl, ?_⟩; intro w hSw; obtain ⟨hS1, p1, p2⟩ := hSw; obtain ⟨x0, x1, x2, y0, y1, y2⟩ := Lw.cells hS1; go_simp; first | done | with_reducible rfl)); (try simp only [Act.put, List.setIfInBounds_toArray, List.set_cons_zero, List.set_cons_succ])
                  refine wpAnyH_take (i := 1) (oi := ?o_2) (v := ?v_2) ?hi_2 ?hs_2 ?hf_2 ?hr_2 ?hQ_2 ?hy_2 ?hS_2 ?rest_2; (case hi_2 => (simp only [List.getElem?_toArray, List.getElem?_cons_zero, List.getElem?_cons_succ]; rfl)); (case hs_2 => kernel_rfl); (case hf_2 => kernel_rfl); (case hr_2 => kernel_rfl); (case hQ_2 => exact fun _ _ _ h => h); (case hS_2 => assumption); (case hy_2 => (refine Or.inl ⟨by rfl, ?_⟩; intro w hSw; obtain ⟨hS1, p1, p2⟩ := hSw; obtain ⟨x0, x1, x2, y0, y1, y2⟩ := Lw.cells hS1; go_simp; first | done | with_reducible rfl)); (try simp only [Act.put, List.setIfInBounds_toArray, List.set_cons_zero, List.set_cons_succ])
                  refine wpAnyH_take (i := 2) (oi := ?o_3) (v := ?v_3) ?hi_3 ?hs_3 ?hf_3 ?hr_3 ?hQ_3 ?hy_3 ?hS_3 ?rest_3; (case hi_3 => (simp only [List.getElem?_toArray, List.getElem?_cons_zero, List.getElem?_cons_succ]; rfl)); (case hs_3 => kernel_rfl); (case hf_3 => kernel_rfl); (case hr_3 => kernel_rfl); (case hQ_3 => exact fun _ _ _ h => h); (case hS_3 => assumption); (case hy_3 => (refine Or.inl ⟨by rfl, ?_⟩; intro w hSw; obtain ⟨hS1, p1, p2⟩ := hSw; obtain ⟨x0, x1, x2, y0, y1, y2⟩ := Lw.cells hS1; go_simp; first | done | with_reducible rfl)); (try simp only [Act.put, List.setIfInBounds_toArray, List.set_cons_zero, List.set_cons_succ])
                  refine wpAnyH_take (i := 3) (oi := ?o_4) (v := ?v_4) ?hi_4 ?hs_4 ?hf_4 ?hr_4 ?hQ_4 ?hy_4 ?hS_4 ?rest_4; (case hi_4 => (simp only [List.getElem?_toArray, List.getElem?_cons_zero, List.getElem?_cons_succ]; rfl)); (case hs_4 => kernel_rfl); (case hf_4 => kernel_rfl); (case hr_4 => kernel_rfl); (case hQ_4 => exact fun _ _ _ h => h); (case hS_4 => assumption); (case hy_4 => (refine Or.inl ⟨by rfl, ?_⟩; intro w hSw; obtain ⟨hS1, p1, p2⟩ := hSw; obtain ⟨x0, x1, x2, y0, y1, y2⟩ := Lw.cells hS1; go_simp; first | done | with_reducible rfl)); (try simp only [Act.put, List.setIfInBounds_toArray, List.set_cons_zero, List.set_cons_succ])
                  refine wpAnyH_take (i := 4) (oi := ?o_5) (v := ?v_5) ?hi_5 ?hs_5 ?hf_5 ?hr_5 ?hQ_5 ?hy_5 ?hS_5 ?rest_5; (case hi_5 => (simp only [List.getElem?_toArray, List.getElem?_cons_zero, List.getElem?_cons_succ]; rfl)); (case hs_5 => kernel_rfl); (case hf_5 => kernel_rfl); (case hr_5 => kernel_rfl); (case hQ_5 => exact fun _ _ _ h => h); (case hS_5 => assumption); (case hy_5 => (refine Or.inl ⟨by rfl, ?_⟩; intro w hSw; obtain ⟨hS1, p1, p2⟩ := hSw; obtain ⟨x0, x1, x2, y0, y1, y2⟩ := Lw.cells hS1; go_simp; first | done | with_reducible rfl)); (try simp only [Act.put, List.setIfInBounds_toArray, List.set_cons_zero, List.set_cons_succ])
                  refine wpAnyH_take (i := 5) (oi := ?o_6) (v := ?v_6) ?hi_6 ?hs_6 ?hf_6 ?hr_6 ?hQ_6 ?hy_6 ?hS_6 ?rest_6; (case hi_6 => (simp only [List.getElem?_toArray, List.getElem?_cons_zero, List.getElem?_cons_succ]; rfl)); (case hs_6 => kernel_rfl); (case hf_6 => kernel_rfl); (case hr_6 => kernel_rfl); (case hQ_6 => exact fun _ _ _ h => h); (case hS_6 => assumption); (case hy_6 => (refine Or.inl ⟨by rfl, ?_⟩; intro w hSw; obtain ⟨hS1, p1, p2⟩ := hSw; obtain ⟨x0, x1, x2, y0, y1, y2⟩ := Lw.cells hS1; go_simp; first | done | with_reducible rfl)); (try simp only [Act.put, List.setIfInBounds_toArray, List.set_cons_zero, List.set_cons_succ])
                  refine wpAnyH_take (i := 6) (oi := ?o_7) (v := ?v_7) ?hi_7 ?hs_7 ?hf_7 ?hr_7 ?hQ_7 ?hy_7 ?hS_7 ?rest_7; (case hi_7 => (simp only [List.getElem?_toArray, List.getElem?_cons_zero, List.getElem?_cons_succ]; rfl)); (case hs_7 => kernel_rfl); (case hf_7 => kernel_rfl); (case hr_7 => kernel_rfl); (case hQ_7 => exact fun _ _ _ h => h); (case hS_7 => assumption); (case hy_7 => (refine Or.inl ⟨by rfl, ?_⟩; intro w hSw; obtain ⟨hS1, p1, p2⟩ := hSw; obtain ⟨x0, x1, x2, y0, y1, y2⟩ := Lw.cells hS1; go_simp; first | done | with_reducible rfl)); (try simp only [Act.put, List.setIfInBounds_toArray, List.set_cons_zero, List.set_cons_succ])
                  refine wpAnyH_take (i := 7) (oi := ?o_8) (v := ?v_8) ?hi_8 ?hs_8 ?hf_8 ?hr_8 ?hQ_8 ?hy_8 ?hS_8 ?rest_8; (case hi_8 => (simp only [List.getElem?_toArray, List.getElem?_cons_zero, List.getElem?_cons_succ]; rfl)); (case hs_8 => kernel_rfl); (case hf_8 => kernel_rfl); (case hr_8 => kernel_rfl); (case hQ_8 => exact fun _ _ _ h => h); (case hS_8 => assumption); (case hy_8 => (refine Or.inl ⟨by rfl, ?_⟩; intro w hSw; obtain ⟨hS1, p1, p2⟩ := hSw; obtain ⟨x0, x1, x2, y0, y1, y2⟩ := Lw.cells hS1; go_simp; first | done | with_reducible rfl)); (try simp only [Act.put, List.setIfInBounds_toArray, List.set_cons_zero, List.set_cons_succ])
                  refine wpAnyH_take (i := 8) (oi := ?o_9) (v := ?v_9) ?hi_9 ?hs_9 ?hf_9 ?hr_9 ?hQ_9 ?hy_9 ?hS_9 ?rest_9; (case hi_9 => (simp only [List.getElem?_toArray, List.getElem?_cons_zero, List.getElem?_cons_succ]; rfl)); (case hs_9 => kernel_rfl); (case hf_9 => kernel_rfl); (case hr_9 => kernel_rfl); (case hQ_9 => exact fun _ _ _ h => h); (case hS_9 => assumption); (case hy_9 => (refine Or.inl ⟨by rfl, ?_⟩; intro w hSw; obtain ⟨hS1, p1, p2⟩ := hSw; obtain ⟨x0, x1, x2, y0, y1, y2⟩ := Lw.cells hS1; go_simp; first | done | with_reducible rfl)); (try simp only [Act.put, List.setIfInBounds_toArray, List.set_cons_zero, List.set_cons_succ])
                  refine wpAnyH_take (i := 9) (oi := ?o_10) (v := ?v_10) ?hi_10 ?hs_10 ?hf_10 ?hr_10 ?hQ_10 ?hy_10 ?hS_10 ?rest_10; (case hi_10 => (simp only [List.getElem?_toArray, List.getElem?_cons_zero, List.getElem?_cons_succ]; rfl)); (case hs_10 => kernel_rfl); (case hf_10 => kernel_rfl); (case hr_10 => kernel_rfl); (case hQ_10 => exact fun _ _ _ h => h); (case hS_10 => assumption); (case hy_10 => (refine Or.inl ⟨by rfl, ?_⟩; intro w hSw; obtain ⟨hS1, p1, p2⟩ := hSw; obtain ⟨x0, x1, x2, y0, y1, y2⟩ := Lw.cells hS1; go_simp; first | done | with_reducible rfl)); (try simp only [Act.put, List.setIfInBounds_toArray, List.set_cons_zero, List.set_cons_succ])
                  refine wpAnyH_take (i := 10) (oi := ?o_11) (v := ?v_11) ?hi_11 ?hs_11 ?hf_11 ?hr_11 ?hQ_11 ?hy_11 ?hS_11 ?rest_11; (case hi_11 => (simp only [List.getElem?_toArray, List.getElem?_cons_zero, List.getElem?_cons_succ]; rfl)); (case hs_11 => kernel_rfl); (case hf_11 => kernel_rfl); (case hr_11 => kernel_rfl); (case hQ_11 => exact fun _ _ _ h => h); (case hS_11 => assumption); (case hy_11 => (refine Or.inl ⟨by rfl, ?_⟩; intro w hSw; obtain ⟨hS1, p1, p2⟩ := hSw; obtain ⟨x0, x1, x2, y0, y1, y2⟩ := Lw.cells hS1; go_simp; first | done | with_reducible rfl)); (try simp only [Act.put, List.setIfInBounds_toArray, List.set_cons_zero, List.set_cons_succ])
                  refine wpAnyH_ready (rs := [11]) (by kernel_rfl) (by simp) ?_; refine AllReadyH.cons (o := ?o_12) ?hi_12 (fun K hK => ?_) AllReadyH.nil; (case hi_12 => (simp only [List.getElem?_toArray, List.getElem?_cons_zero, List.getElem?_cons_succ]; rfl)); go_simp; (go_at_call 15; ((refine (CO.out _).mono ?_); rintro e w_1 ⟨rfl, hb⟩; have HA1 := Lib.hid (HA0.out.below hb); have HC1 := Lib.hid (And.intro ((hb.cell (World.block_lt_of_cell? _ _ HC0.out.1)).trans HC0.out.1) ((hb.cell (World.block_lt_of_cell? _ _ HC0.out.2)).trans HC0.out.2)); clear hb)); refine hK.out _ _ ?_ (fun hHeld => ?_); (· exact ⟨HA1.out.lw, HC1.out⟩); clear hK K; (try simp only [Act.put, List.setIfInBounds_toArray, List.set_cons_zero, List.set_cons_succ])
                  refine wpAnyH_take (i := 12) (oi := ?o_13) (v := ?v_13) ?hi_13 ?hs_13 ?hf_13 ?hr_13 ?hQ_13 ?hy_13 ?hS_13 ?rest_13; (case hi_13 => (simp only [List.getElem?_toArray, List.getElem?_cons_zero, List.getElem?_cons_succ]; rfl)); (case hs_13 => kernel_rfl); (case hf_13 => kernel_rfl); (case hr_13 => kernel_rfl); (case hQ_13 => exact fun _ _ _ h => h); (case hS_13 => assumption); (case hy_13 => (refine Or.inl ⟨by rfl, ?_⟩; intro w hSw; obtain ⟨hS1, p1, p2⟩ := hSw; obtain ⟨x0, x1, x2, y0, y1, y2⟩ := Lw.cells hS1; go_simp; first | done | with_reducible rfl)); (try simp only [Act.put, List.setIfInBounds_toArray, List.set_cons_zero, List.set_cons_succ])
                  refine wpAnyH_take (i := 13) (oi := ?o_14) (v := ?v_14) ?hi_14 ?hs_14 ?hf_14 ?hr_14 ?hQ_14 ?hy_14 ?hS_14 ?rest_14; (case hi_14 => (simp only [List.getElem?_toArray, List.getElem?_cons_zero, List.getElem?_cons_succ]; rfl)); (case hs_14 => kernel_rfl); (case hf_14 => kernel_rfl); (case hr_14 => kernel_rfl); (case hQ_14 => exact fun _ _ _ h => h); (case hS_14 => assumption); (case hy_14 => (refine Or.inl ⟨by rfl, ?_⟩; intro w hSw; obtain ⟨hS1, p1, p2⟩ := hSw; obtain ⟨x0, x1, x2, y0, y1, y2⟩ := Lw.cells hS1; go_simp; first | done | with_reducible rfl)); (try simp only [Act.put, List.setIfInBounds_toArray, List.set_cons_zero, List.set_cons_succ])
                  refine wpAnyH_take (i := 14) (oi := ?o_15) (v := ?v_15) ?hi_15 ?hs_15 ?hf_15 ?hr_15 ?hQ_15 ?hy_15 ?hS_15 ?rest_15; (case hi_15 => (simp only [List.getElem?_toArray, List.getElem?_cons_zero, List.getElem?_cons_succ]; rfl)); (case hs_15 => kernel_rfl); (case hf_15 => kernel_rfl); (case hr_15 => kernel_rfl); (case hQ_15 => exact fun _ _ _ h => h); (case hS_15 => assumption); (case hy_15 => (refine Or.inl ⟨by rfl, ?_⟩; intro w hSw; obtain ⟨hS1, p1, p2⟩ := hSw; obtain ⟨x0, x1, x2, y0, y1, y2⟩ := Lw.cells hS1; go_simp; first | done | with_reducible rfl)); (try simp only [Act.put, List.setIfInBounds_toArray, List.set_cons_zero, List.set_cons_succ])
                  refine wpAnyH_take (i := 15) (oi := ?o_16) (v := ?v_16) ?hi_16 ?hs_16 ?hf_16 ?hr_16 ?hQ_16 ?hy_16 ?hS_16 ?rest_16; (case hi_16 => (simp only [List.getElem?_toArray, List.getElem?_cons_zero, List.getElem?_cons_succ]; rfl)); (case hs_16 => kernel_rfl); (case hf_16 => kernel_rfl); (case hr_16 => kernel_rfl); (case hQ_16 => exact fun _ _ _ h => h); (case hS_16 => assumption); (case hy_16 => (refine Or.inl ⟨by rfl, ?_⟩; intro w hSw; obtain ⟨hS1, p1, p2⟩ := hSw; obtain ⟨x0, x1, x2, y0, y1, y2⟩ := Lw.cells hS1; go_simp; first | done | with_reducible rfl)); (try simp only [Act.put, List.setIfInBounds_toArray, List.set_cons_zero, List.set_cons_succ])
                  refine wpAnyH_take (i := 16) (oi := ?o_17) (v := ?v_17) ?hi_17 ?hs_17 ?hf_17 ?hr_17 ?hQ_17 ?hy_17 ?hS_17 ?rest_17; (case hi_17 => (simp only [List.getElem?_toArray, List.getElem?_cons_zero, List.getElem?_cons_succ]; rfl)); (case hs_17 => kernel_rfl); (case hf_17 => kernel_rfl); (case hr_17 => kernel_rfl); (case hQ_17 => exact fun _ _ _ h => h); (case hS_17 => assumption); (case hy_17 => (refine Or.inl ⟨by rfl, ?_⟩; intro w hSw; obtain ⟨hS1, p1, p2⟩ := hSw; obtain ⟨x0, x1, x2, y0, y1, y2⟩ := Lw.cells hS1; go_simp; first | done | with_reducible rfl)); (try simp only [Act.put, List.setIfInBounds_toArray, List.set_cons_zero, List.set_cons_succ])
                  refine wpAnyH_ready (rs := [17]) (by kernel_rfl) (by simp) ?_; refine AllReadyH.cons (o := ?o_18) ?hi_18 (fun K hK => ?_) AllReadyH.nil; (case hi_18 => (simp only [List.getElem?_toArray, List.getElem?_cons_zero, List.getElem?_cons_succ]; rfl)); go_simp; (go_at_call 15; ((refine (CO.out _).mono ?_); rintro e w_2 ⟨rfl, hb⟩; have HA2 := Lib.hid (HA1.out.below hb); have HC2 := Lib.hid (And.intro ((hb.cell (World.block_lt_of_cell? _ _ HC1.out.1)).trans HC1.out.1) ((hb.cell (World.block_lt_of_cell? _ _ HC1.out.2)).trans HC1.out.2)); clear hb)); refine hK.out _ _ ?_ (fun hHeld => ?_); (· exact ⟨HA2.out.lw, HC2.out⟩); clear hK K; (try simp only [Act.put, List.setIfInBounds_toArray, List.set_cons_zero, List.set_cons_succ])
                  refine wpAnyH_take (i := 18) (oi := ?o_19) (v := ?v_19) ?hi_19 ?hs_19 ?hf_19 ?hr_19 ?hQ_19 ?hy_19 ?hS_19 ?rest_19; (case hi_19 => (simp only [List.getElem?_toArray, List.getElem?_cons_zero, List.getElem?_cons_succ]; rfl)); (case hs_19 => kernel_rfl); (case hf_19 => kernel_rfl); (case hr_19 => kernel_rfl); (case hQ_19 => exact fun _ _ _ h => h); (case hS_19 => assumption); (case hy_19 => (refine Or.inl ⟨by rfl, ?_⟩; intro w hSw; obtain ⟨hS1, p1, p2⟩ := hSw; obtain ⟨x0, x1, x2, y0, y1, y2⟩ := Lw.cells hS1; go_simp; first | done | with_reducible rfl)); (try simp only [Act.put, List.setIfInBounds_toArray, List.set_cons_zero, List.set_cons_succ])
                  refine wpAnyH_take (i := 19) (oi := ?o_20) (v := ?v_20) ?hi_20 ?hs_20 ?hf_20 ?hr_20 ?hQ_20 ?hy_20 ?hS_20 ?rest_20; (case hi_20 => (simp only [List.getElem?_toArray, List.getElem?_cons_zero, List.getElem?_cons_succ]; rfl)); (case hs_20 => kernel_rfl); (case hf_20 => kernel_rfl); (case hr_20 => kernel_rfl); (case hQ_20 => exact fun _ _ _ h => h); (case hS_20 => assumption); (case hy_20 => (refine Or.inl ⟨by rfl, ?_⟩; intro w hSw; obtain ⟨hS1, p1, p2⟩ := hSw; obtain ⟨x0, x1, x2, y0, y1, y2⟩ := Lw.cells hS1; go_simp; first | done | with_reducible rfl)); (try simp only [Act.put, List.setIfInBounds_toArray, List.set_cons_zero, List.set_cons_succ])
                  refine wpAnyH_take (i := 20) (oi := ?o_21) (v := ?v_21) ?hi_21 ?hs_21 ?hf_21 ?hr_21 ?hQ_21 ?hy_21 ?hS_21 ?rest_21; (case hi_21 => (simp only [List.getElem?_toArray, List.getElem?_cons_zero, List.getElem?_cons_succ]; rfl)); (case hs_21 => kernel_rfl); (case hf_21 => kernel_rfl); (case hr_21 => kernel_rfl); (case hQ_21 => exact fun _ _ _ h => h); (case hS_21 => assumption); (case hy_21 => (refine Or.inl ⟨by rfl, ?_⟩; intro w hSw; obtain ⟨hS1, p1, p2⟩ := hSw; obtain ⟨x0, x1, x2, y0, y1, y2⟩ := Lw.cells hS1; go_simp; first | done | with_reducible rfl)); (try simp only [Act.put, List.setIfInBounds_toArray, List.set_cons_zero, List.set_cons_succ])
                  refine wpAnyH_done (by kernel_rfl) ?_ _
                  go_wp2
                  go_ret
                  exact ⟨rfl, HA2.out.lw.bel⟩
              · have t2 : decide ((k : Int) < (m.length : Int)) = false := decide_eq_false (by omega)
                obtain ⟨g1, g2⟩ := HQO.out (fun j h1 h2 => HE.out j (by omega))
                subst g2
                have t5 : ((l.length : Int) == (m.length : Int)) = true := by simp [g1]
                clear g1 HQO HPO hk1 hk2
                obtain ⟨x0, x1, x2, y0, y1, y2⟩ := HW.out.lw.cells
                go_wp2_with fail
                refine (CO.out _).mono ?_
                rintro e w9 ⟨rfl, hb⟩
                have HB9 := Lib.hid (HW.out.below hb)
                clear hb
                go_wp2
                go_ret
                exact ⟨rfl, HB9.out.lw.bel⟩
            · have t1 : decide ((k : Int) < (l.length : Int)) = false := decide_eq_false (by omega)
              obtain ⟨g1, g2⟩ := HQO.out (fun j h1 h2 => HE.out j (by omega))
              subst g2
              have t5 : ((l.length : Int) == (m.length : Int)) = true := by simp [g1]
              clear g1 HQO HPO hk1 hk2
              obtain ⟨x0, x1, x2, y0, y1, y2⟩ := HW.out.lw.cells
              go_wp2_with fail
              refine (CO.out _).mono ?_
              rintro e w9 ⟨rfl, hb⟩
              have HB9 := Lib.hid (HW.out.below hb)
              clear hb
              go_wp2
              go_ret
              exact ⟨rfl, HB9.out.lw.bel⟩
end Go.Proofs.YtikpmlginojnhaaGreatDoor.Fl

namespace Go.Proofs.YtikpmlginojnhaaGreatDoor.Fl
open Go.RowKit Go.Maps
set_option linter.unusedVariables false
set_option linter.unusedSimpArgs false
set_option maxHeartbeats 4000000 in
set_option maxRecDepth 100000 in
theorem c_copyb (w : World) (v : Value) (l : List Int) (hv : HasB w v l) (hl : 0 < l.length) (hm : l.length ≤ 1000000) :
    Calls Tryz.prog 24 #[v] w fun e w' => ∃ v', e = .returned v' ∧ OwnB w' w.heap.size v' l ∧ Below w.heap.size w w' := by
  have HS := Lib.hid ((hv.below (below_alloc w (.cells #[] 5))).src hl)
  have HO := Lib.hid (OwnB.row w [] w.heap.size (Nat.le_refl _) (by decide))
  have HB := Lib.hid (below_alloc w (.cells #[] 5))
  obtain ⟨A, c, rfl⟩ := hv.len
  clear hv hl
  go_enter Tryz.func24, Tryz.ntmps24
  go_wp2_with (at_builtin; refine wp_append_b rfl (.tmp 5) (.tmp 6) rfl w.heap.size _ _ [] l rfl rfl ?o1 ?s1 ?l1 ?b1 ?_; (case o1 => exact HO.out); (case s1 => exact HS.out); (case l1 => simp; omega); (case b1 => simp); intro v2 w2 ho hb2 hg2; have HO2 := Lib.hid ho; have HB2 := Lib.hid (HB.out.trans hb2); clear ho hb2 hg2)
  go_ret
  exact ⟨v2, rfl, HO2.out, HB2.out⟩
theorem HasB.addr {w : World} {v : Value} {l : List Int} (h : HasB w v l) (hl : 0 < l.length) : ∃ ad c, v = .slice (some ad) l.length c ∧ l.length ≤ c := by
  obtain ⟨A, c, rfl, hc, hk⟩ := h
  obtain ⟨ad, rfl, _⟩ := hk 0 hl
  exact ⟨ad, c, rfl, hc⟩
theorem HasB.cut {w : World} {ad : Addr} {n c : Nat} {l : List Int} (h : HasB w (.slice (some ad) n c) l) (k : Nat) (hk : k < l.length) (hc : l.length ≤ c) : HasB w (.slice (some ad) k c) (l.take k) := by
  have hl : (l.take k).length = k := by rw [List.length_take]; omega
  refine ⟨some ad, c, by rw [hl], by omega, fun j hj => ?_⟩
  rw [hl] at hj
  obtain ⟨a2, e, h2⟩ := h.at j (by omega)
  refine ⟨a2, e, ?_⟩
  rw [h2]
  congr 2
  simp only [List.getD_eq_getElem?_getD]
  rw [List.getElem?_take_of_lt hj]
theorem encV_byts (k n : Int) (s : ByteArray) : Byts (encV k n s) := by
  cases h : rightV k n s with
  | false => unfold encV; rw [if_neg (by rw [h]; decide)]; intro x hx; cases hx
  | true =>
    rw [encV_right h]
    have hp : Byts (encP k n s) := by
      rcases right_kinds h with ⟨rfl, h⟩ | ⟨rfl, h, h2⟩ | ⟨rfl, h, h2⟩ | ⟨rfl, rfl, h⟩ | ⟨rfl, rfl, h, h2⟩
      · exact b8_byts _
      · intro x hx
        have : x = n := by have hx : x ∈ [n] := hx; simpa using hx
        omega
      · show Byts (bytesF n)
        unfold bytesF
        rw [if_pos h2]
        exact b8_byts _
      all_goals
        show Byts (zz (byt s) ++ [0, 1])
        intro x hx
        rcases List.mem_append.1 hx with hx | hx
        · exact zz_byts (byt_bd s) x hx
        · simp at hx
          omega
    intro x hx
    rcases List.mem_cons.1 hx with rfl | hx
    · rcases right_kinds h with ⟨e, c⟩ | ⟨e, c, c2⟩ | ⟨e, c, c2⟩ | ⟨e, e2, c⟩ | ⟨e, e2, c, c2⟩ <;> omega
    · exact hp x hx
/-- A value in a box. -/
structure Ow (w W : World) (k n : Int) (s : ByteArray) : Prop where
  a : W.heap[w.heap.size]? = some (.cells #[.int .i64 k, .int .i64 n, .string s] 23 (0, 0))
  bel : Below w.heap.size w W
  gv : Gv W
theorem Ow.below {w W W' : World} {k n : Int} {s : ByteArray} (h : Ow w W k n s) (hb : Below W.heap.size W W') : Ow w W' k n s := ⟨box_keep h.a hb, below_to h.bel hb, h.gv.below hb⟩
theorem Ow.start (w : World) (hg : Gv w) (k n : Int) (s : ByteArray) : Ow w (w.alloc (.cells #[.int .i64 k, .int .i64 n, .string s] 23)) k n s := ⟨heap_alloc_new w _, below_alloc w _, hg.below (below_alloc w _)⟩
theorem dec_self {k n : Int} {s : ByteArray} (hn : Wf n) (h : rightV k n s = true) : DecIs (encV k n s) k n s true := Or.inl ⟨rfl, hn, h, rfl⟩
theorem rdv_self {k n : Int} {s : ByteArray} (hn : Wf n) (h : rightV k n s = true) : RdV (showV k n s) k n s true := Or.inl ⟨rfl, hn, h, rfl⟩
theorem dec_cut_no {k n : Int} {s : ByteArray} (hn : Wf n) (h : rightV k n s = true) (c : Nat) (hc : c < (encV k n s).length) : DecIs ((encV k n s).take c) 0 0 ⟨#[]⟩ false := by
  obtain ⟨k', n', s', b, hd⟩ := dec_ex ((encV k n s).take c)
  obtain ⟨rfl, rfl, rfl, rfl⟩ := dec_cut hn h c hc hd
  exact hd
theorem dec_more_no {k n : Int} {s : ByteArray} (hn : Wf n) (h : rightV k n s = true) (r : List Int) (hr : ¬ r = []) : DecIs (encV k n s ++ r) 0 0 ⟨#[]⟩ false := by
  obtain ⟨k', n', s', b, hd⟩ := dec_ex (encV k n s ++ r)
  obtain ⟨rfl, rfl, rfl, rfl⟩ := dec_more hn h r hr hd
  exact hd
theorem show_test (k n : Int) (s : ByteArray) : ((showV k n s).toList == [63]) = !(rightV k n s) := by
  cases h : rightV k n s with
  | false => rw [show_wrong h]; exact tl_true rfl
  | true => exact tl_false (show_q h)
theorem showV_size (k n : Int) (s : ByteArray) (hn : Wf n) (hs : s.size ≤ 140737488351232) : (showV k n s).size ≤ 100 := by
  cases h : rightV k n s with
  | false => rw [show_wrong h]; decide
  | true =>
    have hq := quo_size s
    have hS := showS_size n
    rcases show_form h with ⟨_, _, e⟩ | ⟨_, _, _, e⟩ | ⟨_, _, _, e⟩ | ⟨_, _, _, e⟩ | ⟨rfl, _, e⟩ | ⟨rfl, _, e⟩ <;> rw [e]
    · have h1 := dec_len 20 n.natAbs (by omega) (by unfold Wf at hn; simp; omega)
      have h2 := dec_len 20 n.toNat (by omega) (by unfold Wf at hn; simp; omega)
      rw [Lib.size_mk]
      unfold Lib.itoa
      split
      · rw [List.length_cons]; omega
      · omega
    · decide
    · decide
    · rw [ByteArray.size_append]; show 1 + _ ≤ _; omega
    all_goals
      rw [ByteArray.size_append]
      show 1 + _ ≤ _
      have : s.size ≤ 32 := by rcases right_kinds h with ⟨e, c⟩ | ⟨e, c, c2⟩ | ⟨e, c, c2⟩ | ⟨e, e2, c⟩ | ⟨e, e2, c, c2⟩ <;> omega
      have := hq this
      omega
set_option maxHeartbeats 4000000 in
set_option maxRecDepth 100000 in
theorem valBack (w : World) (k n : Int) (s : ByteArray) (cut : Int) (hn : Wf n) (hs : s.size ≤ 140737488351232) (hg : Gv w) :
    Calls Tryz.prog 6 #[vv k n s, .int .i64 cut] w fun e w' => e = .returned (.bool true) ∧ Below w.heap.size w w' := by
  have HL := Lib.hid (Ow.start w hg k n s)
  obtain ⟨la, hla⟩ : ∃ la, decide (500 < (s.size : Int)) = la := ⟨_, rfl⟩
  obtain ⟨r, hr⟩ : ∃ r, rightV k n s = r := ⟨_, rfl⟩
  have CA := Lib.hid (fun W => c_vlong k n s la hla W)
  have CE := Lib.hid (fun W hg => c_vencode k n s hn hs W hg)
  have CT := Lib.hid (fun W hg => c_vshow k n s hn hs W hg)
  have CR := Lib.hid (fun W hg => c_vright k n s hn (by omega) r hr W hg)
  have hq := show_test k n s
  have hlen := encV_small k n s
  have hby := encV_byts k n s
  have HD := Lib.hid (fun h => dec_self (k := k) (s := s) hn h)
  have HV := Lib.hid (fun h => rdv_self (k := k) (s := s) hn h)
  have HC := Lib.hid (fun h c hc => dec_cut_no (k := k) (s := s) hn h c hc)
  have HM := Lib.hid (fun h => dec_more_no (k := k) (s := s) hn h [0] (by simp))
  have H0 := Lib.hid (show rightV k n s = false → encV k n s = [] from fun h => by unfold encV; rw [if_neg (by rw [h]; decide)])
  have H2 := Lib.hid (fun h => encV_len (k := k) (n := n) (s := s) h)
  have husz := showV_size k n s hn hs
  rw [hr] at CE hq HD HV HC HM H0 H2
  generalize encV k n s = l at CE hlen hby HD HC HM H0 H2
  generalize showV k n s = u at CT hq HV husz
  simp only [vv] at CA CE CT CR ⊢
  clear hg hs hla hr
  go_enter Tryz.func6, Tryz.ntmps6
  go_wp2_with fail
  refine (c_valive _ HL.out.gv).mono ?_
  rintro e w1 ⟨rfl, hb⟩
  have HL1 := Lib.hid (HL.out.below hb)
  clear hb HL
  obtain ⟨x0, x1, x2⟩ := cells3 HL1.out.a
  go_wp2_with fail
  refine (CA.out _).mono ?_
  rintro e w2 ⟨rfl, hb⟩
  have HL2 := Lib.hid (HL1.out.below hb)
  clear hb HL1 x0 x1 x2 CA
  cases la with
  | true =>
    go_wp2
    go_ret
    exact ⟨rfl, HL2.out.bel⟩
  | false =>
    obtain ⟨x0, x1, x2⟩ := cells3 HL2.out.a
    go_wp2_with fail
    refine (CE.out _ HL2.out.gv).mono ?_
    rintro e w3 ⟨v, rfl, hv, hb⟩
    have HL3 := Lib.hid (HL2.out.below hb)
    have HX3 := Lib.hid hv
    clear hb hv HL2 x0 x1 x2 CE
    obtain ⟨x0, x1, x2⟩ := cells3 HL3.out.a
    go_wp2_with fail
    refine (CT.out _ HL3.out.gv).mono ?_
    rintro e w4 ⟨rfl, hb⟩
    have HL4 := Lib.hid (HL3.out.below hb)
    have HX4 := Lib.hid (HX3.out.below hb)
    clear hb HL3 HX3 x0 x1 x2 CT
    obtain ⟨x0, x1, x2⟩ := cells3 HL4.out.a
    go_wp2_with fail
    refine (CR.out _ HL4.out.gv).mono ?_
    rintro e w5 ⟨rfl, hb⟩
    have HL5 := Lib.hid (HL4.out.below hb)
    have HX5 := Lib.hid (HX4.out.below hb)
    clear hb HL4 HX4 x0 x1 x2 CR
    cases r with
    | false =>
      obtain rfl := H0.out (by trivial)
      obtain ⟨A, c, rfl⟩ := HX5.out.len
      rw [show (!false) = true from rfl] at hq
      clear HX5
      go_wp2
      go_ret
      exact ⟨rfl, HL5.out.bel⟩
    | true =>
      rw [show (!true) = false from rfl] at hq
      have hl2 := H2.out (by trivial)
      have C5 := Lib.hid (fun W v hv hg => c_vdecode W v l hv hby (by omega) hg k n s true (HD.out (by trivial)))
      have C6 := Lib.hid (fun W hg => c_vread u (by omega) W hg k n s true (HV.out (by trivial)))
      have C7 := Lib.hid (fun W v c hc (hv : HasB W v (l.take c)) hg => c_vdecode W v (l.take c) hv (fun x hx => hby x (List.mem_of_mem_take hx)) (by rw [List.length_take]; omega) hg 0 0 ⟨#[]⟩ false (HC.out (by trivial) c hc))
      have C8 := Lib.hid (fun W v hv hg => c_vdecode W v (l ++ [0]) hv (byts_snoc hby (by omega)) (by simp; omega) hg 0 0 ⟨#[]⟩ false (HM.out (by trivial)))
      have C9 := Lib.hid (fun W v hv => c_copyb W v l hv (by omega) (by omega))
      obtain ⟨ad, c, rfl, hc⟩ := HX5.out.addr (by omega)
      simp only [vv] at C5 C6 C7 C8
      clear H0 H2 HD HV HC HM hby husz hn
      go_wp2_with fail
      refine (C5.out _ _ HX5.out HL5.out.gv).mono ?_
      rintro e w6 ⟨rfl, hb⟩
      have ha := below_alloc w6 (.cells #[.int .i64 k, .int .i64 n, .string s] 23)
      have HL6 := Lib.hid ((HL5.out.below hb).below ha)
      have HX6 := Lib.hid ((HX5.out.below hb).below ha)
      have HY6 := Lib.hid (heap_alloc_new w6 (.cells #[.int .i64 k, .int .i64 n, .string s] 23))
      clear hb ha HL5 HX5 C5
      go_wp2_with fail
      refine (C6.out _ HL6.out.gv).mono ?_
      rintro e w7 ⟨rfl, hb⟩
      have ha := below_alloc w7 (.cells #[.int .i64 k, .int .i64 n, .string s] 23)
      have HL7 := Lib.hid ((HL6.out.below hb).below ha)
      have HX7 := Lib.hid ((HX6.out.below hb).below ha)
      have HY7 := Lib.hid (box_keep (box_keep HY6.out hb) ha)
      have HZ7 := Lib.hid (heap_alloc_new w7 (.cells #[.int .i64 k, .int .i64 n, .string s] 23))
      clear hb ha HL6 HX6 HY6 C6
      go_upto_region 13 with fail
      generalize w7.alloc (.cells #[.int .i64 k, .int .i64 n, .string s] 23) = w8 at HL7 HX7 HY7 HZ7 ⊢
      obtain ⟨x0, x1, x2⟩ := cells3 HL7.out.a
      obtain ⟨y0, y1, y2⟩ := cells3 HY7.out
      obtain ⟨z0, z1, z2⟩ := cells3 HZ7.out
      have HX8 := HX7
      have HL8 := HL7
      clear HX7 HL7 HY7 HZ7
      by_cases h0 : 0 ≤ cut
      · have t1 : decide (0 ≤ cut) = true := decide_eq_true h0
        by_cases h1 : cut < (l.length : Int)
        · have t2 : decide (cut < (l.length : Int)) = true := decide_eq_true h1
          obtain ⟨ci, rfl⟩ : ∃ ci : Nat, cut = ci := ⟨cut.toNat, by omega⟩
          have hci : ci < l.length := by omega
          have hcc : (ci : Int) ≤ (c : Int) := by omega
          have HCU := Lib.hid (HX8.out.cut ci hci hc)
          have HCI := Lib.hid hci
          clear h0 h1 hci
          go_wp2_with fail
          refine (C7.out _ _ ci HCI.out HCU.out HL8.out.gv).mono ?_
          rintro e w10 ⟨rfl, hb⟩
          have HL10 := Lib.hid (HL8.out.below hb)
          have HX10 := Lib.hid (HX8.out.below hb)
          clear hb HL8 HX8 HCU HCI x0 x1 x2 y0 y1 y2 z0 z1 z2 t1 t2 hcc
          go_wp2_with fail
          refine (C9.out _ _ HX10.out).mono ?_
          rintro e w11 ⟨v2, rfl, ho, hb⟩
          have HB11 := Lib.hid hb
          have HO11 := Lib.hid ho
          clear hb ho
          go_wp2_with (first | (go_at_call 20; fail) | (at_builtin; refine wp_append_b rfl (.tmp 82) (.tmp 83) rfl w10.heap.size _ _ l [0] rfl rfl ?o1 ?s1 ?l1 ?b1 ?_; (case o1 => exact HO11.out.alloc _); (case s1 => exact SrcB.row _ [0]); (case l1 => simp; omega); (case b1 => have := HB11.out.size; simp; omega); intro v3 w12 ho hb2 hg2; have HO12 := Lib.hid ho; have HL12 := Lib.hid (HL10.out.below ((HB11.out.trans ((below_alloc w11 (.cells #[.int .u8 0] 5)).mono HB11.out.size)).trans hb2)); clear ho hb2 hg2))
          refine (C8.out _ _ HO12.out.has HL12.out.gv).mono ?_
          rintro e w13 ⟨rfl, hb⟩
          have HL13 := Lib.hid (HL12.out.below hb)
          clear hb
          go_wp2
          go_ret
          exact ⟨rfl, HL13.out.bel⟩
        · have t2 : decide (cut < (l.length : Int)) = false := decide_eq_false h1
          clear h0 h1
          go_wp2_with fail
          refine (C9.out _ _ HX8.out).mono ?_
          rintro e w11 ⟨v2, rfl, ho, hb⟩
          have HB11 := Lib.hid hb
          have HO11 := Lib.hid ho
          clear hb ho
          go_wp2_with (first | (go_at_call 20; fail) | (at_builtin; refine wp_append_b rfl (.tmp 82) (.tmp 83) rfl w8.heap.size _ _ l [0] rfl rfl ?o1 ?s1 ?l1 ?b1 ?_; (case o1 => exact HO11.out.alloc _); (case s1 => exact SrcB.row _ [0]); (case l1 => simp; omega); (case b1 => have := HB11.out.size; simp; omega); intro v3 w12 ho hb2 hg2; have HO12 := Lib.hid ho; have HL12 := Lib.hid (HL8.out.below ((HB11.out.trans ((below_alloc w11 (.cells #[.int .u8 0] 5)).mono HB11.out.size)).trans hb2)); clear ho hb2 hg2))
          refine (C8.out _ _ HO12.out.has HL12.out.gv).mono ?_
          rintro e w13 ⟨rfl, hb⟩
          have HL13 := Lib.hid (HL12.out.below hb)
          clear hb
          go_wp2
          go_ret
          exact ⟨rfl, HL13.out.bel⟩
      · have t1 : decide (0 ≤ cut) = false := decide_eq_false h0
        clear h0
        go_wp2_with fail
        refine (C9.out _ _ HX8.out).mono ?_
        rintro e w11 ⟨v2, rfl, ho, hb⟩
        have HB11 := Lib.hid hb
        have HO11 := Lib.hid ho
        clear hb ho
        go_wp2_with (first | (go_at_call 20; fail) | (at_builtin; refine wp_append_b rfl (.tmp 82) (.tmp 83) rfl w8.heap.size _ _ l [0] rfl rfl ?o1 ?s1 ?l1 ?b1 ?_; (case o1 => exact HO11.out.alloc _); (case s1 => exact SrcB.row _ [0]); (case l1 => simp; omega); (case b1 => have := HB11.out.size; simp; omega); intro v3 w12 ho hb2 hg2; have HO12 := Lib.hid ho; have HL12 := Lib.hid (HL8.out.below ((HB11.out.trans ((below_alloc w11 (.cells #[.int .u8 0] 5)).mono HB11.out.size)).trans hb2)); clear ho hb2 hg2))
        refine (C8.out _ _ HO12.out.has HL12.out.gv).mono ?_
        rintro e w13 ⟨rfl, hb⟩
        have HL13 := Lib.hid (HL12.out.below hb)
        clear hb
        go_wp2
        go_ret
        exact ⟨rfl, HL13.out.bel⟩
end Go.Proofs.YtikpmlginojnhaaGreatDoor.Fl
