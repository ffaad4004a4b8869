/- LeaseSafe: when what holds a version may go on, none holds an older one by its own clock. -/
import Derived.Test.YtfadanmfelbfiaaD4
import Derived.StillTailTactics
namespace Go.Proofs.Ytfadanmfelbfiaa.L
open Go.RowKit Go.Maps Go.Proofs.YtfadanmfelbfiaaW.PrintWords Go.Proofs.YtfadanmfelbfiaaW.PrintLast Go.Proofs.YtfadanmfelbfiaaW.PrintMore
set_option linter.unusedVariables false
set_option linter.unusedSimpArgs false
set_option maxHeartbeats 8000000 in
set_option maxRecDepth 100000 in
theorem leaseSafe_in (w : World) (s : Int) (A1 : Option Addr) (c1 : Nat) (l1 : Gs) (A2 : Option Addr) (c2 : Nat) (l2 : List T3) (v p : Int) (hl1 : HasT w A1 l1) (hl2 : HasL w A2 l2) (hlen1 : l1.length ≤ 300) (hlen2 : l2.length ≤ 200)
    (hp0 : 0 ≤ p) (hp1 : p ≤ 4) (h3 : 0 ≤ s) (h4 : s ≤ 1000) :
    Calls Try.prog 5 #[.int .i64 s, .slice A1 l1.length c1, .slice A2 l2.length c2, .int .i64 v, .int .i64 p] w fun e w' => e = .returned (.bool true) ∧ Below w.heap.size w w' := by
  have HL1 := Lib.hid hl1
  have HL2 := Lib.hid hl2
  clear hl1 hl2
  have d1 : decide (300 < (l1.length : Int)) = false := decide_eq_false (by omega)
  have d2 : decide (200 < (l2.length : Int)) = false := decide_eq_false (by omega)
  have d3 : decide (p < 0) = false := decide_eq_false (by omega)
  have d4 : decide (4 < p) = false := decide_eq_false (by omega)
  go_enter Try.func5, Try.ntmps5
  go_wp2_with (go_at_call 8; refine (alive _).mono ?_; rintro e w1 ⟨rfl, hb1⟩; have HB1 := Lib.hid hb1; clear hb1)
  have k1 := Lib.hid (newClocks_yes 5 s w1 (by omega) (by omega) h3 h4)
  go_wp2_with (go_at_call 9; refine k1.out.mono ?_; rintro e w2 ⟨Bc, gc, hBc, hgc, rfl, hck, hbel⟩)
  have k2 := Lib.hid (new_yes 5 w2 (by omega) (by omega))
  have HCK := Lib.hid hck
  have HBE := Lib.hid hbel
  clear hck hbel
  go_wp2_with (go_at_call 17; refine k2.out.mono ?_; rintro e w3 ⟨B, g, m, hB, hg, hm, rfl, hbk, hbel2⟩; have HS := Lib.hid (ss_start h3 h4 HB1.out HBE.out hbel2 hBc hgc HCK.out hB hg hm hbk); clear hbk hbel2 hB hg hm)
  go_loopg [15, 16, 17, 18] (max l1.length l2.length) (fun gg v15 v16 _ _ wr => ∃ (i : Nat) (gr gs : Gs) (ml : List Int) (gv : List T3), max l1.length l2.length - i ≤ gg ∧ i ≤ max l1.length l2.length ∧ v16 = .int .i64 i ∧ Hid (Ss w wr B g m Bc gc w3.heap.size gr gs ml s i v15 gv))
  case atStart => exact ⟨0, _, _, _, [], by omega, by omega, rfl, HS⟩
  case round =>
    clear HS
    obtain ⟨i, gr, gs, ml, gv, hgg, hi, rfl, HS⟩ := hrel
    obtain ⟨A3, c3, h15⟩ := own_sl HS.out.own
    subst h15
    have hgi := HS.out.glen
    by_cases hlt : i < max l1.length l2.length
    · go_upto_region 13 with fail
      go_cut [74] (fun s74 W => s74 = .bool true ∧ W = wr)
      case first =>
        by_cases hT : i < l1.length
        · have hT' : (i : Int) < (l1.length : Int) := by omega
          go_wp2
          go_meet
          case rel => exact ⟨rfl, rfl⟩
        · have hT' : ¬ (i : Int) < (l1.length : Int) := by omega
          have hL' : (i : Int) < (l2.length : Int) := by omega
          go_wp2
          go_meet
          case rel => exact ⟨rfl, rfl⟩
      case rest =>
        obtain ⟨rfl, hw⟩ := hcut
        subst hw
        go_upto_if 80 with fail
        go_cut [] (fun W => ∃ ml' : List Int, Hid (Ss w W B g m Bc gc w3.heap.size gr gs ml' s i (.slice A3 gv.length c3) gv))
        case first =>
          by_cases hT : i < l1.length
          · have hT' : (i : Int) < (l1.length : Int) := by omega
            obtain ⟨ad, e, hv1, hv2⟩ := (HL1.out.below HS.out.bel) i hT
            subst e
            generalize l1.getD i (0, 0) = x at hv1 hv2
            obtain ⟨a, b⟩ := x
            simp only at hv1 hv2
            have hk0 : (0 : Int) ≤ (i : Int) := by omega
            obtain ⟨r, m', ht⟩ := tk_ex ml s a b
            have HTK := Lib.hid ht
            clear ht
            go_wp2
            go_still_tail 11, (by kernel_rfl)
            change wpList _ _ _ _ _ (World.drew _)
            go_wp2_with (go_at_call 11; refine (ss_tick (HS.out.below ((Below.refl _ _).drew)) a b r m' HTK.out).mono ?_; rintro e w' ⟨rfl, hs⟩; clear HS; have HS := Lib.hid hs; clear hs)
            go_meet
            case rel => exact ⟨m', HS⟩
          · have hT' : ¬ (i : Int) < (l1.length : Int) := by omega
            go_wp2
            go_meet
            case rel => exact ⟨ml, HS⟩
        case rest =>
          clear HS
          obtain ⟨ml', HS⟩ := hcut
          go_upto_region 17 with fail
          go_cut [115] (fun s115 W => ∃ (r : Bool) (gr' gs' : Gs), s115 = .bool r ∧ Hid (Ss w W B g m Bc gc w3.heap.size gr' gs' ml' s (i + 1) (.slice A3 gv.length c3) gv) ∧ Hid (r = true → i < l2.length ∧ ((l2.getD i (0, 0, 0)).2.1, (l2.getD i (0, 0, 0)).2.2) ∈ gs' ∧ 0 ≤ (l2.getD i (0, 0, 0)).1 ∧ (l2.getD i (0, 0, 0)).1 < 5))
          case first =>
            by_cases hL : i < l2.length
            · have hL' : (i : Int) < (l2.length : Int) := by omega
              obtain ⟨ad, e, hw1, hw2, hw3⟩ := HL2.out i hL
              subst e
              obtain ⟨x, hx⟩ : ∃ x, l2.getD i (0, 0, 0) = x := ⟨_, rfl⟩
              rw [hx] at hw1 hw2 hw3
              obtain ⟨a, b, d⟩ := x
              have HX := Lib.hid hx
              clear hx
              simp only at hw1 hw2 hw3
              have hv1 := cell_below HS.out.bel hw1
              have hv2 := cell_below HS.out.bel hw2
              have hv3 := cell_below HS.out.bel hw3
              have hk0 : (0 : Int) ≤ (i : Int) := by omega
              obtain ⟨r, gr', gs', ht⟩ := gv_ex gr gs a b d
              have HTK := Lib.hid ht
              clear ht
              have HW := Lib.hid (And.intro hw1 (And.intro hw2 hw3))
              clear hw1 hw2 hw3
              have htr : decide ((i : Int) < (l2.length : Int)) = true := decide_eq_true hL'
              go_region_held3 (fun W => W.cell? (ad.add (i * 3)) = some (.int .i64 a) ∧ W.cell? ⟨(ad.add (i * 3)).block, (ad.add (i * 3)).off + 1, none⟩ = some (.int .i64 b) ∧ W.cell? ⟨(ad.add (i * 3)).block, (ad.add (i * 3)).off + 2, none⟩ = some (.int .i64 d)) (first | exact ⟨cell_below HS.out.bel HW.out.1, cell_below HS.out.bel HW.out.2.1, cell_below HS.out.bel HW.out.2.2⟩ | go_keep)
                ((go_at_call 19; refine (ss_give (HS.out.below ((Below.refl _ _).drew)) (by omega) a b d r gr' gs' HTK.out).mono ?_; rintro e w' ⟨rfl, hs⟩; have HG5 := Lib.hid HS.out.r5; clear HS; have HS := Lib.hid hs; clear hs))
              go_wp2_with fail
              go_meet
              case rel => exact ⟨r, gr', gs', rfl, HS, fun hr => by rw [HX.out]; exact ⟨hL, gv_in HTK.out hr HG5.out⟩⟩
            · have hL' : ¬ (i : Int) < (l2.length : Int) := by omega
              have htr : decide ((i : Int) < (l2.length : Int)) = false := decide_eq_false hL'
              go_quiet (fail)
              go_wp2_with fail
              go_meet
              case rel => exact ⟨false, gr, gs, rfl, (by have := HS.out.below (below_drewN (Below.refl _ _) nq); exact { this with len := Nat.le_succ_of_le this.len, glen := Nat.le_succ_of_le this.glen }), fun hr => by cases hr⟩
          case rest =>
            clear HS
            obtain ⟨r, gr', gs', rfl, HS, HR⟩ := hcut
            go_upto_if 115 with fail
            go_cut [15] (fun s15 W => ∃ gv' : List T3, Hid (Ss w W B g m Bc gc w3.heap.size gr' gs' ml' s (i + 1) s15 gv'))
            case first =>
              cases r with
              | true =>
                obtain ⟨hL, hin, ha0, ha5⟩ := HR.out rfl
                obtain ⟨ad, e, hw1, hw2, hw3⟩ := HL2.out i hL
                subst e
                obtain ⟨x, hx⟩ : ∃ x, l2.getD i (0, 0, 0) = x := ⟨_, rfl⟩
                rw [hx] at hw1 hw2 hw3 hin ha0 ha5
                obtain ⟨a, b, d⟩ := x
                clear hx HR
                simp only at hw1 hw2 hw3 hin ha0 ha5
                have HIN := Lib.hid hin
                clear hin
                have hv1 := cell_below HS.out.bel hw1
                have hv2 := cell_below HS.out.bel hw2
                have hv3 := cell_below HS.out.bel hw3
                clear hw1 hw2 hw3
                have hk0 : (0 : Int) ≤ (i : Int) := by omega
                have hL' : (i : Int) < (l2.length : Int) := by omega
                obtain ⟨i0, hi0, hz0, hz1, hz2⟩ := info_parts info45
                have hgl := HS.out.glen
                have hb8 : (gv.length + 1) * 24 ≤ 140737488355328 := by omega
                have hml1 : gv.length + 1 ≤ maxLen := by unfold maxLen; omega
                have HSZ := Lib.hid HS.out.szb
                go_wp2_with (at_builtin; refine wpList_append_own _ rfl (.tmp 116) (.tmp 121) 37 rfl w3.heap.size 45 i0 (.agg #[.int .i64 0, .int .i64 0, .int .i64 0]) 3 24 Try.underlying37 hi0 hz0 hz1 hz2 rfl (by decide) _ _ _ rfl (HS.out.own.alloc _) ⟨wc.heap.size, 0, none⟩ 1 1 [.int .i64 a, .int .i64 b, .int .i64 d] rfl rfl ?c1 ?c2 ?c3 ?c4 ?c5 ?_; (case c1 => exact World.news_of_block (cs := #[.int .i64 a, .int .i64 b, .int .i64 d]) (t := 45) (fr := (0, 0)) (heap_alloc_new _ _)); (case c2 => simp [Value.oneCell']); (case c3 => exact hml1); (case c4 => exact hb8); (case c5 => have := HSZ.out; simp; omega); intro v' w2' hown2 hgrow2 hnil2; have HO2 := Lib.hid hown2; have HG2 := Lib.hid hgrow2; clear hown2 hgrow2 hnil2)
                go_meet
                case rel => exact ⟨gv ++ [(a, b, d)], ss_append HS.out HG2.out HO2.out ⟨HIN.out, ha0, ha5⟩ (by omega)⟩
              | false =>
                go_wp2_with fail
                go_meet
                case rel => exact ⟨gv, HS⟩
            case rest =>
              clear HS
              obtain ⟨gv', HS⟩ := hcut
              obtain ⟨A4, c4, h15⟩ := own_sl HS.out.own
              subst h15
              have hgl' := HS.out.glen
              go_wp2_with fail
              go_loopg [17, 18] gv'.length (fun gg v17 _ W => ∃ k : Nat, gv'.length - k ≤ gg ∧ k ≤ gv'.length ∧ v17 = .int .i64 k ∧ Hid (Ss w W B g m Bc gc w3.heap.size gr' gs' ml' s (i + 1) (.slice A4 gv'.length c4) gv'))
              case atStart => exact ⟨0, by omega, by omega, rfl, HS⟩
              case round =>
                clear HS
                obtain ⟨k, hkg, hk, rfl, HS⟩ := hrel
                by_cases hlt2 : k < gv'.length
                · obtain ⟨g3, e, hv1, hv2, hv3⟩ := own3_cells HS.out.own k hlt2
                  subst e
                  have hin := HS.out.given (gv'.getD k (0, 0, 0)) (by rw [List.getD_eq_getElem?_getD, List.getElem?_eq_getElem hlt2]; exact List.getElem_mem _)
                  generalize gv'.getD k (0, 0, 0) = x at hv1 hv2 hv3 hin
                  obtain ⟨a, b, d⟩ := x
                  simp only at hv1 hv2 hv3 hin
                  obtain ⟨hin1, ha0, ha5⟩ := hin
                  have HIN := Lib.hid hin1
                  clear hin1
                  have hk0 : (0 : Int) ≤ (k : Int) := by omega
                  have hk1 : (k : Int) < (gv'.length : Int) := by omega
                  go_wp2_with fail
                  obtain ⟨mn, hmn⟩ : ∃ mn, nowI ml' p = mn := ⟨_, rfl⟩
                  obtain ⟨an, han⟩ : ∃ an, nowI ml' a = an := ⟨_, rfl⟩
                  have hvf : d ≤ mn → ValidB d an s = false := fun h => by rw [← han]; exact not_valid HS.out.l5 HS.out.tight ⟨hp0, hp1⟩ ⟨ha0, ha5⟩ (by rw [hmn]; exact h)
                  have HMN := Lib.hid hmn
                  have HAN := Lib.hid han
                  have HVF0 := Lib.hid hvf
                  clear hmn han hvf
                  have HS1 := Lib.hid (HS.out.below ((Below.refl _ _).alloc (Nat.le_refl _) (.cells #[.int .i64 a, .int .i64 b, .int .i64 d] 45)))
                  have hX := heap_alloc_new wr (.cells #[.int .i64 a, .int .i64 b, .int .i64 d] 45)
                  have HXB := Lib.hid hX
                  clear hX
                  go_cut [148] (fun s148 W => s148 = .bool false ∧ Aside0 (W.cell? ⟨wr.heap.size, 0, none⟩ = some (.int .i64 a) ∧ W.cell? ⟨wr.heap.size, 1, none⟩ = some (.int .i64 b) ∧ W.cell? ⟨wr.heap.size, 2, none⟩ = some (.int .i64 d) ∧ Aside0 (Ss w W B g m Bc gc w3.heap.size gr' gs' ml' s (i + 1) (.slice (some ⟨g3, 0, none⟩) gv'.length c4) gv')))
                  case first =>
                    by_cases hdm : d ≤ mn
                    · have HVF := Lib.hid (HVF0.out hdm)
                      have hge : decide (mn ≥ d) = true := decide_eq_true hdm
                      go_quiet (first | (go_at_call_of 13 (Value.int IntKind.i64 p); exact Calls.quiet_of (ss_now (HS1.out.below (below_drewN (Below.refl _ _) _)) p mn HMN.out)) | (go_at_call 13; exact Calls.quiet_of (ss_now (HS1.out.below (below_drewN (Below.refl _ _) _)) a an HAN.out)) | (go_at_call 29; exact Calls.quiet_of_same ((valid _ d an s).mono fun e w' ⟨he, hw⟩ => ⟨by rw [he, HVF.out], hw.symm⟩)))
                      go_wp2_with fail
                      go_meet
                      case rel => exact ⟨rfl, ⟨cell_of_row _ _ 0 _ _ _ HXB.out, cell_of_row _ _ 1 _ _ _ HXB.out, cell_of_row _ _ 2 _ _ _ HXB.out, ⟨HS1.out.below (below_drewN (Below.refl _ _) _)⟩⟩⟩
                    · have hge : decide (mn ≥ d) = false := decide_eq_false hdm
                      go_quiet (first | (go_at_call 13; exact Calls.quiet_of (ss_now (HS1.out.below (below_drewN (Below.refl _ _) _)) p mn HMN.out)))
                      go_wp2_with fail
                      go_meet
                      case rel => exact ⟨rfl, ⟨cell_of_row _ _ 0 _ _ _ HXB.out, cell_of_row _ _ 1 _ _ _ HXB.out, cell_of_row _ _ 2 _ _ _ HXB.out, ⟨HS1.out.below (below_drewN (Below.refl _ _) _)⟩⟩⟩
                  case rest =>
                    clear HS HS1 HXB
                    obtain ⟨rfl, HQ⟩ := hcut
                    go_wp2_with fail
                    go_cut [170] (fun s170 W => s170 = .bool false ∧ Hid (Ss w W B g m Bc gc w3.heap.size gr' gs' ml' s (i + 1) (.slice (some ⟨g3, 0, none⟩) gv'.length c4) gv'))
                    case first =>
                      obtain ⟨mb, hmb⟩ := MayIs.exists gs' v mn
                      cases mb with
                      | false =>
                        have HM := Lib.hid hmb
                        clear hmb
                        refine wp_region_held_drew (S := fun W => W.cell? ⟨wr.heap.size, 0, none⟩ = some (.int .i64 a) ∧ W.cell? ⟨wr.heap.size, 1, none⟩ = some (.int .i64 b) ∧ W.cell? ⟨wr.heap.size, 2, none⟩ = some (.int .i64 d) ∧ Aside0 (Ss w W B g m Bc gc w3.heap.size gr' gs' ml' s (i + 1) (.slice (some ⟨g3, 0, none⟩) gv'.length c4) gv')) (by kernel_rfl) ⟨cell_below ((Below.refl _ _).drew) HQ.out.1, cell_below ((Below.refl _ _).drew) HQ.out.2.1, cell_below ((Below.refl _ _).drew) HQ.out.2.2.1, ⟨HQ.out.2.2.2.out.below ((Below.refl _ _).drew)⟩⟩ (fun hHeld => ?_)
                        refine wpAnyH_take (i := 0) (oi := ?o_1) (v := ?v_1) ?hi_1 ?hs_1 ?hf_1 ?hr_1 ?hQ_1 ?hy_1 ?hS_1 ?rest_1; (case hi_1 => (simp only [List.getElem?_toArray, List.getElem?_cons_zero, List.getElem?_cons_succ]; rfl)); (case hs_1 => kernel_rfl); (case hf_1 => kernel_rfl); (case hr_1 => kernel_rfl); (case hQ_1 => exact fun _ _ _ h => h); (case hS_1 => assumption); (case hy_1 => (refine Or.inl ⟨by rfl, ?_⟩; intro w hSw; go_simp; first | done | with_reducible rfl)); (try simp only [Act.put, List.setIfInBounds_toArray, List.set_cons_zero, List.set_cons_succ])
                        refine wpAnyH_take (i := 1) (oi := ?o_2) (v := ?v_2) ?hi_2 ?hs_2 ?hf_2 ?hr_2 ?hQ_2 ?hy_2 ?hS_2 ?rest_2; (case hi_2 => (simp only [List.getElem?_toArray, List.getElem?_cons_zero, List.getElem?_cons_succ]; rfl)); (case hs_2 => kernel_rfl); (case hf_2 => kernel_rfl); (case hr_2 => kernel_rfl); (case hQ_2 => exact fun _ _ _ h => h); (case hS_2 => assumption); (case hy_2 => (refine Or.inl ⟨by rfl, ?_⟩; intro w hSw; go_simp; first | done | with_reducible rfl)); (try simp only [Act.put, List.setIfInBounds_toArray, List.set_cons_zero, List.set_cons_succ])
                        refine wpAnyH_take (i := 2) (oi := ?o_3) (v := ?v_3) ?hi_3 ?hs_3 ?hf_3 ?hr_3 ?hQ_3 ?hy_3 ?hS_3 ?rest_3; (case hi_3 => (simp only [List.getElem?_toArray, List.getElem?_cons_zero, List.getElem?_cons_succ]; rfl)); (case hs_3 => kernel_rfl); (case hf_3 => kernel_rfl); (case hr_3 => kernel_rfl); (case hQ_3 => exact fun _ _ _ h => h); (case hS_3 => assumption); (case hy_3 => (refine Or.inl ⟨by rfl, ?_⟩; intro w hSw; go_simp; first | done | with_reducible rfl)); (try simp only [Act.put, List.setIfInBounds_toArray, List.set_cons_zero, List.set_cons_succ])
                        refine wpAnyH_take (i := 3) (oi := ?o_4) (v := ?v_4) ?hi_4 ?hs_4 ?hf_4 ?hr_4 ?hQ_4 ?hy_4 ?hS_4 ?rest_4; (case hi_4 => (simp only [List.getElem?_toArray, List.getElem?_cons_zero, List.getElem?_cons_succ]; rfl)); (case hs_4 => kernel_rfl); (case hf_4 => kernel_rfl); (case hr_4 => kernel_rfl); (case hQ_4 => exact fun _ _ _ h => h); (case hS_4 => assumption); (case hy_4 => (refine Or.inl ⟨by rfl, ?_⟩; intro w hSw; go_simp; first | done | with_reducible rfl)); (try simp only [Act.put, List.setIfInBounds_toArray, List.set_cons_zero, List.set_cons_succ])
                        have HH := Aside0.mk hHeld; clear hHeld
                        refine wpAnyH_ready (rs := [4]) (by kernel_rfl) (by simp) ?_; refine AllReadyH.cons (o := ?o_5) ?hi_5 (fun K hK => ?_) AllReadyH.nil; (case hi_5 => (simp only [List.getElem?_toArray, List.getElem?_cons_zero, List.getElem?_cons_succ]; rfl)); go_simp; (go_at_call 13; refine (ss_nowB HH.out.2.2.2.out p mn HMN.out).mono ?_; rintro e w5 ⟨rfl, hb5⟩; have HB5 := Aside0.mk hb5; clear hb5); refine hK.out _ _ ?_ (fun hHeld => ?_); (· exact ⟨cell_below HB5.out HH.out.1, cell_below HB5.out HH.out.2.1, cell_below HB5.out HH.out.2.2.1, ⟨HH.out.2.2.2.out.below HB5.out⟩⟩); clear hK K; (try simp only [Act.put, List.setIfInBounds_toArray, List.set_cons_zero, List.set_cons_succ])
                        clear HH; have HH := Aside0.mk hHeld; clear hHeld
                        refine wpAnyH_ready (rs := [5]) (by kernel_rfl) (by simp) ?_; refine AllReadyH.cons (o := ?o_6) ?hi_6 (fun K hK => ?_) AllReadyH.nil; (case hi_6 => (simp only [List.getElem?_toArray, List.getElem?_cons_zero, List.getElem?_cons_succ]; rfl)); go_simp; (go_at_call 25; refine (ss_may HH.out.2.2.2.out (by omega) v mn false HM.out).mono ?_; rintro e w6 ⟨rfl, hb6⟩; have HB6 := Aside0.mk hb6; clear hb6); refine hK.out _ _ ?_ (fun hHeld => ?_); (· exact ⟨cell_below HB6.out HH.out.1, cell_below HB6.out HH.out.2.1, cell_below HB6.out HH.out.2.2.1, ⟨HH.out.2.2.2.out.below HB6.out⟩⟩); clear hK K; (try simp only [Act.put, List.setIfInBounds_toArray, List.set_cons_zero, List.set_cons_succ])
                        refine wpAnyH_take (i := 6) (oi := ?o_7) (v := ?v_7) ?hi_7 ?hs_7 ?hf_7 ?hr_7 ?hQ_7 ?hy_7 ?hS_7 ?rest_7; (case hi_7 => (simp only [List.getElem?_toArray, List.getElem?_cons_zero, List.getElem?_cons_succ]; rfl)); (case hs_7 => kernel_rfl); (case hf_7 => kernel_rfl); (case hr_7 => kernel_rfl); (case hQ_7 => exact fun _ _ _ h => h); (case hS_7 => assumption); (case hy_7 => (refine Or.inl ⟨by rfl, ?_⟩; intro w hSw; go_simp; first | done | with_reducible rfl)); (try simp only [Act.put, List.setIfInBounds_toArray, List.set_cons_zero, List.set_cons_succ])
                        refine wpAnyH_take (i := 7) (oi := ?o_8) (v := undef) ?hi_8 ?hs_8 ?hf_8 ?hr_8 ?hQ_8 ?hy_8 ?hS_8 ?rest_8; (case hi_8 => (simp only [List.getElem?_toArray, List.getElem?_cons_zero, List.getElem?_cons_succ]; rfl)); (case hs_8 => kernel_rfl); (case hf_8 => kernel_rfl); (case hr_8 => kernel_rfl); (case hQ_8 => exact fun _ _ _ h => h); (case hS_8 => assumption); (case hy_8 => exact Or.inr ⟨by rfl, rfl⟩); (try simp only [Act.put, List.setIfInBounds_toArray, List.set_cons_zero, List.set_cons_succ])
                        refine wpAnyH_take (i := 8) (oi := ?o_9) (v := undef) ?hi_9 ?hs_9 ?hf_9 ?hr_9 ?hQ_9 ?hy_9 ?hS_9 ?rest_9; (case hi_9 => (simp only [List.getElem?_toArray, List.getElem?_cons_zero, List.getElem?_cons_succ]; rfl)); (case hs_9 => kernel_rfl); (case hf_9 => kernel_rfl); (case hr_9 => kernel_rfl); (case hQ_9 => exact fun _ _ _ h => h); (case hS_9 => assumption); (case hy_9 => exact Or.inr ⟨by rfl, rfl⟩); (try simp only [Act.put, List.setIfInBounds_toArray, List.set_cons_zero, List.set_cons_succ])
                        refine wpAnyH_take (i := 9) (oi := ?o_10) (v := undef) ?hi_10 ?hs_10 ?hf_10 ?hr_10 ?hQ_10 ?hy_10 ?hS_10 ?rest_10; (case hi_10 => (simp only [List.getElem?_toArray, List.getElem?_cons_zero, List.getElem?_cons_succ]; rfl)); (case hs_10 => kernel_rfl); (case hf_10 => kernel_rfl); (case hr_10 => kernel_rfl); (case hQ_10 => exact fun _ _ _ h => h); (case hS_10 => assumption); (case hy_10 => exact Or.inr ⟨by rfl, rfl⟩); (try simp only [Act.put, List.setIfInBounds_toArray, List.set_cons_zero, List.set_cons_succ])
                        refine wpAnyH_take (i := 10) (oi := ?o_11) (v := undef) ?hi_11 ?hs_11 ?hf_11 ?hr_11 ?hQ_11 ?hy_11 ?hS_11 ?rest_11; (case hi_11 => (simp only [List.getElem?_toArray, List.getElem?_cons_zero, List.getElem?_cons_succ]; rfl)); (case hs_11 => kernel_rfl); (case hf_11 => kernel_rfl); (case hr_11 => kernel_rfl); (case hQ_11 => exact fun _ _ _ h => h); (case hS_11 => assumption); (case hy_11 => exact Or.inr ⟨by rfl, rfl⟩); (try simp only [Act.put, List.setIfInBounds_toArray, List.set_cons_zero, List.set_cons_succ])
                        refine wpAnyH_take (i := 11) (oi := ?o_12) (v := ?v_12) ?hi_12 ?hs_12 ?hf_12 ?hr_12 ?hQ_12 ?hy_12 ?hS_12 ?rest_12; (case hi_12 => (simp only [List.getElem?_toArray, List.getElem?_cons_zero, List.getElem?_cons_succ]; rfl)); (case hs_12 => kernel_rfl); (case hf_12 => kernel_rfl); (case hr_12 => kernel_rfl); (case hQ_12 => exact fun _ _ _ h => h); (case hS_12 => assumption); (case hy_12 => (refine Or.inl ⟨by rfl, ?_⟩; intro w hSw; go_simp; first | done | with_reducible rfl)); (try simp only [Act.put, List.setIfInBounds_toArray, List.set_cons_zero, List.set_cons_succ])
                        refine wpAnyH_take (i := 12) (oi := ?o_13) (v := ?v_13) ?hi_13 ?hs_13 ?hf_13 ?hr_13 ?hQ_13 ?hy_13 ?hS_13 ?rest_13; (case hi_13 => (simp only [List.getElem?_toArray, List.getElem?_cons_zero, List.getElem?_cons_succ]; rfl)); (case hs_13 => kernel_rfl); (case hf_13 => kernel_rfl); (case hr_13 => kernel_rfl); (case hQ_13 => exact fun _ _ _ h => h); (case hS_13 => assumption); (case hy_13 => (refine Or.inl ⟨by rfl, ?_⟩; intro w hSw; go_simp; first | done | with_reducible rfl)); (try simp only [Act.put, List.setIfInBounds_toArray, List.set_cons_zero, List.set_cons_succ])
                        refine wpAnyH_take (i := 13) (oi := ?o_14) (v := undef) ?hi_14 ?hs_14 ?hf_14 ?hr_14 ?hQ_14 ?hy_14 ?hS_14 ?rest_14; (case hi_14 => (simp only [List.getElem?_toArray, List.getElem?_cons_zero, List.getElem?_cons_succ]; rfl)); (case hs_14 => kernel_rfl); (case hf_14 => kernel_rfl); (case hr_14 => kernel_rfl); (case hQ_14 => exact fun _ _ _ h => h); (case hS_14 => assumption); (case hy_14 => exact Or.inr ⟨by rfl, rfl⟩); (try simp only [Act.put, List.setIfInBounds_toArray, List.set_cons_zero, List.set_cons_succ])
                        refine wpAnyH_take (i := 14) (oi := ?o_15) (v := undef) ?hi_15 ?hs_15 ?hf_15 ?hr_15 ?hQ_15 ?hy_15 ?hS_15 ?rest_15; (case hi_15 => (simp only [List.getElem?_toArray, List.getElem?_cons_zero, List.getElem?_cons_succ]; rfl)); (case hs_15 => kernel_rfl); (case hf_15 => kernel_rfl); (case hr_15 => kernel_rfl); (case hQ_15 => exact fun _ _ _ h => h); (case hS_15 => assumption); (case hy_15 => exact Or.inr ⟨by rfl, rfl⟩); (try simp only [Act.put, List.setIfInBounds_toArray, List.set_cons_zero, List.set_cons_succ])
                        refine wpAnyH_take (i := 15) (oi := ?o_16) (v := undef) ?hi_16 ?hs_16 ?hf_16 ?hr_16 ?hQ_16 ?hy_16 ?hS_16 ?rest_16; (case hi_16 => (simp only [List.getElem?_toArray, List.getElem?_cons_zero, List.getElem?_cons_succ]; rfl)); (case hs_16 => kernel_rfl); (case hf_16 => kernel_rfl); (case hr_16 => kernel_rfl); (case hQ_16 => exact fun _ _ _ h => h); (case hS_16 => assumption); (case hy_16 => exact Or.inr ⟨by rfl, rfl⟩); (try simp only [Act.put, List.setIfInBounds_toArray, List.set_cons_zero, List.set_cons_succ])
                        refine wpAnyH_take (i := 16) (oi := ?o_17) (v := undef) ?hi_17 ?hs_17 ?hf_17 ?hr_17 ?hQ_17 ?hy_17 ?hS_17 ?rest_17; (case hi_17 => (simp only [List.getElem?_toArray, List.getElem?_cons_zero, List.getElem?_cons_succ]; rfl)); (case hs_17 => kernel_rfl); (case hf_17 => kernel_rfl); (case hr_17 => kernel_rfl); (case hQ_17 => exact fun _ _ _ h => h); (case hS_17 => assumption); (case hy_17 => exact Or.inr ⟨by rfl, rfl⟩); (try simp only [Act.put, List.setIfInBounds_toArray, List.set_cons_zero, List.set_cons_succ])
                        refine wpAnyH_take (i := 17) (oi := ?o_18) (v := undef) ?hi_18 ?hs_18 ?hf_18 ?hr_18 ?hQ_18 ?hy_18 ?hS_18 ?rest_18; (case hi_18 => (simp only [List.getElem?_toArray, List.getElem?_cons_zero, List.getElem?_cons_succ]; rfl)); (case hs_18 => kernel_rfl); (case hf_18 => kernel_rfl); (case hr_18 => kernel_rfl); (case hQ_18 => exact fun _ _ _ h => h); (case hS_18 => assumption); (case hy_18 => exact Or.inr ⟨by rfl, rfl⟩); (try simp only [Act.put, List.setIfInBounds_toArray, List.set_cons_zero, List.set_cons_succ])
                        refine wpAnyH_take (i := 18) (oi := ?o_19) (v := undef) ?hi_19 ?hs_19 ?hf_19 ?hr_19 ?hQ_19 ?hy_19 ?hS_19 ?rest_19; (case hi_19 => (simp only [List.getElem?_toArray, List.getElem?_cons_zero, List.getElem?_cons_succ]; rfl)); (case hs_19 => kernel_rfl); (case hf_19 => kernel_rfl); (case hr_19 => kernel_rfl); (case hQ_19 => exact fun _ _ _ h => h); (case hS_19 => assumption); (case hy_19 => exact Or.inr ⟨by rfl, rfl⟩); (try simp only [Act.put, List.setIfInBounds_toArray, List.set_cons_zero, List.set_cons_succ])
                        refine wpAnyH_take (i := 19) (oi := ?o_20) (v := undef) ?hi_20 ?hs_20 ?hf_20 ?hr_20 ?hQ_20 ?hy_20 ?hS_20 ?rest_20; (case hi_20 => (simp only [List.getElem?_toArray, List.getElem?_cons_zero, List.getElem?_cons_succ]; rfl)); (case hs_20 => kernel_rfl); (case hf_20 => kernel_rfl); (case hr_20 => kernel_rfl); (case hQ_20 => exact fun _ _ _ h => h); (case hS_20 => assumption); (case hy_20 => exact Or.inr ⟨by rfl, rfl⟩); (try simp only [Act.put, List.setIfInBounds_toArray, List.set_cons_zero, List.set_cons_succ])
                        refine wpAnyH_take (i := 20) (oi := ?o_21) (v := undef) ?hi_21 ?hs_21 ?hf_21 ?hr_21 ?hQ_21 ?hy_21 ?hS_21 ?rest_21; (case hi_21 => (simp only [List.getElem?_toArray, List.getElem?_cons_zero, List.getElem?_cons_succ]; rfl)); (case hs_21 => kernel_rfl); (case hf_21 => kernel_rfl); (case hr_21 => kernel_rfl); (case hQ_21 => exact fun _ _ _ h => h); (case hS_21 => assumption); (case hy_21 => exact Or.inr ⟨by rfl, rfl⟩); (try simp only [Act.put, List.setIfInBounds_toArray, List.set_cons_zero, List.set_cons_succ])
                        refine wpAnyH_take (i := 21) (oi := ?o_22) (v := ?v_22) ?hi_22 ?hs_22 ?hf_22 ?hr_22 ?hQ_22 ?hy_22 ?hS_22 ?rest_22; (case hi_22 => (simp only [List.getElem?_toArray, List.getElem?_cons_zero, List.getElem?_cons_succ]; rfl)); (case hs_22 => kernel_rfl); (case hf_22 => kernel_rfl); (case hr_22 => kernel_rfl); (case hQ_22 => exact fun _ _ _ h => h); (case hS_22 => assumption); (case hy_22 => (refine Or.inl ⟨by rfl, ?_⟩; intro w hSw; go_simp; first | done | with_reducible rfl)); (try simp only [Act.put, List.setIfInBounds_toArray, List.set_cons_zero, List.set_cons_succ])
                        have HE := Aside0.mk hHeld.2.2.2.out
                        refine wpAnyH_done (by kernel_rfl) ?_ _
                        go_wp2_with fail
                        go_meet
                        case rel => exact ⟨rfl, HE.out⟩
                      | true =>
                        by_cases hbv : b < v
                        · have hdm : d ≤ mn := by
                            rcases Int.lt_or_le mn d with h | h
                            · have := hmb.1 rfl (b, d) HIN.out h
                              simp only at this
                              omega
                            · exact h
                          have HVF := Lib.hid (HVF0.out hdm)
                          have HM := Lib.hid hmb
                          clear hmb
                          have hlt4 : decide (b < v) = true := decide_eq_true hbv
                          refine wp_region_held_drew (S := fun W => W.cell? ⟨wr.heap.size, 0, none⟩ = some (.int .i64 a) ∧ W.cell? ⟨wr.heap.size, 1, none⟩ = some (.int .i64 b) ∧ W.cell? ⟨wr.heap.size, 2, none⟩ = some (.int .i64 d) ∧ Aside0 (Ss w W B g m Bc gc w3.heap.size gr' gs' ml' s (i + 1) (.slice (some ⟨g3, 0, none⟩) gv'.length c4) gv')) (by kernel_rfl) ⟨cell_below ((Below.refl _ _).drew) HQ.out.1, cell_below ((Below.refl _ _).drew) HQ.out.2.1, cell_below ((Below.refl _ _).drew) HQ.out.2.2.1, ⟨HQ.out.2.2.2.out.below ((Below.refl _ _).drew)⟩⟩ (fun hHeld => ?_)
                          refine wpAnyH_take (i := 0) (oi := ?o_23) (v := ?v_23) ?hi_23 ?hs_23 ?hf_23 ?hr_23 ?hQ_23 ?hy_23 ?hS_23 ?rest_23; (case hi_23 => (simp only [List.getElem?_toArray, List.getElem?_cons_zero, List.getElem?_cons_succ]; rfl)); (case hs_23 => kernel_rfl); (case hf_23 => kernel_rfl); (case hr_23 => kernel_rfl); (case hQ_23 => exact fun _ _ _ h => h); (case hS_23 => assumption); (case hy_23 => (refine Or.inl ⟨by rfl, ?_⟩; intro w hSw; go_simp; first | done | with_reducible rfl)); (try simp only [Act.put, List.setIfInBounds_toArray, List.set_cons_zero, List.set_cons_succ])
                          refine wpAnyH_take (i := 1) (oi := ?o_24) (v := ?v_24) ?hi_24 ?hs_24 ?hf_24 ?hr_24 ?hQ_24 ?hy_24 ?hS_24 ?rest_24; (case hi_24 => (simp only [List.getElem?_toArray, List.getElem?_cons_zero, List.getElem?_cons_succ]; rfl)); (case hs_24 => kernel_rfl); (case hf_24 => kernel_rfl); (case hr_24 => kernel_rfl); (case hQ_24 => exact fun _ _ _ h => h); (case hS_24 => assumption); (case hy_24 => (refine Or.inl ⟨by rfl, ?_⟩; intro w hSw; go_simp; first | done | with_reducible rfl)); (try simp only [Act.put, List.setIfInBounds_toArray, List.set_cons_zero, List.set_cons_succ])
                          refine wpAnyH_take (i := 2) (oi := ?o_25) (v := ?v_25) ?hi_25 ?hs_25 ?hf_25 ?hr_25 ?hQ_25 ?hy_25 ?hS_25 ?rest_25; (case hi_25 => (simp only [List.getElem?_toArray, List.getElem?_cons_zero, List.getElem?_cons_succ]; rfl)); (case hs_25 => kernel_rfl); (case hf_25 => kernel_rfl); (case hr_25 => kernel_rfl); (case hQ_25 => exact fun _ _ _ h => h); (case hS_25 => assumption); (case hy_25 => (refine Or.inl ⟨by rfl, ?_⟩; intro w hSw; go_simp; first | done | with_reducible rfl)); (try simp only [Act.put, List.setIfInBounds_toArray, List.set_cons_zero, List.set_cons_succ])
                          refine wpAnyH_take (i := 3) (oi := ?o_26) (v := ?v_26) ?hi_26 ?hs_26 ?hf_26 ?hr_26 ?hQ_26 ?hy_26 ?hS_26 ?rest_26; (case hi_26 => (simp only [List.getElem?_toArray, List.getElem?_cons_zero, List.getElem?_cons_succ]; rfl)); (case hs_26 => kernel_rfl); (case hf_26 => kernel_rfl); (case hr_26 => kernel_rfl); (case hQ_26 => exact fun _ _ _ h => h); (case hS_26 => assumption); (case hy_26 => (refine Or.inl ⟨by rfl, ?_⟩; intro w hSw; go_simp; first | done | with_reducible rfl)); (try simp only [Act.put, List.setIfInBounds_toArray, List.set_cons_zero, List.set_cons_succ])
                          have HH := Aside0.mk hHeld; clear hHeld
                          refine wpAnyH_ready (rs := [4]) (by kernel_rfl) (by simp) ?_; refine AllReadyH.cons (o := ?o_27) ?hi_27 (fun K hK => ?_) AllReadyH.nil; (case hi_27 => (simp only [List.getElem?_toArray, List.getElem?_cons_zero, List.getElem?_cons_succ]; rfl)); go_simp; (go_at_call 13; refine (ss_nowB HH.out.2.2.2.out p mn HMN.out).mono ?_; rintro e w5 ⟨rfl, hb5⟩; have HB5 := Aside0.mk hb5; clear hb5); refine hK.out _ _ ?_ (fun hHeld => ?_); (· exact ⟨cell_below HB5.out HH.out.1, cell_below HB5.out HH.out.2.1, cell_below HB5.out HH.out.2.2.1, ⟨HH.out.2.2.2.out.below HB5.out⟩⟩); clear hK K; (try simp only [Act.put, List.setIfInBounds_toArray, List.set_cons_zero, List.set_cons_succ])
                          clear HH; have HH := Aside0.mk hHeld; clear hHeld
                          refine wpAnyH_ready (rs := [5]) (by kernel_rfl) (by simp) ?_; refine AllReadyH.cons (o := ?o_28) ?hi_28 (fun K hK => ?_) AllReadyH.nil; (case hi_28 => (simp only [List.getElem?_toArray, List.getElem?_cons_zero, List.getElem?_cons_succ]; rfl)); go_simp; (go_at_call 25; refine (ss_may HH.out.2.2.2.out (by omega) v mn true HM.out).mono ?_; rintro e w6 ⟨rfl, hb6⟩; have HB6 := Aside0.mk hb6; clear hb6); refine hK.out _ _ ?_ (fun hHeld => ?_); (· exact ⟨cell_below HB6.out HH.out.1, cell_below HB6.out HH.out.2.1, cell_below HB6.out HH.out.2.2.1, ⟨HH.out.2.2.2.out.below HB6.out⟩⟩); clear hK K; (try simp only [Act.put, List.setIfInBounds_toArray, List.set_cons_zero, List.set_cons_succ])
                          refine wpAnyH_take (i := 6) (oi := ?o_29) (v := ?v_29) ?hi_29 ?hs_29 ?hf_29 ?hr_29 ?hQ_29 ?hy_29 ?hS_29 ?rest_29; (case hi_29 => (simp only [List.getElem?_toArray, List.getElem?_cons_zero, List.getElem?_cons_succ]; rfl)); (case hs_29 => kernel_rfl); (case hf_29 => kernel_rfl); (case hr_29 => kernel_rfl); (case hQ_29 => exact fun _ _ _ h => h); (case hS_29 => assumption); (case hy_29 => (refine Or.inl ⟨by rfl, ?_⟩; intro w hSw; go_simp; first | done | with_reducible rfl)); (try simp only [Act.put, List.setIfInBounds_toArray, List.set_cons_zero, List.set_cons_succ])
                          refine wpAnyH_take (i := 7) (oi := ?o_30) (v := ?v_30) ?hi_30 ?hs_30 ?hf_30 ?hr_30 ?hQ_30 ?hy_30 ?hS_30 ?rest_30; (case hi_30 => (simp only [List.getElem?_toArray, List.getElem?_cons_zero, List.getElem?_cons_succ]; rfl)); (case hs_30 => kernel_rfl); (case hf_30 => kernel_rfl); (case hr_30 => kernel_rfl); (case hQ_30 => exact fun _ _ _ h => h); (case hS_30 => assumption); (case hy_30 => (refine Or.inl ⟨by rfl, ?_⟩; intro w hSw; go_simp; first | done | with_reducible rfl)); (try simp only [Act.put, List.setIfInBounds_toArray, List.set_cons_zero, List.set_cons_succ])
                          refine wpAnyH_take (i := 8) (oi := ?o_31) (v := ?v_31) ?hi_31 ?hs_31 ?hf_31 ?hr_31 ?hQ_31 ?hy_31 ?hS_31 ?rest_31; (case hi_31 => (simp only [List.getElem?_toArray, List.getElem?_cons_zero, List.getElem?_cons_succ]; rfl)); (case hs_31 => kernel_rfl); (case hf_31 => kernel_rfl); (case hr_31 => kernel_rfl); (case hQ_31 => exact fun _ _ _ h => h); (case hS_31 => assumption); (case hy_31 => (refine Or.inl ⟨by rfl, ?_⟩; intro w hSw; go_simp; first | done | with_reducible rfl)); (try simp only [Act.put, List.setIfInBounds_toArray, List.set_cons_zero, List.set_cons_succ])
                          refine wpAnyH_take (i := 9) (oi := ?o_32) (v := ?v_32) ?hi_32 ?hs_32 ?hf_32 ?hr_32 ?hQ_32 ?hy_32 ?hS_32 ?rest_32; (case hi_32 => (simp only [List.getElem?_toArray, List.getElem?_cons_zero, List.getElem?_cons_succ]; rfl)); (case hs_32 => kernel_rfl); (case hf_32 => kernel_rfl); (case hr_32 => kernel_rfl); (case hQ_32 => exact fun _ _ _ h => h); (case hS_32 => assumption); (case hy_32 => (refine Or.inl ⟨by rfl, ?_⟩; intro w hSw; go_simp; first | done | with_reducible rfl)); (try simp only [Act.put, List.setIfInBounds_toArray, List.set_cons_zero, List.set_cons_succ])
                          refine wpAnyH_take (i := 10) (oi := ?o_33) (v := ?v_33) ?hi_33 ?hs_33 ?hf_33 ?hr_33 ?hQ_33 ?hy_33 ?hS_33 ?rest_33; (case hi_33 => (simp only [List.getElem?_toArray, List.getElem?_cons_zero, List.getElem?_cons_succ]; rfl)); (case hs_33 => kernel_rfl); (case hf_33 => kernel_rfl); (case hr_33 => kernel_rfl); (case hQ_33 => exact fun _ _ _ h => h); (case hS_33 => assumption); (case hy_33 => (refine Or.inl ⟨by rfl, ?_⟩; intro w hSw; go_simp; first | done | with_reducible rfl)); (try simp only [Act.put, List.setIfInBounds_toArray, List.set_cons_zero, List.set_cons_succ])
                          refine wpAnyH_take (i := 11) (oi := ?o_34) (v := ?v_34) ?hi_34 ?hs_34 ?hf_34 ?hr_34 ?hQ_34 ?hy_34 ?hS_34 ?rest_34; (case hi_34 => (simp only [List.getElem?_toArray, List.getElem?_cons_zero, List.getElem?_cons_succ]; rfl)); (case hs_34 => kernel_rfl); (case hf_34 => kernel_rfl); (case hr_34 => kernel_rfl); (case hQ_34 => exact fun _ _ _ h => h); (case hS_34 => assumption); (case hy_34 => (refine Or.inl ⟨by rfl, ?_⟩; intro w hSw; go_simp; first | done | with_reducible rfl)); (try simp only [Act.put, List.setIfInBounds_toArray, List.set_cons_zero, List.set_cons_succ])
                          refine wpAnyH_take (i := 12) (oi := ?o_35) (v := ?v_35) ?hi_35 ?hs_35 ?hf_35 ?hr_35 ?hQ_35 ?hy_35 ?hS_35 ?rest_35; (case hi_35 => (simp only [List.getElem?_toArray, List.getElem?_cons_zero, List.getElem?_cons_succ]; rfl)); (case hs_35 => kernel_rfl); (case hf_35 => kernel_rfl); (case hr_35 => kernel_rfl); (case hQ_35 => exact fun _ _ _ h => h); (case hS_35 => assumption); (case hy_35 => (refine Or.inl ⟨by rfl, ?_⟩; intro w hSw; go_simp; first | done | with_reducible rfl)); (try simp only [Act.put, List.setIfInBounds_toArray, List.set_cons_zero, List.set_cons_succ])
                          refine wpAnyH_take (i := 13) (oi := ?o_36) (v := ?v_36) ?hi_36 ?hs_36 ?hf_36 ?hr_36 ?hQ_36 ?hy_36 ?hS_36 ?rest_36; (case hi_36 => (simp only [List.getElem?_toArray, List.getElem?_cons_zero, List.getElem?_cons_succ]; rfl)); (case hs_36 => kernel_rfl); (case hf_36 => kernel_rfl); (case hr_36 => kernel_rfl); (case hQ_36 => exact fun _ _ _ h => h); (case hS_36 => assumption); (case hy_36 => (refine Or.inl ⟨by rfl, ?_⟩; intro w hSw; go_simp; first | done | with_reducible rfl)); (try simp only [Act.put, List.setIfInBounds_toArray, List.set_cons_zero, List.set_cons_succ])
                          refine wpAnyH_take (i := 14) (oi := ?o_37) (v := ?v_37) ?hi_37 ?hs_37 ?hf_37 ?hr_37 ?hQ_37 ?hy_37 ?hS_37 ?rest_37; (case hi_37 => (simp only [List.getElem?_toArray, List.getElem?_cons_zero, List.getElem?_cons_succ]; rfl)); (case hs_37 => kernel_rfl); (case hf_37 => kernel_rfl); (case hr_37 => kernel_rfl); (case hQ_37 => exact fun _ _ _ h => h); (case hS_37 => assumption); (case hy_37 => (refine Or.inl ⟨by rfl, ?_⟩; intro w hSw; go_simp; first | done | with_reducible rfl)); (try simp only [Act.put, List.setIfInBounds_toArray, List.set_cons_zero, List.set_cons_succ])
                          refine wpAnyH_take (i := 15) (oi := ?o_38) (v := ?v_38) ?hi_38 ?hs_38 ?hf_38 ?hr_38 ?hQ_38 ?hy_38 ?hS_38 ?rest_38; (case hi_38 => (simp only [List.getElem?_toArray, List.getElem?_cons_zero, List.getElem?_cons_succ]; rfl)); (case hs_38 => kernel_rfl); (case hf_38 => kernel_rfl); (case hr_38 => kernel_rfl); (case hQ_38 => exact fun _ _ _ h => h); (case hS_38 => assumption); (case hy_38 => (refine Or.inl ⟨by rfl, ?_⟩; intro w hSw; go_simp; first | done | with_reducible rfl)); (try simp only [Act.put, List.setIfInBounds_toArray, List.set_cons_zero, List.set_cons_succ])
                          refine wpAnyH_take (i := 16) (oi := ?o_39) (v := ?v_39) ?hi_39 ?hs_39 ?hf_39 ?hr_39 ?hQ_39 ?hy_39 ?hS_39 ?rest_39; (case hi_39 => (simp only [List.getElem?_toArray, List.getElem?_cons_zero, List.getElem?_cons_succ]; rfl)); (case hs_39 => kernel_rfl); (case hf_39 => kernel_rfl); (case hr_39 => kernel_rfl); (case hQ_39 => exact fun _ _ _ h => h); (case hS_39 => assumption); (case hy_39 => (refine Or.inl ⟨by rfl, ?_⟩; intro w hSw; go_simp; first | done | with_reducible rfl)); (try simp only [Act.put, List.setIfInBounds_toArray, List.set_cons_zero, List.set_cons_succ])
                          refine wpAnyH_take (i := 17) (oi := ?o_40) (v := ?v_40) ?hi_40 ?hs_40 ?hf_40 ?hr_40 ?hQ_40 ?hy_40 ?hS_40 ?rest_40; (case hi_40 => (simp only [List.getElem?_toArray, List.getElem?_cons_zero, List.getElem?_cons_succ]; rfl)); (case hs_40 => kernel_rfl); (case hf_40 => kernel_rfl); (case hr_40 => kernel_rfl); (case hQ_40 => exact fun _ _ _ h => h); (case hS_40 => assumption); (case hy_40 => (refine Or.inl ⟨by rfl, ?_⟩; intro w hSw; go_simp; first | done | with_reducible rfl)); (try simp only [Act.put, List.setIfInBounds_toArray, List.set_cons_zero, List.set_cons_succ])
                          refine wpAnyH_take (i := 19) (oi := ?o_41) (v := ?v_41) ?hi_41 ?hs_41 ?hf_41 ?hr_41 ?hQ_41 ?hy_41 ?hS_41 ?rest_41; (case hi_41 => (simp only [List.getElem?_toArray, List.getElem?_cons_zero, List.getElem?_cons_succ]; rfl)); (case hs_41 => kernel_rfl); (case hf_41 => kernel_rfl); (case hr_41 => kernel_rfl); (case hQ_41 => exact fun _ _ _ h => h); (case hS_41 => assumption); (case hy_41 => (refine Or.inl ⟨by rfl, ?_⟩; intro w hSw; go_simp; first | done | with_reducible rfl)); (try simp only [Act.put, List.setIfInBounds_toArray, List.set_cons_zero, List.set_cons_succ])
                          clear HH; have HH := Aside0.mk hHeld; clear hHeld
                          refine wpAnyH_ready (rs := [18]) (by kernel_rfl) (by simp) ?_; refine AllReadyH.cons (o := ?o_42) ?hi_42 (fun K hK => ?_) AllReadyH.nil; (case hi_42 => (simp only [List.getElem?_toArray, List.getElem?_cons_zero, List.getElem?_cons_succ]; rfl)); go_simp; (go_at_call 13; refine (ss_nowB HH.out.2.2.2.out a an HAN.out).mono ?_; rintro e w7 ⟨rfl, hb7⟩; have HB7 := Aside0.mk hb7; clear hb7); refine hK.out _ _ ?_ (fun hHeld => ?_); (· exact ⟨cell_below HB7.out HH.out.1, cell_below HB7.out HH.out.2.1, cell_below HB7.out HH.out.2.2.1, ⟨HH.out.2.2.2.out.below HB7.out⟩⟩); clear hK K; (try simp only [Act.put, List.setIfInBounds_toArray, List.set_cons_zero, List.set_cons_succ])
                          clear HH; have HH := Aside0.mk hHeld; clear hHeld
                          refine wpAnyH_ready (rs := [20]) (by kernel_rfl) (by simp) ?_; refine AllReadyH.cons (o := ?o_43) ?hi_43 (fun K hK => ?_) AllReadyH.nil; (case hi_43 => (simp only [List.getElem?_toArray, List.getElem?_cons_zero, List.getElem?_cons_succ]; rfl)); go_simp; (go_at_call 29; refine (valid _ d an s).mono ?_; rintro e w8 ⟨he8, hw8⟩; rw [HVF.out] at he8; subst he8; subst hw8); refine hK.out _ _ ?_ (fun hHeld => ?_); (· exact HH.out); clear hK K; (try simp only [Act.put, List.setIfInBounds_toArray, List.set_cons_zero, List.set_cons_succ])
                          refine wpAnyH_take (i := 21) (oi := ?o_44) (v := ?v_44) ?hi_44 ?hs_44 ?hf_44 ?hr_44 ?hQ_44 ?hy_44 ?hS_44 ?rest_44; (case hi_44 => (simp only [List.getElem?_toArray, List.getElem?_cons_zero, List.getElem?_cons_succ]; rfl)); (case hs_44 => kernel_rfl); (case hf_44 => kernel_rfl); (case hr_44 => kernel_rfl); (case hQ_44 => exact fun _ _ _ h => h); (case hS_44 => assumption); (case hy_44 => (refine Or.inl ⟨by rfl, ?_⟩; intro w hSw; go_simp; first | done | with_reducible rfl)); (try simp only [Act.put, List.setIfInBounds_toArray, List.set_cons_zero, List.set_cons_succ])
                          have HE := Aside0.mk hHeld.2.2.2.out
                          refine wpAnyH_done (by kernel_rfl) ?_ _
                          go_wp2_with fail
                          go_meet
                          case rel => exact ⟨rfl, HE.out⟩
                        · have HM := Lib.hid hmb
                          clear hmb
                          have hlt4 : decide (b < v) = false := decide_eq_false hbv
                          refine wp_region_held_drew (S := fun W => W.cell? ⟨wr.heap.size, 0, none⟩ = some (.int .i64 a) ∧ W.cell? ⟨wr.heap.size, 1, none⟩ = some (.int .i64 b) ∧ W.cell? ⟨wr.heap.size, 2, none⟩ = some (.int .i64 d) ∧ Aside0 (Ss w W B g m Bc gc w3.heap.size gr' gs' ml' s (i + 1) (.slice (some ⟨g3, 0, none⟩) gv'.length c4) gv')) (by kernel_rfl) ⟨cell_below ((Below.refl _ _).drew) HQ.out.1, cell_below ((Below.refl _ _).drew) HQ.out.2.1, cell_below ((Below.refl _ _).drew) HQ.out.2.2.1, ⟨HQ.out.2.2.2.out.below ((Below.refl _ _).drew)⟩⟩ (fun hHeld => ?_)
                          refine wpAnyH_take (i := 0) (oi := ?o_45) (v := ?v_45) ?hi_45 ?hs_45 ?hf_45 ?hr_45 ?hQ_45 ?hy_45 ?hS_45 ?rest_45; (case hi_45 => (simp only [List.getElem?_toArray, List.getElem?_cons_zero, List.getElem?_cons_succ]; rfl)); (case hs_45 => kernel_rfl); (case hf_45 => kernel_rfl); (case hr_45 => kernel_rfl); (case hQ_45 => exact fun _ _ _ h => h); (case hS_45 => assumption); (case hy_45 => (refine Or.inl ⟨by rfl, ?_⟩; intro w hSw; go_simp; first | done | with_reducible rfl)); (try simp only [Act.put, List.setIfInBounds_toArray, List.set_cons_zero, List.set_cons_succ])
                          refine wpAnyH_take (i := 1) (oi := ?o_46) (v := ?v_46) ?hi_46 ?hs_46 ?hf_46 ?hr_46 ?hQ_46 ?hy_46 ?hS_46 ?rest_46; (case hi_46 => (simp only [List.getElem?_toArray, List.getElem?_cons_zero, List.getElem?_cons_succ]; rfl)); (case hs_46 => kernel_rfl); (case hf_46 => kernel_rfl); (case hr_46 => kernel_rfl); (case hQ_46 => exact fun _ _ _ h => h); (case hS_46 => assumption); (case hy_46 => (refine Or.inl ⟨by rfl, ?_⟩; intro w hSw; go_simp; first | done | with_reducible rfl)); (try simp only [Act.put, List.setIfInBounds_toArray, List.set_cons_zero, List.set_cons_succ])
                          refine wpAnyH_take (i := 2) (oi := ?o_47) (v := ?v_47) ?hi_47 ?hs_47 ?hf_47 ?hr_47 ?hQ_47 ?hy_47 ?hS_47 ?rest_47; (case hi_47 => (simp only [List.getElem?_toArray, List.getElem?_cons_zero, List.getElem?_cons_succ]; rfl)); (case hs_47 => kernel_rfl); (case hf_47 => kernel_rfl); (case hr_47 => kernel_rfl); (case hQ_47 => exact fun _ _ _ h => h); (case hS_47 => assumption); (case hy_47 => (refine Or.inl ⟨by rfl, ?_⟩; intro w hSw; go_simp; first | done | with_reducible rfl)); (try simp only [Act.put, List.setIfInBounds_toArray, List.set_cons_zero, List.set_cons_succ])
                          refine wpAnyH_take (i := 3) (oi := ?o_48) (v := ?v_48) ?hi_48 ?hs_48 ?hf_48 ?hr_48 ?hQ_48 ?hy_48 ?hS_48 ?rest_48; (case hi_48 => (simp only [List.getElem?_toArray, List.getElem?_cons_zero, List.getElem?_cons_succ]; rfl)); (case hs_48 => kernel_rfl); (case hf_48 => kernel_rfl); (case hr_48 => kernel_rfl); (case hQ_48 => exact fun _ _ _ h => h); (case hS_48 => assumption); (case hy_48 => (refine Or.inl ⟨by rfl, ?_⟩; intro w hSw; go_simp; first | done | with_reducible rfl)); (try simp only [Act.put, List.setIfInBounds_toArray, List.set_cons_zero, List.set_cons_succ])
                          have HH := Aside0.mk hHeld; clear hHeld
                          refine wpAnyH_ready (rs := [4]) (by kernel_rfl) (by simp) ?_; refine AllReadyH.cons (o := ?o_49) ?hi_49 (fun K hK => ?_) AllReadyH.nil; (case hi_49 => (simp only [List.getElem?_toArray, List.getElem?_cons_zero, List.getElem?_cons_succ]; rfl)); go_simp; (go_at_call 13; refine (ss_nowB HH.out.2.2.2.out p mn HMN.out).mono ?_; rintro e w5 ⟨rfl, hb5⟩; have HB5 := Aside0.mk hb5; clear hb5); refine hK.out _ _ ?_ (fun hHeld => ?_); (· exact ⟨cell_below HB5.out HH.out.1, cell_below HB5.out HH.out.2.1, cell_below HB5.out HH.out.2.2.1, ⟨HH.out.2.2.2.out.below HB5.out⟩⟩); clear hK K; (try simp only [Act.put, List.setIfInBounds_toArray, List.set_cons_zero, List.set_cons_succ])
                          clear HH; have HH := Aside0.mk hHeld; clear hHeld
                          refine wpAnyH_ready (rs := [5]) (by kernel_rfl) (by simp) ?_; refine AllReadyH.cons (o := ?o_50) ?hi_50 (fun K hK => ?_) AllReadyH.nil; (case hi_50 => (simp only [List.getElem?_toArray, List.getElem?_cons_zero, List.getElem?_cons_succ]; rfl)); go_simp; (go_at_call 25; refine (ss_may HH.out.2.2.2.out (by omega) v mn true HM.out).mono ?_; rintro e w6 ⟨rfl, hb6⟩; have HB6 := Aside0.mk hb6; clear hb6); refine hK.out _ _ ?_ (fun hHeld => ?_); (· exact ⟨cell_below HB6.out HH.out.1, cell_below HB6.out HH.out.2.1, cell_below HB6.out HH.out.2.2.1, ⟨HH.out.2.2.2.out.below HB6.out⟩⟩); clear hK K; (try simp only [Act.put, List.setIfInBounds_toArray, List.set_cons_zero, List.set_cons_succ])
                          refine wpAnyH_take (i := 6) (oi := ?o_51) (v := ?v_51) ?hi_51 ?hs_51 ?hf_51 ?hr_51 ?hQ_51 ?hy_51 ?hS_51 ?rest_51; (case hi_51 => (simp only [List.getElem?_toArray, List.getElem?_cons_zero, List.getElem?_cons_succ]; rfl)); (case hs_51 => kernel_rfl); (case hf_51 => kernel_rfl); (case hr_51 => kernel_rfl); (case hQ_51 => exact fun _ _ _ h => h); (case hS_51 => assumption); (case hy_51 => (refine Or.inl ⟨by rfl, ?_⟩; intro w hSw; go_simp; first | done | with_reducible rfl)); (try simp only [Act.put, List.setIfInBounds_toArray, List.set_cons_zero, List.set_cons_succ])
                          refine wpAnyH_take (i := 7) (oi := ?o_52) (v := ?v_52) ?hi_52 ?hs_52 ?hf_52 ?hr_52 ?hQ_52 ?hy_52 ?hS_52 ?rest_52; (case hi_52 => (simp only [List.getElem?_toArray, List.getElem?_cons_zero, List.getElem?_cons_succ]; rfl)); (case hs_52 => kernel_rfl); (case hf_52 => kernel_rfl); (case hr_52 => kernel_rfl); (case hQ_52 => exact fun _ _ _ h => h); (case hS_52 => assumption); (case hy_52 => (refine Or.inl ⟨by rfl, ?_⟩; intro w hSw; go_simp; first | done | with_reducible rfl)); (try simp only [Act.put, List.setIfInBounds_toArray, List.set_cons_zero, List.set_cons_succ])
                          refine wpAnyH_take (i := 8) (oi := ?o_53) (v := ?v_53) ?hi_53 ?hs_53 ?hf_53 ?hr_53 ?hQ_53 ?hy_53 ?hS_53 ?rest_53; (case hi_53 => (simp only [List.getElem?_toArray, List.getElem?_cons_zero, List.getElem?_cons_succ]; rfl)); (case hs_53 => kernel_rfl); (case hf_53 => kernel_rfl); (case hr_53 => kernel_rfl); (case hQ_53 => exact fun _ _ _ h => h); (case hS_53 => assumption); (case hy_53 => (refine Or.inl ⟨by rfl, ?_⟩; intro w hSw; go_simp; first | done | with_reducible rfl)); (try simp only [Act.put, List.setIfInBounds_toArray, List.set_cons_zero, List.set_cons_succ])
                          refine wpAnyH_take (i := 9) (oi := ?o_54) (v := ?v_54) ?hi_54 ?hs_54 ?hf_54 ?hr_54 ?hQ_54 ?hy_54 ?hS_54 ?rest_54; (case hi_54 => (simp only [List.getElem?_toArray, List.getElem?_cons_zero, List.getElem?_cons_succ]; rfl)); (case hs_54 => kernel_rfl); (case hf_54 => kernel_rfl); (case hr_54 => kernel_rfl); (case hQ_54 => exact fun _ _ _ h => h); (case hS_54 => assumption); (case hy_54 => (refine Or.inl ⟨by rfl, ?_⟩; intro w hSw; go_simp; first | done | with_reducible rfl)); (try simp only [Act.put, List.setIfInBounds_toArray, List.set_cons_zero, List.set_cons_succ])
                          refine wpAnyH_take (i := 10) (oi := ?o_55) (v := ?v_55) ?hi_55 ?hs_55 ?hf_55 ?hr_55 ?hQ_55 ?hy_55 ?hS_55 ?rest_55; (case hi_55 => (simp only [List.getElem?_toArray, List.getElem?_cons_zero, List.getElem?_cons_succ]; rfl)); (case hs_55 => kernel_rfl); (case hf_55 => kernel_rfl); (case hr_55 => kernel_rfl); (case hQ_55 => exact fun _ _ _ h => h); (case hS_55 => assumption); (case hy_55 => (refine Or.inl ⟨by rfl, ?_⟩; intro w hSw; go_simp; first | done | with_reducible rfl)); (try simp only [Act.put, List.setIfInBounds_toArray, List.set_cons_zero, List.set_cons_succ])
                          refine wpAnyH_take (i := 11) (oi := ?o_56) (v := ?v_56) ?hi_56 ?hs_56 ?hf_56 ?hr_56 ?hQ_56 ?hy_56 ?hS_56 ?rest_56; (case hi_56 => (simp only [List.getElem?_toArray, List.getElem?_cons_zero, List.getElem?_cons_succ]; rfl)); (case hs_56 => kernel_rfl); (case hf_56 => kernel_rfl); (case hr_56 => kernel_rfl); (case hQ_56 => exact fun _ _ _ h => h); (case hS_56 => assumption); (case hy_56 => (refine Or.inl ⟨by rfl, ?_⟩; intro w hSw; go_simp; first | done | with_reducible rfl)); (try simp only [Act.put, List.setIfInBounds_toArray, List.set_cons_zero, List.set_cons_succ])
                          refine wpAnyH_take (i := 12) (oi := ?o_57) (v := ?v_57) ?hi_57 ?hs_57 ?hf_57 ?hr_57 ?hQ_57 ?hy_57 ?hS_57 ?rest_57; (case hi_57 => (simp only [List.getElem?_toArray, List.getElem?_cons_zero, List.getElem?_cons_succ]; rfl)); (case hs_57 => kernel_rfl); (case hf_57 => kernel_rfl); (case hr_57 => kernel_rfl); (case hQ_57 => exact fun _ _ _ h => h); (case hS_57 => assumption); (case hy_57 => (refine Or.inl ⟨by rfl, ?_⟩; intro w hSw; go_simp; first | done | with_reducible rfl)); (try simp only [Act.put, List.setIfInBounds_toArray, List.set_cons_zero, List.set_cons_succ])
                          refine wpAnyH_take (i := 13) (oi := ?o_58) (v := undef) ?hi_58 ?hs_58 ?hf_58 ?hr_58 ?hQ_58 ?hy_58 ?hS_58 ?rest_58; (case hi_58 => (simp only [List.getElem?_toArray, List.getElem?_cons_zero, List.getElem?_cons_succ]; rfl)); (case hs_58 => kernel_rfl); (case hf_58 => kernel_rfl); (case hr_58 => kernel_rfl); (case hQ_58 => exact fun _ _ _ h => h); (case hS_58 => assumption); (case hy_58 => exact Or.inr ⟨by rfl, rfl⟩); (try simp only [Act.put, List.setIfInBounds_toArray, List.set_cons_zero, List.set_cons_succ])
                          refine wpAnyH_take (i := 14) (oi := ?o_59) (v := undef) ?hi_59 ?hs_59 ?hf_59 ?hr_59 ?hQ_59 ?hy_59 ?hS_59 ?rest_59; (case hi_59 => (simp only [List.getElem?_toArray, List.getElem?_cons_zero, List.getElem?_cons_succ]; rfl)); (case hs_59 => kernel_rfl); (case hf_59 => kernel_rfl); (case hr_59 => kernel_rfl); (case hQ_59 => exact fun _ _ _ h => h); (case hS_59 => assumption); (case hy_59 => exact Or.inr ⟨by rfl, rfl⟩); (try simp only [Act.put, List.setIfInBounds_toArray, List.set_cons_zero, List.set_cons_succ])
                          refine wpAnyH_take (i := 15) (oi := ?o_60) (v := undef) ?hi_60 ?hs_60 ?hf_60 ?hr_60 ?hQ_60 ?hy_60 ?hS_60 ?rest_60; (case hi_60 => (simp only [List.getElem?_toArray, List.getElem?_cons_zero, List.getElem?_cons_succ]; rfl)); (case hs_60 => kernel_rfl); (case hf_60 => kernel_rfl); (case hr_60 => kernel_rfl); (case hQ_60 => exact fun _ _ _ h => h); (case hS_60 => assumption); (case hy_60 => exact Or.inr ⟨by rfl, rfl⟩); (try simp only [Act.put, List.setIfInBounds_toArray, List.set_cons_zero, List.set_cons_succ])
                          refine wpAnyH_take (i := 16) (oi := ?o_61) (v := undef) ?hi_61 ?hs_61 ?hf_61 ?hr_61 ?hQ_61 ?hy_61 ?hS_61 ?rest_61; (case hi_61 => (simp only [List.getElem?_toArray, List.getElem?_cons_zero, List.getElem?_cons_succ]; rfl)); (case hs_61 => kernel_rfl); (case hf_61 => kernel_rfl); (case hr_61 => kernel_rfl); (case hQ_61 => exact fun _ _ _ h => h); (case hS_61 => assumption); (case hy_61 => exact Or.inr ⟨by rfl, rfl⟩); (try simp only [Act.put, List.setIfInBounds_toArray, List.set_cons_zero, List.set_cons_succ])
                          refine wpAnyH_take (i := 17) (oi := ?o_62) (v := undef) ?hi_62 ?hs_62 ?hf_62 ?hr_62 ?hQ_62 ?hy_62 ?hS_62 ?rest_62; (case hi_62 => (simp only [List.getElem?_toArray, List.getElem?_cons_zero, List.getElem?_cons_succ]; rfl)); (case hs_62 => kernel_rfl); (case hf_62 => kernel_rfl); (case hr_62 => kernel_rfl); (case hQ_62 => exact fun _ _ _ h => h); (case hS_62 => assumption); (case hy_62 => exact Or.inr ⟨by rfl, rfl⟩); (try simp only [Act.put, List.setIfInBounds_toArray, List.set_cons_zero, List.set_cons_succ])
                          refine wpAnyH_take (i := 18) (oi := ?o_63) (v := undef) ?hi_63 ?hs_63 ?hf_63 ?hr_63 ?hQ_63 ?hy_63 ?hS_63 ?rest_63; (case hi_63 => (simp only [List.getElem?_toArray, List.getElem?_cons_zero, List.getElem?_cons_succ]; rfl)); (case hs_63 => kernel_rfl); (case hf_63 => kernel_rfl); (case hr_63 => kernel_rfl); (case hQ_63 => exact fun _ _ _ h => h); (case hS_63 => assumption); (case hy_63 => exact Or.inr ⟨by rfl, rfl⟩); (try simp only [Act.put, List.setIfInBounds_toArray, List.set_cons_zero, List.set_cons_succ])
                          refine wpAnyH_take (i := 19) (oi := ?o_64) (v := undef) ?hi_64 ?hs_64 ?hf_64 ?hr_64 ?hQ_64 ?hy_64 ?hS_64 ?rest_64; (case hi_64 => (simp only [List.getElem?_toArray, List.getElem?_cons_zero, List.getElem?_cons_succ]; rfl)); (case hs_64 => kernel_rfl); (case hf_64 => kernel_rfl); (case hr_64 => kernel_rfl); (case hQ_64 => exact fun _ _ _ h => h); (case hS_64 => assumption); (case hy_64 => exact Or.inr ⟨by rfl, rfl⟩); (try simp only [Act.put, List.setIfInBounds_toArray, List.set_cons_zero, List.set_cons_succ])
                          refine wpAnyH_take (i := 20) (oi := ?o_65) (v := undef) ?hi_65 ?hs_65 ?hf_65 ?hr_65 ?hQ_65 ?hy_65 ?hS_65 ?rest_65; (case hi_65 => (simp only [List.getElem?_toArray, List.getElem?_cons_zero, List.getElem?_cons_succ]; rfl)); (case hs_65 => kernel_rfl); (case hf_65 => kernel_rfl); (case hr_65 => kernel_rfl); (case hQ_65 => exact fun _ _ _ h => h); (case hS_65 => assumption); (case hy_65 => exact Or.inr ⟨by rfl, rfl⟩); (try simp only [Act.put, List.setIfInBounds_toArray, List.set_cons_zero, List.set_cons_succ])
                          refine wpAnyH_take (i := 21) (oi := ?o_66) (v := ?v_66) ?hi_66 ?hs_66 ?hf_66 ?hr_66 ?hQ_66 ?hy_66 ?hS_66 ?rest_66; (case hi_66 => (simp only [List.getElem?_toArray, List.getElem?_cons_zero, List.getElem?_cons_succ]; rfl)); (case hs_66 => kernel_rfl); (case hf_66 => kernel_rfl); (case hr_66 => kernel_rfl); (case hQ_66 => exact fun _ _ _ h => h); (case hS_66 => assumption); (case hy_66 => (refine Or.inl ⟨by rfl, ?_⟩; intro w hSw; go_simp; first | done | with_reducible rfl)); (try simp only [Act.put, List.setIfInBounds_toArray, List.set_cons_zero, List.set_cons_succ])
                          have HE := Aside0.mk hHeld.2.2.2.out
                          refine wpAnyH_done (by kernel_rfl) ?_ _
                          go_wp2_with fail
                          go_meet
                          case rel => exact ⟨rfl, HE.out⟩
                    case rest =>
                      clear HQ
                      obtain ⟨rfl, HS⟩ := hcut
                      go_wp2_with fail
                      go_roundg (gv'.length - (k + 1))
                      case measure => omega
                      case rel => exact ⟨k + 1, by omega, by omega, by go_num, HS⟩
                · have hlt3 : ¬ (k : Int) < (gv'.length : Int) := by omega
                  go_wp2_with fail
                  go_roundg (max l1.length l2.length - (i + 1))
                  case measure => omega
                  case rel => exact ⟨i + 1, gr', gs', ml', gv', by omega, by omega, by go_num, HS⟩
    · have hn1 : ¬ (i : Int) < (l1.length : Int) := by omega
      have hn2 : ¬ (i : Int) < (l2.length : Int) := by omega
      go_wp2
      go_ret
      exact ⟨rfl, HS.out.bel⟩
set_option maxHeartbeats 4000000 in
set_option maxRecDepth 100000 in
theorem leaseSafe (w : World) (s : Int) (A1 : Option Addr) (c1 : Nat) (l1 : Gs) (A2 : Option Addr) (c2 : Nat) (l2 : List T3) (v p : Int) (hl1 : HasT w A1 l1) (hl2 : HasL w A2 l2) (hlen1 : l1.length ≤ 9223372036854775807) (hlen2 : l2.length ≤ 9223372036854775807) :
    Calls Try.prog 5 #[.int .i64 s, .slice A1 l1.length c1, .slice A2 l2.length c2, .int .i64 v, .int .i64 p] w fun e w' => e = .returned (.bool true) ∧ Below w.heap.size w w' := by
  by_cases h1 : l1.length ≤ 300 ∧ l2.length ≤ 200 ∧ 0 ≤ p ∧ p ≤ 4
  · obtain ⟨h1, h2, h5, h6⟩ := h1
    by_cases hs : 0 ≤ s ∧ s ≤ 1000
    · exact leaseSafe_in w s A1 c1 l1 A2 c2 l2 v p hl1 hl2 h1 h2 h5 h6 hs.1 hs.2
    · have k1 := Lib.hid (fun w => newClocks_no 5 s w (by omega))
      have k2 := Lib.hid (fun w => new_yes 5 w (by omega) (by omega))
      clear hl1 hl2
      rcases (by omega : s < 0 ∨ (0 ≤ s ∧ 1000 < s)) with h7 | ⟨h7, h8⟩
      · clear hs
        go_enter Try.func5, Try.ntmps5
        go_wp2_with (first
          | (go_at_call 8; refine (alive _).mono ?_; rintro e w1 ⟨rfl, hb1⟩; have HB1 := Lib.hid hb1; clear hb1)
          | (go_at_call 9; refine (k1.out _).mono ?_; rintro e w2 ⟨rfl, rfl⟩)
          | (go_at_call 17; refine (k2.out _).mono ?_; rintro e w3 ⟨B, g, m, hB, hg, hm, rfl, hbk, hbel2⟩; have HB2 := Lib.hid (HB1.out.trans (hbel2.mono HB1.out.size)); clear hbk hbel2 hB hg hm))
        go_ret
        exact ⟨rfl, HB2.out⟩
      · clear hs
        go_enter Try.func5, Try.ntmps5
        go_wp2_with (first
          | (go_at_call 8; refine (alive _).mono ?_; rintro e w1 ⟨rfl, hb1⟩; have HB1 := Lib.hid hb1; clear hb1)
          | (go_at_call 9; refine (k1.out _).mono ?_; rintro e w2 ⟨rfl, rfl⟩)
          | (go_at_call 17; refine (k2.out _).mono ?_; rintro e w3 ⟨B, g, m, hB, hg, hm, rfl, hbk, hbel2⟩; have HB2 := Lib.hid (HB1.out.trans (hbel2.mono HB1.out.size)); clear hbk hbel2 hB hg hm))
        go_ret
        exact ⟨rfl, HB2.out⟩
  · clear hl1 hl2
    rcases (by omega : (300 : Int) < (l1.length : Int) ∨ ((l1.length : Int) ≤ 300 ∧ (200 : Int) < (l2.length : Int)) ∨ ((l1.length : Int) ≤ 300 ∧ (l2.length : Int) ≤ 200 ∧ p < 0) ∨ ((l1.length : Int) ≤ 300 ∧ (l2.length : Int) ≤ 200 ∧ 0 ≤ p ∧ 4 < p)) with h | ⟨h2, h3⟩ | ⟨h2, h3, h4⟩ | ⟨h2, h3, h4, h5⟩
    · clear h1
      go_enter Try.func5, Try.ntmps5
      go_wp2_with (go_at_call 8; refine (alive _).mono ?_; rintro e w1 ⟨rfl, hb1⟩; have HB1 := Lib.hid hb1; clear hb1)
      go_ret
      exact ⟨rfl, HB1.out⟩
    · clear h1
      go_enter Try.func5, Try.ntmps5
      go_wp2_with (go_at_call 8; refine (alive _).mono ?_; rintro e w1 ⟨rfl, hb1⟩; have HB1 := Lib.hid hb1; clear hb1)
      go_ret
      exact ⟨rfl, HB1.out⟩
    · clear h1
      go_enter Try.func5, Try.ntmps5
      go_wp2_with (go_at_call 8; refine (alive _).mono ?_; rintro e w1 ⟨rfl, hb1⟩; have HB1 := Lib.hid hb1; clear hb1)
      go_ret
      exact ⟨rfl, HB1.out⟩
    · clear h1
      go_enter Try.func5, Try.ntmps5
      go_wp2_with (go_at_call 8; refine (alive _).mono ?_; rintro e w1 ⟨rfl, hb1⟩; have HB1 := Lib.hid hb1; clear hb1)
      go_ret
      exact ⟨rfl, HB1.out⟩
end Go.Proofs.Ytfadanmfelbfiaa.L
