/- Script: what of an event its kind names. -/
import Derived.Test.YtkogcobcjoojnaaGreatDoorPG
import Derived.ChangeKeysEq
namespace Go.Proofs.YtkogcobcjoojnaaGreatDoor.Fl
open Go.RowKit Go.Maps
set_option linter.unusedVariables false
set_option linter.unusedSimpArgs false
/-- An event whose first numbers, of those that its kind names, are told. -/
def pe (e : EvE) (i : Nat) : EvE :=
  let p := fun j => if ((fieldsK e.kind).take i).contains j then e.nums.getD j 0 else 0
  ⟨e.kind, p 0, p 1, p 2, p 3, p 4, p 5, p 6, p 7, false, noReq, noChg⟩
abbrev nilV : Value := .slice none 0 0
abbrev zE : Array Value := #[.int .i64 0, .int .i64 0, .int .i64 0, .int .i64 0, .int .i64 0, .int .i64 0, .int .i64 0, .int .i64 0, .int .i64 0, .bool false, .int .i64 0, .string ⟨#[]⟩, .string ⟨#[]⟩, .slice none 0 0, .string ⟨#[]⟩, .string ⟨#[]⟩, .int .i64 0, .int .i64 0, .string ⟨#[]⟩, .slice none 0 0, .string ⟨#[]⟩, .string ⟨#[]⟩, .int .i64 0, .int .i64 0, .int .i64 0, .int .i64 0, .int .i64 0, .string ⟨#[]⟩, .string ⟨#[]⟩, .int .i64 0, .int .i64 0, .int .i64 0, .int .i64 0]
theorem pe_zero (e : EvE) : pe e 0 = ⟨e.kind, 0, 0, 0, 0, 0, 0, 0, 0, false, noReq, noChg⟩ := by
  unfold pe
  simp
theorem pe_step (e : EvE) (i j : Nat) (h : (fieldsK e.kind)[i]? = some j) (hj : j < 8) : (ecells nilV nilV (pe e i)).setIfInBounds (j + 1) (.int .i64 (e.nums.getD j 0)) = ecells nilV nilV (pe e (i + 1)) := by
  have ht : (fieldsK e.kind).take (i + 1) = (fieldsK e.kind).take i ++ [j] := by
    obtain ⟨hl, he⟩ := List.getElem?_eq_some_iff.1 h
    rw [List.take_succ_eq_append_getElem hl, he]
  have hc : ∀ k, ((fieldsK e.kind).take (i + 1)).contains k = (((fieldsK e.kind).take i).contains k || k == j) := fun k => by
    rw [ht]
    simp [List.contains_eq_any_beq]
    rw [Bool.eq_iff_iff]
    simp
  unfold pe
  simp only [hc]
  obtain rfl | rfl | rfl | rfl | rfl | rfl | rfl | rfl : j = 0 ∨ j = 1 ∨ j = 2 ∨ j = 3 ∨ j = 4 ∨ j = 5 ∨ j = 6 ∨ j = 7 := by omega
  all_goals simp [ecells]
theorem pe_last (e : EvE) (i : Nat) (h : (fieldsK e.kind).length ≤ i) : pe e i = ⟨e.kind, pick e 0, pick e 1, pick e 2, pick e 3, pick e 4, pick e 5, pick e 6, pick e 7, false, noReq, noChg⟩ := by
  unfold pe pick
  rw [List.take_of_length_le h]
set_option maxRecDepth 100000 in
set_option maxHeartbeats 4000000 in
theorem c_told {w : World} (ma : Option Addr) (mn mc : Nat) (fa : Option Addr) (fn fc : Nat) (ev : EvE) (hk : 1 ≤ ev.kind ∧ ev.kind ≤ 13) :
    Calls Tryz.prog 23 #[.agg (ecells (.slice ma mn mc) (.slice fa fn fc) ev)] w fun e w' => e = .returned (.agg (ecells (if ev.kind = 1 then .slice ma mn mc else nilV) (if ev.kind = 1 then .slice fa fn fc else nilV) (toldE ev))) ∧ Below w.heap.size w w' := by
  have szE := szE
  have szQ := szQ
  have szC := szC
  obtain ⟨ANS, hANS⟩ : ∃ x, ecells (if ev.kind = 1 then .slice ma mn mc else nilV) (if ev.kind = 1 then .slice fa fn fc else nilV) (toldE ev) = x := ⟨_, rfl⟩
  rw [hANS]
  have HANS := Lib.hid hANS
  clear hANS
  obtain ⟨W1, hW1⟩ : ∃ W, w.alloc (.cells (ecells (.slice ma mn mc) (.slice fa fn fc) ev) 39) = W := ⟨_, rfl⟩
  have hs1 : W1.heap.size = w.heap.size + 1 := by rw [← hW1]; show (w.heap.push _).size = _; simp
  have hb1 : Below w.heap.size w W1 := hW1 ▸ below_box _ _
  have hk1 : Bk w.heap.size (ecells (.slice ma mn mc) (.slice fa fn fc) ev) 39 W1 := hW1 ▸ Bk.new _ _ _
  obtain ⟨W2, hW2⟩ : ∃ W, W1.alloc (.cells zE 39) = W := ⟨_, rfl⟩
  have hs2 : W2.heap.size = w.heap.size + 1 + 1 := by rw [← hW2]; show (W1.heap.push _).size = _; simp [hs1]
  have hb2 : Below w.heap.size w W2 := hb1.trans ((hW2 ▸ below_box (w := W1) zE 39 : Below W1.heap.size W1 W2).mono hb1.size)
  have hk2 := hk1.next (hW2 ▸ below_box (w := W1) zE 39 : Below W1.heap.size W1 W2)
  have hr2 : Bk (w.heap.size + 1) zE 39 W2 := by rw [← hs1]; exact hW2 ▸ Bk.new W1 zE 39
  obtain ⟨W3, hW3⟩ : ∃ W, W2.alloc (.cells zE 39) = W := ⟨_, rfl⟩
  have hn3 : Below W2.heap.size W2 W3 := hW3 ▸ below_box (w := W2) zE 39
  have HB3 := Lib.hid (hb2.trans (hn3.mono hb2.size))
  have HK3 := Lib.hid (hk2.next hn3)
  have HR3 := Lib.hid (hr2.next hn3)
  have HO3 := Lib.hid (show Bk (w.heap.size + 1 + 1) zE 39 W3 by rw [← hs2]; exact hW3 ▸ Bk.new W2 zE 39)
  have x0 := hk2.cell 0 (.int .i64 ev.kind) rfl
  clear hk1 hk2 hr2 hn3 hb1 hb2
  go_enter Tryz.func23, Tryz.ntmps23
  have HKD := Lib.hid hk
  clear hk
  go_wp2_with (with_reducible show wpList _ _ _ ({ dst := _, op := Op.store _ _ _, type := _, pos := _, after := _, guard := _ } :: _) _ _; refine wpList_store_all rfl 39 _ _ rfl (w.heap.size + 1 + 1) (ecells nilV nilV ⟨ev.kind, 0, 0, 0, 0, 0, 0, 0, 0, false, noReq, noChg⟩) rfl rfl 39 _ HO3.out 33 szE rfl rfl (ecells_one none 0 0 none 0 0 _) ?_; have HB4 := Lib.hid (below_row HB3.out (show w.heap.size ≤ w.heap.size + 1 + 1 by omega) (ecells nilV nilV ⟨ev.kind, 0, 0, 0, 0, 0, 0, 0, 0, false, noReq, noChg⟩)); have HK4 := Lib.hid (HK3.out.off (show w.heap.size + 1 + 1 ≠ w.heap.size by omega) (ecells nilV nilV ⟨ev.kind, 0, 0, 0, 0, 0, 0, 0, 0, false, noReq, noChg⟩)); have HR4 := Lib.hid (HR3.out.off (show w.heap.size + 1 + 1 ≠ w.heap.size + 1 by omega) (ecells nilV nilV ⟨ev.kind, 0, 0, 0, 0, 0, 0, 0, 0, false, noReq, noChg⟩)); have HO4 := Lib.hid (HO3.out.row (ecells nilV nilV ⟨ev.kind, 0, 0, 0, 0, 0, 0, 0, 0, false, noReq, noChg⟩)); generalize W3.setRow (w.heap.size + 1 + 1) _ = W4 at HB4 HK4 HR4 HO4 ⊢)
  clear x0 hW1 hW2 hW3 hs1 hs2 HB3 HK3 HR3 HO3
  have z0 := HO4.out.cell 0 (.int .i64 ev.kind) rfl
  refine (c_fields _ ev.kind HKD.out _ z0).mono ?_
  rintro e w5 ⟨v5, rfl, rfl, hr5, hb5⟩
  have HB5 := Lib.hid (HB4.out.trans (hb5.mono HB4.out.size))
  have HK5 := Lib.hid (HK4.out.next hb5)
  have HR5 := Lib.hid (HR4.out.next hb5)
  have HO5 := Lib.hid (HO4.out.next hb5)
  have HG5 := Lib.hid (show Bk W4.heap.size _ _ w5 from hr5)
  have hgb := HO4.out.lt
  clear hr5 hb5 z0 HB4 HK4 HR4 HO4
  generalize W4.heap.size = gb at HG5 hgb
  have hL := fields_len ev.kind
  obtain ⟨L, hLd⟩ : ∃ L, (fieldsC ev.kind).length = L := ⟨_, rfl⟩
  rw [hLd] at hL ⊢
  have HLd := Lib.hid hLd
  have HLd2 := Lib.hid (show (fieldsK ev.kind).length = L by rw [← hLd]; unfold fieldsC; rw [List.length_map])
  clear hLd
  go_wp2
  go_loopw [11] (fun v11 W => ∃ i : Nat, i ≤ L ∧ v11 = .int .i64 i ∧ Hid (Below w.heap.size w W) ∧ Hid (Bk w.heap.size (ecells (.slice ma mn mc) (.slice fa fn fc) ev) 39 W) ∧ Hid (Bk (w.heap.size + 1) zE 39 W) ∧ Hid (Bk (w.heap.size + 1 + 1) (ecells nilV nilV (pe ev i)) 39 W) ∧ Hid (Bk gb (ptrs (w.heap.size + 1 + 1) (fieldsC ev.kind)).toArray 70 W)) (fun v11 _ => L - (intOf v11).toNat)
  case atStart => exact ⟨0, by omega, rfl, HB5, HK5, HR5, Lib.hid (by rw [pe_zero]; exact HO5.out), HG5⟩
  case round =>
    obtain ⟨i, hi2, rfl, HB, HK, HR, HO, HG⟩ := hrel
    clear HB5 HK5 HR5 HO5 HG5
    by_cases hlt : i < L
    · have t1 : decide ((i : Int) < (L : Int)) = true := decide_eq_true (by omega)
      have hk0 : (0 : Int) ≤ (i : Int) := by omega
      have hk1 : (i : Int) < (L : Int) := by omega
      have hi3 : i < (fieldsC ev.kind).length := by rw [HLd.out]; exact hlt
      have hoi := List.getElem?_eq_getElem hi3
      obtain ⟨jj, hjj, hoj, hj8⟩ := fields_at hoi
      have y0 := HG.out.cell i (.pointer (some ⟨w.heap.size + 1 + 1, jj + 1, none⟩)) (by simp only [ptrs, List.getElem?_toArray, List.getElem?_map, hoi, hoj]; rfl)
      have y1 : wr.cell? ⟨gb, 0 + i, none⟩ = some (.pointer (some ⟨w.heap.size + 1 + 1, jj + 1, none⟩)) := by rw [Nat.zero_add]; exact y0
      have x0 := HK.out.cell 0 (.int .i64 ev.kind) rfl
      have HST := Lib.hid (pe_step ev i jj hjj hj8)
      go_wp2_with fail
      refine (c_fields _ ev.kind HKD.out _ x0).mono ?_
      rintro e w6 ⟨v6, rfl, rfl, hr6, hb6⟩
      have HB6 := Lib.hid (HB.out.trans (hb6.mono HB.out.size))
      have HK6 := Lib.hid (HK.out.next hb6)
      have HR6 := Lib.hid (HR.out.next hb6)
      have HO6 := Lib.hid (HO.out.next hb6)
      have HG6 := Lib.hid (HG.out.next hb6)
      have hg6 : Bk wr.heap.size _ _ w6 := hr6
      have y2 := hg6.cell i (.pointer (some ⟨w.heap.size, jj + 1, none⟩)) (by simp only [ptrs, List.getElem?_toArray, List.getElem?_map, hoi, hoj]; rfl)
      have y3 : w6.cell? ⟨wr.heap.size, 0 + i, none⟩ = some (.pointer (some ⟨w.heap.size, jj + 1, none⟩)) := by rw [Nat.zero_add]; exact y2
      have y4 := HK6.out.cell (jj + 1) _ (nums_cell (.slice ma mn mc) (.slice fa fn fc) ev hj8)
      have y5 := HO6.out.cell (jj + 1) _ (nums_cell nilV nilV (pe ev i) hj8)
      have y6 := HO6.out.frozen (jj + 1)
      have HW7 := Lib.hid (HO6.out.set (jj + 1) (.int .i64 (ev.nums.getD jj 0)))
      rw [HST.out] at HW7
      rw [HLd.out] at *
      clear y0 y1 x0 hr6 hb6 hg6 hoi hjj hoj hj8 hi3 HB HK HR HO HG
      generalize ev.nums.getD jj 0 = n at *
      generalize (pe ev i).nums.getD jj 0 = n2 at *
      go_wp2
      rw [HW7.out]
      go_roundw
      case rel => exact ⟨i + 1, by omega, by go_num, Lib.hid (below_row HB6.out (by omega) _), Lib.hid (HK6.out.off (by omega) _), Lib.hid (HR6.out.off (by omega) _), Lib.hid (HO6.out.row _), Lib.hid (HG6.out.off (by have := hgb; omega) _)⟩
      case measure => simp [intOf]; omega
    · have t1 : decide ((i : Int) < (L : Int)) = false := decide_eq_false (by omega)
      rw [pe_last ev i (by rw [HLd2.out]; omega)] at HO
      clear HG
      have HKP := Lib.hid (show Bk w.heap.size (eHead ev ++ (qcells (.slice ma mn mc) (.slice fa fn fc) ev.req).toList ++ (ccells ev.chg).toList).toArray 39 wr from HK.out)
      have HOP := Lib.hid (show Bk (w.heap.size + 1 + 1) (eHead ⟨ev.kind, pick ev 0, pick ev 1, pick ev 2, pick ev 3, pick ev 4, pick ev 5, pick ev 6, pick ev 7, false, noReq, noChg⟩ ++ (qcells nilV nilV noReq).toList ++ (ccells noChg).toList).toArray 39 wr from HO.out)
      have HKP2 := Lib.hid (show Bk w.heap.size ((eHead ev ++ (qcells (.slice ma mn mc) (.slice fa fn fc) ev.req).toList) ++ (ccells ev.chg).toList ++ []).toArray 39 wr by rw [List.append_nil]; exact HK.out)
      have HOP2 := Lib.hid (show Bk (w.heap.size + 1 + 1) ((eHead ⟨ev.kind, pick ev 0, pick ev 1, pick ev 2, pick ev 3, pick ev 4, pick ev 5, pick ev 6, pick ev 7, false, noReq, noChg⟩ ++ (qcells nilV nilV noReq).toList) ++ (ccells noChg).toList ++ []).toArray 39 wr by rw [List.append_nil]; exact HO.out)
      have KQ : ∀ W, Bk (w.heap.size + 1 + 1) (eHead ⟨ev.kind, pick ev 0, pick ev 1, pick ev 2, pick ev 3, pick ev 4, pick ev 5, pick ev 6, pick ev 7, false, noReq, noChg⟩ ++ (qcells (.slice ma mn mc) (.slice fa fn fc) ev.req).toList ++ (ccells noChg).toList).toArray 39 W → Bk (w.heap.size + 1 + 1) (ecells (.slice ma mn mc) (.slice fa fn fc) ⟨ev.kind, pick ev 0, pick ev 1, pick ev 2, pick ev 3, pick ev 4, pick ev 5, pick ev 6, pick ev 7, false, ev.req, noChg⟩) 39 W := fun W h => h
      by_cases h1 : ev.kind = 1
      · have x0 := HK.out.cell 0 (.int .i64 1) (by rw [← h1]; rfl)
        have HE := Lib.hid (show ecells (if ev.kind = 1 then .slice ma mn mc else nilV) (if ev.kind = 1 then .slice fa fn fc else nilV) (toldE ev) = (ecells (.slice ma mn mc) (.slice fa fn fc) ⟨ev.kind, pick ev 0, pick ev 1, pick ev 2, pick ev 3, pick ev 4, pick ev 5, pick ev 6, pick ev 7, false, ev.req, noChg⟩) by unfold toldE; rw [if_pos h1, if_pos h1, if_pos h1, if_neg (by omega), decide_eq_false (by omega)]; rfl)
        go_wp2_with (first | (with_reducible show wpList _ _ _ ({ dst := _, op := Op.load 35 _, type := _, pos := _, after := _, guard := _ } :: _) _ _; (refine wpList_load_part rfl 35 _ rfl w.heap.size 10 rfl 39 (eHead ev) (qcells (.slice ma mn mc) (.slice fa fn fc) ev.req) (ccells ev.chg).toList HKP.out (nH _) 16 szQ (nQ _ _ _) ruQ ?_)) | (with_reducible show wpList _ _ _ ({ dst := _, op := Op.store 35 _ _, type := _, pos := _, after := _, guard := _ } :: _) _ _; (refine wpList_store_part rfl 35 _ _ rfl (w.heap.size + 1 + 1) 10 (qcells (.slice ma mn mc) (.slice fa fn fc) ev.req) rfl rfl 39 (eHead ⟨ev.kind, pick ev 0, pick ev 1, pick ev 2, pick ev 3, pick ev 4, pick ev 5, pick ev 6, pick ev 7, false, noReq, noChg⟩) (qcells nilV nilV noReq).toList (ccells noChg).toList HOP.out (nH _) 16 szQ (nQ _ _ _) (nQl _ _ _) (qcells_one _ _ _ _ _ _ _) ?_); have HOq := Lib.hid (KQ _ (HOP.out.row (eHead ⟨ev.kind, pick ev 0, pick ev 1, pick ev 2, pick ev 3, pick ev 4, pick ev 5, pick ev 6, pick ev 7, false, noReq, noChg⟩ ++ (qcells (.slice ma mn mc) (.slice fa fn fc) ev.req).toList ++ (ccells noChg).toList).toArray)); have HRq := Lib.hid (HR.out.off (show w.heap.size + 1 + 1 ≠ w.heap.size + 1 by omega) (eHead ⟨ev.kind, pick ev 0, pick ev 1, pick ev 2, pick ev 3, pick ev 4, pick ev 5, pick ev 6, pick ev 7, false, noReq, noChg⟩ ++ (qcells (.slice ma mn mc) (.slice fa fn fc) ev.req).toList ++ (ccells noChg).toList).toArray); have HBq := Lib.hid (below_row HB.out (show w.heap.size ≤ w.heap.size + 1 + 1 by omega) (eHead ⟨ev.kind, pick ev 0, pick ev 1, pick ev 2, pick ev 3, pick ev 4, pick ev 5, pick ev 6, pick ev 7, false, noReq, noChg⟩ ++ (qcells (.slice ma mn mc) (.slice fa fn fc) ev.req).toList ++ (ccells noChg).toList).toArray); generalize World.setRow _ (w.heap.size + 1 + 1) _ = Wq at HOq HRq HBq ⊢) | (with_reducible show wpList _ _ _ ({ dst := _, op := Op.load 39 _, type := _, pos := _, after := _, guard := _ } :: _) _ _; refine wpList_load_all rfl 39 _ rfl (w.heap.size + 1 + 1) rfl 39 (ecells (.slice ma mn mc) (.slice fa fn fc) ⟨ev.kind, pick ev 0, pick ev 1, pick ev 2, pick ev 3, pick ev 4, pick ev 5, pick ev 6, pick ev 7, false, ev.req, noChg⟩) HOq.out 33 szE (nE _ _ _) ruE ?_) | (with_reducible show wpList _ _ _ ({ dst := _, op := Op.store 39 _ _, type := _, pos := _, after := _, guard := _ } :: _) _ _; refine wpList_store_all rfl 39 _ _ rfl (w.heap.size + 1) (ecells (.slice ma mn mc) (.slice fa fn fc) ⟨ev.kind, pick ev 0, pick ev 1, pick ev 2, pick ev 3, pick ev 4, pick ev 5, pick ev 6, pick ev 7, false, ev.req, noChg⟩) rfl rfl 39 _ HRq.out 33 szE (nE _ _ _) rfl (ecells_one ma mn mc fa fn fc _) ?_; have HRf := Lib.hid (HRq.out.row (ecells (.slice ma mn mc) (.slice fa fn fc) ⟨ev.kind, pick ev 0, pick ev 1, pick ev 2, pick ev 3, pick ev 4, pick ev 5, pick ev 6, pick ev 7, false, ev.req, noChg⟩)); have HBf := Lib.hid (below_row HBq.out (show w.heap.size ≤ w.heap.size + 1 by omega) (ecells (.slice ma mn mc) (.slice fa fn fc) ⟨ev.kind, pick ev 0, pick ev 1, pick ev 2, pick ev 3, pick ev 4, pick ev 5, pick ev 6, pick ev 7, false, ev.req, noChg⟩)); generalize World.setRow _ (w.heap.size + 1) _ = Wf at HRf HBf ⊢))
        exact bodyPost_ret (results_cell_row rfl _ _ (w.heap.size + 1) _ _ (0, 0) _ rfl HRf.out Tryz.underlying39 rfl szE) rfl ⟨by rw [← HANS.out, HE.out], HBf.out⟩
      have KC : ∀ W, Bk (w.heap.size + 1 + 1) ((eHead ⟨ev.kind, pick ev 0, pick ev 1, pick ev 2, pick ev 3, pick ev 4, pick ev 5, pick ev 6, pick ev 7, false, noReq, noChg⟩ ++ (qcells nilV nilV noReq).toList) ++ (ccells ev.chg).toList ++ []).toArray 39 W → Bk (w.heap.size + 1 + 1) (ecells nilV nilV ⟨ev.kind, pick ev 0, pick ev 1, pick ev 2, pick ev 3, pick ev 4, pick ev 5, pick ev 6, pick ev 7, false, noReq, ev.chg⟩) 39 W := fun W h => by rw [List.append_nil] at h; exact h
      by_cases h2 : ev.kind = 2
      · have x0 := HK.out.cell 0 (.int .i64 2) (by rw [← h2]; rfl)
        have HE := Lib.hid (show ecells (if ev.kind = 1 then .slice ma mn mc else nilV) (if ev.kind = 1 then .slice fa fn fc else nilV) (toldE ev) = (ecells nilV nilV ⟨ev.kind, pick ev 0, pick ev 1, pick ev 2, pick ev 3, pick ev 4, pick ev 5, pick ev 6, pick ev 7, false, noReq, ev.chg⟩) by unfold toldE; rw [if_neg h1, if_neg h1, if_neg h1, if_pos h2, decide_eq_false (by omega)]; rfl)
        go_wp2_with (first | (with_reducible show wpList _ _ _ ({ dst := _, op := Op.load 37 _, type := _, pos := _, after := _, guard := _ } :: _) _ _; (refine wpList_load_part rfl 37 _ rfl w.heap.size 26 rfl 39 (eHead ev ++ (qcells (.slice ma mn mc) (.slice fa fn fc) ev.req).toList) (ccells ev.chg) [] HKP2.out (nHQ _ _ _ _) 7 szC (nC _) ruC ?_)) | (with_reducible show wpList _ _ _ ({ dst := _, op := Op.store 37 _ _, type := _, pos := _, after := _, guard := _ } :: _) _ _; (refine wpList_store_part rfl 37 _ _ rfl (w.heap.size + 1 + 1) 26 (ccells ev.chg) rfl rfl 39 (eHead ⟨ev.kind, pick ev 0, pick ev 1, pick ev 2, pick ev 3, pick ev 4, pick ev 5, pick ev 6, pick ev 7, false, noReq, noChg⟩ ++ (qcells nilV nilV noReq).toList) (ccells noChg).toList [] HOP2.out (nHQ _ _ _ _) 7 szC (nC _) (nCl _) (ccells_one _) ?_); have HOq := Lib.hid (KC _ (HOP2.out.row ((eHead ⟨ev.kind, pick ev 0, pick ev 1, pick ev 2, pick ev 3, pick ev 4, pick ev 5, pick ev 6, pick ev 7, false, noReq, noChg⟩ ++ (qcells nilV nilV noReq).toList) ++ (ccells ev.chg).toList ++ []).toArray)); have HRq := Lib.hid (HR.out.off (show w.heap.size + 1 + 1 ≠ w.heap.size + 1 by omega) ((eHead ⟨ev.kind, pick ev 0, pick ev 1, pick ev 2, pick ev 3, pick ev 4, pick ev 5, pick ev 6, pick ev 7, false, noReq, noChg⟩ ++ (qcells nilV nilV noReq).toList) ++ (ccells ev.chg).toList ++ []).toArray); have HBq := Lib.hid (below_row HB.out (show w.heap.size ≤ w.heap.size + 1 + 1 by omega) ((eHead ⟨ev.kind, pick ev 0, pick ev 1, pick ev 2, pick ev 3, pick ev 4, pick ev 5, pick ev 6, pick ev 7, false, noReq, noChg⟩ ++ (qcells nilV nilV noReq).toList) ++ (ccells ev.chg).toList ++ []).toArray); generalize World.setRow _ (w.heap.size + 1 + 1) _ = Wq at HOq HRq HBq ⊢) | (with_reducible show wpList _ _ _ ({ dst := _, op := Op.load 39 _, type := _, pos := _, after := _, guard := _ } :: _) _ _; refine wpList_load_all rfl 39 _ rfl (w.heap.size + 1 + 1) rfl 39 (ecells nilV nilV ⟨ev.kind, pick ev 0, pick ev 1, pick ev 2, pick ev 3, pick ev 4, pick ev 5, pick ev 6, pick ev 7, false, noReq, ev.chg⟩) HOq.out 33 szE (nE _ _ _) ruE ?_) | (with_reducible show wpList _ _ _ ({ dst := _, op := Op.store 39 _ _, type := _, pos := _, after := _, guard := _ } :: _) _ _; refine wpList_store_all rfl 39 _ _ rfl (w.heap.size + 1) (ecells nilV nilV ⟨ev.kind, pick ev 0, pick ev 1, pick ev 2, pick ev 3, pick ev 4, pick ev 5, pick ev 6, pick ev 7, false, noReq, ev.chg⟩) rfl rfl 39 _ HRq.out 33 szE (nE _ _ _) rfl (ecells_one none 0 0 none 0 0 _) ?_; have HRf := Lib.hid (HRq.out.row (ecells nilV nilV ⟨ev.kind, pick ev 0, pick ev 1, pick ev 2, pick ev 3, pick ev 4, pick ev 5, pick ev 6, pick ev 7, false, noReq, ev.chg⟩)); have HBf := Lib.hid (below_row HBq.out (show w.heap.size ≤ w.heap.size + 1 by omega) (ecells nilV nilV ⟨ev.kind, pick ev 0, pick ev 1, pick ev 2, pick ev 3, pick ev 4, pick ev 5, pick ev 6, pick ev 7, false, noReq, ev.chg⟩)); generalize World.setRow _ (w.heap.size + 1) _ = Wf at HRf HBf ⊢))
        exact bodyPost_ret (results_cell_row rfl _ _ (w.heap.size + 1) _ _ (0, 0) _ rfl HRf.out Tryz.underlying39 rfl szE) rfl ⟨by rw [← HANS.out, HE.out], HBf.out⟩
      by_cases h6 : ev.kind = 6
      · have x0 := HK.out.cell 0 (.int .i64 6) (by rw [← h6]; rfl)
        have x9 := HK.out.cell 9 (.bool ev.stays) rfl
        have y9 := HO.out.cell 9 (.bool false) rfl
        have z9 := HO.out.frozen 9
        have HW6 := HO.out.set 9 (.bool ev.stays)
        have HO6 := Lib.hid (show Bk (w.heap.size + 1 + 1) (ecells nilV nilV ⟨ev.kind, pick ev 0, pick ev 1, pick ev 2, pick ev 3, pick ev 4, pick ev 5, pick ev 6, pick ev 7, ev.stays, noReq, noChg⟩) 39 (wr.setCell ⟨(w.heap.size + 1 + 1), 9, none⟩ (.bool ev.stays)) by rw [HW6]; exact HO.out.row _)
        have HR6 := Lib.hid (show Bk (w.heap.size + 1) zE 39 (wr.setCell ⟨(w.heap.size + 1 + 1), 9, none⟩ (.bool ev.stays)) by rw [HW6]; exact HR.out.off (by omega) _)
        have HB6 := Lib.hid (show Below w.heap.size w (wr.setCell ⟨(w.heap.size + 1 + 1), 9, none⟩ (.bool ev.stays)) by rw [HW6]; exact below_row HB.out (by omega) _)
        clear HW6
        have HE := Lib.hid (show ecells (if ev.kind = 1 then .slice ma mn mc else nilV) (if ev.kind = 1 then .slice fa fn fc else nilV) (toldE ev) = (ecells nilV nilV ⟨ev.kind, pick ev 0, pick ev 1, pick ev 2, pick ev 3, pick ev 4, pick ev 5, pick ev 6, pick ev 7, ev.stays, noReq, noChg⟩) by unfold toldE; rw [if_neg h1, if_neg h1, if_neg h1, if_neg h2, decide_eq_true h6]; rfl)
        go_wp2_with (first | (with_reducible show wpList _ _ _ ({ dst := _, op := Op.load 39 _, type := _, pos := _, after := _, guard := _ } :: _) _ _; refine wpList_load_all rfl 39 _ rfl (w.heap.size + 1 + 1) rfl 39 (ecells nilV nilV ⟨ev.kind, pick ev 0, pick ev 1, pick ev 2, pick ev 3, pick ev 4, pick ev 5, pick ev 6, pick ev 7, ev.stays, noReq, noChg⟩) HO6.out 33 szE (nE _ _ _) ruE ?_) | (with_reducible show wpList _ _ _ ({ dst := _, op := Op.store 39 _ _, type := _, pos := _, after := _, guard := _ } :: _) _ _; refine wpList_store_all rfl 39 _ _ rfl (w.heap.size + 1) (ecells nilV nilV ⟨ev.kind, pick ev 0, pick ev 1, pick ev 2, pick ev 3, pick ev 4, pick ev 5, pick ev 6, pick ev 7, ev.stays, noReq, noChg⟩) rfl rfl 39 _ HR6.out 33 szE (nE _ _ _) rfl (ecells_one none 0 0 none 0 0 _) ?_; have HRf := Lib.hid (HR6.out.row (ecells nilV nilV ⟨ev.kind, pick ev 0, pick ev 1, pick ev 2, pick ev 3, pick ev 4, pick ev 5, pick ev 6, pick ev 7, ev.stays, noReq, noChg⟩)); have HBf := Lib.hid (below_row HB6.out (show w.heap.size ≤ w.heap.size + 1 by omega) (ecells nilV nilV ⟨ev.kind, pick ev 0, pick ev 1, pick ev 2, pick ev 3, pick ev 4, pick ev 5, pick ev 6, pick ev 7, ev.stays, noReq, noChg⟩)); generalize World.setRow _ (w.heap.size + 1) _ = Wf at HRf HBf ⊢))
        exact bodyPost_ret (results_cell_row rfl _ _ (w.heap.size + 1) _ _ (0, 0) _ rfl HRf.out Tryz.underlying39 rfl szE) rfl ⟨by rw [← HANS.out, HE.out], HBf.out⟩
      have x0 := HK.out.cell 0 (.int .i64 ev.kind) rfl
      have g1 : (ev.kind == 1) = false := by simpa using h1
      have g2 : (ev.kind == 2) = false := by simpa using h2
      have g6 : (ev.kind == 6) = false := by simpa using h6
      have HE := Lib.hid (show ecells (if ev.kind = 1 then .slice ma mn mc else nilV) (if ev.kind = 1 then .slice fa fn fc else nilV) (toldE ev) = (ecells nilV nilV ⟨ev.kind, pick ev 0, pick ev 1, pick ev 2, pick ev 3, pick ev 4, pick ev 5, pick ev 6, pick ev 7, false, noReq, noChg⟩) by unfold toldE; rw [if_neg h1, if_neg h1, if_neg h1, if_neg h2, decide_eq_false h6]; rfl)
      go_wp2_with (first | (with_reducible show wpList _ _ _ ({ dst := _, op := Op.load 39 _, type := _, pos := _, after := _, guard := _ } :: _) _ _; refine wpList_load_all rfl 39 _ rfl (w.heap.size + 1 + 1) rfl 39 (ecells nilV nilV ⟨ev.kind, pick ev 0, pick ev 1, pick ev 2, pick ev 3, pick ev 4, pick ev 5, pick ev 6, pick ev 7, false, noReq, noChg⟩) HO.out 33 szE (nE _ _ _) ruE ?_) | (with_reducible show wpList _ _ _ ({ dst := _, op := Op.store 39 _ _, type := _, pos := _, after := _, guard := _ } :: _) _ _; refine wpList_store_all rfl 39 _ _ rfl (w.heap.size + 1) (ecells nilV nilV ⟨ev.kind, pick ev 0, pick ev 1, pick ev 2, pick ev 3, pick ev 4, pick ev 5, pick ev 6, pick ev 7, false, noReq, noChg⟩) rfl rfl 39 _ HR.out 33 szE (nE _ _ _) rfl (ecells_one none 0 0 none 0 0 _) ?_; have HRf := Lib.hid (HR.out.row (ecells nilV nilV ⟨ev.kind, pick ev 0, pick ev 1, pick ev 2, pick ev 3, pick ev 4, pick ev 5, pick ev 6, pick ev 7, false, noReq, noChg⟩)); have HBf := Lib.hid (below_row HB.out (show w.heap.size ≤ w.heap.size + 1 by omega) (ecells nilV nilV ⟨ev.kind, pick ev 0, pick ev 1, pick ev 2, pick ev 3, pick ev 4, pick ev 5, pick ev 6, pick ev 7, false, noReq, noChg⟩)); generalize World.setRow _ (w.heap.size + 1) _ = Wf at HRf HBf ⊢))
      exact bodyPost_ret (results_cell_row rfl _ _ (w.heap.size + 1) _ _ (0, 0) _ rfl HRf.out Tryz.underlying39 rfl szE) rfl ⟨by rw [← HANS.out, HE.out], HBf.out⟩
end Go.Proofs.YtkogcobcjoojnaaGreatDoor.Fl

namespace Go.Proofs.YtkogcobcjoojnaaGreatDoor.Fl
open Go.RowKit Go.Maps
set_option linter.unusedVariables false
set_option linter.unusedSimpArgs false
def ncells (e : EvE) : Array Value := #[.int .i64 e.kind, .int .i64 e.node, .int .i64 e.dst, .int .i64 e.log, .int .i64 e.pos, .int .i64 e.by_, .int .i64 e.keep, .int .i64 e.client, .int .i64 e.seq, .bool e.stays, .int .i64 e.chg.kind, .string e.chg.fam, .string e.chg.qual, .int .i64 e.chg.typ, .int .i64 e.chg.group, .int .i64 e.chg.versions, .int .i64 e.chg.life]
def pcells (q : ReqE) : Array Value := #[.int .i64 q.kind, .int .i64 q.fil.since, .int .i64 q.fil.til, .int .i64 q.fil.versions, .int .i64 q.fil.rows, .string q.row, .string q.stop, .string q.fam, .string q.qual, .string q.fil.lo, .string q.fil.hi, .int .i64 q.vk, .int .i64 q.vn, .string q.vs]
theorem ncells_one (e : EvE) : (ncells e).all (·.oneCell') = true := by simp [ncells, Value.oneCell']
theorem pcells_one (q : ReqE) : (pcells q).all (·.oneCell') = true := by simp [pcells, Value.oneCell']
theorem szN : (Tryz.prog.info? 94).map (·.size) = some 17 := by kernel_rfl
theorem szP : (Tryz.prog.info? 99).map (·.size) = some 14 := by kernel_rfl
abbrev zN : Array Value := #[(.int .i64 0), (.int .i64 0), (.int .i64 0), (.int .i64 0), (.int .i64 0), (.int .i64 0), (.int .i64 0), (.int .i64 0), (.int .i64 0), (.bool false), (.int .i64 0), (.string ⟨#[]⟩), (.string ⟨#[]⟩), (.int .i64 0), (.int .i64 0), (.int .i64 0), (.int .i64 0)]
abbrev zP : Array Value := #[(.int .i64 0), (.int .i64 0), (.int .i64 0), (.int .i64 0), (.int .i64 0), (.string ⟨#[]⟩), (.string ⟨#[]⟩), (.string ⟨#[]⟩), (.string ⟨#[]⟩), (.string ⟨#[]⟩), (.string ⟨#[]⟩), (.int .i64 0), (.int .i64 0), (.string ⟨#[]⟩)]
abbrev zF : Array Value := #[(.slice none 0 0), (.string ⟨#[]⟩), (.string ⟨#[]⟩), (.int .i64 0), (.int .i64 0), (.int .i64 0), (.int .i64 0)]
set_option maxRecDepth 100000 in
set_option maxHeartbeats 4000000 in
theorem c_nplain {w : World} (ma : Option Addr) (mn mc : Nat) (fa : Option Addr) (fn fc : Nat) (ev : EvE) :
    Calls Tryz.prog 45 #[.agg (ecells (.slice ma mn mc) (.slice fa fn fc) ev)] w fun e w' => e = .returned (.agg (ncells ev)) ∧ Below w.heap.size w w' := by
  obtain ⟨W1, hW1⟩ : ∃ W, w.alloc (.cells (ecells (.slice ma mn mc) (.slice fa fn fc) ev) 39) = W := ⟨_, rfl⟩
  have hs1 : W1.heap.size = w.heap.size + 1 := by rw [← hW1]; show (w.heap.push _).size = _; simp
  have hb1 : Below w.heap.size w W1 := hW1 ▸ below_box _ _
  have hk1 : Bk w.heap.size (ecells (.slice ma mn mc) (.slice fa fn fc) ev) 39 W1 := hW1 ▸ Bk.new _ _ _
  obtain ⟨W2, hW2⟩ : ∃ W, W1.alloc (.cells zN 94) = W := ⟨_, rfl⟩
  have hn2 : Below W1.heap.size W1 W2 := hW2 ▸ below_box (w := W1) zN 94
  have HB2 := Lib.hid (hb1.trans (hn2.mono hb1.size))
  have hk2 := hk1.next hn2
  have HR2 := Lib.hid (show Bk (w.heap.size + 1) zN 94 W2 by rw [← hs1]; exact hW2 ▸ Bk.new W1 zN 94)
  clear hk1 hn2 hb1
  have x0 := hk2.cell 0 (.int .i64 ev.kind) rfl
  have x1 := hk2.cell 1 (.int .i64 ev.node) rfl
  have x2 := hk2.cell 2 (.int .i64 ev.dst) rfl
  have x3 := hk2.cell 3 (.int .i64 ev.log) rfl
  have x4 := hk2.cell 4 (.int .i64 ev.pos) rfl
  have x5 := hk2.cell 5 (.int .i64 ev.by_) rfl
  have x6 := hk2.cell 6 (.int .i64 ev.keep) rfl
  have x7 := hk2.cell 7 (.int .i64 ev.client) rfl
  have x8 := hk2.cell 8 (.int .i64 ev.seq) rfl
  have x9 := hk2.cell 9 (.bool ev.stays) rfl
  have x26 := hk2.cell 26 (.int .i64 ev.chg.kind) rfl
  have x27 := hk2.cell 27 (.string ev.chg.fam) rfl
  have x28 := hk2.cell 28 (.string ev.chg.qual) rfl
  have x29 := hk2.cell 29 (.int .i64 ev.chg.typ) rfl
  have x30 := hk2.cell 30 (.int .i64 ev.chg.group) rfl
  have x31 := hk2.cell 31 (.int .i64 ev.chg.versions) rfl
  have x32 := hk2.cell 32 (.int .i64 ev.chg.life) rfl
  clear hk2
  go_enter Tryz.func45, Tryz.ntmps45
  go_wp2_with (with_reducible show wpList _ _ _ ({ dst := _, op := Op.store 94 _ _, type := _, pos := _, after := _, guard := _ } :: _) _ _; refine wpList_store_all rfl 94 _ _ rfl (w.heap.size + 1) (ncells ev) rfl rfl 94 _ HR2.out 17 szN rfl rfl (ncells_one _) ?_; have HRf := Lib.hid (HR2.out.row (ncells ev)); have HBf := Lib.hid (below_row HB2.out (show w.heap.size ≤ w.heap.size + 1 by omega) (ncells ev)); generalize World.setRow _ (w.heap.size + 1) _ = Wf at HRf HBf ⊢)
  exact bodyPost_ret (results_cell_row rfl _ _ (w.heap.size + 1) _ _ (0, 0) _ rfl HRf.out Tryz.underlying94 rfl szN) rfl ⟨rfl, HBf.out⟩
set_option maxRecDepth 100000 in
set_option maxHeartbeats 4000000 in
theorem c_nflat {w : World} (ma : Option Addr) (mn mc : Nat) (fa : Option Addr) (fn fc : Nat) (q : ReqE) :
    Calls Tryz.prog 48 #[.agg (qcells (.slice ma mn mc) (.slice fa fn fc) q)] w fun e w' => e = .returned (.agg (pcells q)) ∧ Below w.heap.size w w' := by
  obtain ⟨W1, hW1⟩ : ∃ W, w.alloc (.cells (qcells (.slice ma mn mc) (.slice fa fn fc) q) 35) = W := ⟨_, rfl⟩
  have hs1 : W1.heap.size = w.heap.size + 1 := by rw [← hW1]; show (w.heap.push _).size = _; simp
  have hb1 : Below w.heap.size w W1 := hW1 ▸ below_box _ _
  have hk1 : Bk w.heap.size (qcells (.slice ma mn mc) (.slice fa fn fc) q) 35 W1 := hW1 ▸ Bk.new _ _ _
  obtain ⟨W2, hW2⟩ : ∃ W, W1.alloc (.cells zP 99) = W := ⟨_, rfl⟩
  have hs2 : W2.heap.size = w.heap.size + 1 + 1 := by rw [← hW2]; show (W1.heap.push _).size = _; simp [hs1]
  have hn2 : Below W1.heap.size W1 W2 := hW2 ▸ below_box (w := W1) zP 99
  have hb2 := hb1.trans (hn2.mono hb1.size)
  have hk2 := hk1.next hn2
  have hr2 : Bk (w.heap.size + 1) zP 99 W2 := by rw [← hs1]; exact hW2 ▸ Bk.new W1 zP 99
  obtain ⟨W3, hW3⟩ : ∃ W, W2.alloc (.cells zF 33) = W := ⟨_, rfl⟩
  have hn3 : Below W2.heap.size W2 W3 := hW3 ▸ below_box (w := W2) zF 33
  have HB3 := Lib.hid (hb2.trans (hn3.mono hb2.size))
  have HR3 := Lib.hid (hr2.next hn3)
  have HK3 := Lib.hid (hk2.next hn3)
  have HF3 := Lib.hid (show Bk (w.heap.size + 1 + 1) zF 33 W3 by rw [← hs2]; exact hW3 ▸ Bk.new W2 zF 33)
  have x9 := hk2.cell 9 (.slice fa fn fc) rfl
  have x10 := hk2.cell 10 (.string q.fil.lo) rfl
  have x11 := hk2.cell 11 (.string q.fil.hi) rfl
  have x12 := hk2.cell 12 (.int .i64 q.fil.since) rfl
  have x13 := hk2.cell 13 (.int .i64 q.fil.til) rfl
  have x14 := hk2.cell 14 (.int .i64 q.fil.versions) rfl
  have x15 := hk2.cell 15 (.int .i64 q.fil.rows) rfl
  clear hk1 hk2 hr2 hn2 hn3 hb1 hb2
  go_enter Tryz.func48, Tryz.ntmps48
  go_wp2_with (first | (with_reducible show wpList _ _ _ ({ dst := _, op := Op.store 33 _ _, type := _, pos := _, after := _, guard := _ } :: _) _ _; refine wpList_store_all rfl 33 _ _ rfl (w.heap.size + 1 + 1) (fcells (.slice fa fn fc) q.fil) rfl rfl 33 _ HF3.out 7 szF rfl rfl (fcells_one _ _ _ _) ?_; clear x9 x10 x11 x12 x13 x14 x15; have HF4 := Lib.hid (HF3.out.row (fcells (.slice fa fn fc) q.fil)); have HR4 := Lib.hid (HR3.out.off (show w.heap.size + 1 + 1 ≠ w.heap.size + 1 by omega) (fcells (.slice fa fn fc) q.fil)); have HK4 := Lib.hid (HK3.out.off (show w.heap.size + 1 + 1 ≠ w.heap.size by omega) (fcells (.slice fa fn fc) q.fil)); have HB4 := Lib.hid (below_row HB3.out (show w.heap.size ≤ w.heap.size + 1 + 1 by omega) (fcells (.slice fa fn fc) q.fil)); generalize World.setRow _ (w.heap.size + 1 + 1) _ = W4 at HF4 HR4 HK4 HB4 ⊢; have x0 := HK4.out.cell 0 (.int .i64 q.kind) rfl; have x1 := HK4.out.cell 1 (.string q.row) rfl; have x2 := HK4.out.cell 2 (.string q.stop) rfl; have x3 := HK4.out.cell 3 (.slice ma mn mc) rfl; have x4 := HK4.out.cell 4 (.string q.fam) rfl; have x5 := HK4.out.cell 5 (.string q.qual) rfl; have x6 := HK4.out.cell 6 (.int .i64 q.vk) rfl; have x7 := HK4.out.cell 7 (.int .i64 q.vn) rfl; have x8 := HK4.out.cell 8 (.string q.vs) rfl; have y0 := HF4.out.cell 0 (.slice fa fn fc) rfl; have y1 := HF4.out.cell 1 (.string q.fil.lo) rfl; have y2 := HF4.out.cell 2 (.string q.fil.hi) rfl; have y3 := HF4.out.cell 3 (.int .i64 q.fil.since) rfl; have y4 := HF4.out.cell 4 (.int .i64 q.fil.til) rfl; have y5 := HF4.out.cell 5 (.int .i64 q.fil.versions) rfl; have y6 := HF4.out.cell 6 (.int .i64 q.fil.rows) rfl) | (with_reducible show wpList _ _ _ ({ dst := _, op := Op.store 99 _ _, type := _, pos := _, after := _, guard := _ } :: _) _ _; refine wpList_store_all rfl 99 _ _ rfl (w.heap.size + 1) (pcells q) rfl rfl 99 _ HR4.out 14 szP rfl rfl (pcells_one _) ?_; have HRf := Lib.hid (HR4.out.row (pcells q)); have HBf := Lib.hid (below_row HB4.out (show w.heap.size ≤ w.heap.size + 1 by omega) (pcells q)); generalize World.setRow _ (w.heap.size + 1) _ = Wf at HRf HBf ⊢))
  exact bodyPost_ret (results_cell_row rfl _ _ (w.heap.size + 1) _ _ (0, 0) _ rfl HRf.out Tryz.underlying99 rfl szP) rfl ⟨rfl, HBf.out⟩
theorem infoI : (Tryz.prog.info? 3).map (fun i => (i.zero, i.size, i.bytes)) = some (some (.int .i64 0), 1, 8) := by kernel_rfl
theorem tl_iff (a b : ByteArray) : a.toList = b.toList ↔ a = b := by
  constructor
  · intro h
    rw [show a.toList = a.data.toList from Lib.toList_data a, show b.toList = b.data.toList from Lib.toList_data b] at h
    exact byt_inj (by unfold byt; rw [h])
  · intro h
    rw [h]
set_option maxRecDepth 100000 in
set_option maxHeartbeats 4000000 in
theorem eq_parts (a b : ReqE) : ∃ q : Bool, (∀ w : World, (binOp .eql 99 (.agg (pcells a)) (.agg (pcells b))).run Tryz.prog w = .ok (.bool q) w) ∧ (q = true ↔ a.kind = b.kind ∧ a.fil.since = b.fil.since ∧ a.fil.til = b.fil.til ∧ a.fil.versions = b.fil.versions ∧ a.fil.rows = b.fil.rows ∧ a.row = b.row ∧ a.stop = b.stop ∧ a.fam = b.fam ∧ a.qual = b.qual ∧ a.fil.lo = b.fil.lo ∧ a.fil.hi = b.fil.hi ∧ a.vk = b.vk ∧ a.vn = b.vn ∧ a.vs = b.vs) := by
  unfold pcells
  obtain ⟨q, hq⟩ : ∃ q, decide (a.kind = b.kind ∧ a.fil.since = b.fil.since ∧ a.fil.til = b.fil.til ∧ a.fil.versions = b.fil.versions ∧ a.fil.rows = b.fil.rows ∧ a.row = b.row ∧ a.stop = b.stop ∧ a.fam = b.fam ∧ a.qual = b.qual ∧ a.fil.lo = b.fil.lo ∧ a.fil.hi = b.fil.hi ∧ a.vk = b.vk ∧ a.vn = b.vn ∧ a.vs = b.vs) = q := ⟨_, rfl⟩
  refine ⟨q, fun w => ?_, by rw [← hq]; exact decide_eq_true_iff⟩
  have HQ := Lib.hid hq
  clear hq
  simp [go_sem, tl_iff]
  by_cases h0 : a.kind = b.kind
  case neg =>
    rw [if_neg h0]
    exact congrArg (fun q => Result.ok (Value.bool q) w) ((decide_eq_false (fun h => h0 h.1)).symm.trans HQ.out)
  rw [if_pos h0]
  by_cases h1 : a.fil.since = b.fil.since
  case neg =>
    rw [if_neg h1]
    exact congrArg (fun q => Result.ok (Value.bool q) w) ((decide_eq_false (fun h => h1 h.2.1)).symm.trans HQ.out)
  rw [if_pos h1]
  by_cases h2 : a.fil.til = b.fil.til
  case neg =>
    rw [if_neg h2]
    exact congrArg (fun q => Result.ok (Value.bool q) w) ((decide_eq_false (fun h => h2 h.2.2.1)).symm.trans HQ.out)
  rw [if_pos h2]
  by_cases h3 : a.fil.versions = b.fil.versions
  case neg =>
    rw [if_neg h3]
    exact congrArg (fun q => Result.ok (Value.bool q) w) ((decide_eq_false (fun h => h3 h.2.2.2.1)).symm.trans HQ.out)
  rw [if_pos h3]
  by_cases h4 : a.fil.rows = b.fil.rows
  case neg =>
    rw [if_neg h4]
    exact congrArg (fun q => Result.ok (Value.bool q) w) ((decide_eq_false (fun h => h4 h.2.2.2.2.1)).symm.trans HQ.out)
  rw [if_pos h4]
  by_cases h5 : a.row = b.row
  case neg =>
    rw [if_neg h5]
    exact congrArg (fun q => Result.ok (Value.bool q) w) ((decide_eq_false (fun h => h5 h.2.2.2.2.2.1)).symm.trans HQ.out)
  rw [if_pos h5]
  by_cases h6 : a.stop = b.stop
  case neg =>
    rw [if_neg h6]
    exact congrArg (fun q => Result.ok (Value.bool q) w) ((decide_eq_false (fun h => h6 h.2.2.2.2.2.2.1)).symm.trans HQ.out)
  rw [if_pos h6]
  by_cases h7 : a.fam = b.fam
  case neg =>
    rw [if_neg h7]
    exact congrArg (fun q => Result.ok (Value.bool q) w) ((decide_eq_false (fun h => h7 h.2.2.2.2.2.2.2.1)).symm.trans HQ.out)
  rw [if_pos h7]
  by_cases h8 : a.qual = b.qual
  case neg =>
    rw [if_neg h8]
    exact congrArg (fun q => Result.ok (Value.bool q) w) ((decide_eq_false (fun h => h8 h.2.2.2.2.2.2.2.2.1)).symm.trans HQ.out)
  rw [if_pos h8]
  by_cases h9 : a.fil.lo = b.fil.lo
  case neg =>
    rw [if_neg h9]
    exact congrArg (fun q => Result.ok (Value.bool q) w) ((decide_eq_false (fun h => h9 h.2.2.2.2.2.2.2.2.2.1)).symm.trans HQ.out)
  rw [if_pos h9]
  by_cases h10 : a.fil.hi = b.fil.hi
  case neg =>
    rw [if_neg h10]
    exact congrArg (fun q => Result.ok (Value.bool q) w) ((decide_eq_false (fun h => h10 h.2.2.2.2.2.2.2.2.2.2.1)).symm.trans HQ.out)
  rw [if_pos h10]
  by_cases h11 : a.vk = b.vk
  case neg =>
    rw [if_neg h11]
    exact congrArg (fun q => Result.ok (Value.bool q) w) ((decide_eq_false (fun h => h11 h.2.2.2.2.2.2.2.2.2.2.2.1)).symm.trans HQ.out)
  rw [if_pos h11]
  by_cases h12 : a.vn = b.vn
  case neg =>
    rw [if_neg h12]
    exact congrArg (fun q => Result.ok (Value.bool q) w) ((decide_eq_false (fun h => h12 h.2.2.2.2.2.2.2.2.2.2.2.2.1)).symm.trans HQ.out)
  rw [if_pos h12]
  by_cases h13 : a.vs = b.vs
  case neg =>
    rw [if_neg h13]
    exact congrArg (fun q => Result.ok (Value.bool q) w) ((decide_eq_false (fun h => h13 h.2.2.2.2.2.2.2.2.2.2.2.2.2)).symm.trans HQ.out)
  rw [if_pos h13]
  exact congrArg (fun q => Result.ok (Value.bool q) w) ((decide_eq_true ⟨h0, h1, h2, h3, h4, h5, h6, h7, h8, h9, h10, h11, h12, h13⟩).symm.trans HQ.out)
set_option maxRecDepth 100000 in
set_option maxHeartbeats 4000000 in
theorem eq_muts (a b : MutE) : ∃ q : Bool, (∀ w : World, (binOp .eql 90 (.agg (mcells a)) (.agg (mcells b))).run Tryz.prog w = .ok (.bool q) w) ∧ (q = true ↔ a.kind = b.kind ∧ a.fam = b.fam ∧ a.qual = b.qual ∧ a.vk = b.vk ∧ a.vn = b.vn ∧ a.vs = b.vs) := by
  unfold mcells
  obtain ⟨q, hq⟩ : ∃ q, decide (a.kind = b.kind ∧ a.fam = b.fam ∧ a.qual = b.qual ∧ a.vk = b.vk ∧ a.vn = b.vn ∧ a.vs = b.vs) = q := ⟨_, rfl⟩
  refine ⟨q, fun w => ?_, by rw [← hq]; exact decide_eq_true_iff⟩
  have HQ := Lib.hid hq
  clear hq
  simp [go_sem, tl_iff]
  by_cases h0 : a.kind = b.kind
  case neg =>
    rw [if_neg h0]
    exact congrArg (fun q => Result.ok (Value.bool q) w) ((decide_eq_false (fun h => h0 h.1)).symm.trans HQ.out)
  rw [if_pos h0]
  by_cases h1 : a.fam = b.fam
  case neg =>
    rw [if_neg h1]
    exact congrArg (fun q => Result.ok (Value.bool q) w) ((decide_eq_false (fun h => h1 h.2.1)).symm.trans HQ.out)
  rw [if_pos h1]
  by_cases h2 : a.qual = b.qual
  case neg =>
    rw [if_neg h2]
    exact congrArg (fun q => Result.ok (Value.bool q) w) ((decide_eq_false (fun h => h2 h.2.2.1)).symm.trans HQ.out)
  rw [if_pos h2]
  by_cases h3 : a.vk = b.vk
  case neg =>
    rw [if_neg h3]
    exact congrArg (fun q => Result.ok (Value.bool q) w) ((decide_eq_false (fun h => h3 h.2.2.2.1)).symm.trans HQ.out)
  rw [if_pos h3]
  by_cases h4 : a.vn = b.vn
  case neg =>
    rw [if_neg h4]
    exact congrArg (fun q => Result.ok (Value.bool q) w) ((decide_eq_false (fun h => h4 h.2.2.2.2.1)).symm.trans HQ.out)
  rw [if_pos h4]
  by_cases h5 : a.vs = b.vs
  case neg =>
    rw [if_neg h5]
    exact congrArg (fun q => Result.ok (Value.bool q) w) ((decide_eq_false (fun h => h5 h.2.2.2.2.2)).symm.trans HQ.out)
  rw [if_pos h5]
  exact congrArg (fun q => Result.ok (Value.bool q) w) ((decide_eq_true ⟨h0, h1, h2, h3, h4, h5⟩).symm.trans HQ.out)
set_option maxRecDepth 100000 in
set_option maxHeartbeats 4000000 in
theorem eq_chg (a b : ChgE) : ∃ q : Bool, (∀ w : World, (binOp .eql 37 (.agg (ccells a)) (.agg (ccells b))).run Tryz.prog w = .ok (.bool q) w) ∧ (q = true ↔ a.kind = b.kind ∧ a.fam = b.fam ∧ a.qual = b.qual ∧ a.typ = b.typ ∧ a.group = b.group ∧ a.versions = b.versions ∧ a.life = b.life) := by
  unfold ccells
  obtain ⟨q, hq⟩ : ∃ q, decide (a.kind = b.kind ∧ a.fam = b.fam ∧ a.qual = b.qual ∧ a.typ = b.typ ∧ a.group = b.group ∧ a.versions = b.versions ∧ a.life = b.life) = q := ⟨_, rfl⟩
  refine ⟨q, fun w => ?_, by rw [← hq]; exact decide_eq_true_iff⟩
  have HQ := Lib.hid hq
  clear hq
  simp [go_sem, tl_iff]
  by_cases h0 : a.kind = b.kind
  case neg =>
    rw [if_neg h0]
    exact congrArg (fun q => Result.ok (Value.bool q) w) ((decide_eq_false (fun h => h0 h.1)).symm.trans HQ.out)
  rw [if_pos h0]
  by_cases h1 : a.fam = b.fam
  case neg =>
    rw [if_neg h1]
    exact congrArg (fun q => Result.ok (Value.bool q) w) ((decide_eq_false (fun h => h1 h.2.1)).symm.trans HQ.out)
  rw [if_pos h1]
  by_cases h2 : a.qual = b.qual
  case neg =>
    rw [if_neg h2]
    exact congrArg (fun q => Result.ok (Value.bool q) w) ((decide_eq_false (fun h => h2 h.2.2.1)).symm.trans HQ.out)
  rw [if_pos h2]
  by_cases h3 : a.typ = b.typ
  case neg =>
    rw [if_neg h3]
    exact congrArg (fun q => Result.ok (Value.bool q) w) ((decide_eq_false (fun h => h3 h.2.2.2.1)).symm.trans HQ.out)
  rw [if_pos h3]
  by_cases h4 : a.group = b.group
  case neg =>
    rw [if_neg h4]
    exact congrArg (fun q => Result.ok (Value.bool q) w) ((decide_eq_false (fun h => h4 h.2.2.2.2.1)).symm.trans HQ.out)
  rw [if_pos h4]
  by_cases h5 : a.versions = b.versions
  case neg =>
    rw [if_neg h5]
    exact congrArg (fun q => Result.ok (Value.bool q) w) ((decide_eq_false (fun h => h5 h.2.2.2.2.2.1)).symm.trans HQ.out)
  rw [if_pos h5]
  by_cases h6 : a.life = b.life
  case neg =>
    rw [if_neg h6]
    exact congrArg (fun q => Result.ok (Value.bool q) w) ((decide_eq_false (fun h => h6 h.2.2.2.2.2.2)).symm.trans HQ.out)
  rw [if_pos h6]
  exact congrArg (fun q => Result.ok (Value.bool q) w) ((decide_eq_true ⟨h0, h1, h2, h3, h4, h5, h6⟩).symm.trans HQ.out)
set_option maxRecDepth 100000 in
set_option maxHeartbeats 4000000 in
theorem eq_nums (a b : EvE) : ∃ q : Bool, (∀ w : World, (binOp .eql 94 (.agg (ncells a)) (.agg (ncells b))).run Tryz.prog w = .ok (.bool q) w) ∧ (q = true ↔ a.kind = b.kind ∧ a.node = b.node ∧ a.dst = b.dst ∧ a.log = b.log ∧ a.pos = b.pos ∧ a.by_ = b.by_ ∧ a.keep = b.keep ∧ a.client = b.client ∧ a.seq = b.seq ∧ a.stays = b.stays ∧ a.chg.kind = b.chg.kind ∧ a.chg.fam = b.chg.fam ∧ a.chg.qual = b.chg.qual ∧ a.chg.typ = b.chg.typ ∧ a.chg.group = b.chg.group ∧ a.chg.versions = b.chg.versions ∧ a.chg.life = b.chg.life) := by
  unfold ncells
  obtain ⟨q, hq⟩ : ∃ q, decide (a.kind = b.kind ∧ a.node = b.node ∧ a.dst = b.dst ∧ a.log = b.log ∧ a.pos = b.pos ∧ a.by_ = b.by_ ∧ a.keep = b.keep ∧ a.client = b.client ∧ a.seq = b.seq ∧ a.stays = b.stays ∧ a.chg.kind = b.chg.kind ∧ a.chg.fam = b.chg.fam ∧ a.chg.qual = b.chg.qual ∧ a.chg.typ = b.chg.typ ∧ a.chg.group = b.chg.group ∧ a.chg.versions = b.chg.versions ∧ a.chg.life = b.chg.life) = q := ⟨_, rfl⟩
  refine ⟨q, fun w => ?_, by rw [← hq]; exact decide_eq_true_iff⟩
  have HQ := Lib.hid hq
  clear hq
  obtain ⟨i3, hi3, _, hz3, _⟩ := info_parts infoI
  have c3 : Tryz.prog.cellsOf 3 = 1 := by kernel_rfl
  simp [go_sem, tl_iff, run_equalIn_array w _ _ _ Tryz.underlying92 hi3, c3, Op.eqItems, List.range, List.range.loop]
  by_cases h0 : a.kind = b.kind
  case neg =>
    rw [if_neg h0]
    exact congrArg (fun q => Result.ok (Value.bool q) w) ((decide_eq_false (fun h => h0 h.1)).symm.trans HQ.out)
  rw [if_pos h0]
  by_cases h1 : a.node = b.node
  case neg =>
    rw [if_neg h1]
    exact congrArg (fun q => Result.ok (Value.bool q) w) ((decide_eq_false (fun h => h1 h.2.1)).symm.trans HQ.out)
  rw [if_pos h1]
  by_cases h2 : a.dst = b.dst
  case neg =>
    rw [if_neg h2]
    exact congrArg (fun q => Result.ok (Value.bool q) w) ((decide_eq_false (fun h => h2 h.2.2.1)).symm.trans HQ.out)
  rw [if_pos h2]
  by_cases h3 : a.log = b.log
  case neg =>
    rw [if_neg h3]
    exact congrArg (fun q => Result.ok (Value.bool q) w) ((decide_eq_false (fun h => h3 h.2.2.2.1)).symm.trans HQ.out)
  rw [if_pos h3]
  by_cases h4 : a.pos = b.pos
  case neg =>
    rw [if_neg h4]
    exact congrArg (fun q => Result.ok (Value.bool q) w) ((decide_eq_false (fun h => h4 h.2.2.2.2.1)).symm.trans HQ.out)
  rw [if_pos h4]
  by_cases h5 : a.by_ = b.by_
  case neg =>
    rw [if_neg h5]
    exact congrArg (fun q => Result.ok (Value.bool q) w) ((decide_eq_false (fun h => h5 h.2.2.2.2.2.1)).symm.trans HQ.out)
  rw [if_pos h5]
  by_cases h6 : a.keep = b.keep
  case neg =>
    rw [if_neg h6]
    exact congrArg (fun q => Result.ok (Value.bool q) w) ((decide_eq_false (fun h => h6 h.2.2.2.2.2.2.1)).symm.trans HQ.out)
  rw [if_pos h6]
  by_cases h7 : a.client = b.client
  case neg =>
    rw [if_neg h7]
    exact congrArg (fun q => Result.ok (Value.bool q) w) ((decide_eq_false (fun h => h7 h.2.2.2.2.2.2.2.1)).symm.trans HQ.out)
  rw [if_pos h7]
  by_cases h8 : a.seq = b.seq
  case neg =>
    rw [if_neg h8]
    exact congrArg (fun q => Result.ok (Value.bool q) w) ((decide_eq_false (fun h => h8 h.2.2.2.2.2.2.2.2.1)).symm.trans HQ.out)
  rw [if_pos h8]
  by_cases h9 : a.stays = b.stays
  case neg =>
    rw [if_neg h9]
    exact congrArg (fun q => Result.ok (Value.bool q) w) ((decide_eq_false (fun h => h9 h.2.2.2.2.2.2.2.2.2.1)).symm.trans HQ.out)
  rw [if_pos h9]
  by_cases h10 : a.chg.kind = b.chg.kind
  case neg =>
    rw [if_neg h10]
    exact congrArg (fun q => Result.ok (Value.bool q) w) ((decide_eq_false (fun h => h10 h.2.2.2.2.2.2.2.2.2.2.1)).symm.trans HQ.out)
  rw [if_pos h10]
  by_cases h11 : a.chg.fam = b.chg.fam
  case neg =>
    rw [if_neg h11]
    exact congrArg (fun q => Result.ok (Value.bool q) w) ((decide_eq_false (fun h => h11 h.2.2.2.2.2.2.2.2.2.2.2.1)).symm.trans HQ.out)
  rw [if_pos h11]
  by_cases h12 : a.chg.qual = b.chg.qual
  case neg =>
    rw [if_neg h12]
    exact congrArg (fun q => Result.ok (Value.bool q) w) ((decide_eq_false (fun h => h12 h.2.2.2.2.2.2.2.2.2.2.2.2.1)).symm.trans HQ.out)
  rw [if_pos h12]
  by_cases h13 : a.chg.typ = b.chg.typ
  case neg =>
    rw [if_neg h13]
    exact congrArg (fun q => Result.ok (Value.bool q) w) ((decide_eq_false (fun h => h13 h.2.2.2.2.2.2.2.2.2.2.2.2.2.1)).symm.trans HQ.out)
  rw [if_pos h13]
  by_cases h14 : a.chg.group = b.chg.group
  case neg =>
    rw [if_neg h14]
    exact congrArg (fun q => Result.ok (Value.bool q) w) ((decide_eq_false (fun h => h14 h.2.2.2.2.2.2.2.2.2.2.2.2.2.2.1)).symm.trans HQ.out)
  rw [if_pos h14]
  by_cases h15 : a.chg.versions = b.chg.versions
  case neg =>
    rw [if_neg h15]
    exact congrArg (fun q => Result.ok (Value.bool q) w) ((decide_eq_false (fun h => h15 h.2.2.2.2.2.2.2.2.2.2.2.2.2.2.2.1)).symm.trans HQ.out)
  rw [if_pos h15]
  by_cases h16 : a.chg.life = b.chg.life
  case neg =>
    rw [if_neg h16]
    exact congrArg (fun q => Result.ok (Value.bool q) w) ((decide_eq_false (fun h => h16 h.2.2.2.2.2.2.2.2.2.2.2.2.2.2.2.2)).symm.trans HQ.out)
  rw [if_pos h16]
  exact congrArg (fun q => Result.ok (Value.bool q) w) ((decide_eq_true ⟨h0, h1, h2, h3, h4, h5, h6, h7, h8, h9, h10, h11, h12, h13, h14, h15, h16⟩).symm.trans HQ.out)
end Go.Proofs.YtkogcobcjoojnaaGreatDoor.Fl

namespace Go.Proofs.YtkogcobcjoojnaaGreatDoor.Fl
open Go.RowKit Go.Maps
set_option linter.unusedVariables false
set_option linter.unusedSimpArgs false
theorem mut_ext {a b : MutE} : a = b ↔ a.kind = b.kind ∧ a.fam = b.fam ∧ a.qual = b.qual ∧ a.vk = b.vk ∧ a.vn = b.vn ∧ a.vs = b.vs := by
  obtain ⟨a1, a2, a3, a4, a5, a6⟩ := a
  obtain ⟨b1, b2, b3, b4, b5, b6⟩ := b
  simp
theorem neq_muts (a b : MutE) : ∃ q : Bool, (∀ w : World, (binOp .neq 90 (.agg (mcells a)) (.agg (mcells b))).run Tryz.prog w = .ok (.bool q) w) ∧ (q = true ↔ ¬ a = b) := by
  obtain ⟨q, h1, h2⟩ := eq_muts a b
  refine ⟨!q, fun w => ?_, ?_⟩
  · have := h1 w
    rw [run_eql_struct] at this
    rw [run_neq_struct]
    generalize (Op.equalIn 10000 90 (.agg (mcells a)) (.agg (mcells b))).run Tryz.prog w = r at this ⊢
    cases r with
    | ok x w2 =>
      have h : Value.bool x = Value.bool q ∧ w2 = w := by simpa [Result.andThen] using this
      obtain ⟨hx, rfl⟩ := h
      injection hx with hx
      subst hx
      rfl
    | halt x w2 => cases this
  · rw [mut_ext]
    cases q <;> simp_all
set_option maxHeartbeats 4000000 in
set_option maxRecDepth 100000 in
theorem c_eqmuts (v1 v2 : Value) (l1 l2 : List MutE) (w : World) (h1 : HasM w v1 l1) (h2 : HasM w v2 l2) (hl1 : l1.length ≤ 1099511627776) (hl2 : l2.length ≤ 1099511627776) :
    Calls Tryz.prog 46 #[v1, v2] w fun e w' => ∃ q : Bool, e = .returned (.bool q) ∧ (q = true ↔ l1 = l2) ∧ Below w.heap.size w w' := by
  obtain ⟨a1, c1, rfl, hk1⟩ := h1
  obtain ⟨a2, c2, rfl, hk2⟩ := h2
  have HW := Lib.hid (Below.refl w.heap.size w)
  have HL := Lib.hid (And.intro hl1 hl2)
  by_cases hle : l1.length = l2.length
  case neg =>
    have n1 : ¬ (l1.length : Int) = (l2.length : Int) := by omega
    have HN := Lib.hid (show ¬ l1 = l2 from fun h => hle (by rw [h]))
    go_enter Tryz.func46, Tryz.ntmps46
    go_wp2
    go_ret
    exact ⟨false, rfl, by simp [HN.out], HW.out⟩
  have HLE := Lib.hid hle
  have n1 : (l1.length : Int) = (l2.length : Int) := by omega
  rw [← hle] at hl2 ⊢
  clear n1 hle
  go_enter Tryz.func46, Tryz.ntmps46
  go_wp2
  go_loopw [13] (fun s8 wr => ∃ kk : Nat, kk ≤ l1.length ∧ s8 = .int .i64 kk ∧ Hid (Below w.heap.size w wr) ∧ Hid (l1.take kk = l2.take kk)) (fun v _ => l1.length - (intOf v).toNat)
  case atStart => exact ⟨0, Nat.zero_le _, rfl, HW, Lib.hid (by simp)⟩
  case round =>
    obtain ⟨kk, hkk, rfl, HB, A⟩ := hrel
    by_cases hlt : kk < l1.length
    · have hltz : decide ((kk : Int) < (l1.length : Int)) = true := decide_eq_true (by omega)
      have hlt2 : kk < l2.length := by rw [← HLE.out]; exact hlt
      obtain ⟨ad1, rfl, hc1⟩ := hk1 kk _ (List.getElem?_eq_getElem hlt)
      obtain ⟨ad2, rfl, hc2⟩ := hk2 kk _ (List.getElem?_eq_getElem hlt2)
      have hk0 : (0 : Int) ≤ (kk : Int) := by omega
      have hk1' : (kk : Int) < (l1.length : Int) := by omega
      have ht1 := Lib.hid (List.take_succ_eq_append_getElem hlt)
      have ht2 := Lib.hid (List.take_succ_eq_append_getElem hlt2)
      have hg1 := Lib.hid (List.getElem?_eq_getElem hlt)
      have hg2 := Lib.hid (List.getElem?_eq_getElem hlt2)
      generalize l1[kk] = m1 at hc1 ht1 hg1
      generalize l2[kk] = m2 at hc2 ht2 hg2
      have y0 := (HB.out.cell (World.block_lt_of_cell? w _ hc1.1)).trans hc1.1
      have g1 := fun r x h1 hx => (HB.out.cell (World.block_lt_of_cell? w _ (hc1.2 r x h1 hx))).trans (hc1.2 r x h1 hx)
      have z0 := (HB.out.cell (World.block_lt_of_cell? w _ hc2.1)).trans hc2.1
      have g2 := fun r x h1 hx => (HB.out.cell (World.block_lt_of_cell? w _ (hc2.2 r x h1 hx))).trans (hc2.2 r x h1 hx)
      have y1 := g1 1 (.string m1.fam) (by decide) rfl
      have z1 := g2 1 (.string m2.fam) (by decide) rfl
      have y2 := g1 2 (.string m1.qual) (by decide) rfl
      have z2 := g2 2 (.string m2.qual) (by decide) rfl
      have y3 := g1 3 (.int .i64 m1.vk) (by decide) rfl
      have z3 := g2 3 (.int .i64 m2.vk) (by decide) rfl
      have y4 := g1 4 (.int .i64 m1.vn) (by decide) rfl
      have z4 := g2 4 (.int .i64 m2.vn) (by decide) rfl
      have y5 := g1 5 (.string m1.vs) (by decide) rfl
      have z5 := g2 5 (.string m2.vs) (by decide) rfl
      obtain ⟨q, hq, hqe⟩ := neq_muts m1 m2
      unfold mcells at hq
      have HQ := Lib.hid hqe
      clear hc1 hc2 g1 g2 hqe
      go_wp2_with fail
      go_quiet (fail)
      have HB2 := Lib.hid (below_dr HB.out nq)
      generalize wr.drewN nq = W2 at HB2 ⊢
      clear HB
      cases q with
      | true =>
        have HN := Lib.hid (show ¬ l1 = l2 from fun h => by
          have e := HQ.out.1 rfl
          have g := hg2.out
          rw [← h, hg1.out] at g
          exact e (Option.some.inj g))
        clear y0 y1 y2 y3 y4 y5 z0 z1 z2 z3 z4 z5 hq HQ hg1 hg2
        go_wp2
        go_ret
        exact ⟨false, rfl, by simp [HN.out], HB2.out⟩
      | false =>
        have HE := Lib.hid (show m1 = m2 from Classical.not_not.1 (fun h => by have := HQ.out.2 h; cases this))
        clear y0 y1 y2 y3 y4 y5 z0 z1 z2 z3 z4 z5 hq HQ hg1 hg2
        go_wp2
        go_roundw
        case rel => exact ⟨kk + 1, by omega, by have := HL.out; go_num, HB2, Lib.hid (by rw [ht1.out, ht2.out, A.out, HE.out])⟩
        case measure => simp [intOf]; omega
    · have hltz : decide ((kk : Int) < (l1.length : Int)) = false := decide_eq_false (by omega)
      have HE := Lib.hid (show l1 = l2 by
        have := A.out
        rw [List.take_of_length_le (by omega), List.take_of_length_le (by have := HLE.out; omega)] at this
        exact this)
      go_wp2
      go_ret
      exact ⟨true, rfl, by simp [HE.out], HB.out⟩
set_option maxHeartbeats 4000000 in
set_option maxRecDepth 100000 in
theorem c_eqtexts (v1 v2 : Value) (l1 l2 : List ByteArray) (w : World) (h1 : HasS w v1 l1) (h2 : HasS w v2 l2) (hl1 : l1.length ≤ 1099511627776) (hl2 : l2.length ≤ 1099511627776) :
    Calls Tryz.prog 47 #[v1, v2] w fun e w' => ∃ q : Bool, e = .returned (.bool q) ∧ (q = true ↔ l1 = l2) ∧ Below w.heap.size w w' := by
  obtain ⟨a1, c1, rfl, hk1⟩ := h1
  obtain ⟨a2, c2, rfl, hk2⟩ := h2
  have HW := Lib.hid (Below.refl w.heap.size w)
  have HL := Lib.hid (And.intro hl1 hl2)
  by_cases hle : l1.length = l2.length
  case neg =>
    have n1 : ¬ (l1.length : Int) = (l2.length : Int) := by omega
    have HN := Lib.hid (show ¬ l1 = l2 from fun h => hle (by rw [h]))
    go_enter Tryz.func47, Tryz.ntmps47
    go_wp2
    go_ret
    exact ⟨false, rfl, by simp [HN.out], HW.out⟩
  have HLE := Lib.hid hle
  have n1 : (l1.length : Int) = (l2.length : Int) := by omega
  rw [← hle] at hl2 ⊢
  clear n1 hle
  go_enter Tryz.func47, Tryz.ntmps47
  go_wp2
  go_loopw [13] (fun s8 wr => ∃ kk : Nat, kk ≤ l1.length ∧ s8 = .int .i64 kk ∧ Hid (Below w.heap.size w wr) ∧ Hid (l1.take kk = l2.take kk)) (fun v _ => l1.length - (intOf v).toNat)
  case atStart => exact ⟨0, Nat.zero_le _, rfl, HW, Lib.hid (by simp)⟩
  case round =>
    obtain ⟨kk, hkk, rfl, HB, A⟩ := hrel
    by_cases hlt : kk < l1.length
    · have hltz : decide ((kk : Int) < (l1.length : Int)) = true := decide_eq_true (by omega)
      have hlt2 : kk < l2.length := by rw [← HLE.out]; exact hlt
      obtain ⟨ad1, rfl, hc1⟩ := hk1 kk hlt
      obtain ⟨ad2, rfl, hc2⟩ := hk2 kk hlt2
      have hk0 : (0 : Int) ≤ (kk : Int) := by omega
      have hk1' : (kk : Int) < (l1.length : Int) := by omega
      rw [getD_eq _ _ hlt] at hc1
      rw [getD_eq _ _ hlt2] at hc2
      have ht1 := Lib.hid (List.take_succ_eq_append_getElem hlt)
      have ht2 := Lib.hid (List.take_succ_eq_append_getElem hlt2)
      have hg1 := Lib.hid (List.getElem?_eq_getElem hlt)
      have hg2 := Lib.hid (List.getElem?_eq_getElem hlt2)
      generalize l1[kk] = m1 at hc1 ht1 hg1
      generalize l2[kk] = m2 at hc2 ht2 hg2
      have y0 := (HB.out.cell (World.block_lt_of_cell? w _ hc1)).trans hc1
      have z0 := (HB.out.cell (World.block_lt_of_cell? w _ hc2)).trans hc2
      clear hc1 hc2
      by_cases he : m1.toList = m2.toList
      · have HE := Lib.hid ((tl_iff _ _).1 he)
        have e1 : (m1.toList == m2.toList) = true := by simp [he]
        go_wp2_with fail
        go_quiet (fail)
        have HB2 := Lib.hid (below_dr HB.out nq)
        generalize wr.drewN nq = W2 at HB2 ⊢
        clear HB y0 z0 hg1 hg2
        go_wp2
        go_roundw
        case rel => exact ⟨kk + 1, by omega, by have := HL.out; go_num, HB2, Lib.hid (by rw [ht1.out, ht2.out, A.out, HE.out])⟩
        case measure => simp [intOf]; omega
      · have HN := Lib.hid (show ¬ l1 = l2 from fun h => by
          have g := hg2.out
          rw [← h, hg1.out] at g
          exact he (by rw [Option.some.inj g]))
        have e1 : (m1.toList == m2.toList) = false := by simp [he]
        go_wp2_with fail
        go_quiet (fail)
        have HB2 := Lib.hid (below_dr HB.out nq)
        generalize wr.drewN nq = W2 at HB2 ⊢
        clear HB y0 z0 hg1 hg2
        go_wp2
        go_ret
        exact ⟨false, rfl, by simp [HN.out], HB2.out⟩
    · have hltz : decide ((kk : Int) < (l1.length : Int)) = false := decide_eq_false (by omega)
      have HE := Lib.hid (show l1 = l2 by
        have := A.out
        rw [List.take_of_length_le (by omega), List.take_of_length_le (by have := HLE.out; omega)] at this
        exact this)
      go_wp2
      go_ret
      exact ⟨true, rfl, by simp [HE.out], HB.out⟩
end Go.Proofs.YtkogcobcjoojnaaGreatDoor.Fl
