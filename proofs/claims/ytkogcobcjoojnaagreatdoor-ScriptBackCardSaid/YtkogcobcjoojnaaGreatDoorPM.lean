/- Script: the reader's event. -/
import Derived.Test.YtkogcobcjoojnaaGreatDoorPL
import Derived.Defers
import Derived.Recover
import Derived.Shelf.Strings.Builder1
import Derived.Great.BuildSlice
namespace Go.Proofs.YtkogcobcjoojnaaGreatDoor.Fl
open Go.RowKit Go.Maps
set_option linter.unusedVariables false
set_option linter.unusedSimpArgs false
theorem zE_one : zE.all (·.oneCell') = true := ecells_one none 0 0 none 0 0 ⟨0, 0, 0, 0, 0, 0, 0, 0, 0, false, noReq, noChg⟩
noncomputable def rEv2 (k : Int) (l : List Int) : Pr EvE := if k = 1 then rReq.then fun q => Pr.give (mkEv k l false q noChg) else if k = 2 then rChg.then fun c => Pr.give (mkEv k l false noReq c) else if k = 6 then fun ws => some (mkEv k l (!ws.isEmpty) noReq noChg, ws) else Pr.give (mkEv k l false noReq noChg)
theorem ownF_hasS {B H : Nat} {v : Value} {xs : List ByteArray} {W : World} (h : OwnF B H v xs W) : HasS W v xs := own_hasS h.1
theorem slice_of {W : World} {B : Nat} {e : TypeId} {sz n : Nat} {v : Value} {xs : List Value} (h : W.ownsRow B e sz v n xs) : ∃ a m c, v = .slice a m c := by
  rcases h.2 with ⟨rfl, _⟩ | ⟨g, cap, cur, rfl, _⟩
  · exact ⟨_, _, _, rfl⟩
  · exact ⟨_, _, _, rfl⟩
theorem hasM_nil2 (w : World) : HasM w (.slice none 0 0) [] := ⟨none, 0, rfl, fun j m h => by simp at h⟩
theorem hasS_nil2 (w : World) : HasS w (.slice none 0 0) [] := ⟨none, 0, rfl, fun j h => by simp at h⟩
/-- A row's block is not below B. -/
def LoB (B : Nat) (W : World) (v : Value) : Prop := ∀ g, v.ownBlock = some g → B ≤ g ∧ g < W.heap.size
theorem LoB.nil (B : Nat) (W : World) : LoB B W nilV := fun g h => nomatch h
theorem LoB.keep {B : Nat} {W W' : World} {v : Value} (h : LoB B W v) (hs : W.heap.size ≤ W'.heap.size) : LoB B W' v := fun g hg => ⟨(h g hg).1, Nat.lt_of_lt_of_le (h g hg).2 hs⟩
theorem LoB.low {B B' : Nat} {W : World} {v : Value} (h : LoB B W v) (hs : B' ≤ B) : LoB B' W v := fun g hg => ⟨Nat.le_trans hs (h g hg).1, (h g hg).2⟩
theorem mk_step (k : Int) (l : List Int) (hl : l.length = 8) (j : Nat) (hj : j < 8) (n : Int) : (ecells nilV nilV (mkEv k l false noReq noChg)).setIfInBounds (j + 1) (.int .i64 n) = ecells nilV nilV (mkEv k (l.set j n) false noReq noChg) := by
  match l, hl with
  | [a0, a1, a2, a3, a4, a5, a6, a7], _ =>
    obtain rfl | rfl | rfl | rfl | rfl | rfl | rfl | rfl : j = 0 ∨ j = 1 ∨ j = 2 ∨ j = 3 ∨ j = 4 ∨ j = 5 ∨ j = 6 ∨ j = 7 := by omega
    all_goals rfl
set_option maxHeartbeats 8000000 in
set_option maxRecDepth 100000 in
theorem c_rev {w0 : World} (hg : Gv w0) {p q : Nat} {ws : List ByteArray} {w : World} (h : Rr w0 p q ws w) :
    Calls Tryz.prog 42 #[.pointer (some ⟨p, 0, none⟩)] w fun e w' => RdR (fun f x W => ∃ ms fv, x = .agg (ecells ms fv f) ∧ HasM W ms f.req.muts ∧ HasS W fv f.req.fil.fams ∧ LoB w.heap.size W ms ∧ LoB w.heap.size W fv) (rEv ws) w0 p q w e w' := by
  have szE := szE
  have szQ := szQ
  have szC := szC
  have HG := Lib.hid hg
  have HA0 := Lib.hid (Ra.start h zE 39)
  have hW1 : w.heap.size + 1 = (w.alloc (.cells zE 39)).heap.size := by show _ = (w.heap.push _).size; simp
  have HPL := Lib.hid (show w.heap.size + 1 ≠ p by have := h.is.plt; omega)
  clear h hg
  go_enter Tryz.func42, Tryz.ntmps42
  go_wp2_with fail
  refine (c_names _).mono ?_
  rintro e w2 ⟨rfl, hr2, hb2⟩
  have HA2 := Lib.hid (HA0.out.next hb2)
  rw [← hW1] at hr2 ⊢
  have HM2 := Lib.hid (show Bk (w.heap.size + 1) (strs evN).toArray 9 w2 from hr2)
  clear hr2 hb2 hW1 HA0
  go_wp2_with fail
  refine (c_rone evN (w.heap.size + 1) (by decide) HPL.out HM2.out HA2.out.r).mono ?_
  rintro e w3 ⟨⟨k, rest, v, hx, rfl, rfl, h3⟩ | ⟨hx, rfl, hb⟩, hf⟩
  case inr => exact ⟨rfl, Or.inr ⟨by unfold rEv Pr.then; rw [hx], rfl, hb⟩, HA2.out.fr.trans hf⟩
  have HA3 := Lib.hid (HA2.out.call h3 hf)
  have HK := Lib.hid (show 1 ≤ k ∧ k ≤ 13 from rOne_range hx)
  have HX := Lib.hid (show rEv ws = ((rNums ((fieldsK k).drop 0) [0, 0, 0, 0, 0, 0, 0, 0]).then (rEv2 k)) rest by unfold rEv; unfold Pr.then; rw [hx]; first | done | rfl)
  clear hx h3 hf HA2 HM2 HPL
  have HB4 := Lib.hid (HA3.out.box zE)
  obtain ⟨W4, hW4⟩ : ∃ W, w3.alloc (.cells zE 39) = W := ⟨_, rfl⟩
  rw [hW4] at HB4
  go_wp2_with (with_reducible show wpList _ _ _ ({ dst := _, op := Op.store 39 _ _, type := _, pos := _, after := _, guard := _ } :: _) _ _; refine wpList_store_all rfl 39 _ _ rfl w3.heap.size (ecells nilV nilV (mkEv k [0, 0, 0, 0, 0, 0, 0, 0] false noReq noChg)) rfl rfl 39 _ HB4.out.k3 33 szE (nE _ _ _) rfl (ecells_one _ _ _ _ _ _ _) ?_; have HB5 := Lib.hid (HB4.out.put (ecells nilV nilV (mkEv k [0, 0, 0, 0, 0, 0, 0, 0] false noReq noChg))); generalize World.setRow _ w3.heap.size _ = W5 at HB5 ⊢; clear hW4)
  have x0 := HB5.out.k3.cell 0 (.int .i64 k) rfl
  refine (c_fields _ k HK.out _ x0).mono ?_
  rintro e w6 ⟨v6, rfl, rfl, hr6, hb6⟩
  have HB6 := Lib.hid (HB5.out.next hb6)
  have HG6 := Lib.hid (show Bk W5.heap.size (ptrs w3.heap.size (fieldsC k)).toArray 70 w6 from hr6)
  have HGN := Lib.hid (show W5.heap.size ≠ p ∧ W5.heap.size ≠ w3.heap.size from ⟨by have := HB5.out.a.r.is.plt; omega, by have := HB5.out.k3.lt; omega⟩)
  clear hr6 hb6 x0 HB4 HB5
  generalize W5.heap.size = gb at HG6 HGN
  have hL := fields_len k
  obtain ⟨L, hLd⟩ : ∃ L, (fieldsC k).length = L := ⟨_, rfl⟩
  rw [hLd] at hL ⊢
  have HLd := Lib.hid hLd
  have HLd2 := Lib.hid (show (fieldsK k).length = L by rw [← hLd]; unfold fieldsC; rw [List.length_map])
  clear hLd
  go_wp2
  go_loopw [12] (fun v12 W => ∃ (i : Nat) (l : List Int) (r : List ByteArray), i ≤ L ∧ v12 = .int .i64 i ∧ Hid (l.length = 8) ∧ Hid (rEv ws = ((rNums ((fieldsK k).drop i) l).then (rEv2 k)) r) ∧ Hid (Rb w0 w p q r 39 w3.heap.size zE (ecells nilV nilV (mkEv k l false noReq noChg)) W) ∧ Hid (Bk gb (ptrs w3.heap.size (fieldsC k)).toArray 70 W)) (fun v12 _ => L - (intOf v12).toNat)
  case atStart => exact ⟨0, _, rest, by omega, rfl, Lib.hid rfl, HX, HB6, HG6⟩
  case round =>
    obtain ⟨i, l, r, hi2, rfl, HLL, HXi, HE, HGp⟩ := hrel
    clear HB6 HG6 HX
    by_cases hlt : i < L
    · have t1 : decide ((i : Int) < (L : Int)) = true := decide_eq_true (by omega)
      have hk0 : (0 : Int) ≤ (i : Int) := by omega
      have hk1 : (i : Int) < (L : Int) := by omega
      have hi3 : i < (fieldsC k).length := by rw [HLd.out]; exact hlt
      have hoi := List.getElem?_eq_getElem hi3
      obtain ⟨jj, hjj, hoj, hj8⟩ := fields_at hoi
      have y0 := HGp.out.cell i (.pointer (some ⟨w3.heap.size, jj + 1, none⟩)) (by simp only [ptrs, List.getElem?_toArray, List.getElem?_map, hoi, hoj]; rfl)
      have y1 : wr.cell? ⟨gb, 0 + i, none⟩ = some (.pointer (some ⟨w3.heap.size, jj + 1, none⟩)) := by rw [Nat.zero_add]; exact y0
      have HDR := Lib.hid (show (fieldsK k).drop i = jj :: (fieldsK k).drop (i + 1) by
        obtain ⟨hli, hle⟩ := List.getElem?_eq_some_iff.1 hjj
        rw [List.drop_eq_getElem_cons hli, hle])
      have HJ8 := Lib.hid hj8
      clear hoi hjj hoj hj8
      go_wp2_with fail
      refine (c_rnum HG.out HE.out.a.r).mono ?_
      rintro e w8 ⟨⟨n, r2, v, hx, rfl, rfl, h6⟩ | ⟨hx, rfl, hb⟩, hf⟩
      case inr => exact ⟨rfl, Or.inr ⟨by rw [HXi.out, HDR.out]; unfold rNums Pr.then; rw [hx], rfl, hb⟩, HE.out.a.fr.trans hf⟩
      have HE2 := Lib.hid (HE.out.call h6 hf)
      have HGj := Lib.hid (HGp.out.fr hf HGN.out.1)
      have HXj := Lib.hid (show rEv ws = ((rNums ((fieldsK k).drop (i + 1)) (l.set jj n)).then (rEv2 k)) r2 by rw [HXi.out, HDR.out]; show ((rNum.then fun n => rNums ((fieldsK k).drop (i + 1)) (l.set jj n)).then (rEv2 k)) r = _; unfold Pr.then; rw [hx]; first | done | rfl)
      have HL2 := Lib.hid (show (l.set jj n).length = 8 by rw [List.length_set]; exact HLL.out)
      clear hx h6 hf y0 y1
      have y2 := HE2.out.k3.cell (jj + 1) _ (nums_cell nilV nilV (mkEv k l false noReq noChg) HJ8.out)
      have f2 := HE2.out.k3.frozen (jj + 1)
      have HS := Lib.hid (HE2.out.set (jj + 1) (.int .i64 n))
      rw [mk_step k l HLL.out jj HJ8.out n] at HS
      have HGl := Lib.hid (show Bk gb (ptrs w3.heap.size (fieldsC k)).toArray 70 (w8.setCell ⟨w3.heap.size, jj + 1, none⟩ (.int .i64 n)) by rw [HE2.out.k3.set]; exact HGj.out.off (Ne.symm HGN.out.2) _)
      generalize (mkEv k l false noReq noChg).nums.getD jj 0 = n2 at y2
      clear HXi HE HGp HDR
      go_wp2
      go_roundw
      case rel => exact ⟨i + 1, _, r2, by omega, by go_num, HL2, HXj, HS, HGl⟩
      case measure => simp [intOf]; omega
    · have t1 : decide ((i : Int) < (L : Int)) = false := decide_eq_false (by omega)
      have HXl := Lib.hid (show rEv ws = rEv2 k l r by
        have h := HXi.out
        rw [List.drop_eq_nil_of_le (by rw [HLd2.out]; omega)] at h
        exact h)
      clear HXi HGp
      by_cases h1 : k = 1
      · subst h1
        have HXm := Lib.hid (show rEv ws = (rReq.then fun q => Pr.give (mkEv 1 l false q noChg)) r from HXl.out)
        have x0 := HE.out.k3.cell 0 (.int .i64 1) rfl
        clear HXl
        go_wp2_with fail
        refine (c_rreq HG.out HE.out.a.r).mono ?_
        rintro e w8 ⟨⟨rq, r2, v, hx, rfl, hres, h6⟩ | ⟨hx, rfl, hb⟩, hf⟩
        case inr => exact ⟨rfl, Or.inr ⟨by rw [HXm.out]; unfold Pr.then; rw [hx], rfl, hb⟩, HE.out.a.fr.trans hf⟩
        obtain ⟨ms, fv, BF, BH, B0, rfl, hom, hof, hpB, hwB, hwB0⟩ := hres
        have HXn := Lib.hid (show rEv ws = some ((mkEv 1 l false rq noChg), r2) by rw [HXm.out]; unfold Pr.then; rw [hx]; first | done | rfl)
        have HE2 := Lib.hid (HE.out.call h6 hf)
        have HLT := Lib.hid (show w3.heap.size < BF ∧ w3.heap.size < B0 ∧ w.heap.size < w3.heap.size from ⟨Nat.lt_of_lt_of_le HE.out.k3.lt hwB, Nat.lt_of_lt_of_le HE.out.k3.lt hwB0, HE.out.n3⟩)
        have HOM := Lib.hid hom
        have HOF := Lib.hid hof
        obtain ⟨ma, mn, mc, rfl⟩ := slice_of hom
        obtain ⟨sa, sn, sc, rfl⟩ := slice_of hof.1
        clear hx h6 hf hom hof hpB hwB hwB0 x0 HXm
        have HOP := Lib.hid (show Bk w3.heap.size (eHead (mkEv 1 l false noReq noChg) ++ (qcells nilV nilV noReq).toList ++ (ccells noChg).toList).toArray 39 w8 from HE2.out.k3)
        have KQ : ∀ {X}, Hid (Rb w0 w p q r2 39 w3.heap.size zE (eHead (mkEv 1 l false noReq noChg) ++ (qcells (.slice ma mn mc) (.slice sa sn sc) rq).toList ++ (ccells noChg).toList).toArray X) → Hid (Rb w0 w p q r2 39 w3.heap.size zE (ecells (.slice ma mn mc) (.slice sa sn sc) (mkEv 1 l false rq noChg)) X) := fun h => h
        have HM8 := Lib.hid (own_keep (W' := w8.setRow w3.heap.size (eHead (mkEv 1 l false noReq noChg) ++ (qcells (.slice ma mn mc) (.slice sa sn sc) rq).toList ++ (ccells noChg).toList).toArray) HOM.out (fun g hg hl => setRow_other _ _ _ _ (by have := HLT.out; omega)))
        have HS8 := Lib.hid (HOF.out.keep (W' := w8.setRow w3.heap.size (eHead (mkEv 1 l false noReq noChg) ++ (qcells (.slice ma mn mc) (.slice sa sn sc) rq).toList ++ (ccells noChg).toList).toArray) (fun g hg hl => setRow_other _ _ _ _ (by have := HLT.out; omega)))
        go_wp2_with (first | (with_reducible show wpList _ _ _ ({ dst := _, op := Op.store 35 _ _, type := _, pos := _, after := _, guard := _ } :: _) _ _; refine wpList_store_part rfl 35 _ _ rfl w3.heap.size 10 (qcells (.slice ma mn mc) (.slice sa sn sc) rq) rfl rfl 39 (eHead (mkEv 1 l false noReq noChg)) (qcells nilV nilV noReq).toList (ccells noChg).toList HOP.out (nH _) 16 szQ (nQ _ _ _) (nQl _ _ _) (qcells_one _ _ _ _ _ _ _) ?_; have HE3 := KQ (Lib.hid (HE2.out.put (eHead (mkEv 1 l false noReq noChg) ++ (qcells (.slice ma mn mc) (.slice sa sn sc) rq).toList ++ (ccells noChg).toList).toArray)); generalize World.setRow _ w3.heap.size _ = W9 at HE3 HM8 HS8 ⊢) | (with_reducible show wpList _ _ _ ({ dst := _, op := Op.load 39 _, type := _, pos := _, after := _, guard := _ } :: _) _ _; refine wpList_load_all rfl 39 _ rfl w3.heap.size rfl 39 (ecells (.slice ma mn mc) (.slice sa sn sc) (mkEv 1 l false rq noChg)) HE3.out.k3 33 szE (nE _ _ _) ruE ?_) | (with_reducible show wpList _ _ _ ({ dst := _, op := Op.store 39 _ _, type := _, pos := _, after := _, guard := _ } :: _) _ _; refine wpList_store_all rfl 39 _ _ rfl w.heap.size (ecells (.slice ma mn mc) (.slice sa sn sc) (mkEv 1 l false rq noChg)) rfl rfl 39 _ HE3.out.a.k2 33 szE (nE _ _ _) rfl (ecells_one _ _ _ _ _ _ _) ?_; have HAf := Lib.hid (HE3.out.fin (ecells (.slice ma mn mc) (.slice sa sn sc) (mkEv 1 l false rq noChg))); have HMf := Lib.hid (own_keep (W' := W9.setRow w.heap.size (ecells (.slice ma mn mc) (.slice sa sn sc) (mkEv 1 l false rq noChg))) HM8.out (fun g hg hl => setRow_other _ _ _ _ (by have := HLT.out; omega))); have HSf := Lib.hid (HS8.out.keep (W' := W9.setRow w.heap.size (ecells (.slice ma mn mc) (.slice sa sn sc) (mkEv 1 l false rq noChg))) (fun g hg hl => setRow_other _ _ _ _ (by have := HLT.out; omega))); generalize World.setRow _ w.heap.size _ = Wf at HAf HMf HSf ⊢))
        exact bodyPost_ret (results_cell_row rfl _ _ w.heap.size _ _ (0, 0) _ rfl HAf.out.k2 Tryz.underlying39 rfl szE) rfl ⟨Or.inl ⟨(mkEv 1 l false rq noChg), _, _, HXn.out, rfl, ⟨(.slice ma mn mc), (.slice sa sn sc), rfl, own_hasM HMf.out, ownF_hasS HSf.out, fun g hg => by have h9 := HMf.out.lt g hg; have := HLT.out; exact ⟨by omega, h9.2⟩, fun g hg => by have h9 := HSf.out.1.lt g hg; have := HLT.out; exact ⟨by omega, h9.2⟩⟩, HAf.out.r⟩, HAf.out.fr⟩
      by_cases h2 : k = 2
      · subst h2
        have HXm := Lib.hid (show rEv ws = (rChg.then fun c => Pr.give (mkEv 2 l false noReq c)) r from HXl.out)
        have x0 := HE.out.k3.cell 0 (.int .i64 2) rfl
        clear HXl
        go_wp2_with fail
        refine (c_rchg HG.out HE.out.a.r).mono ?_
        rintro e w8 ⟨⟨ch, r2, v, hx, rfl, rfl, h6⟩ | ⟨hx, rfl, hb⟩, hf⟩
        case inr => exact ⟨rfl, Or.inr ⟨by rw [HXm.out]; unfold Pr.then; rw [hx], rfl, hb⟩, HE.out.a.fr.trans hf⟩
        have HXn := Lib.hid (show rEv ws = some ((mkEv 2 l false noReq ch), r2) by rw [HXm.out]; unfold Pr.then; rw [hx]; first | done | rfl)
        have HE2 := Lib.hid (HE.out.call h6 hf)
        clear hx h6 hf x0 HXm
        have HOP := Lib.hid (show Bk w3.heap.size ((eHead (mkEv 2 l false noReq noChg) ++ (qcells nilV nilV noReq).toList) ++ (ccells noChg).toList ++ []).toArray 39 w8 by rw [List.append_nil]; exact HE2.out.k3)
        have KQ : ∀ {X}, Hid (Rb w0 w p q r2 39 w3.heap.size zE ((eHead (mkEv 2 l false noReq noChg) ++ (qcells nilV nilV noReq).toList) ++ (ccells ch).toList ++ []).toArray X) → Hid (Rb w0 w p q r2 39 w3.heap.size zE (ecells nilV nilV (mkEv 2 l false noReq ch)) X) := fun h => by rw [List.append_nil] at h; exact h
        go_wp2_with (first | (with_reducible show wpList _ _ _ ({ dst := _, op := Op.store 37 _ _, type := _, pos := _, after := _, guard := _ } :: _) _ _; refine wpList_store_part rfl 37 _ _ rfl w3.heap.size 26 (ccells ch) rfl rfl 39 (eHead (mkEv 2 l false noReq noChg) ++ (qcells nilV nilV noReq).toList) (ccells noChg).toList [] HOP.out (nHQ _ _ _ _) 7 szC (nC _) (nCl _) (ccells_one _) ?_; have HE3 := KQ (Lib.hid (HE2.out.put ((eHead (mkEv 2 l false noReq noChg) ++ (qcells nilV nilV noReq).toList) ++ (ccells ch).toList ++ []).toArray)); generalize World.setRow _ w3.heap.size _ = W9 at HE3 ⊢) | (with_reducible show wpList _ _ _ ({ dst := _, op := Op.load 39 _, type := _, pos := _, after := _, guard := _ } :: _) _ _; refine wpList_load_all rfl 39 _ rfl w3.heap.size rfl 39 (ecells nilV nilV (mkEv 2 l false noReq ch)) HE3.out.k3 33 szE (nE _ _ _) ruE ?_) | (with_reducible show wpList _ _ _ ({ dst := _, op := Op.store 39 _ _, type := _, pos := _, after := _, guard := _ } :: _) _ _; refine wpList_store_all rfl 39 _ _ rfl w.heap.size (ecells nilV nilV (mkEv 2 l false noReq ch)) rfl rfl 39 _ HE3.out.a.k2 33 szE (nE _ _ _) rfl (ecells_one none 0 0 none 0 0 _) ?_; have HAf := Lib.hid (HE3.out.fin (ecells nilV nilV (mkEv 2 l false noReq ch))); generalize World.setRow _ w.heap.size _ = Wf at HAf ⊢))
        exact bodyPost_ret (results_cell_row rfl _ _ w.heap.size _ _ (0, 0) _ rfl HAf.out.k2 Tryz.underlying39 rfl szE) rfl ⟨Or.inl ⟨(mkEv 2 l false noReq ch), _, _, HXn.out, rfl, ⟨nilV, nilV, rfl, hasM_nil2 _, hasS_nil2 _, LoB.nil _ _, LoB.nil _ _⟩, HAf.out.r⟩, HAf.out.fr⟩
      by_cases h6 : k = 6
      · subst h6
        have HXn := Lib.hid (show rEv ws = some ((mkEv 6 l (!r.isEmpty) noReq noChg), r) from HXl.out)
        have x0 := HE.out.k3.cell 0 (.int .i64 6) rfl
        clear HXl
        obtain ⟨ra, rc, hrb, _, _⟩ := HE.out.a.r.is.blk
        have x1 : wr.cell? ⟨p, 0, none⟩ = some (.slice ra r.length rc) := by simp [World.cell?, hrb]
        clear hrb
        have y9 := HE.out.k3.cell 9 (.bool false) rfl
        have f9 := HE.out.k3.frozen 9
        obtain ⟨st, hst⟩ : ∃ st, decide (0 < r.length) = st := ⟨_, rfl⟩
        have hst2 : (!r.isEmpty) = st := by rw [← hst]; cases r <;> simp
        rw [hst2] at HXn
        have HE2 := Lib.hid (show Rb w0 w p q r 39 w3.heap.size zE (ecells nilV nilV (mkEv 6 l st noReq noChg)) (wr.setCell ⟨w3.heap.size, 9, none⟩ (.bool st)) from HE.out.set 9 (.bool st))
        clear hst2 HE
        go_wp2_with (first | (with_reducible show wpList _ _ _ ({ dst := _, op := Op.load 39 _, type := _, pos := _, after := _, guard := _ } :: _) _ _; refine wpList_load_all rfl 39 _ rfl w3.heap.size rfl 39 (ecells nilV nilV (mkEv 6 l st noReq noChg)) HE2.out.k3 33 szE (nE _ _ _) ruE ?_) | (with_reducible show wpList _ _ _ ({ dst := _, op := Op.store 39 _ _, type := _, pos := _, after := _, guard := _ } :: _) _ _; refine wpList_store_all rfl 39 _ _ rfl w.heap.size (ecells nilV nilV (mkEv 6 l st noReq noChg)) rfl rfl 39 _ HE2.out.a.k2 33 szE (nE _ _ _) rfl (ecells_one none 0 0 none 0 0 _) ?_; have HAf := Lib.hid (HE2.out.fin (ecells nilV nilV (mkEv 6 l st noReq noChg))); generalize World.setRow _ w.heap.size _ = Wf at HAf ⊢))
        exact bodyPost_ret (results_cell_row rfl _ _ w.heap.size _ _ (0, 0) _ rfl HAf.out.k2 Tryz.underlying39 rfl szE) rfl ⟨Or.inl ⟨(mkEv 6 l st noReq noChg), _, _, HXn.out, rfl, ⟨nilV, nilV, rfl, hasM_nil2 _, hasS_nil2 _, LoB.nil _ _, LoB.nil _ _⟩, HAf.out.r⟩, HAf.out.fr⟩
      have HXn := Lib.hid (show rEv ws = some ((mkEv k l false noReq noChg), r) by rw [HXl.out]; unfold rEv2; rw [if_neg h1, if_neg h2, if_neg h6]; rfl)
      have x0 := HE.out.k3.cell 0 (.int .i64 k) rfl
      have g1 : (k == 1) = false := by simpa using h1
      have g2 : (k == 2) = false := by simpa using h2
      have g6 : (k == 6) = false := by simpa using h6
      clear HXl
      go_wp2_with (first | (with_reducible show wpList _ _ _ ({ dst := _, op := Op.load 39 _, type := _, pos := _, after := _, guard := _ } :: _) _ _; refine wpList_load_all rfl 39 _ rfl w3.heap.size rfl 39 (ecells nilV nilV (mkEv k l false noReq noChg)) HE.out.k3 33 szE (nE _ _ _) ruE ?_) | (with_reducible show wpList _ _ _ ({ dst := _, op := Op.store 39 _ _, type := _, pos := _, after := _, guard := _ } :: _) _ _; refine wpList_store_all rfl 39 _ _ rfl w.heap.size (ecells nilV nilV (mkEv k l false noReq noChg)) rfl rfl 39 _ HE.out.a.k2 33 szE (nE _ _ _) rfl (ecells_one none 0 0 none 0 0 _) ?_; have HAf := Lib.hid (HE.out.fin (ecells nilV nilV (mkEv k l false noReq noChg))); generalize World.setRow _ w.heap.size _ = Wf at HAf ⊢))
      exact bodyPost_ret (results_cell_row rfl _ _ w.heap.size _ _ (0, 0) _ rfl HAf.out.k2 Tryz.underlying39 rfl szE) rfl ⟨Or.inl ⟨(mkEv k l false noReq noChg), _, _, HXn.out, rfl, ⟨nilV, nilV, rfl, hasM_nil2 _, hasS_nil2 _, LoB.nil _ _, LoB.nil _ _⟩, HAf.out.r⟩, HAf.out.fr⟩
end Go.Proofs.YtkogcobcjoojnaaGreatDoor.Fl

namespace Go.Proofs.YtkogcobcjoojnaaGreatDoor.Fl
open Go.RowKit Go.Maps
set_option linter.unusedVariables false
set_option linter.unusedSimpArgs false
/-- What is read of at most N words is P, and no words come to them. -/
def Ay {α : Type} (N : Nat) (P : α → Prop) (p : Pr α) : Prop := ∀ ws x r, ws.length ≤ N → p ws = some (x, r) → P x ∧ r.length ≤ N
theorem Ay.give {α : Type} {N : Nat} {P : α → Prop} {x : α} (h : P x) : Ay N P (Pr.give x) := fun ws y r hl he => by
  obtain ⟨rfl, rfl⟩ := Prod.mk.inj (Option.some.inj he)
  exact ⟨h, hl⟩
theorem Ay.then {α β : Type} {N : Nat} {P : α → Prop} {Q : β → Prop} {p : Pr α} {f : α → Pr β} (h : Ay N P p) (hf : ∀ x, P x → Ay N Q (f x)) : Ay N Q (p.then f) := fun ws y r hl he => by
  unfold Pr.then at he
  cases hp : p ws with
  | none => rw [hp] at he; cases he
  | some xr =>
    obtain ⟨x, r1⟩ := xr
    rw [hp] at he
    obtain ⟨h1, h2⟩ := h ws x r1 hl hp
    exact hf x h1 r1 y r h2 he
theorem Ay.mono {α : Type} {N : Nat} {P Q : α → Prop} {p : Pr α} (h : Ay N P p) (hq : ∀ x, P x → Q x) : Ay N Q p := fun ws x r hl he => ⟨hq _ (h ws x r hl he).1, (h ws x r hl he).2⟩
theorem ay_word (N : Nat) : Ay N (fun _ => True) rWord := fun ws x r hl he => by
  cases ws with
  | nil => cases he
  | cons w t =>
    obtain ⟨rfl, rfl⟩ := Prod.mk.inj (Option.some.inj he)
    exact ⟨trivial, by simp at hl; omega⟩
theorem atoi_wf {l : List UInt8} {n : Int} (h : Lib.atoiAll l = .ok n) : Wf n := by
  unfold Lib.atoiAll at h
  unfold Wf
  cases l with
  | nil => cases h
  | cons c r =>
    dsimp only at h
    cases hm : Lib.parseMag (if c.toNat = 43 ∨ c.toNat = 45 then r else c :: r) with
    | ok u =>
      rw [hm] at h
      dsimp only at h
      split at h
      · cases h
      · split at h
        · cases h
        · rename_i h1 h2
          have := Lib.NumEnd.ok.inj h
          by_cases hc : c.toNat = 45
          · rw [if_pos hc] at this; omega
          · rw [if_neg hc] at this; omega
    | _ => rw [hm] at h; cases h
theorem ay_num (N : Nat) : Ay N Wf rNum := (ay_word N).then fun w _ ws x r hl he => by
  cases ha : Lib.atoiAll w.data.toList with
  | ok n =>
    rw [ha] at he
    obtain ⟨rfl, rfl⟩ := Prod.mk.inj (Option.some.inj he)
    exact ⟨atoi_wf ha, hl⟩
  | _ => rw [ha] at he; cases he
theorem ay_one (N : Nat) (l : List ByteArray) : Ay N (fun _ => True) (rOne l) := (ay_word N).then fun w _ ws x r hl he => by
  cases ha : l.findIdx? (fun x => decide (x = w)) with
  | some n =>
    rw [ha] at he
    obtain ⟨rfl, rfl⟩ := Prod.mk.inj (Option.some.inj he)
    exact ⟨trivial, hl⟩
  | none => rw [ha] at he; cases he
theorem ay_text (N : Nat) : Ay N (fun _ => True) rText := (ay_word N).then fun w _ => Ay.give trivial
/-- A value that a machine holds. -/
def VG (v : Int × Int × ByteArray) : Prop := VW v.2.1 v.2.2
theorem rightV_size {k n : Int} {s : ByteArray} (h : rightV k n s = true) : s.size ≤ 32 := by
  rcases right_kinds h with h | h | h | h | h <;> omega
theorem vg_no : VG ((0 : Int), (0 : Int), noB) := ⟨by unfold Wf; decide, by decide⟩
theorem ay_val (N : Nat) : Ay N VG rVal := (ay_word N).then fun w _ ws x r hl he => by
  by_cases hw : w = wNone
  · rw [if_pos hw] at he
    obtain ⟨rfl, rfl⟩ := Prod.mk.inj (Option.some.inj he)
    exact ⟨vg_no, hl⟩
  · rw [if_neg hw] at he
    rcases readV_spec (unSpc w) with ⟨k, n, t, hv, hr⟩ | ⟨hv, _⟩
    · rw [hv] at he
      obtain ⟨rfl, rfl⟩ := Prod.mk.inj (Option.some.inj he)
      rcases hr with ⟨_, hn, hrt, _⟩ | ⟨hb, _⟩
      · have := rightV_size hrt
        exact ⟨⟨hn, by show t.size ≤ _; omega⟩, hl⟩
      · cases hb
    · rw [hv] at he
      cases he
def MG (m : MutE) : Prop := VW m.vn m.vs
theorem ay_mut (N : Nat) : Ay N MG rMut := (ay_one N mutN).then fun k _ => by
  by_cases h4 : k = 4
  · rw [if_pos h4]; exact Ay.give vg_no
  rw [if_neg h4]
  refine (ay_word N).then fun f _ => ?_
  by_cases h3 : k = 3
  · rw [if_pos h3]; exact Ay.give vg_no
  rw [if_neg h3]
  refine (ay_text N).then fun q _ => ?_
  by_cases h2 : k = 2
  · rw [if_pos h2]; exact Ay.give vg_no
  rw [if_neg h2]
  exact (ay_val N).then fun v hv => Ay.give hv
theorem ay_take (N : Nat) : ∀ n, Ay N (fun l => l.length = n) (rTake n)
  | 0 => Ay.give rfl
  | n + 1 => (ay_word N).then fun w _ => (ay_take N n).then fun l hl => Ay.give (by simp [hl])
def FG (f : FilE) : Prop := FilW f ∧ f.fams.length ≤ 1000000
theorem ay_fil (N : Nat) (hN : N ≤ 1000000) : Ay N FG rFil := (ay_num N).then fun n _ ws x r hl he => by
  by_cases hn : 0 ≤ n ∧ n ≤ (ws.length : Int)
  · rw [if_pos hn] at he
    have key : Ay N FG ((rTake n.toNat).then fun fs => rText.then fun lo => rText.then fun hi => rNum.then fun a => rNum.then fun b => rNum.then fun c => rNum.then fun d => Pr.give ⟨fs, lo, hi, a, b, c, d⟩) :=
      (ay_take N n.toNat).then fun fs hfs => (ay_text N).then fun lo _ => (ay_text N).then fun hi _ => (ay_num N).then fun a ha => (ay_num N).then fun b hb => (ay_num N).then fun c hc => (ay_num N).then fun d hd => Ay.give ⟨⟨ha, hb, hc, hd⟩, by show fs.length ≤ _; omega⟩
    exact key ws x r hl he
  · rw [if_neg hn] at he
    cases he
theorem ay_muts (N : Nat) : ∀ g, Ay N (fun l => (∀ m ∈ l, MG m) ∧ l.length ≤ g) (rMuts g)
  | 0 => fun ws x r hl he => by
    unfold rMuts at he
    by_cases h : ws = []
    · rw [if_pos h] at he
      obtain ⟨rfl, rfl⟩ := Prod.mk.inj (Option.some.inj he)
      exact ⟨⟨fun m hm => (nomatch hm), Nat.le_refl _⟩, Nat.zero_le _⟩
    · rw [if_neg h] at he; cases he
  | g + 1 => fun ws x r hl he => by
    unfold rMuts at he
    by_cases h : ws = []
    · rw [if_pos h] at he
      obtain ⟨rfl, rfl⟩ := Prod.mk.inj (Option.some.inj he)
      exact ⟨⟨fun m hm => (nomatch hm), Nat.zero_le _⟩, Nat.zero_le _⟩
    · rw [if_neg h] at he
      have key : Ay N (fun l => (∀ m ∈ l, MG m) ∧ l.length ≤ g + 1) (rMut.then fun m => (rMuts g).then fun l => Pr.give (m :: l)) :=
        (ay_mut N).then fun m hm => (ay_muts N g).then fun l hl => Ay.give ⟨fun y hy => by
          rcases List.mem_cons.1 hy with rfl | hy
          · exact hm
          · exact hl.1 y hy, by simp; omega⟩
      exact key ws x r hl he
/-- A request as a machine holds it: without its places. -/
structure QG (q : ReqE) : Prop where
  ml : q.muts.length ≤ 1099511627776
  fl : q.fil.fams.length ≤ 1099511627776
  mv : ∀ m ∈ q.muts, VW m.vn m.vs
  v : VW q.vn q.vs
  n : ReqW q
theorem fg_no : FG noFil := ⟨⟨by unfold Wf; decide, by unfold Wf; decide, by unfold Wf; decide, by unfold Wf; decide⟩, by decide⟩
theorem qg_mk {k : Int} {row stop fam q : ByteArray} {v : Int × Int × ByteArray} {f : FilE} {ms : List MutE} (hv : VG v) (hf : FG f) (hm : ∀ m ∈ ms, MG m) (hl : ms.length ≤ 1000000) : QG ⟨k, row, stop, ms, fam, q, v.1, v.2.1, v.2.2, f⟩ :=
  ⟨by show ms.length ≤ _; omega, by show f.fams.length ≤ _; have := hf.2; omega, hm, hv, ⟨fun m h => ⟨(hm m h).1⟩, hf.1, hv.1⟩⟩
theorem qg_no : QG noReq := qg_mk (k := 0) (row := noB) (stop := noB) (fam := noB) (q := noB) (ms := []) vg_no fg_no (fun m h => nomatch h) (by decide)
theorem ay_req (N : Nat) (hN : N ≤ 1000000) : Ay N QG rReq := (ay_one N reqN).then fun k _ => (ay_text N).then fun row _ => by
  refine Ay.then (P := fun x => VG x.2.2.2.1 ∧ FG x.2.2.2.2) ?_ fun x hx ws y r hl he => ?_
  · by_cases h3 : k = 3
    · rw [if_pos h3]
      exact (ay_text N).then fun sp _ => (ay_fil N hN).then fun f hf => Ay.give ⟨vg_no, hf⟩
    rw [if_neg h3]
    by_cases h2 : k = 2
    · rw [if_pos h2]
      exact (ay_word N).then fun fam _ => (ay_text N).then fun q _ => (ay_val N).then fun v hv => Ay.give ⟨hv, fg_no⟩
    rw [if_neg h2]
    exact Ay.give ⟨vg_no, fg_no⟩
  · have key : Ay N QG ((rMuts ws.length).then fun ms => Pr.give ⟨k, row, x.1, ms, x.2.1, x.2.2.1, x.2.2.2.1.1, x.2.2.2.1.2.1, x.2.2.2.1.2.2, x.2.2.2.2⟩) :=
      (ay_muts N ws.length).then fun ms hms => Ay.give (qg_mk hx.1 hx.2 hms.1 (by omega))
    exact key ws y r hl he
theorem ay_nums (N : Nat) : ∀ (is : List Nat) (l : List Int), Ay N (fun _ => True) (rNums is l)
  | [], l => Ay.give trivial
  | i :: r, l => (ay_num N).then fun n _ => ay_nums N r (l.set i n)
theorem ay_chg (N : Nat) : Ay N (fun _ => True) rChg := (ay_one N chgN).then fun k _ => (ay_word N).then fun f _ => by
  refine Ay.then (P := fun _ => True) ?_ fun q _ => ?_
  · split
    · exact ay_text N
    · exact Ay.give trivial
  · split
    · exact (ay_num N).then fun a _ => (ay_num N).then fun b _ => (ay_num N).then fun c _ => Ay.give trivial
    · split
      · exact (ay_num N).then fun a _ => Ay.give trivial
      · split
        · exact (ay_num N).then fun a _ => Ay.give trivial
        · exact Ay.give trivial
/-- What is read of words is what a machine holds. -/
theorem ay_ev (N : Nat) (hN : N ≤ 1000000) : Ay N (fun e => QG e.req) rEv := (ay_one N evN).then fun k _ => (ay_nums N _ _).then fun l _ => by
  split
  · exact (ay_req N hN).then fun q hq => Ay.give hq
  · split
    · exact (ay_chg N).then fun c _ => Ay.give qg_no
    · split
      · exact fun ws x r hl he => by
          obtain ⟨rfl, rfl⟩ := Prod.mk.inj (Option.some.inj he)
          exact ⟨qg_no, hl⟩
      · exact Ay.give qg_no
theorem QG.qw {q : ReqE} (h : QG q) {w : World} {a : Option Addr} {c : Nat} {fa : Option Addr} {fc : Nat} (hm : HasM w (.slice a q.muts.length c) q.muts) (hf : HasS w (.slice fa q.fil.fams.length fc) q.fil.fams) : QW w a c fa fc q := ⟨hm, hf, h.ml, h.fl, h.mv, h.v, h.n⟩
theorem qg_words {ws r : List ByteArray} {e : EvE} (hl : ws.length ≤ 1000000) (h : rEv ws = some (e, r)) : QG e.req := ((ay_ev 1000000 (Nat.le_refl _)) ws e r hl h).1
end Go.Proofs.YtkogcobcjoojnaaGreatDoor.Fl

namespace Go.Proofs.YtkogcobcjoojnaaGreatDoor.Fl
open Go.RowKit Go.Maps
set_option linter.unusedVariables false
set_option linter.unusedSimpArgs false
def noneP2 : List PanicEntry := [{ v := .iface 83 (.agg #[]), recovered := true }]
set_option maxHeartbeats 4000000 in
set_option maxRecDepth 100000 in
theorem c_catch1 (b1 b2 : Nat) (w : World) :
    CallsD Tryz.prog 41 #[.pointer (some ⟨b1, 0, none⟩), .pointer (some ⟨b2, 0, none⟩)] .returning w fun e u' w' => e = .returned (.tuple #[]) ∧ u' = .returning ∧ w' = w := by
  refine callsD_of_wpS Tryz.func41 rfl fun c₀ cs hu => ?_
  apply wpS_seq
  apply wpS_region
  simp [wpOpsS, go_sem, recoverD, hu, Tryz.ntmps41, Exit.thenS]
  refine wpS_of_wp ?_
  go_wp2
  cases c₀
  simp_all [bodyPostS, results, Tryz.results41]
set_option maxHeartbeats 4000000 in
set_option maxRecDepth 100000 in
theorem c_catch0 (b1 b2 : Nat) (cs0 : Array Value) (x : Value) (w : World) (h1 : Bk b1 cs0 39 w) (h33 : cs0.size = 33) (h2 : Bk b2 #[x] 4 w) (hne : b1 ≠ b2) :
    CallsD Tryz.prog 41 #[.pointer (some ⟨b1, 0, none⟩), .pointer (some ⟨b2, 0, none⟩)] (.panicking noneP) w fun e u' w' => e = .returned (.tuple #[]) ∧ u' = .panicking noneP2 ∧ w' = (w.setRow b1 zE).setCell ⟨b2, 0, none⟩ (.bool false) := by
  refine callsD_of_wpS Tryz.func41 rfl fun c₀ cs hu => ?_
  unfold noneP at hu
  apply wpS_seq
  apply wpS_region
  simp [wpOpsS, go_sem, recoverD, hu, Tryz.ntmps41, Exit.thenS]
  have HB1 := Lib.hid h1
  have y2 := ((Bk.off h2 hne zE).cell 0 x rfl)
  have f2 := ((Bk.off h2 hne zE).frozen 0)
  clear h1 h2
  have szE := szE
  have hta : ∀ (w : World), (Instr.typeAssert (.iface 83 (.agg #[])) 20 83 false).run Tryz.prog w = .ok (.agg #[]) w := fun _ => by kernel_rfl
  refine wpS_of_wp ?_
  go_wp2_with (with_reducible show wpList _ _ _ ({ dst := _, op := Op.store 39 _ _, type := _, pos := _, after := _, guard := _ } :: _) _ _; refine wpList_store_all rfl 39 _ _ rfl b1 zE rfl rfl 39 _ HB1.out 33 szE rfl h33 zE_one ?_)
  cases c₀
  simp_all [bodyPostS, results, Tryz.results41, noneP2]
end Go.Proofs.YtkogcobcjoojnaaGreatDoor.Fl

namespace Go.Proofs.YtkogcobcjoojnaaGreatDoor.Fl
open Go.RowKit Go.Maps
set_option linter.unusedVariables false
set_option linter.unusedSimpArgs false
theorem spl_count (c : UInt8) : ∀ l, (Sc.spl c l).length ≤ l.length + 1
  | [] => by simp [Sc.spl]
  | b :: l => by
    have ih := spl_count c l
    by_cases h : b = c
    · subst h; rw [Sc.spl_cons_eq]; simp; omega
    · obtain ⟨w, ws, h1, h2⟩ := Sc.spl_cons_ne h l
      rw [h2]; rw [h1] at ih; simp at ih ⊢; omega
theorem spl_size (c : UInt8) : ∀ l, ∀ w ∈ Sc.spl c l, w.length ≤ l.length
  | [] => by simp [Sc.spl]
  | b :: l => by
    have ih := spl_size c l
    by_cases h : b = c
    · subst h; rw [Sc.spl_cons_eq]
      intro w hw
      rcases List.mem_cons.1 hw with rfl | hw
      · simp
      · have := ih w hw; simp; omega
    · obtain ⟨w, ws, h1, h2⟩ := Sc.spl_cons_ne h l
      rw [h2]; rw [h1] at ih
      intro x hx
      rcases List.mem_cons.1 hx with rfl | hx
      · have := ih w (by simp); simp; omega
      · have := ih x (by simp [hx]); simp; omega
/-- A text's words, as Split makes them. -/
def wordsOf (c : UInt8) (s : ByteArray) : List ByteArray := (Sc.spl c s.data.toList).map fun l => ⟨l.toArray⟩
theorem words_split (c : UInt8) (s : ByteArray) : Lib.splitB ⟨#[c]⟩ 0 (Lib.countB s ⟨#[c]⟩) s = wordsOf c s ∧ Lib.countB s ⟨#[c]⟩ + 1 = (wordsOf c s).length := by
  have hd := Lib.splitB_data ⟨#[c]⟩ 0 (Lib.countB s ⟨#[c]⟩) s
  have h1 : Lib.splitK [c] 0 (Lib.countB s ⟨#[c]⟩) s.data.toList = Sc.spl c s.data.toList := Sc.split_spl c s.data.toList
  have h2 : (Lib.splitB ⟨#[c]⟩ 0 (Lib.countB s ⟨#[c]⟩) s).map (·.data.toList) = Sc.spl c s.data.toList := hd.trans h1
  have h3 : Lib.splitB ⟨#[c]⟩ 0 (Lib.countB s ⟨#[c]⟩) s = wordsOf c s := by
    unfold wordsOf
    rw [← h2, List.map_map]
    have : ((fun l : List UInt8 => (⟨l.toArray⟩ : ByteArray)) ∘ fun x : ByteArray => x.data.toList) = id := by
      funext x
      rfl
    rw [this, List.map_id]
  exact ⟨h3, by rw [← h3]; exact (Lib.splitB_all ⟨#[c]⟩ (Nat.le_refl 1) 0 _ s rfl).symm⟩
theorem words_len (c : UInt8) (s : ByteArray) : (wordsOf c s).length ≤ s.size + 1 := by
  unfold wordsOf
  rw [List.length_map]
  exact spl_count c s.data.toList
theorem words_size (c : UInt8) (s : ByteArray) : ∀ x ∈ wordsOf c s, x.size ≤ s.size := fun x hx => by
  obtain ⟨w, hw, rfl⟩ := List.mem_map.1 hx
  exact spl_size c s.data.toList w hw
theorem results_two {P : Program} {fn : Func} {p q : Tmp} {ty tb : TypeId} (h : fn.results = #[.cell p ty, .cell q tb]) (tmps : Array Value) (w : World) (a b : Addr) (x y : Value)
    (hp : tmps.getD p undef = .pointer (some a)) (hq : tmps.getD q undef = .pointer (some b)) (h1 : (loadVar ty a).run P w = .ok x w) (h2 : (loadVar tb b).run P w = .ok y w) :
    (results fn tmps).run P w = .ok (.tuple #[x, y]) w := by
  have hp' : tmps[p]?.getD undef = .pointer (some a) := by simpa using hp
  have hq' : tmps[q]?.getD undef = .pointer (some b) := by simpa using hq
  simp [results, h, hp', hq', asAddr, h1, h2]
theorem load_bool {w : World} {b : Nat} {v : Value} (h : Bk b #[v] 4 w) : (loadVar 4 ⟨b, 0, none⟩).run Tryz.prog w = .ok v w := by
  have hc := h.cell 0 _ rfl
  simp [go_sem, hc]
theorem load_ev {w : World} {b : Nat} {cs : Array Value} (h : Bk b cs 39 w) (hs : cs.size = 33) : (loadVar 39 ⟨b, 0, none⟩).run Tryz.prog w = .ok (.agg cs) w :=
  run_loadVar_row w b 39 39 cs (0, 0) _ h Tryz.underlying39 rfl (by rw [szE, hs])
/-- Read's two results, and what was there. -/
structure RdB (w : World) (cs : Array Value) (v : Value) (W : World) : Prop where
  c1 : Bk w.heap.size cs 39 W
  c2 : Bk (w.heap.size + 1) #[v] 4 W
  bel : Below w.heap.size w W
theorem RdB.next {w W W' : World} {cs : Array Value} {v : Value} (h : RdB w cs v W) (hb : Below W.heap.size W W') : RdB w cs v W' := ⟨h.c1.next hb, h.c2.next hb, h.bel.trans (hb.mono h.bel.size)⟩
theorem RdB.start (w : World) : RdB w zE (.bool false) ((w.alloc (.cells zE 39)).alloc (.cells #[.bool false] 4)) := by
  have hs : (w.alloc (.cells zE 39)).heap.size = w.heap.size + 1 := by show (w.heap.push _).size = _; simp
  have hb := below_box (w := w) zE 39
  have hb2 := below_box (w := w.alloc (.cells zE 39)) #[.bool false] 4
  refine ⟨(Bk.new w zE _).next hb2, ?_, hb.trans (hb2.mono (by omega))⟩
  have := Bk.new (w.alloc (.cells zE 39)) #[.bool false] 4
  rw [hs] at this
  exact this
theorem read_res (w : World) (cs : Array Value) (v : Value) (W : World) (h : RdB w cs v W) (hs : cs.size = 33) (tmps : Array Value) (h2 : tmps.getD 2 undef = .pointer (some ⟨w.heap.size, 0, none⟩)) (h3 : tmps.getD 3 undef = .pointer (some ⟨w.heap.size + 1, 0, none⟩)) :
    (results Tryz.f18 tmps).run Tryz.prog W = .ok (.tuple #[.agg cs, v]) W := results_two rfl _ _ _ _ _ _ h2 h3 (load_ev h.c1 hs) (load_bool h.c2)
end Go.Proofs.YtkogcobcjoojnaaGreatDoor.Fl

namespace Go.Proofs.YtkogcobcjoojnaaGreatDoor.Fl
open Go.RowKit Go.Maps
set_option linter.unusedVariables false
set_option linter.unusedSimpArgs false
theorem RdB.fr {w W W' : World} {cs : Array Value} {v : Value} {p : Nat} (h : RdB w cs v W) (hf : FrR p W W') (hp : w.heap.size + 2 ≤ p) (hb : Below w.heap.size w W') : RdB w cs v W' := ⟨(hf.keeps _ h.c1.lt (by omega)).trans h.c1, (hf.keeps _ h.c2.lt (by omega)).trans h.c2, hb⟩
theorem RdB.row {w W : World} {cs : Array Value} {v : Value} (h : RdB w cs v W) (cs' : Array Value) : RdB w cs' v (W.setRow w.heap.size cs') := ⟨h.c1.row cs', h.c2.off (by omega) cs', below_row h.bel (Nat.le_refl _) cs'⟩
theorem RdB.ok {w W : World} {cs : Array Value} {v : Value} (h : RdB w cs v W) (v' : Value) : RdB w cs v' (W.setCell ⟨w.heap.size + 1, 0, none⟩ v') := by
  rw [h.c2.set 0 v']
  exact ⟨h.c1.off (by omega) _, h.c2.row _, below_row h.bel (by omega) _⟩
theorem zE_size : zE.size = 33 := rfl
theorem isr_words {p q : Nat} {ws : List ByteArray} {W : World} (c : Nat) (hp : W.heap[p]? = some (.cells #[.slice (some ⟨q, 0, none⟩) ws.length ws.length] 86 (0, 0))) (hq : Bk q (ws.map Value.string).toArray 9 W) (hne : q ≠ p) (hs : ∀ x ∈ ws, x.size ≤ 1000000) (hl : ws.length ≤ 1000000) : IsR p q ws W :=
  ⟨⟨_, _, hp, Nat.le_refl _, fun j x hj => ⟨0, rfl, by rw [Nat.zero_add]; exact hq.cell j (.string x) (by simp [hj])⟩⟩, hne, hq.lt, hs, hl⟩
/-- What Read answers. -/
def ReadR (s : ByteArray) (w : World) (e : Ending) (w' : World) : Prop := ((∃ ev ms fv, readE s = some ev ∧ e = .returned (.tuple #[.agg (ecells ms fv ev), .bool true]) ∧ HasM w' ms ev.req.muts ∧ HasS w' fv ev.req.fil.fams ∧ QG ev.req ∧ LoB w.heap.size w' ms ∧ LoB w.heap.size w' fv) ∨ (readE s = none ∧ e = .returned (.tuple #[.agg zE, .bool false]))) ∧ Below w.heap.size w w'
/-- Read's deferred function, behind a panic. -/
theorem read_bad {w W : World} {s : ByteArray} {tmps : Array Value} (h : RdB w zE (.bool false) W) (hn : readE s = none) (h2 : tmps.getD 2 undef = .pointer (some ⟨w.heap.size, 0, none⟩)) (h3 : tmps.getD 3 undef = .pointer (some ⟨w.heap.size + 1, 0, none⟩)) :
    Leaves Tryz.prog Tryz.f18 tmps (fun e w' => ReadR s w e w') [{ target := .fn (Fn.func 41) #[.pointer (some ⟨w.heap.size, 0, none⟩), .pointer (some ⟨w.heap.size + 1, 0, none⟩)], args := #[] }] (.panicking noneP) W := by
  refine leaves_cons (f := 41) (args := #[.pointer (some ⟨w.heap.size, 0, none⟩), .pointer (some ⟨w.heap.size + 1, 0, none⟩)]) (by simp) (by simp [go_sem]) ?_
  refine (c_catch0 w.heap.size (w.heap.size + 1) zE (.bool false) W h.c1 rfl h.c2 (by omega)).mono ?_
  rintro e u' w'' ⟨rfl, rfl, rfl⟩
  have hB := (h.row zE).ok (.bool false)
  exact ⟨_, read_res w zE (.bool false) _ hB rfl tmps h2 h3, Or.inr ⟨hn, rfl⟩, hB.bel⟩
theorem LoB.hasM {B g : Nat} {W : World} {v : Value} {ms : List MutE} (h : HasM W v ms) (hl : LoB B W v) (hg : g < B) (cs : Array Value) : HasM (W.setRow g cs) v ms := by
  obtain ⟨a, c, rfl, hk⟩ := h
  refine ⟨a, c, rfl, fun j m hj => ?_⟩
  obtain ⟨ad, rfl, hc⟩ := hk j m hj
  have hB : B ≤ ad.block := (hl ad.block rfl).1
  have key : ∀ (x : Addr) (v : Value), x.block = ad.block → W.cell? x = some v → (W.setRow g cs).cell? x = some v := fun x v hx hv => by
    unfold World.cell? at hv ⊢
    rw [setRow_other _ _ _ _ (by rw [hx]; omega)]
    exact hv
  exact ⟨ad, rfl, key _ _ (by simp [Addr.add]; split <;> rfl) hc.1, fun r x h1 hx => key _ _ (by simp [Addr.add]; split <;> rfl) (hc.2 r x h1 hx)⟩
theorem LoB.hasS {B g : Nat} {W : World} {v : Value} {ms : List ByteArray} (h : HasS W v ms) (hl : LoB B W v) (hg : g < B) (cs : Array Value) : HasS (W.setRow g cs) v ms := by
  obtain ⟨a, c, rfl, hk⟩ := h
  refine ⟨a, c, rfl, fun j hj => ?_⟩
  obtain ⟨ad, rfl, hc⟩ := hk j hj
  have hB : B ≤ ad.block := (hl ad.block rfl).1
  have key : ∀ (x : Addr) (v : Value), x.block = ad.block → W.cell? x = some v → (W.setRow g cs).cell? x = some v := fun x v hx hv => by
    unfold World.cell? at hv ⊢
    rw [setRow_other _ _ _ _ (by rw [hx]; omega)]
    exact hv
  exact ⟨ad, rfl, key _ _ (by simp [Addr.add]; split <;> rfl) hc⟩
theorem hasM_slice {W : World} {v : Value} {ms : List MutE} (h : HasM W v ms) : ∃ a c, v = .slice a ms.length c := by
  obtain ⟨a, c, hv, _⟩ := h
  exact ⟨a, c, hv⟩
theorem hasS_slice {W : World} {v : Value} {ms : List ByteArray} (h : HasS W v ms) : ∃ a c, v = .slice a ms.length c := by
  obtain ⟨a, c, hv, _⟩ := h
  exact ⟨a, c, hv⟩
theorem eq_toList (t s : ByteArray) : (t.toList == s.toList) = decide (t = s) := by
  rw [Lib.toList_data, Lib.toList_data, Bool.eq_iff_iff, beq_iff_eq, decide_eq_true_iff]
  exact ⟨fun h => by
    cases t; cases s
    simp at h
    rw [h], fun h => by rw [h]⟩
set_option maxHeartbeats 8000000 in
set_option maxRecDepth 100000 in
theorem c_Read {w : World} (hg : Gv w) (s : ByteArray) (hs : s.size ≤ 900000) :
    Calls Tryz.prog 18 #[.string s] w fun e w' => ReadR s w e w' := by
  have szE := szE
  have HG := Lib.hid hg
  have HS := Lib.hid hs
  have HR0 := Lib.hid (RdB.start w)
  obtain ⟨W2, hW2⟩ : ∃ W, (w.alloc (.cells zE 39)).alloc (.cells #[.bool false] 4) = W := ⟨_, rfl⟩
  rw [hW2] at HR0
  have hsz : W2.heap.size = w.heap.size + 2 := by rw [← hW2]; show ((w.heap.push _).push _).size = _; simp
  obtain ⟨m, hm⟩ := (hg.below HR0.out.bel).ml
  have HM := Lib.hid hm
  have HZ2 := Lib.hid hsz
  have HW := Lib.hid (words_split 32 s)
  have HRE := Lib.hid (show readE s = (match rEv (wordsOf 32 s) with | some (x, _) => if lineE x = s then some x else none | none => none) from rfl)
  have HL := Lib.hid (show (∀ x ∈ wordsOf 32 s, x.size ≤ 1000000) ∧ (wordsOf 32 s).length ≤ 1000000 from ⟨fun x hx => by have := words_size 32 s x hx; omega, by have := words_len 32 s; omega⟩)
  have HBW := Lib.hid (show ∀ (W : World) (cs : Array Value) (T : TypeId), Below W.heap.size W (W.alloc (.cells cs T)) from fun W cs T => below_box cs T)
  generalize wordsOf 32 s = ws at HW HRE HL
  clear hg hs hsz hm
  have hmf : ∀ (fn : Fn) (first cap : Array Value) (w : World), (Instr.makeFunc fn first cap).run Tryz.prog w = .ok (.func fn first cap) w := fun _ _ _ _ => rfl
  go_enter_defers Tryz.func18, Tryz.ntmps18
  go_wp2_with fail
  refine (Tryz.strings_Split s ⟨#[32]⟩ m W2 (by have := HS.out; omega) HM.out (by decide)).mono ?_
  rintro e w3 ⟨rfl, hw3⟩
  rw [HW.out.1] at hw3
  rw [HW.out.2]
  have HB3 := Lib.hid (show Below W2.heap.size W2 w3 by rw [hw3]; exact HBW.out _ _ _)
  have HQ3 := Lib.hid (show Bk W2.heap.size (ws.map Value.string).toArray 9 w3 by rw [hw3]; exact Bk.new _ _ _)
  have HZ3 := Lib.hid (show w3.heap.size = W2.heap.size + 1 by rw [hw3]; show (W2.heap.push _).size = _; simp)
  have HR3 := Lib.hid (HR0.out.next HB3.out)
  clear hw3 hW2
  have HIS := Lib.hid (isr_words (p := w3.heap.size) (q := W2.heap.size) (ws := ws) (W := w3.alloc (.cells #[.slice (some ⟨W2.heap.size, 0, none⟩) ws.length ws.length] 86)) 0 (Bk.new _ _ _) (HQ3.out.next (HBW.out _ _ _)) (by have := HZ3.out; omega) HL.out.1 HL.out.2)
  have HR4 := Lib.hid (HR3.out.next (HBW.out w3 #[.slice (some ⟨W2.heap.size, 0, none⟩) ws.length ws.length] 86))
  have HZP := Lib.hid (show w.heap.size + 2 ≤ w3.heap.size by have := HZ3.out; have := HZ2.out; omega)
  obtain ⟨W4, hW4⟩ : ∃ W, w3.alloc (.cells #[.slice (some ⟨W2.heap.size, 0, none⟩) ws.length ws.length] 86) = W := ⟨_, rfl⟩
  rw [hW4] at HIS HR4
  go_wp2_with fail
  have HRR := Lib.hid (show Rr w w3.heap.size W2.heap.size ws W4 from ⟨HIS.out, HR4.out.bel, by have := HZP.out; omega⟩)
  refine (c_rev HG.out HRR.out).mono ?_
  rintro e w5 ⟨⟨ev, rest, v, hx, rfl, ⟨ms, fv, rfl, hms, hfv, lms, lfv⟩, h5⟩ | ⟨hx, rfl, hb⟩, hf⟩
  case inr =>
    exact read_bad (HR4.out.fr hf HZP.out hb) (by rw [HRE.out, hx]) rfl rfl
  obtain ⟨ma, mc, rfl⟩ := hasM_slice hms
  obtain ⟨fa, fc, rfl⟩ := hasS_slice hfv
  have HQG := Lib.hid (qg_words HL.out.2 hx)
  have HRf := Lib.hid (show readE s = if lineE ev = s then some ev else none by rw [HRE.out, hx])
  have HR5 := Lib.hid (HR4.out.fr hf HZP.out h5.bel)
  have HLM := Lib.hid (show LoB (w.heap.size + 2) w5 (.slice ma ev.req.muts.length mc) ∧ LoB (w.heap.size + 2) w5 (.slice fa ev.req.fil.fams.length fc) from ⟨lms.low (by have := HIS.out.plt; have := HZP.out; omega), lfv.low (by have := HIS.out.plt; have := HZP.out; omega)⟩)
  have HM5 := Lib.hid hms
  have HF5 := Lib.hid hfv
  clear hx h5 hf hms hfv lms lfv HIS HR4 hW4 HRE HRR HR0 HR3 HB3 HQ3
  have HK5 := Lib.hid (Bk.new w5 zE 39)
  have HB5 := Lib.hid (HBW.out w5 zE 39)
  obtain ⟨W5, hW5⟩ : ∃ W, w5.alloc (.cells zE 39) = W := ⟨_, rfl⟩
  rw [hW5] at HK5 HB5
  go_wp2_with (first | (with_reducible show wpList _ _ _ ({ dst := _, op := Op.store 39 _ _, type := _, pos := _, after := _, guard := _ } :: _) _ _; refine wpList_store_all rfl 39 _ _ rfl w5.heap.size (ecells (.slice ma ev.req.muts.length mc) (.slice fa ev.req.fil.fams.length fc) ev) rfl rfl 39 _ HK5.out 33 szE (nE _ _ _) rfl (ecells_one _ _ _ _ _ _ _) ?_; have HK6 := Lib.hid (HK5.out.row (ecells (.slice ma ev.req.muts.length mc) (.slice fa ev.req.fil.fams.length fc) ev)); have HB6 := Lib.hid (below_row HB5.out (Nat.le_refl _) (ecells (.slice ma ev.req.muts.length mc) (.slice fa ev.req.fil.fams.length fc) ev)); generalize World.setRow _ w5.heap.size _ = W6 at HK6 HB6 ⊢; clear hW5) | (with_reducible show wpList _ _ _ ({ dst := _, op := Op.load 39 _, type := _, pos := _, after := _, guard := _ } :: _) _ _; refine wpList_load_all rfl 39 _ rfl w5.heap.size rfl 39 (ecells (.slice ma ev.req.muts.length mc) (.slice fa ev.req.fil.fams.length fc) ev) HK6.out 33 szE (nE _ _ _) ruE ?_))
  have HR6 := Lib.hid (HR5.out.next HB6.out)
  have HQW := Lib.hid (HQG.out.qw (HM5.out.keep HB6.out) (HF5.out.keep HB6.out))
  refine (c_Line (HG.out.below HR6.out.bel) _ _ _ _ ev HQW.out).mono ?_
  rintro e w7 ⟨rfl, hb7⟩
  have HR7 := Lib.hid (HR6.out.next hb7)
  have HK7 := Lib.hid (HK6.out.next hb7)
  have HQ7 := Lib.hid (HQW.out.keep hb7)
  have HLM := Lib.hid (show LoB (w.heap.size + 2) w7 (.slice ma ev.req.muts.length mc) ∧ LoB (w.heap.size + 2) w7 (.slice fa ev.req.fil.fams.length fc) from ⟨HLM.out.1.keep (Nat.le_trans HB6.out.size hb7.size), HLM.out.2.keep (Nat.le_trans HB6.out.size hb7.size)⟩)
  clear hb7 HR6 HQW HK6 HB6 HK5 HB5 HM5 HF5 HR5
  generalize lineE ev = t at HRf ⊢
  go_wp2_with fail
  rw [eq_toList]
  by_cases hts : t = s
  case neg =>
    refine (c_need0 (decide (t = s)) (decide_eq_false hts) w7).mono ?_
    rintro e w8 ⟨rfl, rfl⟩
    exact read_bad HR7.out (by rw [HRf.out, if_neg hts]) rfl rfl
  case pos =>
    have HRt := Lib.hid (show readE s = some ev by rw [HRf.out, if_pos hts])
    refine (c_need1 (decide (t = s)) (decide_eq_true hts) w7).mono ?_
    rintro e w8 ⟨rfl, rfl⟩
    have HR8 := Lib.hid (HR7.out.row (ecells (.slice ma ev.req.muts.length mc) (.slice fa ev.req.fil.fams.length fc) ev))
    have y8 := HR8.out.c2.cell 0 _ rfl
    have f8 := HR8.out.c2.frozen 0
    have HR9 := Lib.hid (HR8.out.ok (.bool true))
    have HM9 := Lib.hid (HLM.out.1.hasM HQ7.out.m (g := w.heap.size) (by omega) (ecells (.slice ma ev.req.muts.length mc) (.slice fa ev.req.fil.fams.length fc) ev))
    have HF9 := Lib.hid (HLM.out.2.hasS HQ7.out.f (g := w.heap.size) (by omega) (ecells (.slice ma ev.req.muts.length mc) (.slice fa ev.req.fil.fams.length fc) ev))
    have HM8 := Lib.hid (show HasM ((w8.setRow w.heap.size (ecells (.slice ma ev.req.muts.length mc) (.slice fa ev.req.fil.fams.length fc) ev)).setCell ⟨w.heap.size + 1, 0, none⟩ (.bool true)) _ _ by rw [HR8.out.c2.set 0]; exact (HLM.out.1.keep (by rw [setRow_size]; exact Nat.le_refl _)).hasM HM9.out (by omega) _)
    have HF8 := Lib.hid (show HasS ((w8.setRow w.heap.size (ecells (.slice ma ev.req.muts.length mc) (.slice fa ev.req.fil.fams.length fc) ev)).setCell ⟨w.heap.size + 1, 0, none⟩ (.bool true)) _ _ by rw [HR8.out.c2.set 0]; exact (HLM.out.2.keep (by rw [setRow_size]; exact Nat.le_refl _)).hasS HF9.out (by omega) _)
    have HLZ := Lib.hid (show LoB w.heap.size ((w8.setRow w.heap.size (ecells (.slice ma ev.req.muts.length mc) (.slice fa ev.req.fil.fams.length fc) ev)).setCell ⟨w.heap.size + 1, 0, none⟩ (.bool true)) (.slice ma ev.req.muts.length mc) ∧ LoB w.heap.size ((w8.setRow w.heap.size (ecells (.slice ma ev.req.muts.length mc) (.slice fa ev.req.fil.fams.length fc) ev)).setCell ⟨w.heap.size + 1, 0, none⟩ (.bool true)) (.slice fa ev.req.fil.fams.length fc) from ⟨(HLM.out.1.low (by omega)).keep (by rw [setCell_size, setRow_size]; exact Nat.le_refl _), (HLM.out.2.low (by omega)).keep (by rw [setCell_size, setRow_size]; exact Nat.le_refl _)⟩)
    clear hts HRf HM9 HF9
    go_wp2_with (first | (with_reducible show wpList _ _ _ ({ dst := _, op := Op.load 39 _, type := _, pos := _, after := _, guard := _ } :: _) _ _; refine wpList_load_all rfl 39 _ rfl w5.heap.size rfl 39 (ecells (.slice ma ev.req.muts.length mc) (.slice fa ev.req.fil.fams.length fc) ev) HK7.out 33 szE (nE _ _ _) ruE ?_) | (with_reducible show wpList _ _ _ ({ dst := _, op := Op.store 39 _ _, type := _, pos := _, after := _, guard := _ } :: _) _ _; refine wpList_store_all rfl 39 _ _ rfl w.heap.size (ecells (.slice ma ev.req.muts.length mc) (.slice fa ev.req.fil.fams.length fc) ev) rfl rfl 39 _ HR7.out.c1 33 szE (nE _ _ _) rfl (ecells_one _ _ _ _ _ _ _) ?_; generalize World.setRow _ w.heap.size _ = W8 at y8 f8 HR8 HR9 HM8 HF8 HLZ ⊢))
    refine leaves_cons (f := 41) (args := #[.pointer (some ⟨w.heap.size, 0, none⟩), .pointer (some ⟨w.heap.size + 1, 0, none⟩)]) (by simp) (by simp [go_sem]) ?_
    refine (c_catch1 w.heap.size (w.heap.size + 1) _).mono ?_
    rintro e u' w'' ⟨rfl, rfl, rfl⟩
    exact ⟨_, read_res w (ecells (.slice ma ev.req.muts.length mc) (.slice fa ev.req.fil.fams.length fc) ev) (.bool true) _ HR9.out (nE _ _ _) _ rfl rfl, Or.inl ⟨ev, _, _, HRt.out, rfl, HM8.out, HF8.out, HQG.out, HLZ.out.1, HLZ.out.2⟩, HR9.out.bel⟩
end Go.Proofs.YtkogcobcjoojnaaGreatDoor.Fl

namespace Go.Proofs.YtkogcobcjoojnaaGreatDoor.Fl
open Go.RowKit Go.Maps
set_option linter.unusedVariables false
set_option linter.unusedSimpArgs false
theorem lays166 : Go.Proofs.Lays.n166 Tryz.prog Tryz.lays154_ren := by
  have L := Tryz.lays154
  exact { mixed := L.mixed, f166 := L.f166, f240 := L.f240, f276 := L.f276, t0 := L.t0, a0 := L.a0, z0 := L.z0, v0 := L.v0, t3 := L.t3, a3 := L.a3, z3 := L.z3, v3 := L.v3, t4 := L.t4, a4 := L.a4, z4 := L.z4, v4 := L.v4, t9 := L.t9, a9 := L.a9, z9 := L.z9, v9 := L.v9, t20 := L.t20, a20 := L.a20, z20 := L.z20, v20 := L.v20, t37 := L.t37, a37 := L.a37, z37 := L.z37, v37 := L.v37, t70 := L.t70, a70 := L.a70, z70 := L.z70, v70 := L.v70, t72 := L.t72, a72 := L.a72, z72 := L.z72, v72 := L.v72, t75 := L.t75, a75 := L.a75, z75 := L.z75, v75 := L.v75, t164 := L.t164, a164 := L.a164, z164 := L.z164, v164 := L.v164 }
theorem strCells_byte (s : ByteArray) : Lib.strCells s = Lib.byteCells s.data.toList := rfl
theorem byteCells_app (a b : List UInt8) : Lib.byteCells (a ++ b) = Lib.byteCells a ++ Lib.byteCells b := by simp [Lib.byteCells]
/-- A builder that a call from B on made: what it holds. -/
def Bd (B b : Nat) (l : List UInt8) (W : World) : Prop := Lib.IsBuilder 60 5 B b (Lib.byteCells l) W
theorem Bd.below {B b : Nat} {l : List UInt8} {W W' : World} (h : Bd B b l W) (hb : Below W.heap.size W W') : Bd B b l W' := by
  have key : ∀ p, Lib.BuilderAt 60 5 B b p (Lib.byteCells l) W → Lib.BuilderAt 60 5 B b p (Lib.byteCells l) W' := fun p k => by
    obtain ⟨hB, v, hv, ho, hn⟩ := k
    exact ⟨hB, v, (hb.block b (Array.getElem?_eq_some_iff.1 hv).1).trans hv, own_keep ho (fun g _ hl => hb.block g hl), hn⟩
  exact h.elim (fun k => Or.inl (key _ k)) (fun k => Or.inr (key _ k))
theorem Bd.lt {B b : Nat} {l : List UInt8} {W : World} (h : Bd B b l W) : b < W.heap.size := h.elim (fun k => k.lt) (fun k => k.lt)
theorem c_wstr (B b : Nat) (l : List UInt8) (s : ByteArray) (w : World) (h : Bd B b l w) (hl : l.length + s.size ≤ 140737488355328) (hBw : B ≤ w.heap.size) :
    Calls Tryz.prog 20 #[.pointer (some ⟨b, 0, none⟩), .string s] w fun e w' => e = .returned (.tuple #[.int .i64 s.size, .nilIface]) ∧ Bd B b (l ++ s.data.toList) w' ∧ Below B w w' := by
  refine (Any.Builder_WriteString lays166 Tryz.Builder_Extra_154 B b (Lib.byteCells l) s w h (by rw [Lib.byteCells_length]; exact hl) hBw).mono ?_
  rintro e w' ⟨rfl, hb, hbel⟩
  rw [strCells_byte, ← byteCells_app] at hb
  exact ⟨rfl, Or.inr hb, hbel⟩
theorem c_bstr (B b : Nat) (l : List UInt8) (w : World) (h : Bd B b l w) (hBw : B ≤ w.heap.size) :
    Calls Tryz.prog 21 #[.pointer (some ⟨b, 0, none⟩)] w fun e w' => e = .returned (.string ⟨l.toArray⟩) ∧ Below B w w' := Tryz.Builder_String_any B b l w h hBw
/-- A row of events: as it lies. -/
def HasE (W : World) (v : Value) (es : List EvE) : Prop := ∃ a c, v = .slice a es.length c ∧ ∀ j e, es[j]? = some e → ∃ b o ms fv, a = some ⟨b, o, none⟩ ∧ W.rangeAt b (o + j * 33) (ecells ms fv e).toList ∧ HasM W ms e.req.muts ∧ HasS W fv e.req.fil.fams
theorem range_keep {W W' : World} {b o : Nat} {cs : List Value} (h : W.rangeAt b o cs) (hb : Below W.heap.size W W') : W'.rangeAt b o cs := fun j v hj => (hb.cell (World.block_lt_of_cell? W _ (h j v hj))).trans (h j v hj)
theorem HasE.keep {W W' : World} {v : Value} {es : List EvE} (h : HasE W v es) (hb : Below W.heap.size W W') : HasE W' v es := by
  obtain ⟨a, c, hv, hk⟩ := h
  refine ⟨a, c, hv, fun j e hj => ?_⟩
  obtain ⟨b, o, ms, fv, ha, hr, hm, hf⟩ := hk j e hj
  exact ⟨b, o, ms, fv, ha, range_keep hr hb, hm.keep hb, hf.keep hb⟩
theorem HasE.elem {W : World} {a : Option Addr} {n c : Nat} {es : List EvE} (h : HasE W (.slice a n c) es) {j : Nat} {e : EvE} (hj : es[j]? = some e) :
    ∃ b o ma mc fa fc, a = some ⟨b, o, none⟩ ∧ W.rangeAt b (o + j * 33) (ecells (.slice ma e.req.muts.length mc) (.slice fa e.req.fil.fams.length fc) e).toList ∧ HasM W (.slice ma e.req.muts.length mc) e.req.muts ∧ HasS W (.slice fa e.req.fil.fams.length fc) e.req.fil.fams := by
  obtain ⟨a', c', hv, hk⟩ := h
  obtain ⟨b, o, ms, fv, ha, hr, hm, hf⟩ := hk j e hj
  obtain ⟨ma, mc, rfl⟩ := hasM_slice hm
  obtain ⟨fa, fc, rfl⟩ := hasS_slice hf
  have : a = a' := by injection hv
  exact ⟨b, o, ma, mc, fa, fc, by rw [this]; exact ha, hr, hm, hf⟩
theorem hasE_slice {W : World} {v : Value} {es : List EvE} (h : HasE W v es) : ∃ a c, v = .slice a es.length c := by
  obtain ⟨a, c, hv, _⟩ := h
  exact ⟨a, c, hv⟩
end Go.Proofs.YtkogcobcjoojnaaGreatDoor.Fl

namespace Go.Proofs.YtkogcobcjoojnaaGreatDoor.Fl
open Go.RowKit Go.Maps
set_option linter.unusedVariables false
set_option linter.unusedSimpArgs false
theorem wpList_load_at {P : Program} {ops : Array Oper} {rest : List Oper} {op : Oper} {a : Act} {w : World} {Q : Exit → Act → World → Prop} (hgd : op.guard = none) (ty : TypeId) (x : Operand) (ho : op.op = .load ty x)
    (b o : Nat) (hx : a.eval x = .pointer (some ⟨b, o, none⟩)) (cells : Array Value) (hc : w.rangeAt b o cells.toList) (n : Nat) (hi : (P.info? ty).map (·.size) = some n) (hn : cells.size = n)
    (hu : ∃ d, P.underlying ty = some d ∧ d.isRow = true)
    (h : wpList P ops Q rest (a.put op.dst (.agg cells)) w) : wpList P ops Q (op :: rest) a w := by
  obtain ⟨d, hu, hd⟩ := hu
  subst hn
  exact wpList_load_mid hgd ty x ho b o hx cells.toList d hc hu hd hi (by simpa using h)
theorem cat_snoc (l : List (List UInt8)) (x : List UInt8) : cat (l ++ [x]) = cat l ++ (x ++ [10]) := by rw [cat_append]; simp [cat]
/-- The lines of some events. -/
def linesE (es : List EvE) : List UInt8 := cat (es.map fun e => (lineE e).data.toList)
theorem linesE_snoc (l : List EvE) (e : EvE) : linesE (l ++ [e]) = linesE l ++ ((lineE e).data.toList ++ [10]) := by unfold linesE; rw [List.map_append]; exact cat_snoc _ _
theorem linesE_len : ∀ (es : List EvE), (∀ e ∈ es, QG e.req) → (linesE es).length ≤ es.length * 60001
  | [], _ => by simp [linesE, cat]
  | e :: r, h => by
    have ih := linesE_len r (fun x hx => h x (List.mem_cons_of_mem _ hx))
    have h1 := lineE_size (e := e) (h e (by simp)).n
    have h2 : linesE (e :: r) = ((lineE e).data.toList ++ [10]) ++ linesE r := by simp [linesE, cat]
    rw [h2, List.length_append, List.length_append, List.length_cons]
    have : (lineE e).data.toList.length = (lineE e).size := rfl
    simp
    omega
theorem told_line (e : EvE) : told e = true ↔ ¬ lineE e = noB := ⟨line_ne, fun h => by
  cases ht : told e with
  | true => rfl
  | false => exact absurd (by unfold lineE; rw [if_neg (by rw [ht]; decide)]) h⟩
theorem show_room {es : List EvE} {i : Nat} {s : ByteArray} (h1 : (linesE (es.take i)).length ≤ (es.take i).length * 60001) (h : s.size ≤ 60000) (hi : i ≤ 1000) : (linesE (es.take i)).length + (s ++ (⟨#[10]⟩ : ByteArray)).size ≤ 140737488355328 := by
  have h2 : (s ++ (⟨#[10]⟩ : ByteArray)).size = s.size + 1 := by rw [ByteArray.size_append]; rfl
  have h3 : (es.take i).length ≤ 1000 := by rw [List.length_take]; omega
  rw [h2]
  generalize (es.take i).length = n at h1 h3
  generalize (linesE (es.take i)).length = m at h1 ⊢
  omega
set_option maxHeartbeats 8000000 in
set_option maxRecDepth 100000 in
theorem c_Show {w : World} (hg : Gv w) (es : List EvE) (v : Value) (h : HasE w v es) (hq : ∀ e ∈ es, QG e.req) (hl : es.length ≤ 1000) :
    Calls Tryz.prog 9 #[v] w fun e w' => e = .returned (.tuple #[.string (showE es), .bool (es.all told)]) ∧ Below w.heap.size w w' := by
  have szE := szE
  obtain ⟨a, c, rfl⟩ := hasE_slice h
  have HG := Lib.hid hg
  have HQ := Lib.hid hq
  have HH := Lib.hid h
  have HB0 := Lib.hid (show Bd w.heap.size w.heap.size [] (w.alloc (.cells #[.pointer none, .slice none 0 0] 60)) from Lib.fresh_isBuilder _ _ w)
  have HL0 := Lib.hid (below_box (w := w) #[.pointer none, .slice none 0 0] 60)
  obtain ⟨L, hL⟩ : ∃ L, es.length = L := ⟨_, rfl⟩
  have HLL := Lib.hid hL
  have HLE := Lib.hid (show L ≤ 1000 by rw [← hL]; exact hl)
  rw [hL]
  have hL1 : (L : Int) ≤ 1000 := by have := HLE.out; omega
  clear h hg hq hL hl
  go_enter Tryz.func9, Tryz.ntmps9
  go_wp2
  go_loopw [10] (fun v10 W => ∃ (i : Nat), i ≤ L ∧ v10 = .int .i64 i ∧ Hid (Bd w.heap.size w.heap.size (linesE (es.take i)) W) ∧ Hid (Below w.heap.size w W) ∧ Hid ((es.take i).all told = true)) (fun v10 _ => L - (intOf v10).toNat)
  case atStart => exact ⟨0, by omega, rfl, HB0, HL0, Lib.hid rfl⟩
  case round =>
    obtain ⟨i, hi2, rfl, HB, HW, HT⟩ := hrel
    clear HB0 HL0
    by_cases hlt : i < L
    · have t1 : decide ((i : Int) < (L : Int)) = true := decide_eq_true (by omega)
      have hk0 : (0 : Int) ≤ (i : Int) := by omega
      have hk1 : (i : Int) < (L : Int) := by omega
      have hi3 : i < es.length := by rw [HLL.out]; exact hlt
      obtain ⟨ev, hev⟩ : ∃ ev, es[i]? = some ev := ⟨_, List.getElem?_eq_getElem hi3⟩
      have HTK := Lib.hid (show es.take (i + 1) = es.take i ++ [ev] by rw [List.take_add_one, hev]; rfl)
      have HQE := Lib.hid (HQ.out ev (List.mem_of_getElem? hev))
      obtain ⟨b0, o, ma, mc, fa, fc, rfl, hr, hm, hf⟩ := (HH.out.keep HW.out).elem hev
      have HR := Lib.hid hr
      have HM := Lib.hid hm
      have HF := Lib.hid hf
      clear hev hr hm hf hi3
      have HK1 := Lib.hid (Bk.new wr zE 39)
      have HB1 := Lib.hid (below_box (w := wr) zE 39)
      obtain ⟨W1, hW1⟩ : ∃ W, wr.alloc (.cells zE 39) = W := ⟨_, rfl⟩
      rw [hW1] at HK1 HB1
      go_wp2_with (first | (with_reducible show wpList _ _ _ ({ dst := _, op := Op.load 39 _, type := _, pos := _, after := _, guard := _ } :: _) _ _; refine wpList_load_at rfl 39 _ rfl b0 (o + i * 33) rfl (ecells (.slice ma ev.req.muts.length mc) (.slice fa ev.req.fil.fams.length fc) ev) HR.out 33 szE (nE _ _ _) ruE ?_) | (with_reducible show wpList _ _ _ ({ dst := _, op := Op.store 39 _ _, type := _, pos := _, after := _, guard := _ } :: _) _ _; refine wpList_store_all rfl 39 _ _ rfl wr.heap.size (ecells (.slice ma ev.req.muts.length mc) (.slice fa ev.req.fil.fams.length fc) ev) rfl rfl 39 _ HK1.out 33 szE (nE _ _ _) rfl (ecells_one _ _ _ _ _ _ _) ?_; have HK2 := Lib.hid (HK1.out.row (ecells (.slice ma ev.req.muts.length mc) (.slice fa ev.req.fil.fams.length fc) ev)); have HB2 := Lib.hid (below_row HB1.out (Nat.le_refl _) (ecells (.slice ma ev.req.muts.length mc) (.slice fa ev.req.fil.fams.length fc) ev)); generalize World.setRow _ wr.heap.size _ = W2 at HK2 HB2 ⊢; clear hW1) | (with_reducible show wpList _ _ _ ({ dst := _, op := Op.load 39 _, type := _, pos := _, after := _, guard := _ } :: _) _ _; refine wpList_load_all rfl 39 _ rfl wr.heap.size rfl 39 (ecells (.slice ma ev.req.muts.length mc) (.slice fa ev.req.fil.fams.length fc) ev) HK2.out 33 szE (nE _ _ _) ruE ?_))
      have HW2 := Lib.hid (HW.out.trans (HB2.out.mono HW.out.size))
      have HD2 := Lib.hid (HB.out.below HB2.out)
      refine (c_Line (HG.out.below HW2.out) _ _ _ _ ev (HQE.out.qw (HM.out.keep HB2.out) (HF.out.keep HB2.out))).mono ?_
      rintro e w3 ⟨rfl, hb3⟩
      have HW3 := Lib.hid (HW2.out.trans (hb3.mono HW2.out.size))
      have HD3 := Lib.hid (HD2.out.below hb3)
      have HLN := Lib.hid (told_line ev)
      have HSZ := Lib.hid (lineE_size (e := ev) HQE.out.n)
      have HTK2 := Lib.hid (linesE_snoc (es.take i) ev)
      have HLI := Lib.hid (linesE_len (es.take i) (fun e he => HQ.out e (List.mem_of_mem_take he)))
      clear hb3 HB2 HK2 HK1 HB1 HW2 HD2 HR HM HF HB HW
      generalize lineE ev = s at HLN HSZ HTK2 ⊢
      by_cases hs : s = noB
      · have hz : s.toList.isEmpty = true := by rw [isE, hs]; rfl
        have HNO := Lib.hid (show es.all told = false by
          have h1 : told ev = false := by
            cases ht : told ev with
            | false => rfl
            | true => exact absurd hs (HLN.out.1 ht)
          have h2 : ev ∈ es := by
            have : ev ∈ es.take (i + 1) := by rw [HTK.out]; simp
            exact List.mem_of_mem_take this
          exact Bool.eq_false_iff.2 (fun h => by rw [List.all_eq_true.1 h ev h2] at h1; cases h1))
        clear hs
        go_wp2
        go_ret2
        exact ⟨by unfold showE; rw [HNO.out]; rfl, HW3.out⟩
      · have hz : s.toList.isEmpty = false := by rw [isE]; exact decide_eq_false hs
        have HTE := Lib.hid (HLN.out.2 hs)
        clear hs
        have hadd : ¬ 9223372036854775807 < s.size + 1 := by have := HSZ.out; omega
        have HNL := Lib.hid (show i + 1 ≤ L ∧ i ≤ 1000 by have := HLE.out; omega)
        go_wp2_with fail
        obtain ⟨S2, hS2⟩ : ∃ S2, s ++ (⟨#[10]⟩ : ByteArray) = S2 := ⟨_, rfl⟩
        rw [hS2]
        have HRM := Lib.hid (show (linesE (es.take i)).length + S2.size ≤ 140737488355328 by rw [← hS2]; exact show_room HLI.out HSZ.out HNL.out.2)
        have HS2 := Lib.hid (show S2.data.toList = s.data.toList ++ [10] by rw [← hS2]; simp [ByteArray.data_append])
        clear hS2
        refine (c_wstr w.heap.size w.heap.size _ S2 w3 HD3.out HRM.out HW3.out.size).mono ?_
        rintro e w4 ⟨rfl, hd4, hb4⟩
        have HW4 := Lib.hid (HW3.out.trans hb4)
        have HD4 := Lib.hid (show Bd w.heap.size w.heap.size (linesE (es.take (i + 1))) w4 by
          rw [HTK.out, HTK2.out, ← HS2.out]; exact hd4)
        have HT4 := Lib.hid (show (es.take (i + 1)).all told = true by rw [HTK.out, List.all_append, HT.out]; simp [HTE.out])
        clear hb4 hd4
        go_wp2
        go_roundw
        case rel => exact ⟨i + 1, by omega, by go_num, HD4, HW4, HT4⟩
        case measure => simp [intOf]; omega
    · have t1 : decide ((i : Int) < (L : Int)) = false := decide_eq_false (by omega)
      have HTL := Lib.hid (show es.take i = es from List.take_of_length_le (by rw [HLL.out]; omega))
      rw [HTL.out] at HB HT
      go_wp2_with fail
      refine (c_bstr w.heap.size w.heap.size (linesE es) wr HB.out HW.out.size).mono ?_
      rintro e w3 ⟨rfl, hb3⟩
      have HW3 := Lib.hid (HW.out.trans hb3)
      clear hb3
      go_wp2
      go_ret2
      exact ⟨by unfold showE; rw [HT.out]; rfl, HW3.out⟩
end Go.Proofs.YtkogcobcjoojnaaGreatDoor.Fl

namespace Go.Proofs.YtkogcobcjoojnaaGreatDoor.Fl
open Go.RowKit Go.Maps
set_option linter.unusedVariables false
set_option linter.unusedSimpArgs false
theorem addr_add0 (g j : Nat) : (⟨g, 0, none⟩ : Addr).add j = ⟨g, j, none⟩ := by unfold Addr.add; split <;> simp_all
theorem addr_blk (ad : Addr) (k : Nat) : (ad.add k).block = ad.block := by simp [Addr.add]; split <;> rfl
theorem HasM.lt {W : World} {v : Value} {ms : List MutE} (h : HasM W v ms) (hne : ms ≠ []) {g : Nat} (hg : v.ownBlock = some g) : g < W.heap.size := by
  obtain ⟨a, c, rfl, hk⟩ := h
  obtain ⟨m, l, rfl⟩ := List.exists_cons_of_ne_nil hne
  obtain ⟨ad, rfl, h1, _⟩ := hk 0 m rfl
  have := World.block_lt_of_cell? W _ h1
  rw [addr_blk] at this
  have e : ad.block = g := by simpa [Value.ownBlock] using hg
  omega
theorem HasS.lt {W : World} {v : Value} {ms : List ByteArray} (h : HasS W v ms) (hne : ms ≠ []) {g : Nat} (hg : v.ownBlock = some g) : g < W.heap.size := by
  obtain ⟨a, c, rfl, hk⟩ := h
  obtain ⟨ad, rfl, h1⟩ := hk 0 (by cases ms with | nil => exact absurd rfl hne | cons x l => simp)
  have := World.block_lt_of_cell? W _ h1
  rw [addr_blk] at this
  have e : ad.block = g := by simpa [Value.ownBlock] using hg
  omega
theorem HasM.on {W W' : World} {v : Value} {ms : List MutE} (h : HasM W v ms) (hk : ms ≠ [] → ∀ g, v.ownBlock = some g → W'.heap[g]? = W.heap[g]?) : HasM W' v ms := by
  obtain ⟨a, c, rfl, h1⟩ := h
  refine ⟨a, c, rfl, fun j m hj => ?_⟩
  obtain ⟨ad, rfl, hc, hr⟩ := h1 j m hj
  have hb := hk (fun e => by rw [e] at hj; simp at hj) ad.block rfl
  have key : ∀ (x : Addr), x.block = ad.block → W'.cell? x = W.cell? x := fun x hx => World.cell?_of_block (by rw [hx]; exact hb)
  exact ⟨ad, rfl, (key _ (addr_blk _ _)).trans hc, fun r x h2 hx => (key _ (by show (ad.add (j * 6)).block = _; exact addr_blk _ _)).trans (hr r x h2 hx)⟩
theorem HasS.on {W W' : World} {v : Value} {ms : List ByteArray} (h : HasS W v ms) (hk : ms ≠ [] → ∀ g, v.ownBlock = some g → W'.heap[g]? = W.heap[g]?) : HasS W' v ms := by
  obtain ⟨a, c, rfl, h1⟩ := h
  refine ⟨a, c, rfl, fun j hj => ?_⟩
  obtain ⟨ad, rfl, hc⟩ := h1 j hj
  have hb := hk (fun e => by rw [e] at hj; simp at hj) ad.block rfl
  exact ⟨ad, rfl, (World.cell?_of_block (by rw [addr_blk]; exact hb)).trans hc⟩
theorem cell_spot {W : World} {a : Addr} {v : Value} (h : W.cell? a = some v) : a.spot = none := by
  cases hs : a.spot with
  | none => rfl
  | some k =>
    unfold World.cell? at h
    rw [hs] at h
    split at h
    · simp at h
    · cases h
theorem HasS.flat {W : World} {a : Option Addr} {n c : Nat} {xs : List ByteArray} (h : HasS W (.slice a n c) xs) (hne : xs ≠ []) : ∃ b o, a = some ⟨b, o, none⟩ ∧ b < W.heap.size ∧ ∀ j x, xs[j]? = some x → W.cell? ⟨b, o + j, none⟩ = some (.string x) := by
  obtain ⟨a', c', hv, hk⟩ := h
  obtain rfl : a = a' := by injection hv
  obtain ⟨⟨b, o, s⟩, rfl, h0⟩ := hk 0 (by cases xs with | nil => exact absurd rfl hne | cons x l => simp)
  have hs : s = none := cell_spot (a := (⟨b, o, s⟩ : Addr).add 0) h0
  subst hs
  refine ⟨b, o, rfl, ?_, fun j x hj => ?_⟩
  · have := World.block_lt_of_cell? W _ h0
    rwa [addr_blk] at this
  · obtain ⟨hlt, hx⟩ := List.getElem?_eq_some_iff.1 hj
    obtain ⟨ad, e, h1⟩ := hk j hlt
    obtain rfl := Option.some.inj e
    rw [Addr.add_mid] at h1
    rw [h1, show xs.getD j noB = x by simp [List.getD, hj]]
theorem HasM.flat {W : World} {a : Option Addr} {n c : Nat} {ms : List MutE} (h : HasM W (.slice a n c) ms) (hne : ms ≠ []) : ∃ b o, a = some ⟨b, o, none⟩ ∧ b < W.heap.size ∧ ∀ j m r x, ms[j]? = some m → (mcells m)[r]? = some x → W.cell? ⟨b, o + j * 6 + r, none⟩ = some x := by
  obtain ⟨a', c', hv, hk⟩ := h
  obtain rfl : a = a' := by injection hv
  obtain ⟨m, l, rfl⟩ := List.exists_cons_of_ne_nil hne
  obtain ⟨⟨b, o, s⟩, rfl, h0, _⟩ := hk 0 m rfl
  have hs : s = none := cell_spot (a := (⟨b, o, s⟩ : Addr).add (0 * 6)) h0
  subst hs
  refine ⟨b, o, rfl, ?_, fun j m r x hj hx => ?_⟩
  · have := World.block_lt_of_cell? W _ h0
    rwa [addr_blk] at this
  · obtain ⟨ad, e, h1, h2⟩ := hk j m hj
    obtain rfl := Option.some.inj e
    rw [Addr.add_mid] at h1 h2
    cases r with
    | zero =>
      have : x = .int .i64 m.kind := by have : some (Value.int .i64 m.kind) = some x := hx; exact (Option.some.inj this).symm
      rw [this]
      exact h1
    | succ r => exact h2 (r + 1) x (by omega) hx
/-- The cells of events: each with its row of mutations, its row of names. -/
def elist (l : List (Value × Value × EvE)) : List Value := l.flatMap fun x => (ecells x.1 x.2.1 x.2.2).toList
theorem elist_len : ∀ l, (elist l).length = l.length * 33
  | [] => rfl
  | x :: l => by
    have ih := elist_len l
    unfold elist at ih ⊢
    rw [List.flatMap_cons, List.length_append, ih, List.length_cons, Nat.succ_mul, show (ecells x.1 x.2.1 x.2.2).toList.length = 33 from rfl, Nat.add_comm]
theorem elist_app (a b : List (Value × Value × EvE)) : elist (a ++ b) = elist a ++ elist b := by unfold elist; rw [List.flatMap_append]
theorem elist_at : ∀ (l : List (Value × Value × EvE)) (j : Nat) (x : Value × Value × EvE) (r : Nat) (u : Value), l[j]? = some x → (ecells x.1 x.2.1 x.2.2)[r]? = some u → (elist l)[j * 33 + r]? = some u
  | [], j, x, r, u, h, _ => by simp at h
  | a :: l, 0, x, r, u, h, hx => by
    have h : a = x := by simpa using h
    subst h
    unfold elist
    rw [List.flatMap_cons, Nat.zero_mul, Nat.zero_add, List.getElem?_append_left (by
      have := (Array.getElem?_eq_some_iff.1 hx).1
      simpa using this)]
    simpa using hx
  | a :: l, j + 1, x, r, u, h, hx => by
    have ih := elist_at l j x r u (by simpa using h) hx
    unfold elist at ih ⊢
    rw [List.flatMap_cons, List.getElem?_append_right (by
      show (ecells a.1 a.2.1 a.2.2).toList.length ≤ _
      rw [show (ecells a.1 a.2.1 a.2.2).toList.length = 33 from rfl]
      omega), show (ecells a.1 a.2.1 a.2.2).toList.length = 33 from rfl, show (j + 1) * 33 + r - 33 = j * 33 + r by omega]
    exact ih
/-- An event as it lies in a row whose block is o: its own rows are elsewhere. -/
structure EvOk (W : World) (o : Option Nat) (x : Value × Value × EvE) : Prop where
  m : HasM W x.1 x.2.2.req.muts
  f : HasS W x.2.1 x.2.2.req.fil.fams
  om : x.2.2.req.muts ≠ [] → ∀ g, x.1.ownBlock = some g → o ≠ some g
  of : x.2.2.req.fil.fams ≠ [] → ∀ g, x.2.1.ownBlock = some g → o ≠ some g
theorem EvOk.below {W W' : World} {o : Option Nat} {x : Value × Value × EvE} (h : EvOk W o x) (hb : Below W.heap.size W W') : EvOk W' o x := ⟨h.m.keep hb, h.f.keep hb, h.om, h.of⟩
theorem EvOk.grown {W W' : World} {o o' : Option Nat} {x : Value × Value × EvE} (h : EvOk W o x) (hg : W.grownBy W' o) (h5 : o' = o ∨ o' = some W.heap.size) : EvOk W' o' x := by
  refine ⟨h.m.on (fun hne g e => hg.block g (h.m.lt hne e) (fun e2 => h.om hne g e e2.symm)), h.f.on (fun hne g e => hg.block g (h.f.lt hne e) (fun e2 => h.of hne g e e2.symm)), fun hne g e => ?_, fun hne g e => ?_⟩
  · rcases h5 with rfl | rfl
    · exact h.om hne g e
    · have := h.m.lt hne e
      intro e2
      have := Option.some.inj e2
      omega
  · rcases h5 with rfl | rfl
    · exact h.of hne g e
    · have := h.f.lt hne e
      intro e2
      have := Option.some.inj e2
      omega
/-- A row of events of one's own, from block B on. -/
structure OwnE (W : World) (B : Nat) (v : Value) (l : List (Value × Value × EvE)) : Prop where
  own : W.ownsRow B 39 33 v l.length (elist l)
  ok : ∀ x ∈ l, EvOk W v.ownBlock x
theorem OwnE.nil (W : World) (B : Nat) : OwnE W B (.slice none 0 0) [] := ⟨World.ownsRow_nil W B _ 33, fun x h => nomatch h⟩
theorem OwnE.below {W W' : World} {B : Nat} {v : Value} {l : List (Value × Value × EvE)} (h : OwnE W B v l) (hb : Below W.heap.size W W') : OwnE W' B v l :=
  ⟨own_keep h.own (fun g _ hl => hb.block g hl), fun x hx => (h.ok x hx).below hb⟩
theorem OwnE.has {W : World} {B : Nat} {v : Value} {l : List (Value × Value × EvE)} (h : OwnE W B v l) : HasE W v (l.map (·.2.2)) := by
  have hc := fun g (hg : v.ownBlock = some g) => h.own.cells hg
  rcases h.own.2 with ⟨rfl, h0⟩ | ⟨g, cap, cur, rfl, _⟩
  · have : l = [] := List.length_eq_zero_iff.1 h0
    subst this
    exact ⟨none, 0, rfl, fun j m h => by simp at h⟩
  · refine ⟨_, cap, by rw [List.length_map], fun j e hj => ?_⟩
    obtain ⟨x, hx, rfl⟩ : ∃ x, l[j]? = some x ∧ x.2.2 = e := by
      rw [List.getElem?_map] at hj
      cases hx : l[j]? with
      | none => rw [hx] at hj; cases hj
      | some x => rw [hx] at hj; exact ⟨x, rfl, Option.some.inj hj⟩
    refine ⟨g, 0, x.1, x.2.1, rfl, fun r u hr => ?_, (h.ok x (List.mem_of_getElem? hx)).m, (h.ok x (List.mem_of_getElem? hx)).f⟩
    have := hc g rfl (j * 33 + r) u (elist_at l j x r u hx (by simpa using hr))
    rw [addr_add0] at this
    rw [Nat.zero_add]
    exact this
/-- Events that lie somewhere, one behind the other. -/
def SrcE (W : World) (o : Option Nat) (v : Value) (l : List (Value × Value × EvE)) : Prop := ∃ ad c, v = .slice (some ad) l.length c ∧ (∀ j u, (elist l)[j]? = some u → W.cell? (ad.add j) = some u) ∧ ∀ x ∈ l, EvOk W o x
theorem EvOk.one {W : World} {o : Option Nat} {x : Value × Value × EvE} (h : EvOk W o x) : ∀ u ∈ (ecells x.1 x.2.1 x.2.2).toList, u.oneCell' = true := by
  obtain ⟨ms, fv, e⟩ := x
  obtain ⟨a, c, h1, _⟩ := h.m
  obtain ⟨fa, fc, h2, _⟩ := h.f
  simp only at h1 h2
  subst h1 h2
  intro u hu
  exact (Array.all_eq_true_iff_forall_mem.1 (ecells_one a _ c fa _ fc e)) u (by simpa using hu)
theorem elist_ones {W : World} {o : Option Nat} {l : List (Value × Value × EvE)} (h : ∀ x ∈ l, EvOk W o x) : ∀ u ∈ elist l, u.oneCell' = true := fun u hu => by
  unfold elist at hu
  obtain ⟨x, hx, hu⟩ := List.mem_flatMap.1 hu
  exact (h x hx).one u hu
theorem infoE : (Tryz.prog.info? 39).map (fun i => (i.zero, i.size, i.bytes)) = some (some (.agg zE), 33, 368) := by kernel_rfl
theorem OwnE.lt {W : World} {B : Nat} {v : Value} {l : List (Value × Value × EvE)} (h : OwnE W B v l) : ∀ k, v.ownBlock = some k → B ≤ k ∧ k < W.heap.size := h.own.lt
theorem grown_belowE {W W' : World} {B : Nat} {v : Value} {l : List (Value × Value × EvE)} (h : OwnE W B v l) (hB : B ≤ W.heap.size) (hg : W.grownBy W' v.ownBlock) : Below B W W' :=
  ⟨hg.os, hg.tape, hg.output, hg.size, fun k hk => hg.block k (by omega) (fun e => by have := (h.lt k e.symm).1; omega)⟩
theorem run_append_e (W : World) (B : Nat) (ty : TypeId) (v v2 : Value) (l l2 : List (Value × Value × EvE)) (hown : OwnE W B v l) (hsrc : SrcE W v.ownBlock v2 l2) (hlen : l.length + l2.length ≤ 1000000) (hB : B ≤ W.heap.size) :
    ∃ v' W', (Builtin.append_ #[22, 22] ty #[v, v2]).run Tryz.prog W = .ok v' W' ∧ OwnE W' B v' (l ++ l2) ∧ Below B W W' ∧ W.grownBy W' v.ownBlock ∧ (v'.ownBlock = v.ownBlock ∨ v'.ownBlock = some W.heap.size) := by
  obtain ⟨i0, hi, hz0, hz1, hz2⟩ := info_parts infoE
  obtain ⟨ad, c, rfl, hcell, hok⟩ := hsrc
  obtain ⟨v', W', hr, h2, h3, h4, h5⟩ := run_append_own_at (P := Tryz.prog) W B 22 ty 39 i0 (.agg zE) 33 368 Tryz.underlying22 hi hz0 hz1 hz2 rfl (by decide) v l.length _ hown.own ad l2.length c (elist l2) (elist_len l2) hcell (elist_ones hok) (by unfold maxLen; omega) (by omega) hB
  refine ⟨v', W', hr, ⟨by rw [List.length_append, elist_app]; exact h2, fun x hx => ?_⟩, grown_belowE hown hB h3, h3, h5⟩
  rcases List.mem_append.1 hx with hx | hx
  · exact (hown.ok x hx).grown h3 h5
  · exact (hok x hx).grown h3 h5
/-- append, for the walk: plain, and in a drawn region. -/
theorem wp_append_e {w : World} {ops : Array Oper} {rest : List Oper} {o : Oper} {a : Act} {Q : Exit → Act → World → Prop} (hgd : o.guard = none) (s x : Operand)
    (ho : o.op = .call { callee := .builtin .append, args := #[s, x], argTypes := #[22, 22] })
    (B : Nat) (v v2 : Value) (l l2 : List (Value × Value × EvE)) (hs : a.eval s = v) (hx : a.eval x = v2) (hown : OwnE w B v l) (hsrc : SrcE w v.ownBlock v2 l2) (hlen : l.length + l2.length ≤ 1000000) (hB : B ≤ w.heap.size)
    (h : ∀ v' w', OwnE w' B v' (l ++ l2) → Below B w w' → w.grownBy w' v.ownBlock → wpList Tryz.prog ops Q rest (a.put o.dst v') w') :
    wpList Tryz.prog ops Q (o :: rest) a w := by
  refine wpList_plain hgd fun K hK => ?_
  obtain ⟨v', w', hr, h2, h3, h4, h5⟩ := run_append_e w B o.type v v2 l l2 hown hsrc hlen hB
  unfold Oper.wp execOp
  simp only [ho, resolve, invoke, builtin, Sem.run_bind, Sem.run_pure, Result.andThen_ok, List.map_toArray, List.map_cons, List.map_nil, hs, hx, hr]
  exact hK _ _ (h v' w' h2 h3 h4)
theorem wp_append_e0 {w : World} {ops : Array Oper} {rest : List Oper} {o : Oper} {a : Act} {Q : Exit → Act → World → Prop} (hgd : o.guard = none) (s x : Operand)
    (ho : o.op = .call { callee := .builtin .append, args := #[s, x], argTypes := #[22, 22] })
    (B : Nat) (v : Value) (l : List (Value × Value × EvE)) (hs : a.eval s = v) (hx : a.eval x = .slice none 0 0) (hown : OwnE w B v l)
    (h : wpList Tryz.prog ops Q rest (a.put o.dst v) w) : wpList Tryz.prog ops Q (o :: rest) a w := by
  refine wpList_plain hgd fun K hK => ?_
  obtain ⟨i0, hi, hz0, hz1, hz2⟩ := info_parts infoE
  have hr := run_append_owned_none (P := Tryz.prog) (w := w) B 22 o.type 39 i0 33 Tryz.underlying22 hi v l.length _ hown.own
  unfold Oper.wp execOp
  simp only [ho, resolve, invoke, builtin, Sem.run_bind, Sem.run_pure, Result.andThen_ok, List.map_toArray, List.map_cons, List.map_nil, hs, hx, hr]
  exact hK _ _ h
/-- Events in a block. -/
theorem SrcE.blk {W : World} {o : Option Nat} {nb c : Nat} {l : List (Value × Value × EvE)} (hb : Bk nb (elist l).toArray 39 W) (ok : ∀ x ∈ l, EvOk W o x) : SrcE W o (.slice (some ⟨nb, 0, none⟩) l.length c) l :=
  ⟨_, c, rfl, fun j u hj => by rw [addr_add0]; exact hb.cell j u (by simpa using hj), ok⟩
theorem EvOk.fresh {W : World} {x : Value × Value × EvE} (hm : HasM W x.1 x.2.2.req.muts) (hf : HasS W x.2.1 x.2.2.req.fil.fams) (cs : Array Value) (T : TypeId) : EvOk (W.alloc (.cells cs T)) (some W.heap.size) x :=
  ⟨hm.keep (below_box cs T), hf.keep (below_box cs T), fun hne g hg e => by have := hm.lt hne hg; have := Option.some.inj e; omega, fun hne g hg e => by have := hf.lt hne hg; have := Option.some.inj e; omega⟩
theorem OwnE.lit (W : World) (l : List (Value × Value × EvE)) (hl : l.length ≤ 1000) (h : ∀ x ∈ l, HasM W x.1 x.2.2.req.muts ∧ HasS W x.2.1 x.2.2.req.fil.fams) : OwnE (W.alloc (.cells (elist l).toArray 39)) W.heap.size (.slice (some ⟨W.heap.size, 0, none⟩) l.length l.length) l :=
  ⟨World.ownsRow_lit W (elist l).toArray l.length (Nat.le_refl _) (by unfold maxLen; omega) (by rw [List.size_toArray]; exact elist_len l), fun x hx => EvOk.fresh (h x hx).1 (h x hx).2 _ _⟩
set_option maxRecDepth 100000 in
/-- A row of events that is written out, for the walk. -/
theorem wpList_lit_e {ops : Array Oper} {rest : List Oper} {o : Oper} {a : Act} {w : World} {Q : Exit → Act → World → Prop} (hgd : o.guard = none) (len : Nat) (parts : Array (Nat × Operand)) (ho : o.op = .buildSlice 22 len parts)
    (l : List (Value × Value × EvE)) (hlen : l.length = len) (hpos : 0 < len) (hs : len ≤ 1000)
    (hp : (parts.map fun (i, x) => (i, a.eval x)).toList = ((l.map fun x => Value.agg (ecells x.1 x.2.1 x.2.2)).zipIdx 0).map fun x => (x.2, x.1))
    (h : wpList Tryz.prog ops Q rest (a.put o.dst (.slice (some ⟨w.heap.size, 0, none⟩) len len)) (w.alloc (.cells (elist l).toArray 39))) : wpList Tryz.prog ops Q (o :: rest) a w := by
  obtain ⟨i0, hi, hz0, hz1, hz2⟩ := info_parts infoE
  refine wpList_buildSlice hgd 22 39 len parts ho (elist l).toArray i0 (.agg zE) Tryz.underlying22 hi hz0 (by rw [hz1]; omega) (by rw [hz1]; omega) ?_ h
  rw [hp, hz1]
  have h1 := Great.fill_whole (s := 33) (by omega) (l.map fun x => Value.agg (ecells x.1 x.2.1 x.2.2)) ((Array.range (len * 33)).map ((Value.agg zE).cells[· % (Value.agg zE).cells.size]!)) (fun v hv => by
    obtain ⟨x, _, rfl⟩ := List.mem_map.1 hv
    rfl) (by rw [List.length_map, hlen]; simp)
  rw [h1]
  congr 2
  unfold elist
  rw [List.flatMap_map]
  rfl
theorem wpList_lit_e1 {ops : Array Oper} {rest : List Oper} {o : Oper} {a : Act} {w : World} {Q : Exit → Act → World → Prop} (hgd : o.guard = none) (x : Operand) (ho : o.op = .buildSlice 22 1 #[(0, x)])
    (m f : Value) (e : EvE) (hx : a.eval x = .agg (ecells m f e))
    (h : wpList Tryz.prog ops Q rest (a.put o.dst (.slice (some ⟨w.heap.size, 0, none⟩) 1 1)) (w.alloc (.cells (elist [(m, f, e)]).toArray 39))) : wpList Tryz.prog ops Q (o :: rest) a w :=
  wpList_lit_e hgd 1 _ ho [(m, f, e)] rfl (by decide) (by decide) (by simp [hx]) h
theorem wpList_lit_e2 {ops : Array Oper} {rest : List Oper} {o : Oper} {a : Act} {w : World} {Q : Exit → Act → World → Prop} (hgd : o.guard = none) (x y : Operand) (ho : o.op = .buildSlice 22 2 #[(0, x), (1, y)])
    (m f : Value) (e : EvE) (m2 f2 : Value) (e2 : EvE) (hx : a.eval x = .agg (ecells m f e)) (hy : a.eval y = .agg (ecells m2 f2 e2))
    (h : wpList Tryz.prog ops Q rest (a.put o.dst (.slice (some ⟨w.heap.size, 0, none⟩) 2 2)) (w.alloc (.cells (elist [(m, f, e), (m2, f2, e2)]).toArray 39))) : wpList Tryz.prog ops Q (o :: rest) a w :=
  wpList_lit_e hgd 2 _ ho [(m, f, e), (m2, f2, e2)] rfl (by decide) (by decide) (by simp [hx, hy]) h
end Go.Proofs.YtkogcobcjoojnaaGreatDoor.Fl

namespace Go.Proofs.YtkogcobcjoojnaaGreatDoor.Fl
open Go.RowKit Go.Maps
set_option linter.unusedVariables false
set_option linter.unusedSimpArgs false
/-- What Parse answers. -/
def ParseR (t : ByteArray) (w : World) (e : Ending) (w' : World) : Prop :=
  ((∃ es v, parseE t = .ok (es.map (·.2.2)) ∧ e = .returned (.tuple #[v, .int .i64 0, .int .i64 0]) ∧ OwnE w' w.heap.size v es ∧ (∀ x ∈ es, QG x.2.2.req) ∧ es.length ≤ 1000000) ∨
   (∃ n : Nat, parseE t = .error n ∧ e = .returned (.tuple #[.slice none 0 0, .int .i64 n, .int .i64 10]))) ∧ Below w.heap.size w w'
theorem prs_bad {s : ByteArray} (h : ¬ (s = noB ∨ Lib.hasPrefix s.data.toList [35] = true)) (hr : readE s = none) (i : Nat) (acc : List EvE) (r : List ByteArray) : prs i acc (s :: r) = .error (i + 1) := by rw [prs, if_neg h, hr]
theorem prs_good {s : ByteArray} {e : EvE} (h : ¬ (s = noB ∨ Lib.hasPrefix s.data.toList [35] = true)) (hr : readE s = some e) (i : Nat) (acc : List EvE) (r : List ByteArray) : prs i acc (s :: r) = prs (i + 1) (acc ++ [e]) r := by rw [prs, if_neg h, hr]
/-- A text's lines. -/
def linesB (t : ByteArray) : List ByteArray := (linesOf t.data.toList).map fun l => ⟨l.toArray⟩
/-- A text whose lines are no longer than is read. -/
structure LinesOk (t : ByteArray) : Prop where
  size : t.size ≤ 1000000000
  each : ∀ x ∈ linesB t, x.size ≤ 900000
  count : (linesB t).length ≤ 900000
theorem trim_len (l p : List UInt8) : (Lib.trimSuffix l p).length ≤ l.length := by
  unfold Lib.trimSuffix
  split
  · rw [List.length_take]; omega
  · exact Nat.le_refl _
theorem OwnE.mono {W : World} {B B' : Nat} {v : Value} {l : List (Value × Value × EvE)} (h : OwnE W B v l) (hB : B' ≤ B) : OwnE W B' v l := by
  refine ⟨⟨h.own.1, ?_⟩, h.ok⟩
  rcases h.own.2 with h0 | ⟨g, cap, cur, hv, hb, r⟩
  · exact Or.inl h0
  · exact Or.inr ⟨g, cap, cur, hv, Nat.le_trans hB hb, r⟩
theorem linesOk_small {t : ByteArray} (h : t.size ≤ 800000) : LinesOk t := by
  have e : linesB t = wordsOf 10 ⟨(Lib.trimSuffix t.data.toList [10]).toArray⟩ := rfl
  have hs : (⟨(Lib.trimSuffix t.data.toList [10]).toArray⟩ : ByteArray).size ≤ 800000 := by
    rw [Lib.size_mk]
    have := trim_len t.data.toList [10]
    have : t.data.toList.length = t.size := rfl
    omega
  refine ⟨by omega, fun x hx => ?_, ?_⟩
  · rw [e] at hx
    have := words_size 10 _ x hx
    omega
  · rw [e]
    have := words_len 10 (⟨(Lib.trimSuffix t.data.toList [10]).toArray⟩ : ByteArray)
    omega
set_option maxHeartbeats 8000000 in
set_option maxRecDepth 100000 in
theorem c_Parse {w : World} (hg : Gv w) (t : ByteArray) (ht : LinesOk t) :
    Calls Tryz.prog 11 #[.string t] w fun e w' => ParseR t w e w' := by
  have szE := szE
  have HG := Lib.hid hg
  obtain ⟨m, hm⟩ := hg.ml
  have HM := Lib.hid hm
  obtain ⟨u, hu⟩ : ∃ u : ByteArray, (⟨(Lib.trimSuffix t.data.toList [10]).toArray⟩ : ByteArray) = u := ⟨_, rfl⟩
  have CT := Lib.hid (show ∀ W, Calls Tryz.prog 28 #[.string t, .string ⟨#[10]⟩] W fun e w' => e = .returned (.string u) ∧ w' = W from fun W => by rw [← hu]; exact Tryz.strings_TrimSuffix t ⟨#[10]⟩ W (by have := ht.size; omega))
  have hus : u.size ≤ 1000000000 := by
    rw [← hu, Lib.size_mk]
    have := trim_len t.data.toList [10]
    have : t.data.toList.length = t.size := rfl
    have := ht.size
    omega
  have HP := Lib.hid (show parseE t = prs 0 [] (wordsOf 10 u) by rw [← hu]; rfl)
  have HU := Lib.hid hus
  have HW := Lib.hid (words_split 10 u)
  have HL := Lib.hid (show (∀ x ∈ wordsOf 10 u, x.size ≤ 900000) ∧ (wordsOf 10 u).length ≤ 900000 by rw [← hu]; exact ⟨ht.each, ht.count⟩)
  generalize wordsOf 10 u = ws at HW HL HP
  obtain ⟨L, hL⟩ : ∃ L, ws.length = L := ⟨_, rfl⟩
  have HLL := Lib.hid hL
  clear hg hm ht hus hu
  go_enter Tryz.func11, Tryz.ntmps11
  go_wp2_with fail
  refine (CT.out _).mono ?_
  rintro e w1 ⟨rfl, rfl⟩
  go_wp2_with fail
  refine (Tryz.strings_Split u ⟨#[10]⟩ m w1 (by have := HU.out; omega) HM.out (by decide)).mono ?_
  rintro e w3 ⟨rfl, hw3⟩
  rw [HW.out.1] at hw3
  rw [HW.out.2, hL]
  have HB3 := Lib.hid (show Below w1.heap.size w1 w3 by rw [hw3]; exact below_box _ _)
  have HQ3 := Lib.hid (show Bk w1.heap.size (ws.map Value.string).toArray 9 w3 by rw [hw3]; exact Bk.new _ _ _)
  have HZ3 := Lib.hid (show w3.heap.size = w1.heap.size + 1 by rw [hw3]; show (w1.heap.push _).size = _; simp)
  have HLE := Lib.hid (show L ≤ 900000 by rw [← hL]; exact HL.out.2)
  clear hw3 hL CT HM
  go_wp2
  go_loopw [5, 16] (fun v5 v16 W => ∃ (i : Nat) (es : List (Value × Value × EvE)), i ≤ L ∧ v16 = .int .i64 i ∧ Hid (OwnE W (w1.heap.size + 1) v5 es) ∧ Hid (Below (w1.heap.size + 1) w3 W) ∧ Hid (prs 0 [] ws = prs i (es.map (·.2.2)) (ws.drop i)) ∧ Hid (es.length ≤ i ∧ ∀ x ∈ es, QG x.2.2.req)) (fun _ v16 _ => L - (intOf v16).toNat)
  case atStart => exact ⟨0, [], by omega, rfl, Lib.hid (OwnE.nil _ _), Lib.hid (Below.refl _ _), Lib.hid rfl, Lib.hid ⟨Nat.le_refl _, fun x hx => (nomatch hx)⟩⟩
  case round =>
    obtain ⟨i, es, hi2, rfl, HO, HW3, HX, HE⟩ := hrel
    have HBW := Lib.hid (show Below w1.heap.size w1 wr from HB3.out.trans (HW3.out.mono (by omega)))
    have HSW := Lib.hid (show w1.heap.size + 1 ≤ wr.heap.size by have := HW3.out.size; have := HZ3.out; omega)
    by_cases hlt : i < L
    · have t1 : decide ((i : Int) < (L : Int)) = true := decide_eq_true (by omega)
      have hk0 : (0 : Int) ≤ (i : Int) := by omega
      have hk1 : (i : Int) < (L : Int) := by omega
      have hk2 : (i : Int) ≤ 900000 := by have := HLE.out; omega
      have hi3 : i < ws.length := by rw [HLL.out]; exact hlt
      obtain ⟨s, hs⟩ : ∃ s, ws[i]? = some s := ⟨_, List.getElem?_eq_getElem hi3⟩
      have y0 := ((HQ3.out.cell i (.string s) (by simp [hs])) : w3.cell? ⟨w1.heap.size, i, none⟩ = some (.string s))
      have y1 : wr.cell? ⟨w1.heap.size, 0 + i, none⟩ = some (.string s) := by
        rw [Nat.zero_add]
        exact (World.cell?_of_block (a := ⟨w1.heap.size, i, none⟩) (HW3.out.block w1.heap.size (by omega))).trans y0
      have y2 := y1
      rw [Nat.zero_add] at y2
      have HD := Lib.hid (show ws.drop i = s :: ws.drop (i + 1) by
        obtain ⟨h1, h2⟩ := List.getElem?_eq_some_iff.1 hs
        rw [List.drop_eq_getElem_cons h1, h2])
      have HSS := Lib.hid (HL.out.1 s (List.mem_of_getElem? hs))
      have HN := Lib.hid (show i + 1 ≤ L ∧ i ≤ 900000 by have := HLE.out; omega)
      obtain ⟨pb, hpb⟩ : ∃ b, Lib.hasPrefix s.data.toList [35] = b := ⟨_, rfl⟩
      have CP := Lib.hid (show ∀ W, Calls Tryz.prog 29 #[.string s, .string ⟨#[35]⟩] W fun e w' => e = .returned (.bool pb) ∧ w' = W from fun W => by rw [← hpb]; exact Tryz.strings_HasPrefix s ⟨#[35]⟩ W)
      have HPB := Lib.hid hpb
      clear hs hi3 hlt y0 hpb
      by_cases hz0 : s = noB
      · have hz : s.toList.isEmpty = true := by rw [isE, hz0]; rfl
        have HX2 := Lib.hid (show prs 0 [] ws = prs (i + 1) (es.map (·.2.2)) (ws.drop (i + 1)) by rw [HX.out, HD.out, prs_skip (Or.inl hz0)])
        have HE2 := Lib.hid (show es.length ≤ i + 1 ∧ ∀ x ∈ es, QG x.2.2.req from ⟨by have := HE.out.1; omega, HE.out.2⟩)
        clear hz0
        go_wp2
        go_roundw
        case rel => exact ⟨i + 1, es, HN.out.1, by have := HN.out; go_num, HO, HW3, HX2, HE2⟩
        case measure => have := HN.out; simp [intOf]; omega
      have hz : s.toList.isEmpty = false := by rw [isE]; exact decide_eq_false hz0
      go_wp2_with fail
      refine (CP.out _).mono ?_
      rintro e w4 ⟨rfl, rfl⟩
      cases pb
      case true =>
        have HX2 := Lib.hid (show prs 0 [] ws = prs (i + 1) (es.map (·.2.2)) (ws.drop (i + 1)) by rw [HX.out, HD.out, prs_skip (Or.inr HPB.out)])
        have HE2 := Lib.hid (show es.length ≤ i + 1 ∧ ∀ x ∈ es, QG x.2.2.req from ⟨by have := HE.out.1; omega, HE.out.2⟩)
        clear hz0
        go_wp2
        go_roundw
        case rel => exact ⟨i + 1, es, HN.out.1, by have := HN.out; go_num, HO, HW3, HX2, HE2⟩
        case measure => have := HN.out; simp [intOf]; omega
      have HNS := Lib.hid (show ¬ (s = noB ∨ Lib.hasPrefix s.data.toList [35] = true) from fun h => by
        rcases h with h | h
        · exact hz0 h
        · rw [HPB.out] at h; cases h)
      clear hz0
      go_wp2_with fail
      refine (c_Read (HG.out.below HBW.out) s HSS.out).mono ?_
      rintro e w5 ⟨⟨ev, ms, fv, hx, rfl, hms, hfv, hqg, lms, lfv⟩ | ⟨hx, rfl⟩, hb5⟩
      case inr =>
        have HB5 := Lib.hid (HBW.out.trans (hb5.mono HBW.out.size))
        have HXE := Lib.hid (show parseE t = .error (i + 1) by rw [HP.out, HX.out, HD.out, prs_bad HNS.out hx])
        have HK5 := Lib.hid (Bk.new w5 zE 39)
        have HB6 := Lib.hid (HB5.out.trans ((below_box (w := w5) zE 39).mono HB5.out.size))
        obtain ⟨W6, hW6⟩ : ∃ W, w5.alloc (.cells zE 39) = W := ⟨_, rfl⟩
        rw [hW6] at HK5 HB6
        have hii : IntKind.i64.wrap ((i : Int) + 1) = ((i + 1 : Nat) : Int) := by have := HN.out; unfold IntKind.wrap; simp [IntKind.bits, IntKind.signed]; omega
        clear hx hb5 y1 y2
        go_wp2_with (with_reducible show wpList _ _ _ ({ dst := _, op := Op.store 39 _ _, type := _, pos := _, after := _, guard := _ } :: _) _ _; refine wpList_store_all rfl 39 _ _ rfl w5.heap.size zE rfl rfl 39 _ HK5.out 33 szE zE_size zE_size zE_one ?_; have HB7 := Lib.hid (below_row HB6.out HB5.out.size zE); generalize World.setRow _ w5.heap.size _ = W7 at HB7 ⊢; clear hW6)
        go_ret3
        exact ⟨Or.inr ⟨i + 1, HXE.out, by first | rfl | (have := HN.out; simp; omega)⟩, HB7.out⟩
      obtain ⟨ma, mc, rfl⟩ := hasM_slice hms
      obtain ⟨fa, fc, rfl⟩ := hasS_slice hfv
      have HX2 := Lib.hid (show prs 0 [] ws = prs (i + 1) ((es ++ [(Value.slice ma ev.req.muts.length mc, Value.slice fa ev.req.fil.fams.length fc, ev)]).map (·.2.2)) (ws.drop (i + 1)) by rw [HX.out, HD.out, prs_good HNS.out hx, List.map_append]; rfl)
      have HE2 := Lib.hid (show (es ++ [(Value.slice ma ev.req.muts.length mc, Value.slice fa ev.req.fil.fams.length fc, ev)]).length ≤ i + 1 ∧ ∀ x ∈ es ++ [(Value.slice ma ev.req.muts.length mc, Value.slice fa ev.req.fil.fams.length fc, ev)], QG x.2.2.req from ⟨by have := HE.out.1; simp; omega, fun x hx => by
        rcases List.mem_append.1 hx with hx | hx
        · exact HE.out.2 x hx
        · have : x = _ := List.mem_singleton.1 hx
          rw [this]
          exact hqg⟩)
      have HEK := Lib.hid (show EvOk w5 u5.ownBlock (Value.slice ma ev.req.muts.length mc, Value.slice fa ev.req.fil.fams.length fc, ev) from ⟨hms, hfv, fun _ g h e => by have := (lms g h).1; have := (HO.out.lt g e).2; omega, fun _ g h e => by have := (lfv g h).1; have := (HO.out.lt g e).2; omega⟩)
      generalize ev.req.muts.length = mn at HX2 HE2 HEK ⊢
      generalize ev.req.fil.fams.length = fn at HX2 HE2 HEK ⊢
      have HO5 := Lib.hid (HO.out.below hb5)
      have HES := Lib.hid (show es.length + 1 ≤ 1000000 by have := HE.out.1; have := HN.out; omega)
      have HW5 := Lib.hid (HW3.out.trans (hb5.mono (by have := HSW.out; omega)))
      have HS5 := Lib.hid hb5.size
      clear hx hms hfv hqg lms lfv hb5 HO HW3 HX HE y1 y2
      have HK6 := Lib.hid (Bk.new w5 zE 39)
      have HX6 := Lib.hid (below_box (w := w5) zE 39)
      obtain ⟨W6, hW6⟩ : ∃ W, w5.alloc (.cells zE 39) = W := ⟨_, rfl⟩
      rw [hW6] at HK6 HX6
      go_wp2_with (first | (with_reducible show wpList _ _ _ ({ dst := _, op := Op.store 39 _ _, type := _, pos := _, after := _, guard := _ } :: _) _ _; refine wpList_store_all rfl 39 _ _ rfl w5.heap.size (ecells (.slice ma mn mc) (.slice fa fn fc) ev) rfl rfl 39 _ HK6.out 33 szE (nE _ _ _) rfl (ecells_one _ _ _ _ _ _ _) ?_; have HK7 := Lib.hid (HK6.out.row (ecells (.slice ma mn mc) (.slice fa fn fc) ev)); have HX7 := Lib.hid (below_row HX6.out (Nat.le_refl _) (ecells (.slice ma mn mc) (.slice fa fn fc) ev)); generalize World.setRow _ w5.heap.size _ = W7 at HK7 HX7 ⊢; clear hW6 HK6 HX6) | (with_reducible show wpList _ _ _ ({ dst := _, op := Op.load 39 _, type := _, pos := _, after := _, guard := _ } :: _) _ _; refine wpList_load_all rfl 39 _ rfl w5.heap.size rfl 39 (ecells (.slice ma mn mc) (.slice fa fn fc) ev) HK7.out 33 szE (nE _ _ _) ruE ?_) | (with_reducible show wpList _ _ _ ({ dst := _, op := Op.buildSlice _ _ _, type := _, pos := _, after := _, guard := _ } :: _) _ _; refine wpList_lit_e1 rfl _ rfl (Value.slice ma mn mc) (Value.slice fa fn fc) ev rfl ?_; have HN8 := Lib.hid (Bk.new W7 (elist [(Value.slice ma mn mc, Value.slice fa fn fc, ev)]).toArray 39); have HX8 := Lib.hid (HX7.out.trans ((below_box (w := W7) (elist [(Value.slice ma mn mc, Value.slice fa fn fc, ev)]).toArray 39).mono HX7.out.size)); generalize W7.heap.size = nb at HN8 ⊢; generalize W7.alloc (.cells (elist [(Value.slice ma mn mc, Value.slice fa fn fc, ev)]).toArray 39) = W8 at HN8 HX8 ⊢) | (at_builtin; refine wp_append_e rfl (.tmp 36) (.tmp 38) rfl (w1.heap.size + 1) u5 _ es [(Value.slice ma mn mc, Value.slice fa fn fc, ev)] rfl rfl ?o1 ?s1 ?l1 ?b1 ?_; (case o1 => exact HO5.out.below HX8.out); (case s1 => exact SrcE.blk HN8.out (fun x hx => by rw [List.mem_singleton.1 hx]; exact HEK.out.below HX8.out)); (case l1 => exact HES.out); (case b1 => have := HSW.out; have := HS5.out; have := HX8.out.size; omega); intro v9 w9 ho hb9 hg9; have HO9 := Lib.hid ho; have HW9 := Lib.hid ((HW5.out.trans (HX8.out.mono (by have := HSW.out; have := HS5.out; omega))).trans hb9); clear ho hb9 hg9))
      go_roundw
      case rel => exact ⟨i + 1, es ++ [(Value.slice ma mn mc, Value.slice fa fn fc, ev)], HN.out.1, by have := HN.out; go_num, HO9, HW9, HX2, HE2⟩
      case measure => have := HN.out; simp [intOf]; omega
    · have t1 : decide ((i : Int) < (L : Int)) = false := decide_eq_false (by omega)
      have HXE := Lib.hid (show parseE t = .ok (es.map (·.2.2)) by rw [HP.out, HX.out, List.drop_eq_nil_of_le (by rw [HLL.out]; omega)]; rfl)
      go_wp2
      go_ret3
      exact ⟨Or.inl ⟨es, _, HXE.out, rfl, HO.out.mono (by omega), HE.out.2, by have := HE.out.1; have := HLE.out; omega⟩, HBW.out⟩
end Go.Proofs.YtkogcobcjoojnaaGreatDoor.Fl

namespace Go.Proofs.YtkogcobcjoojnaaGreatDoor.Fl
open Go.RowKit Go.Maps
set_option linter.unusedVariables false
set_option linter.unusedSimpArgs false
/-- Words, a space ahead of each. -/
def sp (ws : List ByteArray) : ByteArray := ⟨(Lib.joinTail [32] (ws.map (·.data.toList))).toArray⟩
theorem ba_ext {a b : ByteArray} (h : a.data.toList = b.data.toList) : a = b := by
  cases a; cases b
  congr
  exact Array.toList_inj.1 h
end Go.Proofs.YtkogcobcjoojnaaGreatDoor.Fl

namespace Go.Proofs.YtkogcobcjoojnaaGreatDoor.Fl
open Go.RowKit Go.Maps
set_option linter.unusedVariables false
set_option linter.unusedSimpArgs false
def lvM : MutE := ⟨1, ⟨#[102]⟩, ⟨#[113]⟩, 1, 7, noB⟩
def lvQ : ReqE := ⟨1, ⟨#[97]⟩, noB, [lvM], noB, noB, 0, 0, noB, noFil⟩
def lvE : EvE := ⟨1, 0, 0, 0, 0, 0, 0, 1, 2, false, lvQ, noChg⟩
def lvD : EvE := ⟨6, 0, 0, 0, 0, 0, 0, 0, 0, true, noReq, noChg⟩
/-- ask 0 1 2 write "a" put f "q" 7 -/
def lvL : ByteArray := ⟨#[97, 115, 107, 32, 48, 32, 49, 32, 50, 32, 119, 114, 105, 116, 101, 32, 34, 97, 34, 32, 112, 117, 116, 32, 102, 32, 34, 113, 34, 32, 55]⟩
/-- .. and deliver 0 stays, each with its end -/
def lvS : ByteArray := ⟨#[97, 115, 107, 32, 48, 32, 49, 32, 50, 32, 119, 114, 105, 116, 101, 32, 34, 97, 34, 32, 112, 117, 116, 32, 102, 32, 34, 113, 34, 32, 55, 10, 100, 101, 108, 105, 118, 101, 114, 32, 48, 32, 115, 116, 97, 121, 115, 10]⟩
/-- # a, ask: each with its end -/
def lvB : ByteArray := ⟨#[35, 32, 97, 10, 97, 115, 107, 10]⟩
theorem itoa_digit (n : Nat) (h : n < 10) : Lib.itoa (n : Int) = [UInt8.ofNat (48 + n)] := by
  unfold Lib.itoa
  rw [if_neg (by omega)]
  show Lib.decDigits n = _
  rw [Lib.decDigits, dif_pos h]
theorem lv_right : rightV 1 7 noB = true := by decide +kernel
theorem lv_show7 : showV 1 7 noB = ⟨#[55]⟩ := by
  unfold showV
  rw [if_neg (by rw [lv_right]; decide), if_pos rfl, show (7 : Int) = ((7 : Nat) : Int) from rfl, itoa_digit 7 (by decide)]
  rfl
theorem lv_val : wVal 1 7 noB = ⟨#[55]⟩ := by
  unfold wVal
  rw [if_neg (by decide), lv_show7]
  rfl
theorem lv_num0 : wNum 0 = ⟨#[48]⟩ := by unfold wNum; rw [show (0 : Int) = ((0 : Nat) : Int) from rfl, itoa_digit 0 (by decide)]; rfl
theorem lv_num1 : wNum 1 = ⟨#[49]⟩ := by unfold wNum; rw [show (1 : Int) = ((1 : Nat) : Int) from rfl, itoa_digit 1 (by decide)]; rfl
theorem lv_num2 : wNum 2 = ⟨#[50]⟩ := by unfold wNum; rw [show (2 : Int) = ((2 : Nat) : Int) from rfl, itoa_digit 2 (by decide)]; rfl
theorem lv_told : told lvE = true := by decide +kernel
theorem lv_toldD : told lvD = true := by decide +kernel
theorem lv_words : wEv lvE = [⟨#[97, 115, 107]⟩, ⟨#[48]⟩, ⟨#[49]⟩, ⟨#[50]⟩, ⟨#[119, 114, 105, 116, 101]⟩, ⟨#[34, 97, 34]⟩, ⟨#[112, 117, 116]⟩, ⟨#[102]⟩, ⟨#[34, 113, 34]⟩, ⟨#[55]⟩] := by
  have h : wEv lvE = [⟨#[97, 115, 107]⟩, wNum 0, wNum 1, wNum 2, ⟨#[119, 114, 105, 116, 101]⟩, ⟨#[34, 97, 34]⟩, ⟨#[112, 117, 116]⟩, ⟨#[102]⟩, ⟨#[34, 113, 34]⟩, wVal 1 7 noB] := rfl
  rw [h, lv_num0, lv_num1, lv_num2, lv_val]
theorem lv_line : lineE lvE = lvL := by
  rw [line_told lv_told, lv_words]
  rfl
theorem lv_lineD : lineE lvD = ⟨#[100, 101, 108, 105, 118, 101, 114, 32, 48, 32, 115, 116, 97, 121, 115]⟩ := by
  have h : wEv lvD = [⟨#[100, 101, 108, 105, 118, 101, 114]⟩, wNum 0, ⟨#[115, 116, 97, 121, 115]⟩] := rfl
  rw [line_told lv_toldD, h, lv_num0]
  rfl
theorem lv_qg : QG lvE.req := qg_mk (k := 1) (row := ⟨#[97]⟩) (stop := noB) (fam := noB) (q := noB) (ms := [lvM]) vg_no fg_no (fun m h => by
  rcases List.mem_cons.1 h with rfl | h
  · exact ⟨by unfold Wf; decide, by decide⟩
  · cases h) (by decide)
theorem lv_read : readE lvL = some lvE := by
  rw [← lv_line]
  exact read_line lv_qg.n lv_told
theorem lv_ok : ∀ e ∈ [lvE, lvD], ReqW e.req ∧ told e = true := fun e h => by
  rcases List.mem_cons.1 h with rfl | h
  · exact ⟨lv_qg.n, lv_told⟩
  · rcases List.mem_cons.1 h with rfl | h
    · exact ⟨qg_no.n, lv_toldD⟩
    · cases h
theorem lv_cat : (cat ([lvE, lvD].map fun e => (lineE e).data.toList)).toArray = lvS.data := by
  show (cat [(lineE lvE).data.toList, (lineE lvD).data.toList]).toArray = _
  rw [lv_line, lv_lineD]
  rfl
theorem lv_show : showE [lvE, lvD] = lvS := by
  unfold showE
  rw [if_pos (by simp [lv_told, lv_toldD]), lv_cat]
theorem lv_all : [lvE, lvD].all told = true := by simp [lv_told, lv_toldD]
theorem lv_parse : parseE lvS = .ok [lvE, lvD] := by
  have h := parse_show lv_ok
  rw [lv_cat] at h
  exact h
theorem lv_ask : readE ⟨#[97, 115, 107]⟩ = none := by
  have h : rEv [⟨#[97, 115, 107]⟩] = none := by
    unfold rEv Pr.then
    rw [show rOne evN [⟨#[97, 115, 107]⟩] = some ((1 : Int), []) by decide]
    rfl
  unfold readE
  rw [show (Sc.spl 32 (⟨#[97, 115, 107]⟩ : ByteArray).data.toList).map (fun l => (⟨l.toArray⟩ : ByteArray)) = [⟨#[97, 115, 107]⟩] by decide, h]
theorem lv_bad : parseE lvB = .error 2 := by
  unfold parseE
  rw [show (linesOf lvB.data.toList).map (fun l => (⟨l.toArray⟩ : ByteArray)) = [⟨#[35, 32, 97]⟩, ⟨#[97, 115, 107]⟩] by decide]
  rw [prs_skip (Or.inr (by decide)), prs, if_neg (by decide), lv_ask]
end Go.Proofs.YtkogcobcjoojnaaGreatDoor.Fl
