/- Script: events as text are parsed again: the statement's walk. -/
import Derived.Test.YtkogcobcjoojnaaGreatDoorPN
import Derived.Test.YtkogcobcjoojnaaGreatDoorRows
import Derived.Lib.LaidTab
import Derived.Lib.LaidU8T
import Derived.PinnedBridge
import Derived.Lay
import Derived.Stop.LaidErr
import Derived.MakeChecks
import Derived.Handed
import Derived.ProofKit
import Derived.OpenShut
import Derived.SizedLaws
import Derived.Deep.Slices
namespace Go.Proofs.YtkogcobcjoojnaaGreatDoor.Fl
open Go.RowKit Go.Maps
set_option linter.unusedVariables false
set_option linter.unusedSimpArgs false
set_option maxRecDepth 100000 in
set_option maxHeartbeats 16000000 in
theorem scriptBack (w : World) (hg : Gv w) (v : Value) (es : List EvE) (rm : ByteArray) (at_ : Int) (ha : HasE w v es) (na : (v = .slice none 0 0) ∨ ∃ ad n c, v = .slice (some ad) n c ∧ n ≤ c) (qa : ∀ e ∈ es, QP e.req) (hrm : rm.size ≤ 140737488351232) :
    Calls Tryz.prog 3 #[v, .string rm, .int .i64 at_] w fun e w' => e = .returned (.bool true) ∧ Below w.heap.size w w' := by
  have szE := szE
  have HG := Lib.hid hg
  have HA := Lib.hid ha
  have HNA := Lib.hid na
  have HQA := Lib.hid qa
  have HRM := Lib.hid hrm
  obtain ⟨a0, c0, rfl⟩ := hasE_slice ha
  obtain ⟨N, hN⟩ : ∃ N, es.length = N := ⟨_, rfl⟩
  have HNN := Lib.hid hN
  rw [hN] at HA HNA ⊢
  clear hg ha na qa hN hrm
  go_enter Tryz.func3, Tryz.ntmps3
  go_wp2_with fail
  refine (c_lalive w HG.out).mono ?_
  rintro e w1 ⟨rfl, hb⟩
  have HW1 := Lib.hid hb
  clear hb
  go_wp2_with fail
  refine (c_Great es _ w1 (HA.out.keep HW1.out)).mono ?_
  rintro e w2 ⟨⟨ga, rfl, hga⟩, hb⟩
  have HW2 := Lib.hid (HW1.out.trans (hb.mono HW1.out.size))
  have HGA := Lib.hid hga
  clear hb hga
  cases ga
  case true =>
    go_wp2
    go_ret
    exact ⟨rfl, HW2.out⟩
  have HEA := Lib.hid (show N ≤ 150 ∧ ∀ e ∈ es, QG e.req from ⟨by have := (HGA.out (by trivial)).1; have := HNN.out; omega, fun e he => (HQA.out e he).qg ((HGA.out (by trivial)).2 e he).1 ((HGA.out (by trivial)).2 e he).2⟩)
  clear HGA HQA HW1
  by_cases hr1 : 100 < (rm.size : Int)
  case pos =>
    have t0 : decide (100 < (rm.size : Int)) = true := decide_eq_true hr1
    go_wp2
    go_ret
    exact ⟨rfl, HW2.out⟩
  have t0 : decide (100 < (rm.size : Int)) = false := decide_eq_false hr1
  have HR := Lib.hid (show rm.size ≤ 100 by omega)
  clear hr1
  go_wp2
  clear t0
  go_loopw [7] (fun v7 W => ∃ i : Nat, i ≤ rm.size ∧ v7 = .int .i64 i ∧ Hid (∀ x ∈ (byt rm).take i, ¬ x = 10) ∧ W = w2) (fun v7 _ => rm.size - (intOf v7).toNat)
  case atStart => exact ⟨0, Nat.zero_le _, rfl, Lib.hid (fun x hx => by simp at hx), rfl⟩
  case round =>
    obtain ⟨i, hi2, rfl, HI, rfl⟩ := hrel
    by_cases hlt : i < rm.size
    · have t1 : decide ((i : Int) < (rm.size : Int)) = true := decide_eq_true (by omega)
      have hk2 : (i : Int) ≤ 100 := by have := HR.out; omega
      have x0 := str_at rm i hlt
      have HTK := Lib.hid (show (byt rm).take (i + 1) = (byt rm).take i ++ [(byt rm).getD i 0] by
        have hl : i < (byt rm).length := by rw [byt_len]; exact hlt
        rw [List.take_succ_eq_append_getElem hl]
        simp [List.getD, hl])
      generalize (byt rm).getD i 0 = p at x0 HTK
      have HN1 := Lib.hid (show i + 1 ≤ rm.size ∧ i ≤ 100 by have := HR.out; omega)
      by_cases hp : p = 10
      · subst hp
        go_wp2
        go_ret
        exact ⟨rfl, HW2.out⟩
      · have t2 : (p == 10) = false := by simpa using hp
        have HI2 := Lib.hid (show ∀ x ∈ (byt rm).take (i + 1), ¬ x = 10 from fun x hx => by
          rw [HTK.out] at hx
          rcases List.mem_append.1 hx with hx | hx
          · exact HI.out x hx
          · rw [List.mem_singleton.1 hx]; exact hp)
        clear hp
        go_wp2
        go_roundw
        case rel => exact ⟨i + 1, HN1.out.1, by have := HN1.out; go_num, HI2, by trivial⟩
        case measure => have := HN1.out; simp [intOf]; omega
    have t1 : decide ((i : Int) < (rm.size : Int)) = false := decide_eq_false (by omega)
    have H10 := Lib.hid (show ∀ b ∈ rm.data.toList, ¬ b = 10 from fun b hb e => by
      have hx := HI.out
      rw [List.take_of_length_le (by rw [byt_len]; omega)] at hx
      exact hx 10 (by unfold byt; exact List.mem_map.2 ⟨b, hb, by rw [e]; rfl⟩) rfl)
    clear HI
    go_wp2_with fail
    clear t1 hlt hi2
    refine (c_Show (HG.out.below HW2.out) es _ (HA.out.keep HW2.out) HEA.out.2 (by have := HEA.out.1; have := HNN.out; omega)).mono ?_
    rintro e w3 ⟨rfl, hb⟩
    have HW3 := Lib.hid (HW2.out.trans (hb.mono HW2.out.size))
    clear hb HW2
    have HAT := Lib.hid (show es.all told = false → showE es = noB from fun h => showE_no (by rw [h]; decide))
    have HEV := Lib.hid (show es.all told = true → Evs es from fun h => ⟨HEA.out.2, h⟩)
    have HALL := Lib.hid (show ∀ (j : Nat) e, es[j]? = some e → told e = false → es.all told = false from fun j e hj he => by
      cases hq : es.all told with
      | false => rfl
      | true => have := List.all_eq_true.1 hq e (List.mem_of_getElem? hj); rw [he] at this; cases this)
    have HAL2 := Lib.hid (show (∀ e ∈ es.take N, told e = true) → es.all told = true from fun h => by
      rw [List.take_of_length_le (by rw [HNN.out]; exact Nat.le_refl _)] at h
      exact List.all_eq_true.2 h)
    have HRMT := Lib.hid (fun (h : es.all told = true) => ok_rem ⟨HEA.out.2, h⟩ (by have := HEA.out.1; have := HNN.out; omega) rm H10.out HR.out)
    generalize es.all told = ok at HAT HEV HALL HAL2 HRMT ⊢
    generalize showE es = s at HAT HRMT ⊢
    go_wp2
    go_loopw [10] (fun v10 W => ∃ i : Nat, i ≤ N ∧ v10 = .int .i64 i ∧ Hid (Below w3.heap.size w3 W) ∧ Hid (∀ e ∈ es.take i, told e = true)) (fun v10 _ => N - (intOf v10).toNat)
    case atStart => exact ⟨0, Nat.zero_le _, rfl, Lib.hid (Below.refl _ _), Lib.hid (fun x hx => by simp at hx)⟩
    case round =>
      obtain ⟨i, hi2, rfl, HB, HT⟩ := hrel
      by_cases hlt : i < N
      · have t1 : decide ((i : Int) < (N : Int)) = true := decide_eq_true (by omega)
        have hk0 : (0 : Int) ≤ (i : Int) := by omega
        have hk1 : (i : Int) < (N : Int) := by omega
        have hk2 : (i : Int) ≤ 150 := by have := HEA.out.1; omega
        obtain ⟨ev, hev⟩ : ∃ ev, es[i]? = some ev := ⟨_, List.getElem?_eq_getElem (by rw [HNN.out]; exact hlt)⟩
        have HQE := Lib.hid (HEA.out.2 ev (List.mem_of_getElem? hev))
        have HTK := Lib.hid (show es.take (i + 1) = es.take i ++ [ev] by rw [List.take_add_one, hev]; rfl)
        have HWB := Lib.hid (HW3.out.trans (HB.out.mono HW3.out.size))
        obtain ⟨b0, o, ma, mc, fa, fc, rfl, hr, hm, hf⟩ := (HA.out.keep HWB.out).elem hev
        have HR0 := Lib.hid hr
        have HM := Lib.hid hm
        have HF := Lib.hid hf
        have HNX := Lib.hid (show i + 1 ≤ N ∧ i ≤ 150 by have := HEA.out.1; omega)
        have HBAD := Lib.hid (HALL.out i ev hev)
        clear hev hr hm hf hlt
        go_wp2_with (with_reducible show wpList _ _ _ ({ dst := _, op := Op.load 39 _, type := _, pos := _, after := _, guard := _ } :: _) _ _; refine wpList_load_at rfl 39 _ rfl b0 (o + i * 33) rfl (ecells (.slice ma ev.req.muts.length mc) (.slice fa ev.req.fil.fams.length fc) ev) HR0.out 33 szE (nE _ _ _) ruE ?_)
        refine (c_Told (HG.out.below HWB.out) ma mc fa fc ev (HQE.out.qw HM.out HF.out)).mono ?_
        rintro e w4 ⟨rfl, hb⟩
        have HB4 := Lib.hid (HB.out.trans (hb.mono HB.out.size))
        have HW4 := Lib.hid (HWB.out.trans (hb.mono HWB.out.size))
        clear hb
        cases ht : told ev
        case false =>
          have HOK := Lib.hid (HBAD.out ht)
          obtain rfl := HOK.out
          have hz : s.toList.isEmpty = true := by rw [isE, HAT.out (by trivial)]; rfl
          clear ht
          go_wp2
          go_ret
          exact ⟨rfl, HW4.out⟩
        case true =>
          have HT4 := Lib.hid (show ∀ e ∈ es.take (i + 1), told e = true from fun x hx => by
            rw [HTK.out] at hx
            rcases List.mem_append.1 hx with hx | hx
            · exact HT.out x hx
            · rw [List.mem_singleton.1 hx]; exact ht)
          clear ht
          go_wp2
          go_roundw
          case rel => exact ⟨i + 1, HNX.out.1, by have := HNX.out; go_num, HB4, HT4⟩
          case measure => have := HNX.out; simp [intOf]; omega
      have t1 : decide ((i : Int) < (N : Int)) = false := decide_eq_false (by omega)
      have hiN : i = N := by omega
      have HOK := Lib.hid (show ok = true from HAL2.out (by rw [← hiN]; exact HT.out))
      obtain rfl := HOK.out
      have HW5 := Lib.hid (HW3.out.trans (HB.out.mono HW3.out.size))
      have HEV2 := Lib.hid (HEV.out (by trivial))
      have HPL := Lib.hid (HRMT.out (by trivial))
      have hsz := HPL.out.1.size
      unfold remT at hsz
      rw [ByteArray.size_append, ByteArray.size_append, ByteArray.size_append] at hsz
      have e2 : (⟨#[10, 35]⟩ : ByteArray).size = 2 := rfl
      have e1 : (⟨#[10]⟩ : ByteArray).size = 1 := rfl
      have hs1 : ¬ 9223372036854775807 < 2 + rm.size := by omega
      have hs2 : ¬ 9223372036854775807 < 2 + rm.size + 1 := by omega
      have hs3 : ¬ 9223372036854775807 < 2 + rm.size + 1 + s.size := by omega
      clear HB HT HW3 HAT HALL HAL2 HRMT HEV hiN hsz e1 e2 hi2
      go_wp2_with fail
      clear t1 hs1 hs2 hs3
      refine (c_Parse (HG.out.below HW5.out) (remT rm s) HPL.out.1).mono ?_
      rintro e w6 ⟨⟨es2, v6, hx, rfl, ho, _, _⟩ | ⟨n, hx, rfl⟩, hb⟩
      case inr => rw [HPL.out.2] at hx; cases hx
      rw [HPL.out.2] at hx
      have hes := Except.ok.inj hx
      have HE6 := Lib.hid (show HasE w6 v6 es by rw [hes]; exact ho.has)
      have HW6 := Lib.hid (HW5.out.trans (hb.mono HW5.out.size))
      have HA6 := Lib.hid (HA.out.keep HW6.out)
      clear hx hes ho hb HW5 HPL
      obtain ⟨p1, k1, rfl⟩ := hasE_slice HE6.out
      rw [HNN.out] at HE6 ⊢
      go_wp2
      go_loopw [14] (fun v14 W => ∃ i : Nat, i ≤ N ∧ v14 = .int .i64 i ∧ Hid (Below w6.heap.size w6 W)) (fun v14 _ => N - (intOf v14).toNat)
      case atStart => exact ⟨0, Nat.zero_le _, rfl, Lib.hid (Below.refl _ _)⟩
      case round =>
        obtain ⟨i, hi2, rfl, HB⟩ := hrel
        by_cases hlt : i < N
        · have t1 : decide ((i : Int) < (N : Int)) = true := decide_eq_true (by omega)
          have hk0 : (0 : Int) ≤ (i : Int) := by omega
          have hk1 : (i : Int) < (N : Int) := by omega
          have hk2 : (i : Int) ≤ 150 := by have := HEA.out.1; omega
          obtain ⟨ev, hev⟩ : ∃ ev, es[i]? = some ev := ⟨_, List.getElem?_eq_getElem (by rw [HNN.out]; exact hlt)⟩
          have HQE := Lib.hid (HEA.out.2 ev (List.mem_of_getElem? hev))
          have HWD := Lib.hid (HB.out.drew)
          obtain ⟨b1, o1, m1, c1, f1, d1, rfl, hr1, hm1, hf1⟩ := (HE6.out.keep HWD.out).elem hev
          obtain ⟨b2, o2, m2, c2, f2, d2, rfl, hr2, hm2, hf2⟩ := (HA6.out.keep HWD.out).elem hev
          have HR1 := Lib.hid hr1
          have HM1 := Lib.hid hm1
          have HF1 := Lib.hid hf1
          have HR2 := Lib.hid hr2
          have HM2 := Lib.hid hm2
          have HF2 := Lib.hid hf2
          have HNX := Lib.hid (show i + 1 ≤ N ∧ i ≤ 300 by have := HEA.out.1; omega)
          clear hev hr1 hm1 hf1 hr2 hm2 hf2 hlt
          go_wp2_with fail
          refine wp_region_held_drew (S := fun X => X.rangeAt b1 (o1 + i * 33) (ecells (.slice m1 ev.req.muts.length c1) (.slice f1 ev.req.fil.fams.length d1) ev).toList ∧ X.rangeAt b2 (o2 + i * 33) (ecells (.slice m2 ev.req.muts.length c2) (.slice f2 ev.req.fil.fams.length d2) ev).toList) (by kernel_rfl) ⟨HR1.out, HR2.out⟩ (fun hHeld => ?_)
          refine tk 0 (v := ?v_1) ?y1 ?_; (case y1 => (refine Or.inl ⟨by rfl, ?_⟩; intro w hSw; go_simp; first | done | with_reducible rfl)); (try simp only [Act.put, List.setIfInBounds_toArray, List.set_cons_zero, List.set_cons_succ])
          refine tk 1 (v := ?v_2) ?y2 ?_; (case y2 => (refine Or.inl ⟨by rfl, ?_⟩; intro w hSw; go_simp; first | done | with_reducible rfl)); (try simp only [Act.put, List.setIfInBounds_toArray, List.set_cons_zero, List.set_cons_succ])
          refine tk 2 (v := ?v_3) ?y3 ?_; (case y3 => (refine Or.inl ⟨by rfl, ?_⟩; intro w hSw; go_simp; first | done | with_reducible rfl)); (try simp only [Act.put, List.setIfInBounds_toArray, List.set_cons_zero, List.set_cons_succ])
          refine tk 3 (v := .agg (ecells (.slice m1 ev.req.muts.length c1) (.slice f1 ev.req.fil.fams.length d1) ev)) ?y4 ?_; (case y4 => exact yl_at (by rfl) 39 _ rfl b1 (o1 + i * 33) rfl (ecells (.slice m1 ev.req.muts.length c1) (.slice f1 ev.req.fil.fams.length d1) ev) (fun _ h => h.1) 33 szE (nE _ _ _) ruE); (try simp only [Act.put, List.setIfInBounds_toArray, List.set_cons_zero, List.set_cons_succ])
          refine tk 4 (v := ?v_5) ?y5 ?_; (case y5 => (refine Or.inl ⟨by rfl, ?_⟩; intro w hSw; go_simp; first | done | with_reducible rfl)); (try simp only [Act.put, List.setIfInBounds_toArray, List.set_cons_zero, List.set_cons_succ])
          refine tk 5 (v := ?v_6) ?y6 ?_; (case y6 => (refine Or.inl ⟨by rfl, ?_⟩; intro w hSw; go_simp; first | done | with_reducible rfl)); (try simp only [Act.put, List.setIfInBounds_toArray, List.set_cons_zero, List.set_cons_succ])
          refine tk 6 (v := ?v_7) ?y7 ?_; (case y7 => (refine Or.inl ⟨by rfl, ?_⟩; intro w hSw; go_simp; first | done | with_reducible rfl)); (try simp only [Act.put, List.setIfInBounds_toArray, List.set_cons_zero, List.set_cons_succ])
          refine tk 7 (v := .agg (ecells (.slice m2 ev.req.muts.length c2) (.slice f2 ev.req.fil.fams.length d2) ev)) ?y8 ?_; (case y8 => exact yl_at (by rfl) 39 _ rfl b2 (o2 + i * 33) rfl (ecells (.slice m2 ev.req.muts.length c2) (.slice f2 ev.req.fil.fams.length d2) ev) (fun _ h => h.2) 33 szE (nE _ _ _) ruE); (try simp only [Act.put, List.setIfInBounds_toArray, List.set_cons_zero, List.set_cons_succ])
          refine wpAnyH_ready (rs := [8]) (by kernel_rfl) (by simp) ?_; refine AllReadyH.cons (o := ?o_9) ?hi_9 (fun K hK => ?_) AllReadyH.nil; (case hi_9 => (simp only [List.getElem?_toArray, List.getElem?_cons_zero, List.getElem?_cons_succ]; rfl)); go_simp; (go_at_call 12; (refine (c_Same ev m1 c1 f1 d1 m2 c2 f2 d2 HM1.out HF1.out HM2.out HF2.out HQE.out.ml HQE.out.fl).mono ?_; rintro e w8 ⟨rfl, hb⟩; have HW8 := Lib.hid (HWD.out.trans (hb.mono HWD.out.size)); have HS8 := Lib.hid (And.intro (range_keep HR1.out hb) (range_keep HR2.out hb)); clear hb)); refine hK.out _ _ ?_ (fun hHeld => ?_); (· exact HS8.out); clear hK K; (try simp only [Act.put, List.setIfInBounds_toArray, List.set_cons_zero, List.set_cons_succ])
          refine tk 9 (v := ?v_10) ?y10 ?_; (case y10 => (refine Or.inl ⟨by rfl, ?_⟩; intro w hSw; go_simp; first | done | with_reducible rfl)); (try simp only [Act.put, List.setIfInBounds_toArray, List.set_cons_zero, List.set_cons_succ])
          refine wpAnyH_done (by kernel_rfl) ?_ _
          go_wp2
          go_roundw
          case rel => exact ⟨i + 1, HNX.out.1, by have := HNX.out; go_num, HW8⟩
          case measure => have := HNX.out; simp [intOf]; omega
        have t1 : decide ((i : Int) < (N : Int)) = false := decide_eq_false (by omega)
        have HW7 := Lib.hid (HW6.out.trans (HB.out.mono HW6.out.size))
        have HA7 := Lib.hid (HA6.out.keep HB.out)
        clear HB HW6 HA6 HE6
        by_cases n0 : at_ < 0
        case pos =>
          have t2 : decide (at_ < 0) = true := decide_eq_true n0
          go_wp2
          go_ret
          exact ⟨rfl, HW7.out⟩
        have t2 : decide (at_ < 0) = false := decide_eq_false n0
        by_cases n1 : (N : Int) < at_
        case pos =>
          have t3 : decide ((N : Int) < at_) = true := decide_eq_true n1
          go_wp2
          go_ret
          exact ⟨rfl, HW7.out⟩
        have t3 : decide ((N : Int) < at_) = false := decide_eq_false n1
        obtain ⟨k, rfl⟩ : ∃ k : Nat, at_ = k := ⟨at_.toNat, by omega⟩
        have HK := Lib.hid (show k ≤ N by omega)
        have HQT := Lib.hid (show Evs (es.take k) ∧ Evs (es.drop k) from ⟨HEV2.out.sub (fun e he => List.mem_of_mem_take he), HEV2.out.sub (fun e he => List.mem_of_mem_drop he)⟩)
        have HTL := Lib.hid (show (es.take k).length = k ∧ (es.drop k).length = N - k from ⟨by rw [List.length_take, HNN.out]; have := HK.out; omega, by rw [List.length_drop, HNN.out]⟩)
        have HCC := Lib.hid (show N ≤ c0 by
          rcases HNA.out with h | ⟨ad, n, c, h, hc⟩
          · have h1 : N = 0 := by injection h
            omega
          · have h1 : N = n := by injection h
            have h2 : c0 = c := by injection h
            omega)
        have HTK := Lib.hid (HA7.out.takeE HNN.out HK.out)
        have HDP := Lib.hid (HA7.out.dropE HNN.out HK.out HCC.out)
        have ch := fun W => run_cut_hi W a0 N c0 k (by have := HK.out; have := HCC.out; omega)
        have cl := fun W => run_cut_lo W a0 N c0 k HK.out
        have HQ2 := Lib.hid (show (∀ e ∈ es.take k, QG e.req) ∧ (∀ e ∈ es.drop k, QG e.req) from ⟨HQT.out.1.1, HQT.out.2.1⟩)
        have HAK := Lib.hid (ok_ask HQT.out.1 HQT.out.2 (by have := HTL.out; have := HEA.out.1; omega) rm H10.out HR.out)
        generalize (if c0 = k then a0 else a0.map (fun x => x.add (k * 33))) = a9 at HDP cl
        have n2 : ¬ N < k := by have := HK.out; omega
        have n3 : ¬ (N : Int) < (k : Int) := by omega
        have n4 : (0 : Int) ≤ (k : Int) := by omega
        clear HA7 HNA HNN
        go_wp2_with (with_reducible show wpList _ _ _ ({ dst := _, op := Op.slice _ _ _ _ _, type := _, pos := _, after := _, guard := _ } :: _) _ _; refine wpList_cut rfl _ none (some (.tmp 114)) rfl (.slice a0 k c0) (ch _) ?_)
        refine (c_Show (HG.out.below HW7.out) (es.take k) _ HTK.out HQ2.out.1 (by have := HTL.out; have := HEA.out.1; have := HK.out; omega)).mono ?_
        rintro e w8 ⟨rfl, hb⟩
        have HW8 := Lib.hid (HW7.out.trans (hb.mono HW7.out.size))
        have HD8 := Lib.hid (HDP.out.keep hb)
        clear hb HW7 HDP HTK t2 t3
        go_wp2_with (with_reducible show wpList _ _ _ ({ dst := _, op := Op.slice _ _ _ _ _, type := _, pos := _, after := _, guard := _ } :: _) _ _; refine wpList_cut rfl _ (some (.tmp 121)) none rfl (.slice a9 (N - k) (c0 - k)) (cl _) ?_)
        refine (c_Show (HG.out.below HW8.out) (es.drop k) _ HD8.out HQ2.out.2 (by have := HTL.out; have := HEA.out.1; have := HK.out; omega)).mono ?_
        rintro e w9 ⟨rfl, hb⟩
        have HW9 := Lib.hid (HW8.out.trans (hb.mono HW8.out.size))
        clear hb HW8 HD8 ch cl
        rw [HTL.out.1] at HAK
        generalize showE (es.take k) = sa at HAK ⊢
        generalize showE (es.drop k) = sb at HAK ⊢
        have hsz := HAK.out.1.size
        unfold askT at hsz
        rw [ByteArray.size_append, ByteArray.size_append, ByteArray.size_append, ByteArray.size_append] at hsz
        have e2 : (⟨#[63]⟩ : ByteArray).size = 1 := rfl
        have e1 : (⟨#[10]⟩ : ByteArray).size = 1 := rfl
        have hs1 : ¬ 9223372036854775807 < sa.size + 1 := by omega
        have hs2 : ¬ 9223372036854775807 < sa.size + 1 + rm.size := by omega
        have hs3 : ¬ 9223372036854775807 < sa.size + 1 + rm.size + 1 := by omega
        have hs4 : ¬ 9223372036854775807 < sa.size + 1 + rm.size + 1 + sb.size := by omega
        clear hsz e1 e2
        go_wp2_with fail
        clear hs1 hs2 hs3 hs4
        refine (c_Parse (HG.out.below HW9.out) (askT sa rm sb) HAK.out.1).mono ?_
        rintro e w10 ⟨⟨es2, v6, hx, rfl, ho, _, _⟩ | ⟨n, hx, rfl⟩, hb⟩
        case inl => rw [HAK.out.2] at hx; cases hx
        rw [HAK.out.2] at hx
        obtain rfl := Except.error.inj hx
        have HW10 := Lib.hid (HW9.out.trans (hb.mono HW9.out.size))
        have hkb : (k : Int) ≤ 150 := by have := HK.out; have := HEA.out.1; omega
        clear hb hx HW9 HAK
        go_wp2
        go_ret
        exact ⟨rfl, HW10.out⟩
end Go.Proofs.YtkogcobcjoojnaaGreatDoor.Fl

namespace Go.Proofs.YtkogcobcjoojnaaGreatDoor.Fl
open Go.RowKit Go.Maps
set_option linter.unusedVariables false
theorem row82 (u : TypeId) (h : Tryz.prog.typeName? 3 u = some "*errors.errorString") : u = 205 := typeName_ptr_named (nm := "errors.errorString") (by kernel_rfl) (by kernel_rfl) (by decide) u (show Tryz.prog.typeName? 3 u = some ("*" ++ "errors.errorString") from h)
theorem gl_of_laid {W : World} (h : laidMetH Tryz.prog Rows.scriptBackRow.laid W) (hs : W.ShapedOpen Tryz.prog) : Gv W := by
  rw [MakeChecks.laidMetH_plain _ _ _ (by kernel_rfl)] at h
  have h1 := laidMet.tail h
  have hT := Lib.tabIs_of_head (P := Tryz.prog) (k := .u8) (g := 7) (t := 216) (e := 5) (n := 64) (zs := [0, 1, 56, 2, 57, 49, 28, 3, 61, 58, 42, 50, 38, 29, 17, 4, 62, 47, 59, 36, 45, 43, 51, 22, 53, 39, 33, 30, 24, 18, 12, 5, 63, 55, 48, 27, 60, 41, 37, 16, 46, 35, 44, 21, 52, 32, 23, 11, 54, 26, 40, 15, 34, 20, 31, 10, 25, 14, 19, 9, 13, 8, 7, 6]) (by kernel_rfl) (by kernel_rfl) Tryz.underlying216 Tryz.underlying5 (by kernel_rfl) (by kernel_rfl) h1
  have h2 := laidMet.tail h1
  have e10 : (Rows.laid_internal_strconv_uint64pow10 : DataW Unit) = Lib.tabData .u64 Lib.pow10Tab := by kernel_rfl
  have hP := Lib.tabIs_of_head (P := Tryz.prog) (k := .u64) (g := 5) (t := 199) (e := 134) (n := 20) (zs := Lib.pow10Tab) (name := "internal/strconv.uint64pow10") (by kernel_rfl) (by kernel_rfl) Tryz.underlying199 Tryz.underlying134 (by kernel_rfl) (by kernel_rfl) (by rw [← e10]; exact h2)
  have h3 := laidMet.tail (laidMet.tail h2)
  obtain ⟨a0, s0, hv0, _, _, _⟩ := laid_sentinel (P := Tryz.prog) (g := 4) (ti := 62) (tp := 205) (te := 207) (ts := 9) h3 (by kernel_rfl) (by kernel_rfl) Tryz.underlying62 row82 Tryz.underlying205 Tryz.underlying207 rfl rfl Tryz.underlying9 (by kernel_rfl) (by kernel_rfl)
  have h4 := laidMet.tail h3
  obtain ⟨a1, s1, hv1, _, _, _⟩ := laid_sentinel (P := Tryz.prog) (g := 3) (ti := 62) (tp := 205) (te := 207) (ts := 9) h4 (by kernel_rfl) (by kernel_rfl) Tryz.underlying62 row82 Tryz.underlying205 Tryz.underlying207 rfl rfl Tryz.underlying9 (by kernel_rfl) (by kernel_rfl)
  have c := hT.cell (g := 7) (by kernel_rfl) 15 (by decide)
  have c0 := World.var?_cell (P := Tryz.prog) (g := 4) (by kernel_rfl) hv0 0
  have c1 := World.var?_cell (P := Tryz.prog) (g := 3) (by kernel_rfl) hv1 0
  have ea : Rows.laid_unicode_utf8_acceptRanges = Lib.acceptData := by kernel_rfl
  have ef : Rows.laid_unicode_utf8_first = Lib.firstData := Pinned.utf8First_eq
  have r3 : Lib.VarReads Tryz.prog W "unicode/utf8.first" Lib.firstData := by
    rw [← ef]
    exact Lib.laidMet.reads h (by simp [Rows.scriptBackRow])
  have r4 : Lib.VarReads Tryz.prog W "unicode/utf8.acceptRanges" Lib.acceptData := by
    rw [← ea]
    exact Lib.laidMet.reads h (by simp [Rows.scriptBackRow])
  have hU := utf8Tabs_of_readsT (U8Types.of196 Tryz.lays196) ⟨by kernel_rfl, by kernel_rfl, by kernel_rfl, by kernel_rfl, by kernel_rfl, by kernel_rfl, by kernel_rfl⟩ r3 r4
  have hM := Tryz.laysM138.s1_3 W hs
  exact ⟨⟨c, ⟨_, _, c1⟩, ⟨_, _, c0⟩⟩, hP, hU, hM⟩
open Go.ChangeShapes Go.WideShapes Go.ChangeAt
theorem weights_of {H : Type} {P : Program} {ts : List TypeId} {ds : List (DataW H)} (h : (DataW.weightsEach P ts ds).all (· ≤ reachBytes) = true) {j : Nat} {t : TypeId} {d : DataW H} (ht : ts[j]? = some t) (hd : ds[j]? = some d) : ∀ n ∈ d.weights P t, n ≤ 140737488351232 := fun n hn =>
  of_decide_eq_true (List.all_eq_true.1 h n (DataW.weights_mem_each ht hd n hn))
/-- The row's builder, with a condition and the world's shape. -/
theorem returns_laid_shaped {H : Type} {enc : TypeId × Value → H} {a : Assume} {C : Checked} {os : Os} {f : FuncId} {fn : Func} {s : ChangeSpec} {conds : List PathCond} {apart fresh handsOn again : Bool} {X : World → Array Value → Prop}
    (hX : ∀ (w w' : World) (args : Array Value), w.heap = w'.heap → X w args → X w' args) (own : ownKnob C.prog.godebug = none) (started : os.Started) (noInit : C.prog.inits.idxOf? f = none) (hfn : C.prog.funcs[f]? = some fn)
    (witness : ∃ (w : World) (tape : Tape) (i : Input), w.os = os ∧ (w.forCall tape i).Shaped C.prog ∧ i.vars = [] ∧ Input.okWide C.prog (w.forCall tape i) .any w.heap.size f i ∧ ((s.pre enc C.prog fn conds apart (w.forCall tape i).memory i.args ∧ X (w.forCall tape i).memory i.args) ∧ sizedMet enc C.prog fn (OpenSpec.ofChange s) apart (w.forCall tape i).memory i.args) ∧ a.holds C.prog (lone (Frame.enter C.prog f i.args .normal) [] (w.forCall tape i)))
    (body : ∀ (W : World) (base : Nat) (args : Array Value) (ds gs : List (DataW H)) (before : List MemPlace), (∀ (j : Nat) t v, fn.params[j]? = some t → args[j]? = some v → Value.okWide C.prog W .any base t v) → DataW.Whole enc C.prog fn.params.toList s.vars apart W args.toList ds gs before →
      (DataW.weightsEach C.prog (fn.params.toList ++ s.plain.varTypes C.prog) (ds ++ gs)).all (· ≤ reachBytes) = true → X W args → W.ShapedOpen C.prog → Calls C.prog f args W fun e W' => ∃ v, e = .returned v ∧ s.post enc C.prog fn apart fresh handsOn again W args v W') :
    ReturnsInHanded a C os f .any (fun w args => (s.pre enc C.prog fn conds apart w args ∧ X w args) ∧ sizedMet enc C.prog fn (OpenSpec.ofChange s) apart w args) (s.post enc C.prog fn apart fresh handsOn again) := by
  refine returnsInHanded_of_calls own started noInit witness (fun w tape i _ hshape _ hok hp _ => ?_)
  rcases hok with ⟨_, _, _, fn2, hfn2, _, _, _, _, hv⟩
  cases Option.some.inj (hfn2.symm.trans hfn)
  rcases hp with ⟨⟨⟨ds, gs, b, hw, _⟩, hx⟩, hz⟩
  have h2 := DataW.Whole.of_heap (w' := w.forCall tape i) (by rfl) hw
  refine (body _ _ _ _ _ _ hv h2 (hz.weights hw) (hX _ _ _ (by rfl) hx) hshape).mono ?_
  rintro e W' ⟨v, rfl, hpost⟩
  exact ChangeSpec.post_blind hpost
end Go.Proofs.YtkogcobcjoojnaaGreatDoor.Fl

namespace Go.Proofs.YtkogcobcjoojnaaGreatDoor.Fl
open Go.RowKit Go.Maps Go.ChangeShapes Go.WideShapes Go.ChangeAt Go.Deep
set_option linter.unusedVariables false
/-- How many cells, and what they read as. -/
structure Rk (α : Type) where
  sz : Nat
  K : World → α → List Value → Prop
def Rk.int (k : IntKind) : Rk Int := ⟨1, fun _ n cs => cs = [.int k n]⟩
def Rk.bool : Rk Bool := ⟨1, fun _ b cs => cs = [.bool b]⟩
def Rk.string : Rk ByteArray := ⟨1, fun _ s cs => cs = [.string s]⟩
def Rk.pair {α β : Type} (a : Rk α) (b : Rk β) : Rk (α × β) := ⟨a.sz + b.sz, fun W x cs => ∃ c0 c1, cs = c0 ++ c1 ∧ a.K W x.1 c0 ∧ b.K W x.2 c1⟩
def Rk.iso {α β : Type} (d : Rk β) (f : α → β) : Rk α := ⟨d.sz, fun W x cs => d.K W (f x) cs⟩
def Rk.slice {α : Type} (d : Rk α) : Rk (List α) := ⟨1, fun W l cs => ∃ A c, cs = [.slice A l.length c] ∧ ((A = none ∧ c = 0 ∧ l = []) ∨ (∃ ad, A = some ad ∧ l.length ≤ c)) ∧ ∀ i x, l[i]? = some x → ∃ ad cs', A = some ad ∧ cs'.length = d.sz ∧ d.K W x cs' ∧ ∀ j u, cs'[j]? = some u → W.cell? (ad.add (i * d.sz + j)) = some u⟩
/-- The cells of type T read as d says, of which G holds. -/
structure OpensR {α : Type} (P : Program) (T : TypeId) (d : Rk α) (G : α → Prop) : Prop where
  size : P.cellsOf T = d.sz
  reads : ∀ {H : Type} {enc : TypeId × Value → H} {W : World} {fuel : Nat} {cs : List Value} {x : DataW H × List MemPlace}, DataW.trod enc P W 0 (fun _ => true) true fuel T cs = some x → (∀ n ∈ x.1.weights P T, n ≤ 140737488351232) → ∃ a, d.K W a cs ∧ G a
theorem add_addE (a : Addr) (i j : Nat) : (a.add i).add j = a.add (i + j) := by
  unfold Addr.add
  by_cases hi : i = 0 <;> by_cases hj : j = 0 <;> simp [hi, hj, Nat.add_assoc]
namespace OpensR
variable {P : Program} {T : TypeId}
theorem int {k : IntKind} (hu : P.underlying T = some (.int k)) (hc : P.cellsOf T = 1) : OpensR P T (Rk.int k) (fun x => (Lit.int k x).wf = true) :=
  ⟨hc, fun h _ => by
    obtain ⟨n, rfl, _, hw⟩ := DataW.trod_int hu h
    exact ⟨n, rfl, hw⟩⟩
theorem bool (hu : P.underlying T = some .bool) (hc : P.cellsOf T = 1) : OpensR P T Rk.bool (fun _ => True) :=
  ⟨hc, fun h _ => by
    obtain ⟨n, rfl, _⟩ := DataW.trod_bool hu h
    exact ⟨n, rfl, trivial⟩⟩
theorem string (hu : P.underlying T = some .string) (hc : P.cellsOf T = 1) : OpensR P T Rk.string (fun s => s.size ≤ 140737488351232) :=
  ⟨hc, fun h hw => by
    obtain ⟨s, rfl, rfl, _⟩ := DataW.trod_string hu h
    refine ⟨s, rfl, ?_⟩
    have := hw s.data.toList.length (by simp [DataW.weights])
    rwa [Array.length_toList] at this⟩
theorem weights_all {H : Type} (e : TypeId) : ∀ (l : List (DataW H)) (d : DataW H), d ∈ l → ∀ n ∈ d.weights P e, n ∈ DataW.weightsAll P e l
  | [], d, h => by cases h
  | y :: l, d, h => fun n hn => by
    rw [DataW.weightsAll]
    rcases List.mem_cons.1 h with rfl | h
    · exact List.mem_append_left _ hn
    · exact List.mem_append_right _ (weights_all e l d h n hn)
theorem slice {α : Type} {e : TypeId} {d : Rk α} {G : α → Prop} (hu : P.underlying T = some (.slice e)) (hc : P.cellsOf T = 1) (ho : OpensR P e d G) :
    OpensR P T (Rk.slice d) (fun l => ∀ x ∈ l, G x) :=
  ⟨hc, fun {H enc W fuel cs x} h hw => by
    rcases open_slice hu h with ⟨rfl, rfl⟩ | ⟨a, len, cap, m, n, D, Pl, rfl, hba, hl, hm, hmm, rfl, hx⟩
    · exact ⟨[], ⟨none, 0, rfl, Or.inl ⟨rfl, rfl, rfl⟩, fun i x h => by simp at h⟩, fun x hx => by cases hx⟩
    · simp only [if_true] at hmm
      subst hmm
      have hwt : ∀ i, i < len → ∀ n ∈ (D i).weights P e, n ≤ 140737488351232 := fun i hi n hn => hw n (by
        rw [DataW.weights, hu]
        exact List.mem_cons_of_mem _ (List.mem_append_left _ (weights_all e _ (D i) (List.mem_map.2 ⟨i, List.mem_range.2 hi, rfl⟩) n hn)))
      obtain ⟨l, hll, hp⟩ := list_ofE (fun i (y : α) => ∃ c, c.length = d.sz ∧ d.K W y c ∧ (∀ j u, c[j]? = some u → W.cell? (a.add (i * d.sz + j)) = some u) ∧ G y) len (fun i hi => by
        obtain ⟨cs', hc1, hc2⟩ := hx i (by omega)
        obtain ⟨y, hy, hg⟩ := ho.reads hc2 (hwt i hi)
        obtain ⟨_, hlen, hcell⟩ := World.cells?_some hc1
        refine ⟨y, cs', by rw [hlen, ho.size], hy, fun j u hj => ?_, hg⟩
        have hjl := (List.getElem?_eq_some_iff.1 hj).1
        have := hcell j (by omega)
        rw [ho.size] at this
        rw [← hj, ← this]
        rw [← add_addE a])
      refine ⟨l, ⟨some a, m, by rw [hll], Or.inr ⟨a, rfl, by omega⟩, fun i x hi => ?_⟩, fun x hx => ?_⟩
      · obtain ⟨c, h1, h2, h3, _⟩ := hp i x hi
        exact ⟨a, c, rfl, h1, h2, h3⟩
      · obtain ⟨i, hi⟩ := List.mem_iff_getElem?.1 hx
        obtain ⟨_, _, _, _, hg⟩ := hp i x hi
        exact hg⟩
/-- The fields of a struct, from one place on. -/
structure Fields {α : Type} (P : Program) (fs : List Field) (off : Nat) (d : Rk α) (G : α → Prop) : Prop where
  reads : ∀ {H : Type} {enc : TypeId × Value → H} {W : World} {n : Nat} {cs : List Value} {xs : List (DataW H × List MemPlace)}, off + d.sz ≤ cs.length → xs.length = fs.length →
    (∀ (i : Nat) (f : Field), fs[i]? = some f → DataW.trod enc P W 0 (fun _ => true) true n f.type ((cs.drop f.offset).take (P.cellsOf f.type)) = xs[i]?) → (∀ n ∈ DataW.weightsEach P (fs.map (·.type)) (xs.map (·.1)), n ≤ 140737488351232) → ∃ a, d.K W a ((cs.drop off).take d.sz) ∧ G a
theorem one {α : Type} {f : Field} {off : Nat} {d : Rk α} {G : α → Prop} (hf : f.offset = off) (ho : OpensR P f.type d G) : Fields P [f] off d G :=
  ⟨fun {H enc W n cs xs} hl hx h hw => by
    obtain ⟨x, rfl⟩ : ∃ x, xs = [x] := by
      match xs, hx with
      | [x], _ => exact ⟨x, rfl⟩
    have h0 := h 0 f rfl
    simp only [List.getElem?_cons_zero] at h0
    rw [hf, ho.size] at h0
    exact ho.reads h0 (fun n hn => hw n (by simp only [List.map_cons, DataW.weightsEach]; exact List.mem_append_left _ hn))⟩
theorem more {α β : Type} {f : Field} {fs : List Field} {off : Nat} {d0 : Rk α} {d1 : Rk β} {G0 : α → Prop} {G1 : β → Prop} (hf : f.offset = off) (ho : OpensR P f.type d0 G0) (hs : Fields P fs (off + d0.sz) d1 G1) : Fields P (f :: fs) off (Rk.pair d0 d1) (fun x => G0 x.1 ∧ G1 x.2) :=
  ⟨fun {H enc W n cs xs} hl hx h hw => by
    obtain ⟨x, xs, rfl⟩ : ∃ x l, xs = x :: l := by
      match xs, hx with
      | x :: l, _ => exact ⟨x, l, rfl⟩
    have h0 := h 0 f rfl
    simp only [List.getElem?_cons_zero] at h0
    rw [hf, ho.size] at h0
    have hsz : (Rk.pair d0 d1).sz = d0.sz + d1.sz := rfl
    obtain ⟨a, ha, hga⟩ := ho.reads h0 (fun n hn => hw n (by simp only [List.map_cons, DataW.weightsEach]; exact List.mem_append_left _ hn))
    obtain ⟨b, hb, hgb⟩ := hs.reads (cs := cs) (xs := xs) (by omega) (by simpa using hx) (fun i g hg => by simpa using h (i + 1) g (by simpa using hg)) (fun n hn => hw n (by simp only [List.map_cons, DataW.weightsEach]; exact List.mem_append_right _ hn))
    refine ⟨(a, b), ⟨_, _, ?_, ha, hb⟩, hga, hgb⟩
    rw [hsz, List.take_add, List.drop_drop]⟩
theorem struct {α β : Type} {fs : Array Field} {d : Rk α} {G : α → Prop} (hu : P.underlying T = some (.struct fs)) (hc : P.cellsOf T = d.sz) (f : β → α) (g : α → β) (hfg : ∀ a, f (g a) = a) (hF : Fields P fs.toList 0 d G) : OpensR P T (Rk.iso d f) (fun x => G (f x)) :=
  ⟨hc, fun {H enc W fuel cs x} h hw => by
    obtain ⟨xs, n, _, rfl, hl, hlen, hf⟩ := DataW.trod_struct hu h
    obtain ⟨a, ha, hga⟩ := hF.reads (cs := cs) (xs := xs) (by rw [hl, hc]; omega) (by simpa using hlen) (fun i f hi => hf i f (by simpa using hi)) (fun n hn => hw n (by rw [DataW.weights, hu]; exact hn))
    rw [List.drop_zero, List.take_of_length_le (by rw [hl, hc]; exact Nat.le_refl _)] at ha
    exact ⟨g a, by show d.K W (f (g a)) cs; rw [hfg]; exact ha, by show G (f (g a)); rw [hfg]; exact hga⟩⟩
theorem map {α : Type} {d : Rk α} {G G' : α → Prop} (h : OpensR P T d G) (hg : ∀ x, G x → G' x) : OpensR P T d G' := ⟨h.size, fun a b => (h.reads a b).elim fun x y => ⟨x, y.1, hg x y.2⟩⟩
end OpensR
theorem o_int : OpensR Tryz.prog 3 (Rk.int .i64) Wf := (OpensR.int Tryz.underlying3 (by kernel_rfl)).map (fun x h => by simp [Lit.wf, IntKind.min, IntKind.max, IntKind.bits, IntKind.signed] at h; unfold Wf; omega)
theorem o_str : OpensR Tryz.prog 9 Rk.string (fun s => s.size ≤ 140737488351232) := OpensR.string Tryz.underlying9 (by kernel_rfl)
theorem o_bool : OpensR Tryz.prog 4 Rk.bool (fun _ => True) := OpensR.bool Tryz.underlying4 (by kernel_rfl)
def rd_val : Rk (Int × Int × ByteArray) := Rk.iso (Rk.pair (Rk.int .i64) (Rk.pair (Rk.int .i64) Rk.string)) (fun x : (Int × Int × ByteArray) => (x.1, x.2.1, x.2.2))
theorem o_val : OpensR Tryz.prog 30 rd_val (fun x => VW x.2.1 x.2.2) := (OpensR.struct Tryz.underlying30 (by kernel_rfl) (fun x : (Int × Int × ByteArray) => (x.1, x.2.1, x.2.2)) (fun a => (a.1, a.2.1, a.2.2)) (fun _ => rfl) (OpensR.more rfl o_int (OpensR.more rfl o_int (OpensR.one rfl o_str)))).map (fun x h => ⟨h.2.1, Nat.le_trans h.2.2 (by decide)⟩)
def rd_mut : Rk MutE := Rk.iso (Rk.pair (Rk.int .i64) (Rk.pair Rk.string (Rk.pair Rk.string rd_val))) (fun x : MutE => (x.kind, x.fam, x.qual, (x.vk, x.vn, x.vs)))
theorem o_mut : OpensR Tryz.prog 90 rd_mut (fun x => VW x.vn x.vs) := (OpensR.struct Tryz.underlying90 (by kernel_rfl) (fun x : MutE => (x.kind, x.fam, x.qual, (x.vk, x.vn, x.vs))) (fun a => ⟨a.1, a.2.1, a.2.2.1, a.2.2.2.1, a.2.2.2.2.1, a.2.2.2.2.2⟩) (fun _ => rfl) (OpensR.more rfl o_int (OpensR.more rfl o_str (OpensR.more rfl o_str (OpensR.one rfl o_val))))).map (fun x h => h.2.2.2)
theorem o_muts : OpensR Tryz.prog 28 (Rk.slice rd_mut) (fun l => ∀ x ∈ l, VW x.vn x.vs) := OpensR.slice Tryz.underlying28 (by kernel_rfl) o_mut
theorem o_texts : OpensR Tryz.prog 31 (Rk.slice Rk.string) (fun l => ∀ x ∈ l, x.size ≤ 140737488351232) := OpensR.slice Tryz.underlying31 (by kernel_rfl) o_str
def rd_fil : Rk FilE := Rk.iso (Rk.pair (Rk.slice Rk.string) (Rk.pair Rk.string (Rk.pair Rk.string (Rk.pair (Rk.int .i64) (Rk.pair (Rk.int .i64) (Rk.pair (Rk.int .i64) (Rk.int .i64))))))) (fun x : FilE => (x.fams, x.lo, x.hi, x.since, x.til, x.versions, x.rows))
theorem o_fil : OpensR Tryz.prog 33 rd_fil FilW := (OpensR.struct Tryz.underlying33 (by kernel_rfl) (fun x : FilE => (x.fams, x.lo, x.hi, x.since, x.til, x.versions, x.rows)) (fun a => ⟨a.1, a.2.1, a.2.2.1, a.2.2.2.1, a.2.2.2.2.1, a.2.2.2.2.2.1, a.2.2.2.2.2.2⟩) (fun _ => rfl) (OpensR.more rfl o_texts (OpensR.more rfl o_str (OpensR.more rfl o_str (OpensR.more rfl o_int (OpensR.more rfl o_int (OpensR.more rfl o_int (OpensR.one rfl o_int)))))))).map (fun x h => ⟨h.2.2.2.1, h.2.2.2.2.1, h.2.2.2.2.2.1, h.2.2.2.2.2.2⟩)
def rd_req : Rk ReqE := Rk.iso (Rk.pair (Rk.int .i64) (Rk.pair Rk.string (Rk.pair Rk.string (Rk.pair (Rk.slice rd_mut) (Rk.pair Rk.string (Rk.pair Rk.string (Rk.pair rd_val rd_fil))))))) (fun x : ReqE => (x.kind, x.row, x.stop, x.muts, x.fam, x.qual, (x.vk, x.vn, x.vs), x.fil))
theorem o_req : OpensR Tryz.prog 35 rd_req QP := (OpensR.struct Tryz.underlying35 (by kernel_rfl) (fun x : ReqE => (x.kind, x.row, x.stop, x.muts, x.fam, x.qual, (x.vk, x.vn, x.vs), x.fil)) (fun a => ⟨a.1, a.2.1, a.2.2.1, a.2.2.2.1, a.2.2.2.2.1, a.2.2.2.2.2.1, a.2.2.2.2.2.2.1.1, a.2.2.2.2.2.2.1.2.1, a.2.2.2.2.2.2.1.2.2, a.2.2.2.2.2.2.2⟩) (fun _ => rfl) (OpensR.more rfl o_int (OpensR.more rfl o_str (OpensR.more rfl o_str (OpensR.more rfl o_muts (OpensR.more rfl o_str (OpensR.more rfl o_str (OpensR.more rfl o_val (OpensR.one rfl o_fil))))))))).map (fun x h => ⟨h.2.2.2.1, h.2.2.2.2.2.2.1, ⟨fun m hm => ⟨(h.2.2.2.1 m hm).1⟩, h.2.2.2.2.2.2.2, h.2.2.2.2.2.2.1.1⟩⟩)
def rd_chg : Rk ChgE := Rk.iso (Rk.pair (Rk.int .i64) (Rk.pair Rk.string (Rk.pair Rk.string (Rk.pair (Rk.int .i64) (Rk.pair (Rk.int .i64) (Rk.pair (Rk.int .i64) (Rk.int .i64))))))) (fun x : ChgE => (x.kind, x.fam, x.qual, x.typ, x.group, x.versions, x.life))
theorem o_chg : OpensR Tryz.prog 37 rd_chg (fun _ => True) := (OpensR.struct Tryz.underlying37 (by kernel_rfl) (fun x : ChgE => (x.kind, x.fam, x.qual, x.typ, x.group, x.versions, x.life)) (fun a => ⟨a.1, a.2.1, a.2.2.1, a.2.2.2.1, a.2.2.2.2.1, a.2.2.2.2.2.1, a.2.2.2.2.2.2⟩) (fun _ => rfl) (OpensR.more rfl o_int (OpensR.more rfl o_str (OpensR.more rfl o_str (OpensR.more rfl o_int (OpensR.more rfl o_int (OpensR.more rfl o_int (OpensR.one rfl o_int)))))))).map (fun x h => trivial)
def rd_ev : Rk EvE := Rk.iso (Rk.pair (Rk.int .i64) (Rk.pair (Rk.int .i64) (Rk.pair (Rk.int .i64) (Rk.pair (Rk.int .i64) (Rk.pair (Rk.int .i64) (Rk.pair (Rk.int .i64) (Rk.pair (Rk.int .i64) (Rk.pair (Rk.int .i64) (Rk.pair (Rk.int .i64) (Rk.pair Rk.bool (Rk.pair rd_req rd_chg))))))))))) (fun x : EvE => (x.kind, x.node, x.dst, x.log, x.pos, x.by_, x.keep, x.client, x.seq, x.stays, x.req, x.chg))
theorem o_ev : OpensR Tryz.prog 39 rd_ev (fun x => QP x.req) := (OpensR.struct Tryz.underlying39 (by kernel_rfl) (fun x : EvE => (x.kind, x.node, x.dst, x.log, x.pos, x.by_, x.keep, x.client, x.seq, x.stays, x.req, x.chg)) (fun a => ⟨a.1, a.2.1, a.2.2.1, a.2.2.2.1, a.2.2.2.2.1, a.2.2.2.2.2.1, a.2.2.2.2.2.2.1, a.2.2.2.2.2.2.2.1, a.2.2.2.2.2.2.2.2.1, a.2.2.2.2.2.2.2.2.2.1, a.2.2.2.2.2.2.2.2.2.2.1, a.2.2.2.2.2.2.2.2.2.2.2⟩) (fun _ => rfl) (OpensR.more rfl o_int (OpensR.more rfl o_int (OpensR.more rfl o_int (OpensR.more rfl o_int (OpensR.more rfl o_int (OpensR.more rfl o_int (OpensR.more rfl o_int (OpensR.more rfl o_int (OpensR.more rfl o_int (OpensR.more rfl o_bool (OpensR.more rfl o_req (OpensR.one rfl o_chg))))))))))))).map (fun x h => h.2.2.2.2.2.2.2.2.2.2.1)
theorem o_evs : OpensR Tryz.prog 22 (Rk.slice rd_ev) (fun l => ∀ x ∈ l, QP x.req) := OpensR.slice Tryz.underlying22 (by kernel_rfl) o_ev
theorem mut_K {W : World} {m : MutE} {cs : List Value} (h : rd_mut.K W m cs) : cs = (mcells m).toList := by
  obtain ⟨_, _, rfl, rfl, ⟨_, _, rfl, rfl, ⟨_, _, rfl, rfl, ⟨_, _, rfl, rfl, ⟨_, _, rfl, rfl, rfl⟩⟩⟩⟩⟩ := h
  rfl
theorem has_muts {W : World} {l : List MutE} {cs : List Value} (h : (Rk.slice rd_mut).K W l cs) : ∃ v, cs = [v] ∧ HasM W v l := by
  obtain ⟨A, c, rfl, _, hk⟩ := h
  refine ⟨_, rfl, A, c, rfl, fun j m hj => ?_⟩
  obtain ⟨ad, cs', rfl, hlen, hK, hc⟩ := hk j m hj
  obtain rfl := mut_K hK
  refine ⟨ad, rfl, hc 0 _ rfl, fun r x h1 hx => ?_⟩
  have := hc r x (by simpa using hx)
  rw [show ad.add (j * rd_mut.sz + r) = ⟨(ad.add (j * 6)).block, (ad.add (j * 6)).off + r, none⟩ by
    show ad.add (j * 6 + r) = _
    unfold Addr.add
    rw [if_neg (by omega)]
    by_cases h0 : j * 6 = 0
    · rw [if_pos h0]; simp
    · rw [if_neg h0]; simp [Nat.add_assoc]] at this
  exact this
theorem has_texts {W : World} {l : List ByteArray} {cs : List Value} (h : (Rk.slice Rk.string).K W l cs) : ∃ v, cs = [v] ∧ HasS W v l := by
  obtain ⟨A, c, rfl, _, hk⟩ := h
  refine ⟨_, rfl, A, c, rfl, fun j hj => ?_⟩
  obtain ⟨ad, cs', rfl, hlen, hK, hc⟩ := hk j _ (List.getElem?_eq_getElem hj)
  obtain rfl : cs' = [.string l[j]] := hK
  refine ⟨ad, rfl, ?_⟩
  have := hc 0 _ rfl
  rw [show l.getD j noB = l[j] by simp [List.getD, hj]]
  simpa [Rk.string] using this
theorem has_ev {W : World} {ev : EvE} {cs : List Value} (h : rd_ev.K W ev cs) : ∃ ms fv, cs = (ecells ms fv ev).toList ∧ HasM W ms ev.req.muts ∧ HasS W fv ev.req.fil.fams := by
  obtain ⟨_, _, rfl, rfl, ⟨_, _, rfl, rfl, ⟨_, _, rfl, rfl, ⟨_, _, rfl, rfl, ⟨_, _, rfl, rfl, ⟨_, _, rfl, rfl, ⟨_, _, rfl, rfl, ⟨_, _, rfl, rfl, ⟨_, _, rfl, rfl, ⟨_, _, rfl, rfl, ⟨_, _, rfl, ⟨_, _, rfl, rfl, ⟨_, _, rfl, rfl, ⟨_, _, rfl, rfl, ⟨_, _, rfl, hmu, ⟨_, _, rfl, rfl, ⟨_, _, rfl, rfl, ⟨_, _, rfl, ⟨_, _, rfl, rfl, ⟨_, _, rfl, rfl, rfl⟩⟩, ⟨_, _, rfl, hte, ⟨_, _, rfl, rfl, ⟨_, _, rfl, rfl, ⟨_, _, rfl, rfl, ⟨_, _, rfl, rfl, ⟨_, _, rfl, rfl, rfl⟩⟩⟩⟩⟩⟩⟩⟩⟩⟩⟩⟩⟩, ⟨_, _, rfl, rfl, ⟨_, _, rfl, rfl, ⟨_, _, rfl, rfl, ⟨_, _, rfl, rfl, ⟨_, _, rfl, rfl, ⟨_, _, rfl, rfl, rfl⟩⟩⟩⟩⟩⟩⟩⟩⟩⟩⟩⟩⟩⟩⟩⟩⟩ := h
  obtain ⟨ms, rfl, hm⟩ := has_muts hmu
  obtain ⟨fv, rfl, hf⟩ := has_texts hte
  exact ⟨ms, fv, rfl, hm, hf⟩
theorem has_evs {W : World} {l : List EvE} {cs : List Value} (h : (Rk.slice rd_ev).K W l cs) : ∃ A c, cs = [.slice A l.length c] ∧ HasE W (.slice A l.length c) l ∧ ((A = none ∧ c = 0 ∧ l = []) ∨ (∃ ad, A = some ad ∧ l.length ≤ c)) := by
  obtain ⟨A, c, rfl, hn, hk⟩ := h
  refine ⟨A, c, rfl, ⟨A, c, rfl, fun j e hj => ?_⟩, hn⟩
  have hlt := (List.getElem?_eq_some_iff.1 hj).1
  obtain ⟨ad, cs', rfl, hlen, hK, hc⟩ := hk j e hj
  obtain ⟨ms, fv, rfl, hm, hf⟩ := has_ev hK
  obtain ⟨ad0, cs0, e0, _, hK0, hc0⟩ := hk 0 _ (List.getElem?_eq_getElem (by omega))
  obtain rfl := Option.some.inj e0
  obtain ⟨ms0, fv0, rfl, _, _⟩ := has_ev hK0
  have h0 := hc0 0 (.int .i64 l[0].kind) rfl
  rw [show ad.add (0 * rd_ev.sz + 0) = ad by simp [Addr.add]] at h0
  obtain ⟨b, o, s⟩ := ad
  have hs : s = none := cell_spot h0
  subst hs
  refine ⟨b, o, ms, fv, rfl, fun jj u hjj => ?_, hm, hf⟩
  have := hc jj u hjj
  rw [Addr.add_mid] at this
  rw [Nat.add_assoc]
  exact this
end Go.Proofs.YtkogcobcjoojnaaGreatDoor.Fl
