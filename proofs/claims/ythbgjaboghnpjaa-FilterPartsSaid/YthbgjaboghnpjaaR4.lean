/- FilterParts: the walk. -/
import Derived.Test.YthbgjaboghnpjaaR1
import Derived.Test.YthbgjaboghnpjaaR3
import Derived.Test.YthbgjaboghnpjaaQx2
namespace Go.Proofs.Ythbgjaboghnpjaa.R
open Go.RowKit Go.Proofs.Ythbgjaboghnpjaa.Q Go.Proofs.Ythbgjaboghnpjaa.Pure Go.Proofs.YthbgjaboghnpjaaW.PrintWords Go.Proofs.YthbgjaboghnpjaaW.PrintLast Go.Proofs.YthbgjaboghnpjaaW.PrintMore
attribute [local go_sem high] eqA29
set_option linter.unusedVariables false
set_option linter.unusedSimpArgs false
set_option maxHeartbeats 4000000 in
set_option maxRecDepth 100000 in
theorem filterParts (w : World) (A : Option Addr) (c : Nat) (f0 : List ByteArray) (f1 f2 : ByteArray) (f3 f4 f5 f6 : Int) (A1 : Option Addr) (c1 : Nat) (l : List S29) (hf : Kd.C Kd.string w A f0.length f0) (hc : f0.length ≤ c) (hl : Kd.C k29 w A1 l.length l) (hc1 : l.length ≤ c1) :
    Calls Try.prog 5 #[.agg (fcells A c f0 f1 f2 f3 f4 f5 f6), .slice A1 l.length c1] w fun e w' => e = .returned (.bool true) ∧ Below w.heap.size w w' := by
  have HF := Lib.hid hf
  have HL := Lib.hid hl
  have HC := Lib.hid hc
  have HC1 := Lib.hid hc1
  clear hf hl hc hc1
  obtain ⟨b1, hb1, C1⟩ := long_ex f0 f1 f2 f3 f4 f5 f6 l
  have D1 := Lib.hid C1
  have E1 := Lib.hid hb1
  clear C1 hb1
  unfold fcells at *
  go_enter Try.func5, Try.ntmps5
  go_wp2_with fail
  refine (c_alive _).mono ?_
  rintro e w1 ⟨rfl, hb1⟩
  have HX := Lib.hid (X0.start.below hb1)
  clear hb1
  have q0 := HX.out.q0
  have q1 := HX.out.q1
  have q2 := HX.out.q2
  have q3 := HX.out.q3
  have q4 := HX.out.q4
  have q5 := HX.out.q5
  have q6 := HX.out.q6
  go_wp2_with fail
  refine (D1.out _ A c A1 c1 (Kd.C_below HF.out HX.out.bel) HC.out (Kd.C_below HL.out HX.out.bel) HC1.out).mono ?_
  rintro e w2 ⟨rfl, hb2⟩
  have HX2 := Lib.hid (HX.out.below hb2)
  clear hb2 HX
  clear q0 q1 q2 q3 q4 q5 q6
  have q0 := HX2.out.q0
  have q1 := HX2.out.q1
  have q2 := HX2.out.q2
  have q3 := HX2.out.q3
  have q4 := HX2.out.q4
  have q5 := HX2.out.q5
  have q6 := HX2.out.q6
  cases b1 with
  | true =>
    go_wp2_with fail
    go_ret
    exact ⟨rfl, HX2.out.bel⟩
  | false =>
    obtain ⟨hsf, hl80, hsm⟩ := E1.out rfl
    obtain ⟨b3, hb3, C3⟩ := rRight_ex f0 f1 f2 f3 f4 f5 f6 hsf
    have HSF := Lib.hid hsf
    have HSM := Lib.hid hsm
    have E3 := Lib.hid hb3
    have D3 := Lib.hid C3
    clear hsf hsm hb3 C3
    unfold fcells at *
    go_wp2_with fail
    refine (D3.out _ A c (Kd.C_below HF.out HX2.out.bel) HC.out).mono ?_
    rintro e w3 ⟨rfl, hb3⟩
    have HX3 := Lib.hid (HX2.out.below hb3)
    clear hb3 HX2
    clear q0 q1 q2 q3 q4 q5 q6
    have q0 := HX3.out.q0
    have q1 := HX3.out.q1
    have q2 := HX3.out.q2
    have q3 := HX3.out.q3
    have q4 := HX3.out.q4
    have q5 := HX3.out.q5
    have q6 := HX3.out.q6
    cases b3 with
    | false =>
      go_wp2_with fail
      go_ret
      exact ⟨rfl, HX3.out.bel⟩
    | true =>
      obtain ⟨hrb, hf60, hf50⟩ := E3.out rfl
      have HRB := Lib.hid hrb
      clear hrb
      obtain ⟨L, hp, hm, hn, C4⟩ := sort_ex l hl80 HSM.out
      have hsmL : ∀ c ∈ L, Small c := fun c hc => HSM.out c (hm c hc)
      obtain ⟨T, hT, hall, hTL, hemb, hok⟩ := parts_all f0 f1 f2 f3 f4 f5 f6 L (by omega) hp
      have D4 := Lib.hid C4
      have HT := Lib.hid hT
      have hsmA : ∀ c ∈ T.map Prod.fst, Small c := fun c hc => hsmL c (by rw [← hall] at hc; exact svRun_mem f0 f1 f2 f3 f4 f5 f6 L sv0 c hc)
      have HALL := Lib.hid hall
      have HOK := Lib.hid hok
      have HEMB := Lib.hid hemb
      have HSMA0 := Lib.hid hsmA
      clear C4 hT hall hemb hok hp hm hsmL hsmA
      go_wp2_with fail
      refine (D4.out _ A1 c1 (Kd.C_below HL.out HX3.out.bel) HC1.out).mono ?_
      rintro e w4 ⟨v5, rfl, hrow, hb4⟩
      have HX4 := Lib.hid (HX3.out.below hb4)
      clear hb4 HX3
      clear q0 q1 q2 q3 q4 q5 q6
      have q0 := HX4.out.q0
      have q1 := HX4.out.q1
      have q2 := HX4.out.q2
      have q3 := HX4.out.q3
      have q4 := HX4.out.q4
      have q5 := HX4.out.q5
      have q6 := HX4.out.q6
      obtain ⟨A5, c5, rfl, hc5, hC5⟩ := hrow
      have HC5 := Lib.hid (And.intro hc5 hC5)
      clear hc5 hC5
      go_wp2_with fail
      refine (c_apply _ A c f0 f1 f2 f3 f4 f5 f6 L (by omega) HRB.out A5 c5 (Kd.C_below HF.out HX4.out.bel) HC.out HC5.out.2 HC5.out.1).mono ?_
      rintro e w7 ⟨v7, rfl, hrow7, hb7⟩
      have HX7 := Lib.hid (HX4.out.below hb7)
      have HC57 := Lib.hid (Kd.C_below HC5.out.2 hb7)
      clear hb7 HX4
      clear q0 q1 q2 q3 q4 q5 q6
      have q0 := HX7.out.q0
      have q1 := HX7.out.q1
      have q2 := HX7.out.q2
      have q3 := HX7.out.q3
      have q4 := HX7.out.q4
      have q5 := HX7.out.q5
      have q6 := HX7.out.q6
      rw [HALL.out] at hrow7
      obtain ⟨aL, haL⟩ : ∃ aL, aL = T.map Prod.fst := ⟨_, rfl⟩
      have hlen1 : aL.length ≤ T.length := by rw [haL, List.length_map]; exact Nat.le_refl _
      have hlen2 : T.length ≤ aL.length := by rw [haL, List.length_map]; exact Nat.le_refl _
      rw [← haL] at hrow7
      have HAL := Lib.hid haL
      have HSMA := Lib.hid (show ∀ c ∈ aL, Small c from by rw [haL]; exact HSMA0.out)
      have HEMB2 := Lib.hid (show Emb aL L from by rw [haL]; exact HEMB.out)
      clear haL HEMB
      obtain ⟨A7, c7, rfl, hc7, hC7⟩ := hrow7
      have HC7 := Lib.hid hC7
      clear hC7
      go_wp2_with fail
      clear q0 q1 q2 q3 q4 q5 q6
      go_loopg [7, 8, 9, 10] aL.length (fun gg v7 v8 v9 v10 W => ∃ (i k : Nat) (x y : Int), i ≤ aL.length ∧ aL.length - i ≤ gg ∧ k ≤ L.length ∧ v10 = .int .i64 i ∧ v7 = .int .i64 k ∧ v8 = .int .i64 x ∧ v9 = .int .i64 y ∧ Hid (x = rowsA T i ∧ y = numA T i) ∧ Hid (Emb (aL.drop i) (L.drop k)) ∧ Hid (X0 w W w.heap.size A c f0 f1 f2 f3 f4 f5 f6 ∧ Kd.C k29 W A5 L.length L ∧ Kd.C k29 W A7 aL.length aL))
      case atStart => exact ⟨0, 0, 0, 0, by omega, by omega, by omega, rfl, rfl, rfl, rfl, ⟨rfl, rfl⟩, HEMB2.out, ⟨HX7.out, HC57.out, HC7.out⟩⟩
      case round =>
        clear HX7 HC57 HC7
        obtain ⟨i, k, x, y, hi, hg, hk, rfl, rfl, rfl, rfl, HXY, HE, HS⟩ := hrel
        have q5 := HS.out.1.q5
        have q6 := HS.out.1.q6
        have hbd := boundA HT.out i (by omega)
        rw [← HXY.out.1, ← HXY.out.2] at hbd
        by_cases hlt : i < aL.length
        · have hi0 : (0 : Int) ≤ (i : Int) := by omega
          have hi1 : (i : Int) < (aL.length : Int) := by omega
          have hiT : i < T.length := by omega
          have hdrop : aL.drop i = rd_T29 aL (i : Int) :: aL.drop (i + 1) := by
            rw [List.drop_eq_getElem_cons hlt, rd_at aL i hlt]
          rw [hdrop] at HE
          have r1 : rd_T29 aL (i : Int) = (T.getD i zA).1 := by
            rw [HAL.out]; unfold rd_T29
            rw [Int.toNat_natCast, List.getD_eq_getElem?_getD, List.getD_eq_getElem?_getD, List.getElem?_map, List.getElem?_eq_getElem hiT]; rfl
          have hlets := (HOK.out i hiT).1
          rw [← r1] at hlets
          have hsmx : Small (rd_T29 aL (i : Int)) := by
            exact HSMA.out _ (by rw [rd_at aL i hlt]; exact List.getElem_mem _)
          have R1 := Lib.hid r1
          have HLETS := Lib.hid hlets
          have HSMX := Lib.hid hsmx
          clear r1 hlets hsmx hdrop
          obtain ⟨X1, hX1⟩ : ∃ X1, rd_T29 aL (i : Int) = X1 := ⟨_, rfl⟩
          rw [hX1] at HE R1 HLETS HSMX
          have HX1 := Lib.hid hX1
          clear hX1
          obtain ⟨wo, hwo⟩ : ∃ wo : World, wo = wr := ⟨_, rfl⟩
          subst hwo
          go_wp2_with fail
          go_loopg [7] L.length (fun gg v7 W => ∃ k' : Nat, k' ≤ L.length ∧ L.length - k' ≤ gg ∧ v7 = .int .i64 k' ∧ Hid (Emb (X1 :: aL.drop (i + 1)) (L.drop k')) ∧ Drawn0 wo W)
          case atStart => exact ⟨k, hk, by omega, rfl, HE, Drawn0.refl _⟩
          case round =>
            clear HE
            obtain ⟨k', hk', hg2, rfl, HE, ⟨q, rfl⟩⟩ := hrel
            by_cases hlk : k' < L.length
            · have hk0 : (0 : Int) ≤ (k' : Int) := by omega
              have hk1 : (k' : Int) < (L.length : Int) := by omega
              obtain ⟨adL, eL, y0, y1, y2, y3, y4, y5, y6, y7⟩ := at_T29 HS.out.2.1 (k' : Int) hk0 hk1
              obtain ⟨adA, eA, x0, x1, x2, x3, x4, x5, x6, x7⟩ := at_T29 HS.out.2.2 (i : Int) hi0 hi1
              subst eL eA
              rw [Int.toNat_natCast] at y0 y1 y2 y3 y4 y5 y6 y7 x0 x1 x2 x3 x4 x5 x6 x7
              rw [HX1.out] at x0 x1 x2 x3 x4 x5 x6 x7
              have hdr : L.drop k' = rd_T29 L (k' : Int) :: L.drop (k' + 1) := by rw [List.drop_eq_getElem_cons hlk, rd_at L k' hlk]
              rw [hdr] at HE
              obtain ⟨Y1, hY1⟩ : ∃ Y1, rd_T29 L (k' : Int) = Y1 := ⟨_, rfl⟩
              rw [hY1] at HE y0 y1 y2 y3 y4 y5 y6 y7
              clear hY1 hdr
              have hu29 := Try.underlying29
              cases hne : neB Y1 X1 with
              | true =>
                have HE2 := Lib.hid (emb_miss HE.out hne)
                unfold neB at hne
                go_wp2_with fail
                go_quiet (fail)
                go_wp2_with fail
                go_roundg (L.length - (k' + 1))
                case measure => omega
                case rel => exact ⟨k' + 1, by omega, by omega, by go_num, HE2.out, by first | exact Drawn0.step (Drawn0.refl _) _ | exact Drawn0.step (Drawn0.step (Drawn0.refl _) _) _⟩
              | false =>
                have HE2 := Lib.hid (emb_hit HE.out)
                unfold neB at hne
                go_wp2_with fail
                go_quiet (fail)
                clear y0 y1 y2 y3 y4 y5 y6 y7 hne HE
                have hkl : ((k' : Int) == (L.length : Int)) = false := by rw [beq_eq_false_iff_ne]; omega
                have q0 := HS.out.1.q0
                have q1 := HS.out.1.q1
                have q2 := HS.out.1.q2
                have q3 := HS.out.1.q3
                have q4 := HS.out.1.q4
                go_wp2_with fail
                go_region_held3 (fun W => W.cell? ⟨w.heap.size, 0, none⟩ = some (.slice A f0.length c) ∧ W.cell? ⟨w.heap.size, 1, none⟩ = some (.string f1) ∧ W.cell? ⟨w.heap.size, 2, none⟩ = some (.string f2) ∧ W.cell? ⟨w.heap.size, 3, none⟩ = some (.int .i64 f3) ∧ W.cell? ⟨w.heap.size, 4, none⟩ = some (.int .i64 f4) ∧ W.cell? ⟨w.heap.size, 5, none⟩ = some (.int .i64 f5) ∧ W.cell? ⟨w.heap.size, 6, none⟩ = some (.int .i64 f6) ∧ W.cell? (adA.add (i * 8)) = some (.string X1.f0) ∧ W.cell? ⟨(adA.add (i * 8)).block, (adA.add (i * 8)).off + 1, none⟩ = some (.string X1.f1) ∧ W.cell? ⟨(adA.add (i * 8)).block, (adA.add (i * 8)).off + 2, none⟩ = some (.string X1.f2) ∧ W.cell? ⟨(adA.add (i * 8)).block, (adA.add (i * 8)).off + 3, none⟩ = some (.int .i64 X1.f3) ∧ W.cell? ⟨(adA.add (i * 8)).block, (adA.add (i * 8)).off + 4, none⟩ = some (.int .i64 X1.f4) ∧ W.cell? ⟨(adA.add (i * 8)).block, (adA.add (i * 8)).off + 5, none⟩ = some (.int .i64 X1.f5.f0) ∧ W.cell? ⟨(adA.add (i * 8)).block, (adA.add (i * 8)).off + 6, none⟩ = some (.int .i64 X1.f5.f1) ∧ W.cell? ⟨(adA.add (i * 8)).block, (adA.add (i * 8)).off + 7, none⟩ = some (.string X1.f5.f2))
                  (first | go_keep | (refine ⟨?_, ?_, ?_, ?_, ?_, ?_, ?_, ?_, ?_, ?_, ?_, ?_, ?_, ?_, ?_⟩ <;> exact cellB HBB.out (by assumption)))
                  ((go_at_call 15; refine (rLets_ok (wo.drewN (q + nq + 1)) A c f0 f1 f2 f3 f4 f5 f6 HSF.out X1 HSMX.out HLETS.out (Kd.C_below HF.out (X0.bel (HS.out.1.below ⟨rfl, rfl, rfl, Nat.le_refl _, fun _ _ => rfl⟩))) HC.out).mono ?_; rintro e w9 ⟨rfl, hb9⟩; have HBB : Hid (Below wo.heap.size wo w9) := ⟨hb9.os, hb9.tape, hb9.output, hb9.size, hb9.block⟩; clear hb9))
                have HS9 := Lib.hid (below3 HS.out HBB.out)
                clear HS q0 q1 q2 q3 q4 q5 q6 x0 x1 x2 x3 x4 x5 x6 x7
                have HS := HS9
                clear HS9
                have q5 := HS.out.1.q5
                have q6 := HS.out.1.q6
                have hnx := tagA_next HT.out i hiT
                rw [← HXY.out.1, ← HXY.out.2, ← R1.out] at hnx
                obtain ⟨adB, eB, x0, x1, x2, _⟩ := at_T29 HS.out.2.2 (i : Int) hi0 hi1
                obtain rfl : adA = adB := by injection eB
                clear eB
                rw [Int.toNat_natCast, HX1.out] at x0 x1 x2
                by_cases h0 : i = 0
                · have e1 : ((i : Int) == 0) = true := by simp [h0]
                  have e2 : decide ((0 : Int) < (i : Int)) = false := decide_eq_false (by omega)
                  have e3 : decide (0 < i) = false := decide_eq_false (by omega)
                  have hn1 := hnx.1 h0
                  clear hnx h0
                  have hrn : rowsA T (i + 1) = x + 1 := hn1.1
                  have hyn : numA T (i + 1) = 1 := hn1.2
                  have hv5 : f5 = 0 ∨ 1 ≤ f5 := by have h := (HOK.out i hiT).2.2; rw [hyn] at h; exact h
                  have HN := Lib.hid (And.intro hrn hyn)
                  clear hrn hyn hn1
                  by_cases h5 : 0 < f5
                  · have g5 : decide (f5 < 1) = false := decide_eq_false (by omega)
                    have g6 : decide (0 < f5) = true := decide_eq_true h5
                    clear hv5
                    go_wp2_with fail
                    go_quiet (fail)
                    go_wp2_with fail
                    go_quiet (fail)
                    go_wp2_with fail
                    go_roundg (aL.length - (i + 1))
                    case measure => omega
                    case rel => exact ⟨i + 1, k' + 1, _, _, by omega, by omega, by omega, by go_num, by go_num, rfl, rfl, ⟨HN.out.1.symm, HN.out.2.symm⟩, HE2.out, by first | exact drawn3 HS.out _ | exact drawn3 (drawn3 HS.out _) _⟩
                  · have g6 : decide (0 < f5) = false := decide_eq_false h5
                    skip
                    clear hv5
                    go_wp2_with fail
                    go_quiet (fail)
                    go_wp2_with fail
                    go_quiet (fail)
                    go_wp2_with fail
                    go_roundg (aL.length - (i + 1))
                    case measure => omega
                    case rel => exact ⟨i + 1, k' + 1, _, _, by omega, by omega, by omega, by go_num, by go_num, rfl, rfl, ⟨HN.out.1.symm, HN.out.2.symm⟩, HE2.out, by first | exact drawn3 HS.out _ | exact drawn3 (drawn3 HS.out _) _⟩
                · have e1 : ((i : Int) == 0) = false := by simp [h0]
                  have e2 : decide ((0 : Int) < (i : Int)) = true := decide_eq_true (by omega)
                  have e3 : decide (0 < i) = true := decide_eq_true (by omega)
                  obtain ⟨j, hj⟩ : ∃ j, i = j + 1 := ⟨i - 1, by omega⟩
                  have hn2 := hnx.2 (by omega)
                  have r2 : rd_T29 aL (j : Int) = (T.getD (i - 1) zA).1 := by
                    rw [HAL.out]; unfold rd_T29
                    rw [Int.toNat_natCast, hj, Nat.add_sub_cancel, List.getD_eq_getElem?_getD, List.getD_eq_getElem?_getD, List.getElem?_map, List.getElem?_eq_getElem (by omega)]; rfl
                  rw [← r2] at hn2
                  obtain ⟨adB, eB, z0, z1, z2, _⟩ := at_T29 HS.out.2.2 (j : Int) (by omega) (by omega)
                  obtain rfl : adA = adB := by injection eB
                  clear eB
                  rw [Int.toNat_natCast] at z0 z1 z2
                  generalize rd_T29 aL (j : Int) = X2 at z0 z1 z2 hn2 r2
                  clear r2 hnx
                  have hw1 : IntKind.i64.wrap ((i : Int) - 1) = (j : Int) := by rw [IntWalk.i64_in _ (by omega)]; omega
                  have hj0 : (0 : Int) ≤ (j : Int) := by omega
                  have hj1 : (j : Int) < (aL.length : Int) := by omega
                  clear hj h0
                  by_cases hs0 : X1.f0.toList = X2.f0.toList
                  · have b0 : (X1.f0.toList == X2.f0.toList) = true := by simp [hs0]
                    by_cases hs1 : X1.f1.toList = X2.f1.toList
                    · have b1 : (X1.f1.toList == X2.f1.toList) = true := by simp [hs1]
                      by_cases hs2 : X1.f2.toList = X2.f2.toList
                      · have b2 : (X1.f2.toList == X2.f2.toList) = true := by simp [hs2]
                        have hn3 := hn2.1 hs0
                        have hn4 := hn2.2.2.1 ⟨hs0, hs1, hs2⟩
                        clear hn2 hs0 hs1 hs2
                        have hrn : rowsA T (i + 1) = x := hn3
                        have hyn : numA T (i + 1) = y + 1 := hn4
                        have hv5 : f5 = 0 ∨ y + 1 ≤ f5 := by have h := (HOK.out i hiT).2.2; rw [hyn] at h; exact h
                        have HN := Lib.hid (And.intro hrn hyn)
                        clear hrn hyn hn3 hn4
                        by_cases h5 : 0 < f5
                        · have g5 : decide (f5 < y + 1) = false := decide_eq_false (by omega)
                          have g6 : decide (0 < f5) = true := decide_eq_true h5
                          clear hv5
                          go_wp2_with fail
                          go_quiet (fail)
                          go_wp2_with fail
                          go_quiet (fail)
                          go_wp2_with fail
                          go_roundg (aL.length - (i + 1))
                          case measure => omega
                          case rel => exact ⟨i + 1, k' + 1, _, _, by omega, by omega, by omega, by go_num, by go_num, rfl, rfl, ⟨HN.out.1.symm, HN.out.2.symm⟩, HE2.out, by first | exact drawn3 HS.out _ | exact drawn3 (drawn3 HS.out _) _⟩
                        · have g6 : decide (0 < f5) = false := decide_eq_false h5
                          skip
                          clear hv5
                          go_wp2_with fail
                          go_quiet (fail)
                          go_wp2_with fail
                          go_quiet (fail)
                          go_wp2_with fail
                          go_roundg (aL.length - (i + 1))
                          case measure => omega
                          case rel => exact ⟨i + 1, k' + 1, _, _, by omega, by omega, by omega, by go_num, by go_num, rfl, rfl, ⟨HN.out.1.symm, HN.out.2.symm⟩, HE2.out, by first | exact drawn3 HS.out _ | exact drawn3 (drawn3 HS.out _) _⟩
                      · have b2 : (X1.f2.toList == X2.f2.toList) = false := by simp [hs2]
                        have hn3 := hn2.1 hs0
                        have hn4 := hn2.2.2.2 (fun h => hs2 h.2.2)
                        clear hn2 hs0 hs1 hs2
                        have hrn : rowsA T (i + 1) = x := hn3
                        have hyn : numA T (i + 1) = 1 := hn4
                        have hv5 : f5 = 0 ∨ 1 ≤ f5 := by have h := (HOK.out i hiT).2.2; rw [hyn] at h; exact h
                        have HN := Lib.hid (And.intro hrn hyn)
                        clear hrn hyn hn3 hn4
                        by_cases h5 : 0 < f5
                        · have g5 : decide (f5 < 1) = false := decide_eq_false (by omega)
                          have g6 : decide (0 < f5) = true := decide_eq_true h5
                          clear hv5
                          go_wp2_with fail
                          go_quiet (fail)
                          go_wp2_with fail
                          go_quiet (fail)
                          go_wp2_with fail
                          go_roundg (aL.length - (i + 1))
                          case measure => omega
                          case rel => exact ⟨i + 1, k' + 1, _, _, by omega, by omega, by omega, by go_num, by go_num, rfl, rfl, ⟨HN.out.1.symm, HN.out.2.symm⟩, HE2.out, by first | exact drawn3 HS.out _ | exact drawn3 (drawn3 HS.out _) _⟩
                        · have g6 : decide (0 < f5) = false := decide_eq_false h5
                          skip
                          clear hv5
                          go_wp2_with fail
                          go_quiet (fail)
                          go_wp2_with fail
                          go_quiet (fail)
                          go_wp2_with fail
                          go_roundg (aL.length - (i + 1))
                          case measure => omega
                          case rel => exact ⟨i + 1, k' + 1, _, _, by omega, by omega, by omega, by go_num, by go_num, rfl, rfl, ⟨HN.out.1.symm, HN.out.2.symm⟩, HE2.out, by first | exact drawn3 HS.out _ | exact drawn3 (drawn3 HS.out _) _⟩
                    · have b1 : (X1.f1.toList == X2.f1.toList) = false := by simp [hs1]
                      have hn3 := hn2.1 hs0
                      have hn4 := hn2.2.2.2 (fun h => hs1 h.2.1)
                      clear hn2 hs0 hs1
                      have hrn : rowsA T (i + 1) = x := hn3
                      have hyn : numA T (i + 1) = 1 := hn4
                      have hv5 : f5 = 0 ∨ 1 ≤ f5 := by have h := (HOK.out i hiT).2.2; rw [hyn] at h; exact h
                      have HN := Lib.hid (And.intro hrn hyn)
                      clear hrn hyn hn3 hn4
                      by_cases h5 : 0 < f5
                      · have g5 : decide (f5 < 1) = false := decide_eq_false (by omega)
                        have g6 : decide (0 < f5) = true := decide_eq_true h5
                        clear hv5
                        go_wp2_with fail
                        go_quiet (fail)
                        go_wp2_with fail
                        go_quiet (fail)
                        go_wp2_with fail
                        go_roundg (aL.length - (i + 1))
                        case measure => omega
                        case rel => exact ⟨i + 1, k' + 1, _, _, by omega, by omega, by omega, by go_num, by go_num, rfl, rfl, ⟨HN.out.1.symm, HN.out.2.symm⟩, HE2.out, by first | exact drawn3 HS.out _ | exact drawn3 (drawn3 HS.out _) _⟩
                      · have g6 : decide (0 < f5) = false := decide_eq_false h5
                        skip
                        clear hv5
                        go_wp2_with fail
                        go_quiet (fail)
                        go_wp2_with fail
                        go_quiet (fail)
                        go_wp2_with fail
                        go_roundg (aL.length - (i + 1))
                        case measure => omega
                        case rel => exact ⟨i + 1, k' + 1, _, _, by omega, by omega, by omega, by go_num, by go_num, rfl, rfl, ⟨HN.out.1.symm, HN.out.2.symm⟩, HE2.out, by first | exact drawn3 HS.out _ | exact drawn3 (drawn3 HS.out _) _⟩
                  · have b0 : (X1.f0.toList == X2.f0.toList) = false := by simp [hs0]
                    have hn3 := hn2.2.1 hs0
                    have hn4 := hn2.2.2.2 (fun h => hs0 h.1)
                    clear hn2 hs0
                    have hrn : rowsA T (i + 1) = x + 1 := hn3
                    have hyn : numA T (i + 1) = 1 := hn4
                    have hv5 : f5 = 0 ∨ 1 ≤ f5 := by have h := (HOK.out i hiT).2.2; rw [hyn] at h; exact h
                    have HN := Lib.hid (And.intro hrn hyn)
                    clear hrn hyn hn3 hn4
                    by_cases h5 : 0 < f5
                    · have g5 : decide (f5 < 1) = false := decide_eq_false (by omega)
                      have g6 : decide (0 < f5) = true := decide_eq_true h5
                      clear hv5
                      go_wp2_with fail
                      go_quiet (fail)
                      go_wp2_with fail
                      go_quiet (fail)
                      go_wp2_with fail
                      go_roundg (aL.length - (i + 1))
                      case measure => omega
                      case rel => exact ⟨i + 1, k' + 1, _, _, by omega, by omega, by omega, by go_num, by go_num, rfl, rfl, ⟨HN.out.1.symm, HN.out.2.symm⟩, HE2.out, by first | exact drawn3 HS.out _ | exact drawn3 (drawn3 HS.out _) _⟩
                    · have g6 : decide (0 < f5) = false := decide_eq_false h5
                      skip
                      clear hv5
                      go_wp2_with fail
                      go_quiet (fail)
                      go_wp2_with fail
                      go_quiet (fail)
                      go_wp2_with fail
                      go_roundg (aL.length - (i + 1))
                      case measure => omega
                      case rel => exact ⟨i + 1, k' + 1, _, _, by omega, by omega, by omega, by go_num, by go_num, rfl, rfl, ⟨HN.out.1.symm, HN.out.2.symm⟩, HE2.out, by first | exact drawn3 HS.out _ | exact drawn3 (drawn3 HS.out _) _⟩
            · exfalso
              have : k' = L.length := by omega
              subst this
              have h := HE.out
              rw [List.drop_length] at h
              exact h
        · have hi' : i = aL.length := by omega
          have hfin : f6 = 0 ∨ x ≤ f6 := by
            rw [HXY.out.1]
            by_cases h0 : i = 0
            · right; rw [h0]; simpa [rowsA] using hf60
            · obtain ⟨j, hj⟩ : ∃ j, i = j + 1 := ⟨i - 1, by omega⟩
              have := (HOK.out j (by omega)).2.1
              rw [← hj] at this
              exact this
          have HI := Lib.hid hi'
          have hn1 : ¬ (i : Int) < (aL.length : Int) := by omega
          clear hi'
          by_cases hz : f6 = 0
          · have hzb : (f6 == 0) = true := by simp [hz]
            clear hz hfin
            go_wp2_with fail
            go_ret
            exact ⟨rfl, HS.out.1.bel⟩
          · have hzb : (f6 == 0) = false := by simp [hz]
            have hle : x ≤ f6 := by omega
            clear hz hfin
            go_wp2_with fail
            go_ret
            exact ⟨rfl, HS.out.1.bel⟩
end Go.Proofs.Ythbgjaboghnpjaa.R
