/- Floating numbers out of text. -/
import Derived.Test.YtikpmlginojnhaaGreatDoorFD
namespace Go.Proofs.YtikpmlginojnhaaGreatDoor.Fl
open Go.RowKit Go.Maps
set_option linter.unusedVariables false
set_option linter.unusedSimpArgs false
/-- So many names are not the text. -/
def Nots (s : ByteArray) (i : Nat) : Prop := (1 ≤ i → showS 9221120237041090560 ≠ s) ∧ (2 ≤ i → showS 9218868437227405312 ≠ s) ∧ (3 ≤ i → showS (-4503599627370496) ≠ s) ∧ (4 ≤ i → showS 0 ≠ s) ∧ (5 ≤ i → showS (-9223372036854775808) ≠ s)
theorem cells5 {W : World} {B : Nat} {e : TypeId} {a0 a1 a2 a3 a4 : Value} (h : W.heap[B]? = some (.cells #[a0, a1, a2, a3, a4] e (0, 0))) : W.cell? ⟨B, 0, none⟩ = some a0 ∧ W.cell? ⟨B, 1, none⟩ = some a1 ∧ W.cell? ⟨B, 2, none⟩ = some a2 ∧ W.cell? ⟨B, 3, none⟩ = some a3 ∧ W.cell? ⟨B, 4, none⟩ = some a4 := by
  refine ⟨?_, ?_, ?_, ?_, ?_⟩ <;> simp [World.cell?, h]
theorem toList_inj {a b : ByteArray} (h : a.toList = b.toList) : a = b := by
  rw [ByteArray.toList_eq, ByteArray.toList_eq] at h
  exact ByteArray.ext (Array.toList_inj.1 h)
theorem lt_block {W : World} {B : Nat} {o : Obj} (h : W.heap[B]? = some o) : B < W.heap.size := by
  rcases Nat.lt_or_ge B W.heap.size with h1 | h1
  · exact h1
  · rw [Array.getElem?_eq_none h1] at h; cases h
structure Rd (w W : World) (e : TypeId) (a0 a1 a2 a3 a4 : Value) : Prop where
  blk : W.heap[w.heap.size]? = some (.cells #[a0, a1, a2, a3, a4] e (0, 0))
  bel : Below w.heap.size w W
theorem Rd.below {w W W' : World} {e : TypeId} {a0 a1 a2 a3 a4 : Value} (h : Rd w W e a0 a1 a2 a3 a4) (hb : Below W.heap.size W W') : Rd w W' e a0 a1 a2 a3 a4 := ⟨(hb.block _ (lt_block h.blk)).trans h.blk, h.bel.trans (hb.mono h.bel.size)⟩
theorem Rd.start (w : World) (e : TypeId) (a0 a1 a2 a3 a4 : Value) : Rd w (w.alloc (.cells #[a0, a1, a2, a3, a4] e)) e a0 a1 a2 a3 a4 := ⟨heap_alloc_new _ _, (Below.refl _ _).alloc (Nat.le_refl _) _⟩
set_option maxHeartbeats 4000000 in
set_option maxRecDepth 100000 in
theorem c_read (s : ByteArray) (hs : s.size ≤ 140737488351232) (w : World) (hg : Gl w) (n : Int) (b : Bool) (hr : RdIs s n b) :
    Calls Tryz.prog 70 #[.string s] w fun e w' => e = .returned (.tuple #[.int .i64 n, .bool b]) ∧ Below w.heap.size w w' := by
  have HR := Lib.hid hr
  have HG := Lib.hid hg
  have HS := Lib.hid hs
  have HST := Lib.hid (Rd.start w 61 (.int .u64 9221120237041090560) (.int .u64 9218868437227405312) (.int .u64 18442240474082181120) (.int .u64 0) (.int .u64 9223372036854775808))
  clear hr hg hs
  go_enter Tryz.func70, Tryz.ntmps70
  go_wp2
  generalize w.alloc (.cells #[.int .u64 9221120237041090560, .int .u64 9218868437227405312, .int .u64 18442240474082181120, .int .u64 0, .int .u64 9223372036854775808] 61) = w1 at HST ⊢
  go_loopw [13] (fun v13 W => ∃ i : Nat, i ≤ 5 ∧ v13 = .int .i64 i ∧ Hid (Nots s i) ∧ Hid (Rd w W 61 (.int .u64 9221120237041090560) (.int .u64 9218868437227405312) (.int .u64 18442240474082181120) (.int .u64 0) (.int .u64 9223372036854775808))) (fun v13 _ => 5 - (intOf v13).toNat)
  case atStart => exact ⟨0, by omega, rfl, Lib.hid (by unfold Nots; exact ⟨fun h => by omega, fun h => by omega, fun h => by omega, fun h => by omega, fun h => by omega⟩), HST⟩
  case round =>
    clear HST
    obtain ⟨i, hi, rfl, HN, HW⟩ := hrel
    obtain rfl | rfl | rfl | rfl | rfl | rfl : i = 0 ∨ i = 1 ∨ i = 2 ∨ i = 3 ∨ i = 4 ∨ i = 5 := by omega
    · obtain ⟨x0, x1, x2, x3, x4⟩ := cells5 HW.out.blk
      have C1 := Lib.hid (c_num 9221120237041090560 9221120237041090560 (by unfold wrap64; decide))
      have C2 := Lib.hid (fun W h => c_show 9221120237041090560 (by decide) _ rfl W h)
      have HGW := Lib.hid (HG.out.below HW.out.bel)
      obtain ⟨t, ht⟩ : ∃ t, showS 9221120237041090560 = t := ⟨_, rfl⟩
      rw [ht] at C2
      have HT := Lib.hid ht
      clear ht
      by_cases hq : t.toList = s.toList
      · have tq : (t.toList == s.toList) = true := by simp [hq]
        have HE := Lib.hid (rd_yes HR.out (m := 9221120237041090560) (by unfold Wf; decide) (by decide) (by rw [HT.out]; exact toList_inj hq))
        clear hq
        go_wp2_with (first | (go_at_call 84; ((with_reducible refine (C1.out _).mono ?_); rintro e w' ⟨rfl, rfl⟩)) | (go_at_call 42; ((with_reducible refine (C2.out _ HGW.out).mono ?_); rintro e w' ⟨rfl, hb⟩; have HB := Lib.hid (HW.out.below hb); clear hb x0 x1 x2 x3 x4)))
        go_ret2
        have hE := HE.out
        obtain ⟨rfl, rfl⟩ := hE
        exact ⟨rfl, HB.out.bel⟩
      · have tq : (t.toList == s.toList) = false := by simp [hq]
        have HNS := Lib.hid (show showS 9221120237041090560 ≠ s by rw [HT.out]; intro e; subst e; exact hq rfl)
        clear hq
        go_wp2_with (first | (go_at_call 84; ((with_reducible refine (C1.out _).mono ?_); rintro e w' ⟨rfl, rfl⟩)) | (go_at_call 42; ((with_reducible refine (C2.out _ HGW.out).mono ?_); rintro e w' ⟨rfl, hb⟩; have HB := Lib.hid (HW.out.below hb); clear hb x0 x1 x2 x3 x4)))
        go_roundw
        case rel => exact ⟨1, by omega, by go_num, Lib.hid ⟨fun _ => HNS.out, fun h => by omega, fun h => by omega, fun h => by omega, fun h => by omega⟩, HB⟩
        case measure => simp [intOf]
    · obtain ⟨x0, x1, x2, x3, x4⟩ := cells5 HW.out.blk
      have C1 := Lib.hid (c_num 9218868437227405312 9218868437227405312 (by unfold wrap64; decide))
      have C2 := Lib.hid (fun W h => c_show 9218868437227405312 (by decide) _ rfl W h)
      have HGW := Lib.hid (HG.out.below HW.out.bel)
      obtain ⟨t, ht⟩ : ∃ t, showS 9218868437227405312 = t := ⟨_, rfl⟩
      rw [ht] at C2
      have HT := Lib.hid ht
      clear ht
      by_cases hq : t.toList = s.toList
      · have tq : (t.toList == s.toList) = true := by simp [hq]
        have HE := Lib.hid (rd_yes HR.out (m := 9218868437227405312) (by unfold Wf; decide) (by decide) (by rw [HT.out]; exact toList_inj hq))
        clear hq
        go_wp2_with (first | (go_at_call 84; ((with_reducible refine (C1.out _).mono ?_); rintro e w' ⟨rfl, rfl⟩)) | (go_at_call 42; ((with_reducible refine (C2.out _ HGW.out).mono ?_); rintro e w' ⟨rfl, hb⟩; have HB := Lib.hid (HW.out.below hb); clear hb x0 x1 x2 x3 x4)))
        go_ret2
        have hE := HE.out
        obtain ⟨rfl, rfl⟩ := hE
        exact ⟨rfl, HB.out.bel⟩
      · have tq : (t.toList == s.toList) = false := by simp [hq]
        have HNS := Lib.hid (show showS 9218868437227405312 ≠ s by rw [HT.out]; intro e; subst e; exact hq rfl)
        clear hq
        go_wp2_with (first | (go_at_call 84; ((with_reducible refine (C1.out _).mono ?_); rintro e w' ⟨rfl, rfl⟩)) | (go_at_call 42; ((with_reducible refine (C2.out _ HGW.out).mono ?_); rintro e w' ⟨rfl, hb⟩; have HB := Lib.hid (HW.out.below hb); clear hb x0 x1 x2 x3 x4)))
        go_roundw
        case rel => exact ⟨2, by omega, by go_num, Lib.hid ⟨fun _ => HN.out.1 (by omega), fun _ => HNS.out, fun h => by omega, fun h => by omega, fun h => by omega⟩, HB⟩
        case measure => simp [intOf]
    · obtain ⟨x0, x1, x2, x3, x4⟩ := cells5 HW.out.blk
      have C1 := Lib.hid (c_num 18442240474082181120 (-4503599627370496) (by unfold wrap64; decide))
      have C2 := Lib.hid (fun W h => c_show (-4503599627370496) (by decide) _ rfl W h)
      have HGW := Lib.hid (HG.out.below HW.out.bel)
      obtain ⟨t, ht⟩ : ∃ t, showS (-4503599627370496) = t := ⟨_, rfl⟩
      rw [ht] at C2
      have HT := Lib.hid ht
      clear ht
      by_cases hq : t.toList = s.toList
      · have tq : (t.toList == s.toList) = true := by simp [hq]
        have HE := Lib.hid (rd_yes HR.out (m := (-4503599627370496)) (by unfold Wf; decide) (by decide) (by rw [HT.out]; exact toList_inj hq))
        clear hq
        go_wp2_with (first | (go_at_call 84; ((with_reducible refine (C1.out _).mono ?_); rintro e w' ⟨rfl, rfl⟩)) | (go_at_call 42; ((with_reducible refine (C2.out _ HGW.out).mono ?_); rintro e w' ⟨rfl, hb⟩; have HB := Lib.hid (HW.out.below hb); clear hb x0 x1 x2 x3 x4)))
        go_ret2
        have hE := HE.out
        obtain ⟨rfl, rfl⟩ := hE
        exact ⟨rfl, HB.out.bel⟩
      · have tq : (t.toList == s.toList) = false := by simp [hq]
        have HNS := Lib.hid (show showS (-4503599627370496) ≠ s by rw [HT.out]; intro e; subst e; exact hq rfl)
        clear hq
        go_wp2_with (first | (go_at_call 84; ((with_reducible refine (C1.out _).mono ?_); rintro e w' ⟨rfl, rfl⟩)) | (go_at_call 42; ((with_reducible refine (C2.out _ HGW.out).mono ?_); rintro e w' ⟨rfl, hb⟩; have HB := Lib.hid (HW.out.below hb); clear hb x0 x1 x2 x3 x4)))
        go_roundw
        case rel => exact ⟨3, by omega, by go_num, Lib.hid ⟨fun _ => HN.out.1 (by omega), fun _ => HN.out.2.1 (by omega), fun _ => HNS.out, fun h => by omega, fun h => by omega⟩, HB⟩
        case measure => simp [intOf]
    · obtain ⟨x0, x1, x2, x3, x4⟩ := cells5 HW.out.blk
      have C1 := Lib.hid (c_num 0 0 (by unfold wrap64; decide))
      have C2 := Lib.hid (fun W h => c_show 0 (by decide) _ rfl W h)
      have HGW := Lib.hid (HG.out.below HW.out.bel)
      obtain ⟨t, ht⟩ : ∃ t, showS 0 = t := ⟨_, rfl⟩
      rw [ht] at C2
      have HT := Lib.hid ht
      clear ht
      by_cases hq : t.toList = s.toList
      · have tq : (t.toList == s.toList) = true := by simp [hq]
        have HE := Lib.hid (rd_yes HR.out (m := 0) (by unfold Wf; decide) (by decide) (by rw [HT.out]; exact toList_inj hq))
        clear hq
        go_wp2_with (first | (go_at_call 84; ((with_reducible refine (C1.out _).mono ?_); rintro e w' ⟨rfl, rfl⟩)) | (go_at_call 42; ((with_reducible refine (C2.out _ HGW.out).mono ?_); rintro e w' ⟨rfl, hb⟩; have HB := Lib.hid (HW.out.below hb); clear hb x0 x1 x2 x3 x4)))
        go_ret2
        have hE := HE.out
        obtain ⟨rfl, rfl⟩ := hE
        exact ⟨rfl, HB.out.bel⟩
      · have tq : (t.toList == s.toList) = false := by simp [hq]
        have HNS := Lib.hid (show showS 0 ≠ s by rw [HT.out]; intro e; subst e; exact hq rfl)
        clear hq
        go_wp2_with (first | (go_at_call 84; ((with_reducible refine (C1.out _).mono ?_); rintro e w' ⟨rfl, rfl⟩)) | (go_at_call 42; ((with_reducible refine (C2.out _ HGW.out).mono ?_); rintro e w' ⟨rfl, hb⟩; have HB := Lib.hid (HW.out.below hb); clear hb x0 x1 x2 x3 x4)))
        go_roundw
        case rel => exact ⟨4, by omega, by go_num, Lib.hid ⟨fun _ => HN.out.1 (by omega), fun _ => HN.out.2.1 (by omega), fun _ => HN.out.2.2.1 (by omega), fun _ => HNS.out, fun h => by omega⟩, HB⟩
        case measure => simp [intOf]
    · obtain ⟨x0, x1, x2, x3, x4⟩ := cells5 HW.out.blk
      have C1 := Lib.hid (c_num 9223372036854775808 (-9223372036854775808) (by unfold wrap64; decide))
      have C2 := Lib.hid (fun W h => c_show (-9223372036854775808) (by decide) _ rfl W h)
      have HGW := Lib.hid (HG.out.below HW.out.bel)
      obtain ⟨t, ht⟩ : ∃ t, showS (-9223372036854775808) = t := ⟨_, rfl⟩
      rw [ht] at C2
      have HT := Lib.hid ht
      clear ht
      by_cases hq : t.toList = s.toList
      · have tq : (t.toList == s.toList) = true := by simp [hq]
        have HE := Lib.hid (rd_yes HR.out (m := (-9223372036854775808)) (by unfold Wf; decide) (by decide) (by rw [HT.out]; exact toList_inj hq))
        clear hq
        go_wp2_with (first | (go_at_call 84; ((with_reducible refine (C1.out _).mono ?_); rintro e w' ⟨rfl, rfl⟩)) | (go_at_call 42; ((with_reducible refine (C2.out _ HGW.out).mono ?_); rintro e w' ⟨rfl, hb⟩; have HB := Lib.hid (HW.out.below hb); clear hb x0 x1 x2 x3 x4)))
        go_ret2
        have hE := HE.out
        obtain ⟨rfl, rfl⟩ := hE
        exact ⟨rfl, HB.out.bel⟩
      · have tq : (t.toList == s.toList) = false := by simp [hq]
        have HNS := Lib.hid (show showS (-9223372036854775808) ≠ s by rw [HT.out]; intro e; subst e; exact hq rfl)
        clear hq
        go_wp2_with (first | (go_at_call 84; ((with_reducible refine (C1.out _).mono ?_); rintro e w' ⟨rfl, rfl⟩)) | (go_at_call 42; ((with_reducible refine (C2.out _ HGW.out).mono ?_); rintro e w' ⟨rfl, hb⟩; have HB := Lib.hid (HW.out.below hb); clear hb x0 x1 x2 x3 x4)))
        go_roundw
        case rel => exact ⟨5, by omega, by go_num, Lib.hid ⟨fun _ => HN.out.1 (by omega), fun _ => HN.out.2.1 (by omega), fun _ => HN.out.2.2.1 (by omega), fun _ => HN.out.2.2.2.1 (by omega), fun _ => HNS.out⟩, HB⟩
        case measure => simp [intOf]
    · have HX := Lib.hid (show ∀ m, Wf m → rightU (U m) = true → showS m = s → Lib.hasPrefix s.data.toList [120] = true ∧ cutX s = txt (hexI 16 (U m)) from fun m h1 h2 h3 => by
        have h4 : ¬ Named m := by
          rintro (rfl | rfl | rfl | rfl | rfl)
          · exact HN.out.1 (by omega) h3
          · exact HN.out.2.1 (by omega) h3
          · exact HN.out.2.2.1 (by omega) h3
          · exact HN.out.2.2.2.1 (by omega) h3
          · exact HN.out.2.2.2.2 (by omega) h3
        rw [← h3, show_hex h2 h4]
        exact cut_hex _)
      have C1 := Lib.hid (fun W => Tryz.strings_CutPrefix s ⟨#[120]⟩ W)
      have hsz : (cutX s).size ≤ 140737488351232 := by
        have h1 : (cutX s).size ≤ s.size := by
          unfold cutX Lib.trimPrefix
          show (if _ then _ else _ : List UInt8).toArray.size ≤ s.data.size
          rw [List.size_toArray, ← Array.length_toList]
          split <;> simp
        have := HS.out
        omega
      have HGW := Lib.hid (HG.out.below HW.out.bel)
      have C2 := Lib.hid (c_puint (cutX s) hsz wr HGW.out)
      clear hsz
      go_wp2_with fail
      refine (C1.out _).mono ?_
      rintro e w' ⟨rfl, hw⟩
      obtain rfl : w' = wr := hw
      rw [show (⟨(Lib.trimPrefix s.data.toList (#[120] : Array UInt8).toList).toArray⟩ : ByteArray) = cutX s from rfl]
      go_wp2_with fail
      refine C2.out.mono ?_
      rintro e w2 ⟨x, v, h0, h1, rfl, hv, hx, hb⟩
      have HB := Lib.hid (HW.out.below hb)
      have HXB := Lib.hid (⟨h0, h1⟩ : 0 ≤ x ∧ x < 18446744073709551616)
      have HHX := Lib.hid hx
      have HG2 := Lib.hid (HGW.out.below hb)
      clear hb h0 h1 hx C1 C2 HGW HW
      cases hp : Lib.hasPrefix s.data.toList [120] with
      | false =>
        have HE := Lib.hid (rd_no HR.out (fun m h1 h2 h3 => by have := (HX.out m h1 h2 h3).1; rw [hp] at this; cases this))
        clear hp
        go_wp2_with fail
        go_ret2
        have hE := HE.out
        obtain ⟨rfl, rfl⟩ := hE
        exact ⟨rfl, HB.out.bel⟩
      | true =>
        have HPF := Lib.hid hp
        clear hp
        rcases hv with rfl | ⟨tp, p, rfl⟩
        · obtain ⟨n2, hn2⟩ : ∃ n2, wrap64 x = n2 := ⟨_, rfl⟩
          have hwf : Wf n2 := by rw [← hn2]; unfold wrap64 Wf; omega
          have HU2 := Lib.hid (show U n2 = x by rw [← hn2]; exact U_wrap HXB.out)
          have C3 := Lib.hid (fun W h => c_show n2 hwf _ rfl W h)
          have HWF := Lib.hid hwf
          obtain ⟨t, ht⟩ : ∃ t, showS n2 = t := ⟨_, rfl⟩
          rw [ht] at C3
          have HT := Lib.hid ht
          clear ht hwf
          by_cases hq : t.toList = s.toList
          · have tq : (t.toList == s.toList) = true := by simp [hq]
            have HE := Lib.hid (rd_yes HR.out (m := n2) HWF.out (by
              cases hr : rightU (U n2) with
              | true => rfl
              | false =>
                exfalso
                have e1 : showS n2 = ⟨#[63]⟩ := by unfold showS; rw [if_pos hr]
                have e2 : s = ⟨#[63]⟩ := by rw [← toList_inj hq, ← HT.out, e1]
                have e3 := HPF.out
                rw [e2] at e3
                revert e3
                decide) (by rw [HT.out]; exact toList_inj hq))
            clear hq
            go_wp2_with (go_at_call 42; ((with_reducible refine (C3.out _ HG2.out).mono ?_); rintro e w3 ⟨rfl, hb⟩; have HB3 := Lib.hid (HB.out.below hb); clear hb))
            go_ret2
            have hE := HE.out
            obtain ⟨rfl, rfl⟩ := hE
            exact ⟨rfl, HB3.out.bel⟩
          · have tq : (t.toList == s.toList) = false := by simp [hq]
            have HE := Lib.hid (rd_no HR.out (fun m h1 h2 h3 => by
              have h4 := (HX.out m h1 h2 h3).2
              have h5 := (HHX.out (U m) ⟨h4, U_bd m⟩).1
              have h6 : n2 = m := U_inj HWF.out h1 (by rw [HU2.out, h5])
              subst h6
              rw [HT.out] at h3
              exact hq (by rw [h3])))
            clear hq
            go_wp2_with (go_at_call 42; ((with_reducible refine (C3.out _ HG2.out).mono ?_); rintro e w3 ⟨rfl, hb⟩; have HB3 := Lib.hid (HB.out.below hb); clear hb))
            go_ret2
            have hE := HE.out
            obtain ⟨rfl, rfl⟩ := hE
            exact ⟨rfl, HB3.out.bel⟩
        · have HE := Lib.hid (rd_no HR.out (fun m h1 h2 h3 => by
            have h4 := (HX.out m h1 h2 h3).2
            have h5 := (HHX.out (U m) ⟨h4, U_bd m⟩).2
            cases h5))
          go_wp2_with fail
          go_ret2
          have hE := HE.out
          obtain ⟨rfl, rfl⟩ := hE
          exact ⟨rfl, HB.out.bel⟩
end Go.Proofs.YtikpmlginojnhaaGreatDoor.Fl
