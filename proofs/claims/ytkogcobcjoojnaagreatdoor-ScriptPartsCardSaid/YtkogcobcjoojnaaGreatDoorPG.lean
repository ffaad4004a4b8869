/- Script: requests well formed, as plan asks it: rows of names, rows of mutations. -/
import Derived.Test.YtkogcobcjoojnaaGreatDoorPF
import Derived.Laws.Cover1
import Derived.Deep.MidRow
namespace Go.Proofs.YtkogcobcjoojnaaGreatDoor.Fl
open Go.RowKit Go.Maps
set_option linter.unusedVariables false
set_option linter.unusedSimpArgs false
theorem c_fwithin (n m : Int) (w : World) : Calls Tryz.prog 119 #[.int .i64 n, .int .i64 m] w fun e w' => e = .returned (.bool (within n 0 m)) ∧ Below w.heap.size w w' := by
  unfold within
  by_cases h1 : 0 ≤ n <;> by_cases h2 : n ≤ m <;>
  · go_enter Tryz.func119, Tryz.ntmps119
    go_wp2
    go_ret
    exact ⟨by simp [h1, h2], Below.refl _ _⟩
theorem c_dwithin (n a m : Int) (w : World) : Calls Tryz.prog 54 #[.int .i64 n, .int .i64 a, .int .i64 m] w fun e w' => e = .returned (.bool (within n a m)) ∧ Below w.heap.size w w' := by
  unfold within
  by_cases h1 : a ≤ n <;> by_cases h2 : n ≤ m <;>
  · go_enter Tryz.func54, Tryz.ntmps54
    go_wp2
    go_ret
    exact ⟨by simp [h1, h2], Below.refl _ _⟩
set_option maxHeartbeats 2000000 in
set_option maxRecDepth 100000 in
theorem c_fbad (s : ByteArray) (w : World) : Calls Tryz.prog 117 #[.string s] w fun e w' => e = .returned (.bool (!(nameOk s))) ∧ Below w.heap.size w w' := by
  have H := Lib.hid (fun w1 => c_name_filter s w1)
  go_enter Tryz.func117, Tryz.ntmps117
  go_wp2_with (go_at_call 118; refine (H.out _).mono ?_; rintro e w' ⟨rfl, hb⟩; have HB := Lib.hid hb; clear hb)
  go_ret
  exact ⟨rfl, HB.out⟩
theorem all_take {α : Type} (f : α → Bool) (l : List α) (k : Nat) (hk : k < l.length) : (l.take (k + 1)).all f = ((l.take k).all f && f l[k]) := by
  rw [List.take_succ_eq_append_getElem hk, List.all_append]
  simp
theorem all_of_take {α : Type} (f : α → Bool) (l : List α) (k : Nat) (h : (l.take k).all f = false) : l.all f = false := by
  rw [List.all_eq_false] at *
  obtain ⟨x, hx, h⟩ := h
  exact ⟨x, List.mem_of_mem_take hx, h⟩
theorem getD_eq (l : List ByteArray) (k : Nat) (hk : k < l.length) : l.getD k noB = l[k] := by simp [List.getD, hk]
set_option maxHeartbeats 2000000 in
set_option maxRecDepth 100000 in
theorem c_findex (v : Value) (xs : List ByteArray) (w : World) (hv : HasS w v xs) (hlen : xs.length ≤ 1099511627776) :
    Calls Tryz.prog 142 #[v, .func (.func 117) #[] #[]] w fun e w' => ∃ i : Int, e = .returned (.int .i64 i) ∧ -1 ≤ i ∧ decide (0 ≤ i) = !(xs.all nameOk) ∧ Below w.heap.size w w' := by
  obtain ⟨a, c, rfl, hk⟩ := hv
  have HW := Lib.hid (Below.refl w.heap.size w)
  have HL := Lib.hid hlen
  go_enter Tryz.func142, Tryz.ntmps142
  go_wp2
  go_loopg [5, 8] xs.length (fun gg _ s8 wr => ∃ kk : Nat, kk ≤ xs.length ∧ xs.length - kk ≤ gg ∧ s8 = .int .i64 kk ∧ Hid (Below w.heap.size w wr) ∧ Hid ((xs.take kk).all nameOk = true))
  case atStart => exact ⟨0, Nat.zero_le _, by omega, rfl, HW, Lib.hid (by simp)⟩
  case round =>
    obtain ⟨kk, hkk, hg, rfl, HB, A⟩ := hrel
    by_cases hlt : kk < xs.length
    · have hltz : (kk : Int) < (xs.length : Int) := by omega
      obtain ⟨ad, rfl, hc⟩ := hk kk hlt
      have x0 := (HB.out.cell (World.block_lt_of_cell? w _ hc)).trans hc
      have hk0 : (0 : Int) ≤ (kk : Int) := by omega
      rw [getD_eq _ _ hlt] at x0
      have ht := Lib.hid (all_take nameOk xs kk hlt)
      have hl := Lib.hid (all_of_take nameOk xs (kk + 1))
      generalize xs[kk] = y at x0 ht
      have hcall := fun w1 => c_fbad y w1
      clear hc
      cases hq : nameOk y with
      | false =>
        rw [hq] at hcall
        have HQ := Lib.hid hq
        clear hq
        go_wp2_with (go_at_call 117; refine (hcall _).mono ?_; rintro e w' ⟨rfl, hb⟩; have HB2 := Lib.hid (HB.out.trans (hb.mono HB.out.size)); clear hb)
        go_ret
        exact ⟨kk, rfl, by omega, by rw [hl.out (by rw [ht.out, HQ.out]; simp)]; simp, HB2.out⟩
      | true =>
        rw [hq] at hcall
        have HQ := Lib.hid hq
        clear hq
        go_wp2_with (go_at_call 117; refine (hcall _).mono ?_; rintro e w' ⟨rfl, hb⟩; have HB2 := Lib.hid (HB.out.trans (hb.mono HB.out.size)); clear hb)
        go_roundg (xs.length - (kk + 1))
        case measure => omega
        case rel => exact ⟨kk + 1, by omega, by omega, by have := HL.out; go_num, HB2, Lib.hid (by rw [ht.out, A.out, HQ.out]; rfl)⟩
    · have hltz : ¬ (kk : Int) < (xs.length : Int) := by omega
      have HA := Lib.hid (show xs.all nameOk = true by have := A.out; rw [List.take_of_length_le (by omega)] at this; exact this)
      go_wp2
      go_ret
      exact ⟨-1, rfl, by omega, by rw [HA.out]; rfl, HB.out⟩
set_option maxHeartbeats 2000000 in
set_option maxRecDepth 100000 in
theorem c_fnames (v : Value) (xs : List ByteArray) (w : World) (hv : HasS w v xs) (hlen : xs.length ≤ 1099511627776) :
    Calls Tryz.prog 116 #[v, .func (.func 117) #[] #[]] w fun e w' => e = .returned (.bool (!(xs.all nameOk))) ∧ Below w.heap.size w w' := by
  have H := Lib.hid (c_findex v xs w hv hlen)
  clear hv
  go_enter Tryz.func116, Tryz.ntmps116
  go_wp2_with (go_at_call 142; refine H.out.mono ?_; rintro e w' ⟨i, rfl, h1, h2, hb⟩; have H2 := Lib.hid h2; have HB := Lib.hid hb; clear h2 hb)
  go_ret
  exact ⟨by rw [← H2.out]; rfl, HB.out⟩
end Go.Proofs.YtkogcobcjoojnaaGreatDoor.Fl

namespace Go.Proofs.YtkogcobcjoojnaaGreatDoor.Fl
open Go.RowKit Go.Maps
set_option linter.unusedVariables false
set_option linter.unusedSimpArgs false
set_option maxHeartbeats 4000000 in
set_option maxRecDepth 100000 in
theorem c_pmut1 (fam qual : ByteArray) (vk vn : Int) (vs : ByteArray) (hvw : VW vn vs) (w : World) (hg : Gv w) : Calls Tryz.prog 84 #[.agg #[.int .i64 1, .string fam, .string qual, .int .i64 vk, .int .i64 vn, .string vs]] w fun e w' => e = .returned (.bool ((nameOk fam && decide ((qual.size : Int) ≤ 12) && rightV vk vn vs))) ∧ Below w.heap.size w w' := by
  generalize hE : ((nameOk fam && decide ((qual.size : Int) ≤ 12) && rightV vk vn vs)) = E0
  have C0 := Lib.hid (fun (W : World) (hW : Below w.heap.size w W) => (c_pcolumn fam qual W))
  have C1 := Lib.hid (fun (W : World) (hW : Below w.heap.size w W) => (by have := c_vright vk vn vs hvw.1 hvw.2 _ rfl W (hg.below hW); unfold vv at this; exact this))
  generalize hb0 : (nameOk fam && decide ((qual.size : Int) ≤ 12)) = b0 at C0 hE
  clear hb0
  generalize hb1 : (rightV vk vn vs) = b1 at C1 hE
  clear hb1
  cases b0
  case false =>
    have HE := Lib.hid (show E0 = false by rw [← hE]; simp [])
    clear hE
    have HX0 := Lib.hid (Bx.start w #[.int .i64 1, .string fam, .string qual, .int .i64 vk, .int .i64 vn, .string vs] 90)
    go_enter Tryz.func84, Tryz.ntmps84
    obtain ⟨x0, x1, x2, x3, x4, x5⟩ := HX0.out.c6
    go_wp2_with fail
    refine (C0.out _ HX0.out.bel).mono ?_
    rintro e w1 ⟨rfl, hb⟩
    have HX1 := Lib.hid (HX0.out.next hb)
    clear hb x0 x1 x2 x3 x4 x5
    obtain ⟨x0, x1, x2, x3, x4, x5⟩ := HX1.out.c6
    go_wp2
    go_ret
    exact ⟨(by rw [HE.out]; first | done | rfl | (show Ending.returned (Value.bool _) = Ending.returned (Value.bool _); simp [])), HX1.out.bel⟩
  cases b1
  case false =>
    have HE := Lib.hid (show E0 = false by rw [← hE]; simp [])
    clear hE
    have HX0 := Lib.hid (Bx.start w #[.int .i64 1, .string fam, .string qual, .int .i64 vk, .int .i64 vn, .string vs] 90)
    go_enter Tryz.func84, Tryz.ntmps84
    obtain ⟨x0, x1, x2, x3, x4, x5⟩ := HX0.out.c6
    go_wp2_with fail
    refine (C0.out _ HX0.out.bel).mono ?_
    rintro e w1 ⟨rfl, hb⟩
    have HX1 := Lib.hid (HX0.out.next hb)
    clear hb x0 x1 x2 x3 x4 x5
    obtain ⟨x0, x1, x2, x3, x4, x5⟩ := HX1.out.c6
    go_wp2_with fail
    refine (C1.out _ HX1.out.bel).mono ?_
    rintro e w2 ⟨rfl, hb⟩
    have HX2 := Lib.hid (HX1.out.next hb)
    clear hb x0 x1 x2 x3 x4 x5
    obtain ⟨x0, x1, x2, x3, x4, x5⟩ := HX2.out.c6
    go_wp2
    go_ret
    exact ⟨(by rw [HE.out]; first | done | rfl | (show Ending.returned (Value.bool _) = Ending.returned (Value.bool _); simp [])), HX2.out.bel⟩
  have HE := Lib.hid (show E0 = true by rw [← hE]; simp [])
  clear hE
  have HX0 := Lib.hid (Bx.start w #[.int .i64 1, .string fam, .string qual, .int .i64 vk, .int .i64 vn, .string vs] 90)
  go_enter Tryz.func84, Tryz.ntmps84
  obtain ⟨x0, x1, x2, x3, x4, x5⟩ := HX0.out.c6
  go_wp2_with fail
  refine (C0.out _ HX0.out.bel).mono ?_
  rintro e w1 ⟨rfl, hb⟩
  have HX1 := Lib.hid (HX0.out.next hb)
  clear hb x0 x1 x2 x3 x4 x5
  obtain ⟨x0, x1, x2, x3, x4, x5⟩ := HX1.out.c6
  go_wp2_with fail
  refine (C1.out _ HX1.out.bel).mono ?_
  rintro e w2 ⟨rfl, hb⟩
  have HX2 := Lib.hid (HX1.out.next hb)
  clear hb x0 x1 x2 x3 x4 x5
  obtain ⟨x0, x1, x2, x3, x4, x5⟩ := HX2.out.c6
  go_wp2
  go_ret
  exact ⟨(by rw [HE.out]; first | done | rfl | (show Ending.returned (Value.bool _) = Ending.returned (Value.bool _); simp [])), HX2.out.bel⟩
set_option maxHeartbeats 4000000 in
set_option maxRecDepth 100000 in
theorem c_pmut2 (fam qual : ByteArray) (vk vn : Int) (vs : ByteArray) (hvw : VW vn vs) (w : World) : Calls Tryz.prog 84 #[.agg #[.int .i64 2, .string fam, .string qual, .int .i64 vk, .int .i64 vn, .string vs]] w fun e w' => e = .returned (.bool ((nameOk fam && decide ((qual.size : Int) ≤ 12) && noVal vk vn vs))) ∧ Below w.heap.size w w' := by
  generalize hE : ((nameOk fam && decide ((qual.size : Int) ≤ 12) && noVal vk vn vs)) = E0
  have C0 := Lib.hid (fun (W : World) (hW : Below w.heap.size w W) => (c_pcolumn fam qual W))
  have C1 := Lib.hid (fun (W : World) (hW : Below w.heap.size w W) => (by have := c_pnone vk vn vs W; unfold vv at this; exact this))
  generalize hb0 : (nameOk fam && decide ((qual.size : Int) ≤ 12)) = b0 at C0 hE
  clear hb0
  generalize hb1 : (noVal vk vn vs) = b1 at C1 hE
  clear hb1
  cases b0
  case false =>
    have HE := Lib.hid (show E0 = false by rw [← hE]; simp [])
    clear hE
    have HX0 := Lib.hid (Bx.start w #[.int .i64 2, .string fam, .string qual, .int .i64 vk, .int .i64 vn, .string vs] 90)
    go_enter Tryz.func84, Tryz.ntmps84
    obtain ⟨x0, x1, x2, x3, x4, x5⟩ := HX0.out.c6
    go_wp2_with fail
    refine (C0.out _ HX0.out.bel).mono ?_
    rintro e w1 ⟨rfl, hb⟩
    have HX1 := Lib.hid (HX0.out.next hb)
    clear hb x0 x1 x2 x3 x4 x5
    obtain ⟨x0, x1, x2, x3, x4, x5⟩ := HX1.out.c6
    go_wp2
    go_ret
    exact ⟨(by rw [HE.out]; first | done | rfl | (show Ending.returned (Value.bool _) = Ending.returned (Value.bool _); simp [])), HX1.out.bel⟩
  cases b1
  case false =>
    have HE := Lib.hid (show E0 = false by rw [← hE]; simp [])
    clear hE
    have HX0 := Lib.hid (Bx.start w #[.int .i64 2, .string fam, .string qual, .int .i64 vk, .int .i64 vn, .string vs] 90)
    go_enter Tryz.func84, Tryz.ntmps84
    obtain ⟨x0, x1, x2, x3, x4, x5⟩ := HX0.out.c6
    go_wp2_with fail
    refine (C0.out _ HX0.out.bel).mono ?_
    rintro e w1 ⟨rfl, hb⟩
    have HX1 := Lib.hid (HX0.out.next hb)
    clear hb x0 x1 x2 x3 x4 x5
    obtain ⟨x0, x1, x2, x3, x4, x5⟩ := HX1.out.c6
    go_wp2_with fail
    refine (C1.out _ HX1.out.bel).mono ?_
    rintro e w2 ⟨rfl, hb⟩
    have HX2 := Lib.hid (HX1.out.next hb)
    clear hb x0 x1 x2 x3 x4 x5
    obtain ⟨x0, x1, x2, x3, x4, x5⟩ := HX2.out.c6
    go_wp2
    go_ret
    exact ⟨(by rw [HE.out]; first | done | rfl | (show Ending.returned (Value.bool _) = Ending.returned (Value.bool _); simp [])), HX2.out.bel⟩
  have HE := Lib.hid (show E0 = true by rw [← hE]; simp [])
  clear hE
  have HX0 := Lib.hid (Bx.start w #[.int .i64 2, .string fam, .string qual, .int .i64 vk, .int .i64 vn, .string vs] 90)
  go_enter Tryz.func84, Tryz.ntmps84
  obtain ⟨x0, x1, x2, x3, x4, x5⟩ := HX0.out.c6
  go_wp2_with fail
  refine (C0.out _ HX0.out.bel).mono ?_
  rintro e w1 ⟨rfl, hb⟩
  have HX1 := Lib.hid (HX0.out.next hb)
  clear hb x0 x1 x2 x3 x4 x5
  obtain ⟨x0, x1, x2, x3, x4, x5⟩ := HX1.out.c6
  go_wp2_with fail
  refine (C1.out _ HX1.out.bel).mono ?_
  rintro e w2 ⟨rfl, hb⟩
  have HX2 := Lib.hid (HX1.out.next hb)
  clear hb x0 x1 x2 x3 x4 x5
  obtain ⟨x0, x1, x2, x3, x4, x5⟩ := HX2.out.c6
  go_wp2
  go_ret
  exact ⟨(by rw [HE.out]; first | done | rfl | (show Ending.returned (Value.bool _) = Ending.returned (Value.bool _); simp [])), HX2.out.bel⟩
set_option maxHeartbeats 4000000 in
set_option maxRecDepth 100000 in
theorem c_pmut3 (fam qual : ByteArray) (vk vn : Int) (vs : ByteArray) (hvw : VW vn vs) (w : World) : Calls Tryz.prog 84 #[.agg #[.int .i64 3, .string fam, .string qual, .int .i64 vk, .int .i64 vn, .string vs]] w fun e w' => e = .returned (.bool ((nameOk fam && (qual.toList.isEmpty && noVal vk vn vs)))) ∧ Below w.heap.size w w' := by
  generalize hE : ((nameOk fam && (qual.toList.isEmpty && noVal vk vn vs))) = E0
  have C0 := Lib.hid (fun (W : World) (hW : Below w.heap.size w W) => (c_name_plan fam W))
  have C2 := Lib.hid (fun (W : World) (hW : Below w.heap.size w W) => (by have := c_pnone vk vn vs W; unfold vv at this; exact this))
  generalize hb0 : (nameOk fam) = b0 at C0 hE
  clear hb0
  generalize hb2 : (noVal vk vn vs) = b2 at C2 hE
  clear hb2
  cases b0
  case false =>
    have HE := Lib.hid (show E0 = false by rw [← hE]; simp [])
    clear hE
    have HX0 := Lib.hid (Bx.start w #[.int .i64 3, .string fam, .string qual, .int .i64 vk, .int .i64 vn, .string vs] 90)
    go_enter Tryz.func84, Tryz.ntmps84
    obtain ⟨x0, x1, x2, x3, x4, x5⟩ := HX0.out.c6
    go_wp2_with fail
    refine (C0.out _ HX0.out.bel).mono ?_
    rintro e w1 ⟨rfl, hb⟩
    have HX1 := Lib.hid (HX0.out.next hb)
    clear hb x0 x1 x2 x3 x4 x5
    obtain ⟨x0, x1, x2, x3, x4, x5⟩ := HX1.out.c6
    go_wp2
    go_ret
    exact ⟨(by rw [HE.out]; first | done | rfl | (show Ending.returned (Value.bool _) = Ending.returned (Value.bool _); simp [])), HX1.out.bel⟩
  by_cases n1 : qual.toList = []
  case neg =>
    have HE := Lib.hid (show E0 = false by rw [← hE]; simp [n1])
    clear hE
    have HX0 := Lib.hid (Bx.start w #[.int .i64 3, .string fam, .string qual, .int .i64 vk, .int .i64 vn, .string vs] 90)
    go_enter Tryz.func84, Tryz.ntmps84
    obtain ⟨x0, x1, x2, x3, x4, x5⟩ := HX0.out.c6
    go_wp2_with fail
    refine (C0.out _ HX0.out.bel).mono ?_
    rintro e w1 ⟨rfl, hb⟩
    have HX1 := Lib.hid (HX0.out.next hb)
    clear hb x0 x1 x2 x3 x4 x5
    obtain ⟨x0, x1, x2, x3, x4, x5⟩ := HX1.out.c6
    go_wp2
    go_ret
    exact ⟨(by rw [HE.out]; first | done | rfl | (show Ending.returned (Value.bool _) = Ending.returned (Value.bool _); simp [n1])), HX1.out.bel⟩
  cases b2
  case false =>
    have HE := Lib.hid (show E0 = false by rw [← hE]; simp [n1])
    clear hE
    have HX0 := Lib.hid (Bx.start w #[.int .i64 3, .string fam, .string qual, .int .i64 vk, .int .i64 vn, .string vs] 90)
    go_enter Tryz.func84, Tryz.ntmps84
    obtain ⟨x0, x1, x2, x3, x4, x5⟩ := HX0.out.c6
    go_wp2_with fail
    refine (C0.out _ HX0.out.bel).mono ?_
    rintro e w1 ⟨rfl, hb⟩
    have HX1 := Lib.hid (HX0.out.next hb)
    clear hb x0 x1 x2 x3 x4 x5
    obtain ⟨x0, x1, x2, x3, x4, x5⟩ := HX1.out.c6
    go_wp2_with fail
    refine (C2.out _ HX1.out.bel).mono ?_
    rintro e w2 ⟨rfl, hb⟩
    have HX2 := Lib.hid (HX1.out.next hb)
    clear hb x0 x1 x2 x3 x4 x5
    obtain ⟨x0, x1, x2, x3, x4, x5⟩ := HX2.out.c6
    go_wp2
    go_ret
    exact ⟨(by rw [HE.out]; first | done | rfl | (show Ending.returned (Value.bool _) = Ending.returned (Value.bool _); simp [n1])), HX2.out.bel⟩
  have HE := Lib.hid (show E0 = true by rw [← hE]; simp [n1])
  clear hE
  have HX0 := Lib.hid (Bx.start w #[.int .i64 3, .string fam, .string qual, .int .i64 vk, .int .i64 vn, .string vs] 90)
  go_enter Tryz.func84, Tryz.ntmps84
  obtain ⟨x0, x1, x2, x3, x4, x5⟩ := HX0.out.c6
  go_wp2_with fail
  refine (C0.out _ HX0.out.bel).mono ?_
  rintro e w1 ⟨rfl, hb⟩
  have HX1 := Lib.hid (HX0.out.next hb)
  clear hb x0 x1 x2 x3 x4 x5
  obtain ⟨x0, x1, x2, x3, x4, x5⟩ := HX1.out.c6
  go_wp2_with fail
  refine (C2.out _ HX1.out.bel).mono ?_
  rintro e w2 ⟨rfl, hb⟩
  have HX2 := Lib.hid (HX1.out.next hb)
  clear hb x0 x1 x2 x3 x4 x5
  obtain ⟨x0, x1, x2, x3, x4, x5⟩ := HX2.out.c6
  go_wp2
  go_ret
  exact ⟨(by rw [HE.out]; first | done | rfl | (show Ending.returned (Value.bool _) = Ending.returned (Value.bool _); simp [n1])), HX2.out.bel⟩
set_option maxHeartbeats 4000000 in
set_option maxRecDepth 100000 in
theorem c_pmut4 (fam qual : ByteArray) (vk vn : Int) (vs : ByteArray) (hvw : VW vn vs) (w : World) : Calls Tryz.prog 84 #[.agg #[.int .i64 4, .string fam, .string qual, .int .i64 vk, .int .i64 vn, .string vs]] w fun e w' => e = .returned (.bool ((fam.toList.isEmpty && (qual.toList.isEmpty && (decide (vk = 0) && (decide (vn = 0) && vs.toList.isEmpty)))))) ∧ Below w.heap.size w w' := by
  generalize hE : ((fam.toList.isEmpty && (qual.toList.isEmpty && (decide (vk = 0) && (decide (vn = 0) && vs.toList.isEmpty))))) = E0
  by_cases n0 : fam.toList = []
  case neg =>
    have HE := Lib.hid (show E0 = false by rw [← hE]; simp [n0])
    clear hE
    have HX0 := Lib.hid (Bx.start w #[.int .i64 4, .string fam, .string qual, .int .i64 vk, .int .i64 vn, .string vs] 90)
    go_enter Tryz.func84, Tryz.ntmps84
    obtain ⟨x0, x1, x2, x3, x4, x5⟩ := HX0.out.c6
    go_wp2
    go_ret
    exact ⟨(by rw [HE.out]; first | done | rfl | (show Ending.returned (Value.bool _) = Ending.returned (Value.bool _); simp [n0])), HX0.out.bel⟩
  by_cases n1 : qual.toList = []
  case neg =>
    have HE := Lib.hid (show E0 = false by rw [← hE]; simp [n0, n1])
    clear hE
    have HX0 := Lib.hid (Bx.start w #[.int .i64 4, .string fam, .string qual, .int .i64 vk, .int .i64 vn, .string vs] 90)
    go_enter Tryz.func84, Tryz.ntmps84
    obtain ⟨x0, x1, x2, x3, x4, x5⟩ := HX0.out.c6
    go_wp2
    go_ret
    exact ⟨(by rw [HE.out]; first | done | rfl | (show Ending.returned (Value.bool _) = Ending.returned (Value.bool _); simp [n0, n1])), HX0.out.bel⟩
  by_cases n2 : vk = 0
  case neg =>
    have HE := Lib.hid (show E0 = false by rw [← hE]; simp [n0, n1, n2])
    clear hE
    have HX0 := Lib.hid (Bx.start w #[.int .i64 4, .string fam, .string qual, .int .i64 vk, .int .i64 vn, .string vs] 90)
    go_enter Tryz.func84, Tryz.ntmps84
    obtain ⟨x0, x1, x2, x3, x4, x5⟩ := HX0.out.c6
    go_wp2
    go_ret
    exact ⟨(by rw [HE.out]; first | done | rfl | (show Ending.returned (Value.bool _) = Ending.returned (Value.bool _); simp [n0, n1, n2])), HX0.out.bel⟩
  subst n2
  by_cases n3 : vn = 0
  case neg =>
    have HE := Lib.hid (show E0 = false by rw [← hE]; simp [n0, n1, n3])
    clear hE
    have HX0 := Lib.hid (Bx.start w #[.int .i64 4, .string fam, .string qual, .int .i64 (0 : Int), .int .i64 vn, .string vs] 90)
    go_enter Tryz.func84, Tryz.ntmps84
    obtain ⟨x0, x1, x2, x3, x4, x5⟩ := HX0.out.c6
    go_wp2
    go_ret
    exact ⟨(by rw [HE.out]; first | done | rfl | (show Ending.returned (Value.bool _) = Ending.returned (Value.bool _); simp [n0, n1, n3])), HX0.out.bel⟩
  subst n3
  by_cases n4 : vs.toList = []
  case neg =>
    have HE := Lib.hid (show E0 = false by rw [← hE]; simp [n0, n1, n4])
    clear hE
    have HX0 := Lib.hid (Bx.start w #[.int .i64 4, .string fam, .string qual, .int .i64 (0 : Int), .int .i64 (0 : Int), .string vs] 90)
    go_enter Tryz.func84, Tryz.ntmps84
    obtain ⟨x0, x1, x2, x3, x4, x5⟩ := HX0.out.c6
    go_wp2
    go_ret
    exact ⟨(by rw [HE.out]; first | done | rfl | (show Ending.returned (Value.bool _) = Ending.returned (Value.bool _); simp [n0, n1, n4])), HX0.out.bel⟩
  have HE := Lib.hid (show E0 = true by rw [← hE]; simp [n0, n1, n4])
  clear hE
  have HX0 := Lib.hid (Bx.start w #[.int .i64 4, .string fam, .string qual, .int .i64 (0 : Int), .int .i64 (0 : Int), .string vs] 90)
  go_enter Tryz.func84, Tryz.ntmps84
  obtain ⟨x0, x1, x2, x3, x4, x5⟩ := HX0.out.c6
  go_wp2
  go_ret
  exact ⟨(by rw [HE.out]; first | done | rfl | (show Ending.returned (Value.bool _) = Ending.returned (Value.bool _); simp [n0, n1, n4])), HX0.out.bel⟩
set_option maxHeartbeats 4000000 in
set_option maxRecDepth 100000 in
theorem c_pmut0 (k : Int) (h1 : ¬ k = 1) (h2 : ¬ k = 2) (h3 : ¬ k = 3) (h4 : ¬ k = 4) (fam qual : ByteArray) (vk vn : Int) (vs : ByteArray) (w : World) : Calls Tryz.prog 84 #[.agg #[.int .i64 k, .string fam, .string qual, .int .i64 vk, .int .i64 vn, .string vs]] w fun e w' => e = .returned (.bool false) ∧ Below w.heap.size w w' := by
  have HX0 := Lib.hid (Bx.start w #[.int .i64 k, .string fam, .string qual, .int .i64 vk, .int .i64 vn, .string vs] 90)
  go_enter Tryz.func84, Tryz.ntmps84
  go_wp2
  go_ret
  exact ⟨rfl, HX0.out.bel⟩
theorem c_pmut (m : MutE) (hvw : VW m.vn m.vs) (w : World) (hg : Gv w) : Calls Tryz.prog 84 #[mv m] w fun e w' => e = .returned (.bool (mutOk m)) ∧ Below w.heap.size w w' := by
  obtain ⟨k, fam, qual, vk, vn, vs⟩ := m
  unfold mv mutOk
  simp only at hvw ⊢
  by_cases h1 : k = 1
  · subst h1
    refine (c_pmut1 fam qual vk vn vs hvw w hg).mono ?_
    rintro e w' ⟨rfl, hb⟩
    exact ⟨by rw [if_pos rfl, show decide ((qual.size : Int) ≤ 12) = decide (qual.size ≤ 12) from decide_eq_decide.2 (by omega)], hb⟩
  rw [if_neg h1]
  by_cases h2 : k = 2
  · subst h2
    refine (c_pmut2 fam qual vk vn vs hvw w).mono ?_
    rintro e w' ⟨rfl, hb⟩
    exact ⟨by rw [if_pos rfl, show decide ((qual.size : Int) ≤ 12) = decide (qual.size ≤ 12) from decide_eq_decide.2 (by omega)], hb⟩
  rw [if_neg h2]
  by_cases h3 : k = 3
  · subst h3
    refine (c_pmut3 fam qual vk vn vs hvw w).mono ?_
    rintro e w' ⟨rfl, hb⟩
    exact ⟨by rw [if_pos rfl, isE, Bool.and_assoc], hb⟩
  rw [if_neg h3]
  by_cases h4 : k = 4
  · subst h4
    refine (c_pmut4 fam qual vk vn vs hvw w).mono ?_
    rintro e w' ⟨rfl, hb⟩
    exact ⟨by rw [if_pos rfl, noVal_b, isE fam, isE qual, Bool.and_assoc], hb⟩
  rw [if_neg h4]
  exact c_pmut0 k h1 h2 h3 h4 fam qual vk vn vs w
set_option maxHeartbeats 2000000 in
set_option maxRecDepth 100000 in
theorem c_pbad (m : MutE) (hvw : VW m.vn m.vs) (w : World) (hg : Gv w) : Calls Tryz.prog 83 #[mv m] w fun e w' => e = .returned (.bool (!(mutOk m))) ∧ Below w.heap.size w w' := by
  have HX0 := Lib.hid (Bx.start w (mcells m) 90)
  have H := Lib.hid (fun w1 (hb : Below w.heap.size w w1) => c_pmut m hvw w1 (hg.below hb))
  obtain ⟨k, fam, qual, vk, vn, vs⟩ := m
  generalize mutOk _ = b at H ⊢
  unfold mv at H ⊢
  unfold mcells at HX0
  simp only at HX0 H ⊢
  obtain ⟨x0, x1, x2, x3, x4, x5⟩ := HX0.out.c6
  go_enter Tryz.func83, Tryz.ntmps83
  go_wp2_with fail
  refine (H.out _ HX0.out.bel).mono ?_
  rintro e w1 ⟨rfl, hb⟩
  have HX1 := Lib.hid (HX0.out.next hb)
  clear hb x0 x1 x2 x3 x4 x5
  go_wp2
  go_ret
  exact ⟨rfl, HX1.out.bel⟩
set_option maxHeartbeats 2000000 in
set_option maxRecDepth 100000 in
theorem c_mindex (v : Value) (ms : List MutE) (hvw : ∀ m ∈ ms, VW m.vn m.vs) (w : World) (hg : Gv w) (hv : HasM w v ms) (hlen : ms.length ≤ 1099511627776) :
    Calls Tryz.prog 120 #[v, .func (.func 83) #[] #[]] w fun e w' => ∃ i : Int, e = .returned (.int .i64 i) ∧ -1 ≤ i ∧ decide (0 ≤ i) = !(ms.all mutOk) ∧ Below w.heap.size w w' := by
  obtain ⟨a, c, rfl, hk⟩ := hv
  have HW := Lib.hid (Below.refl w.heap.size w)
  have HL := Lib.hid hlen
  have HG := Lib.hid hg
  go_enter Tryz.func120, Tryz.ntmps120
  go_wp2
  go_loopg [5, 8] ms.length (fun gg _ s8 wr => ∃ kk : Nat, kk ≤ ms.length ∧ ms.length - kk ≤ gg ∧ s8 = .int .i64 kk ∧ Hid (Below w.heap.size w wr) ∧ Hid ((ms.take kk).all mutOk = true))
  case atStart => exact ⟨0, Nat.zero_le _, by omega, rfl, HW, Lib.hid (by simp)⟩
  case round =>
    obtain ⟨kk, hkk, hg, rfl, HB, A⟩ := hrel
    by_cases hlt : kk < ms.length
    · have hltz : (kk : Int) < (ms.length : Int) := by omega
      obtain ⟨ad, rfl, hc⟩ := hk kk _ (List.getElem?_eq_getElem hlt)
      have hk0 : (0 : Int) ≤ (kk : Int) := by omega
      have hmw := Lib.hid (hvw _ (List.getElem_mem hlt))
      have ht := Lib.hid (all_take mutOk ms kk hlt)
      have hl := Lib.hid (all_of_take mutOk ms (kk + 1))
      generalize ms[kk] = m at hc ht hmw
      have y0 := (HB.out.cell (World.block_lt_of_cell? w _ hc.1)).trans hc.1
      have hc2 := fun r x h1 hx => (HB.out.cell (World.block_lt_of_cell? w _ (hc.2 r x h1 hx))).trans (hc.2 r x h1 hx)
      have y1 := hc2 1 (.string m.fam) (by decide) rfl
      have y2 := hc2 2 (.string m.qual) (by decide) rfl
      have y3 := hc2 3 (.int .i64 m.vk) (by decide) rfl
      have y4 := hc2 4 (.int .i64 m.vn) (by decide) rfl
      have y5 := hc2 5 (.string m.vs) (by decide) rfl
      have hcall := c_pbad m hmw.out wr (HG.out.below HB.out)
      unfold mv at hcall
      clear hc hc2
      cases hq : mutOk m with
      | false =>
        rw [hq] at hcall
        have HQ := Lib.hid hq
        have HC := Lib.hid hcall
        clear hq hcall
        go_wp2_with fail
        refine HC.out.mono ?_
        rintro e w' ⟨rfl, hb⟩
        have HB2 := Lib.hid (HB.out.trans (hb.mono HB.out.size))
        clear hb y0 y1 y2 y3 y4 y5
        go_wp2
        go_ret
        exact ⟨kk, rfl, by omega, by rw [hl.out (by rw [ht.out, HQ.out]; simp)]; simp, HB2.out⟩
      | true =>
        rw [hq] at hcall
        have HQ := Lib.hid hq
        have HC := Lib.hid hcall
        clear hq hcall
        go_wp2_with fail
        refine HC.out.mono ?_
        rintro e w' ⟨rfl, hb⟩
        have HB2 := Lib.hid (HB.out.trans (hb.mono HB.out.size))
        clear hb y0 y1 y2 y3 y4 y5
        go_wp2
        go_roundg (ms.length - (kk + 1))
        case measure => omega
        case rel => exact ⟨kk + 1, by omega, by omega, by have := HL.out; go_num, HB2, Lib.hid (by rw [ht.out, A.out, HQ.out]; rfl)⟩
    · have hltz : ¬ (kk : Int) < (ms.length : Int) := by omega
      have HA := Lib.hid (show ms.all mutOk = true by have := A.out; rw [List.take_of_length_le (by omega)] at this; exact this)
      go_wp2
      go_ret
      exact ⟨-1, rfl, by omega, by rw [HA.out]; rfl, HB.out⟩
set_option maxHeartbeats 2000000 in
set_option maxRecDepth 100000 in
theorem c_mbad (v : Value) (ms : List MutE) (hvw : ∀ m ∈ ms, VW m.vn m.vs) (w : World) (hg : Gv w) (hv : HasM w v ms) (hlen : ms.length ≤ 1099511627776) :
    Calls Tryz.prog 86 #[v, .func (.func 83) #[] #[]] w fun e w' => e = .returned (.bool (!(ms.all mutOk))) ∧ Below w.heap.size w w' := by
  have H := Lib.hid (c_mindex v ms hvw w hg hv hlen)
  clear hv
  go_enter Tryz.func86, Tryz.ntmps86
  go_wp2_with (go_at_call 120; refine H.out.mono ?_; rintro e w' ⟨i, rfl, h1, h2, hb⟩; have H2 := Lib.hid h2; have HB := Lib.hid hb; clear h2 hb)
  go_ret
  exact ⟨by rw [← H2.out]; rfl, HB.out⟩
end Go.Proofs.YtkogcobcjoojnaaGreatDoor.Fl

namespace Go.Proofs.YtkogcobcjoojnaaGreatDoor.Fl
open Go.RowKit Go.Maps
set_option linter.unusedVariables false
set_option linter.unusedSimpArgs false
set_option maxHeartbeats 4000000 in
set_option maxRecDepth 100000 in
theorem c_fright (fa : Option Addr) (fc : Nat) (fams : List ByteArray) (lo up : ByteArray) (since til versions rows : Int) (hl : fams.length ≤ 1099511627776) (w : World) (hf : HasS w (.slice fa fams.length fc) fams) : Calls Tryz.prog 82 #[.agg #[.slice fa fams.length fc, .string lo, .string up, .int .i64 since, .int .i64 til, .int .i64 versions, .int .i64 rows]] w fun e w' => e = .returned (.bool ((decide ((fams.length : Int) ≤ 6) && (fams.all nameOk && (decide ((lo.size : Int) ≤ 12) && (decide ((up.size : Int) ≤ 12) && (within since 0 1099511627776 && (within til 0 1099511627776 && (within versions 0 8 && within rows 0 1000))))))))) ∧ Below w.heap.size w w' := by
  generalize hE : ((decide ((fams.length : Int) ≤ 6) && (fams.all nameOk && (decide ((lo.size : Int) ≤ 12) && (decide ((up.size : Int) ≤ 12) && (within since 0 1099511627776 && (within til 0 1099511627776 && (within versions 0 8 && within rows 0 1000)))))))) = E0
  have C1 := Lib.hid (fun (W : World) (hW : Below w.heap.size w W) => (c_fnames (.slice fa fams.length fc) fams W (hf.keep hW) hl))
  have C4 := Lib.hid (fun (W : World) (hW : Below w.heap.size w W) => (c_fwithin since 1099511627776 W))
  have C5 := Lib.hid (fun (W : World) (hW : Below w.heap.size w W) => (c_fwithin til 1099511627776 W))
  have C6 := Lib.hid (fun (W : World) (hW : Below w.heap.size w W) => (c_fwithin versions 8 W))
  have C7 := Lib.hid (fun (W : World) (hW : Below w.heap.size w W) => (c_fwithin rows 1000 W))
  generalize hb1 : (fams.all nameOk) = b1 at C1 hE
  clear hb1
  generalize hb4 : (within since 0 1099511627776) = b4 at C4 hE
  clear hb4
  generalize hb5 : (within til 0 1099511627776) = b5 at C5 hE
  clear hb5
  generalize hb6 : (within versions 0 8) = b6 at C6 hE
  clear hb6
  generalize hb7 : (within rows 0 1000) = b7 at C7 hE
  clear hb7
  by_cases n0 : (fams.length : Int) ≤ 6
  case neg =>
    have m0 : (fams.length : Int) > 6 := by omega
    have HE := Lib.hid (show E0 = false by rw [← hE]; simp [n0])
    clear hE
    have HX0 := Lib.hid (Bx.start w #[.slice fa fams.length fc, .string lo, .string up, .int .i64 since, .int .i64 til, .int .i64 versions, .int .i64 rows] 33)
    go_enter Tryz.func82, Tryz.ntmps82
    obtain ⟨x0, x1, x2, x3, x4, x5, x6⟩ := HX0.out.c7
    go_wp2
    go_ret
    exact ⟨(by rw [HE.out]; first | done | rfl | (show Ending.returned (Value.bool _) = Ending.returned (Value.bool _); simp [n0])), HX0.out.bel⟩
  have m0 : ¬ (fams.length : Int) > 6 := by omega
  cases b1
  case false =>
    have HE := Lib.hid (show E0 = false by rw [← hE]; simp [n0])
    clear hE
    have HX0 := Lib.hid (Bx.start w #[.slice fa fams.length fc, .string lo, .string up, .int .i64 since, .int .i64 til, .int .i64 versions, .int .i64 rows] 33)
    go_enter Tryz.func82, Tryz.ntmps82
    obtain ⟨x0, x1, x2, x3, x4, x5, x6⟩ := HX0.out.c7
    go_wp2_with fail
    refine (C1.out _ HX0.out.bel).mono ?_
    rintro e w1 ⟨rfl, hb⟩
    have HX1 := Lib.hid (HX0.out.next hb)
    clear hb x0 x1 x2 x3 x4 x5 x6
    obtain ⟨x0, x1, x2, x3, x4, x5, x6⟩ := HX1.out.c7
    go_wp2
    go_ret
    exact ⟨(by rw [HE.out]; first | done | rfl | (show Ending.returned (Value.bool _) = Ending.returned (Value.bool _); simp [n0])), HX1.out.bel⟩
  by_cases n2 : (lo.size : Int) ≤ 12
  case neg =>
    have HE := Lib.hid (show E0 = false by rw [← hE]; simp [n0, n2])
    clear hE
    have HX0 := Lib.hid (Bx.start w #[.slice fa fams.length fc, .string lo, .string up, .int .i64 since, .int .i64 til, .int .i64 versions, .int .i64 rows] 33)
    go_enter Tryz.func82, Tryz.ntmps82
    obtain ⟨x0, x1, x2, x3, x4, x5, x6⟩ := HX0.out.c7
    go_wp2_with fail
    refine (C1.out _ HX0.out.bel).mono ?_
    rintro e w1 ⟨rfl, hb⟩
    have HX1 := Lib.hid (HX0.out.next hb)
    clear hb x0 x1 x2 x3 x4 x5 x6
    obtain ⟨x0, x1, x2, x3, x4, x5, x6⟩ := HX1.out.c7
    go_wp2
    go_ret
    exact ⟨(by rw [HE.out]; first | done | rfl | (show Ending.returned (Value.bool _) = Ending.returned (Value.bool _); simp [n0, n2])), HX1.out.bel⟩
  by_cases n3 : (up.size : Int) ≤ 12
  case neg =>
    have HE := Lib.hid (show E0 = false by rw [← hE]; simp [n0, n2, n3])
    clear hE
    have HX0 := Lib.hid (Bx.start w #[.slice fa fams.length fc, .string lo, .string up, .int .i64 since, .int .i64 til, .int .i64 versions, .int .i64 rows] 33)
    go_enter Tryz.func82, Tryz.ntmps82
    obtain ⟨x0, x1, x2, x3, x4, x5, x6⟩ := HX0.out.c7
    go_wp2_with fail
    refine (C1.out _ HX0.out.bel).mono ?_
    rintro e w1 ⟨rfl, hb⟩
    have HX1 := Lib.hid (HX0.out.next hb)
    clear hb x0 x1 x2 x3 x4 x5 x6
    obtain ⟨x0, x1, x2, x3, x4, x5, x6⟩ := HX1.out.c7
    go_wp2
    go_ret
    exact ⟨(by rw [HE.out]; first | done | rfl | (show Ending.returned (Value.bool _) = Ending.returned (Value.bool _); simp [n0, n2, n3])), HX1.out.bel⟩
  cases b4
  case false =>
    have HE := Lib.hid (show E0 = false by rw [← hE]; simp [n0, n2, n3])
    clear hE
    have HX0 := Lib.hid (Bx.start w #[.slice fa fams.length fc, .string lo, .string up, .int .i64 since, .int .i64 til, .int .i64 versions, .int .i64 rows] 33)
    go_enter Tryz.func82, Tryz.ntmps82
    obtain ⟨x0, x1, x2, x3, x4, x5, x6⟩ := HX0.out.c7
    go_wp2_with fail
    refine (C1.out _ HX0.out.bel).mono ?_
    rintro e w1 ⟨rfl, hb⟩
    have HX1 := Lib.hid (HX0.out.next hb)
    clear hb x0 x1 x2 x3 x4 x5 x6
    obtain ⟨x0, x1, x2, x3, x4, x5, x6⟩ := HX1.out.c7
    go_wp2_with fail
    refine (C4.out _ HX1.out.bel).mono ?_
    rintro e w2 ⟨rfl, hb⟩
    have HX2 := Lib.hid (HX1.out.next hb)
    clear hb x0 x1 x2 x3 x4 x5 x6
    obtain ⟨x0, x1, x2, x3, x4, x5, x6⟩ := HX2.out.c7
    go_wp2
    go_ret
    exact ⟨(by rw [HE.out]; first | done | rfl | (show Ending.returned (Value.bool _) = Ending.returned (Value.bool _); simp [n0, n2, n3])), HX2.out.bel⟩
  cases b5
  case false =>
    have HE := Lib.hid (show E0 = false by rw [← hE]; simp [n0, n2, n3])
    clear hE
    have HX0 := Lib.hid (Bx.start w #[.slice fa fams.length fc, .string lo, .string up, .int .i64 since, .int .i64 til, .int .i64 versions, .int .i64 rows] 33)
    go_enter Tryz.func82, Tryz.ntmps82
    obtain ⟨x0, x1, x2, x3, x4, x5, x6⟩ := HX0.out.c7
    go_wp2_with fail
    refine (C1.out _ HX0.out.bel).mono ?_
    rintro e w1 ⟨rfl, hb⟩
    have HX1 := Lib.hid (HX0.out.next hb)
    clear hb x0 x1 x2 x3 x4 x5 x6
    obtain ⟨x0, x1, x2, x3, x4, x5, x6⟩ := HX1.out.c7
    go_wp2_with fail
    refine (C4.out _ HX1.out.bel).mono ?_
    rintro e w2 ⟨rfl, hb⟩
    have HX2 := Lib.hid (HX1.out.next hb)
    clear hb x0 x1 x2 x3 x4 x5 x6
    obtain ⟨x0, x1, x2, x3, x4, x5, x6⟩ := HX2.out.c7
    go_wp2_with fail
    refine (C5.out _ HX2.out.bel).mono ?_
    rintro e w3 ⟨rfl, hb⟩
    have HX3 := Lib.hid (HX2.out.next hb)
    clear hb x0 x1 x2 x3 x4 x5 x6
    obtain ⟨x0, x1, x2, x3, x4, x5, x6⟩ := HX3.out.c7
    go_wp2
    go_ret
    exact ⟨(by rw [HE.out]; first | done | rfl | (show Ending.returned (Value.bool _) = Ending.returned (Value.bool _); simp [n0, n2, n3])), HX3.out.bel⟩
  cases b6
  case false =>
    have HE := Lib.hid (show E0 = false by rw [← hE]; simp [n0, n2, n3])
    clear hE
    have HX0 := Lib.hid (Bx.start w #[.slice fa fams.length fc, .string lo, .string up, .int .i64 since, .int .i64 til, .int .i64 versions, .int .i64 rows] 33)
    go_enter Tryz.func82, Tryz.ntmps82
    obtain ⟨x0, x1, x2, x3, x4, x5, x6⟩ := HX0.out.c7
    go_wp2_with fail
    refine (C1.out _ HX0.out.bel).mono ?_
    rintro e w1 ⟨rfl, hb⟩
    have HX1 := Lib.hid (HX0.out.next hb)
    clear hb x0 x1 x2 x3 x4 x5 x6
    obtain ⟨x0, x1, x2, x3, x4, x5, x6⟩ := HX1.out.c7
    go_wp2_with fail
    refine (C4.out _ HX1.out.bel).mono ?_
    rintro e w2 ⟨rfl, hb⟩
    have HX2 := Lib.hid (HX1.out.next hb)
    clear hb x0 x1 x2 x3 x4 x5 x6
    obtain ⟨x0, x1, x2, x3, x4, x5, x6⟩ := HX2.out.c7
    go_wp2_with fail
    refine (C5.out _ HX2.out.bel).mono ?_
    rintro e w3 ⟨rfl, hb⟩
    have HX3 := Lib.hid (HX2.out.next hb)
    clear hb x0 x1 x2 x3 x4 x5 x6
    obtain ⟨x0, x1, x2, x3, x4, x5, x6⟩ := HX3.out.c7
    go_wp2_with fail
    refine (C6.out _ HX3.out.bel).mono ?_
    rintro e w4 ⟨rfl, hb⟩
    have HX4 := Lib.hid (HX3.out.next hb)
    clear hb x0 x1 x2 x3 x4 x5 x6
    obtain ⟨x0, x1, x2, x3, x4, x5, x6⟩ := HX4.out.c7
    go_wp2
    go_ret
    exact ⟨(by rw [HE.out]; first | done | rfl | (show Ending.returned (Value.bool _) = Ending.returned (Value.bool _); simp [n0, n2, n3])), HX4.out.bel⟩
  cases b7
  case false =>
    have HE := Lib.hid (show E0 = false by rw [← hE]; simp [n0, n2, n3])
    clear hE
    have HX0 := Lib.hid (Bx.start w #[.slice fa fams.length fc, .string lo, .string up, .int .i64 since, .int .i64 til, .int .i64 versions, .int .i64 rows] 33)
    go_enter Tryz.func82, Tryz.ntmps82
    obtain ⟨x0, x1, x2, x3, x4, x5, x6⟩ := HX0.out.c7
    go_wp2_with fail
    refine (C1.out _ HX0.out.bel).mono ?_
    rintro e w1 ⟨rfl, hb⟩
    have HX1 := Lib.hid (HX0.out.next hb)
    clear hb x0 x1 x2 x3 x4 x5 x6
    obtain ⟨x0, x1, x2, x3, x4, x5, x6⟩ := HX1.out.c7
    go_wp2_with fail
    refine (C4.out _ HX1.out.bel).mono ?_
    rintro e w2 ⟨rfl, hb⟩
    have HX2 := Lib.hid (HX1.out.next hb)
    clear hb x0 x1 x2 x3 x4 x5 x6
    obtain ⟨x0, x1, x2, x3, x4, x5, x6⟩ := HX2.out.c7
    go_wp2_with fail
    refine (C5.out _ HX2.out.bel).mono ?_
    rintro e w3 ⟨rfl, hb⟩
    have HX3 := Lib.hid (HX2.out.next hb)
    clear hb x0 x1 x2 x3 x4 x5 x6
    obtain ⟨x0, x1, x2, x3, x4, x5, x6⟩ := HX3.out.c7
    go_wp2_with fail
    refine (C6.out _ HX3.out.bel).mono ?_
    rintro e w4 ⟨rfl, hb⟩
    have HX4 := Lib.hid (HX3.out.next hb)
    clear hb x0 x1 x2 x3 x4 x5 x6
    obtain ⟨x0, x1, x2, x3, x4, x5, x6⟩ := HX4.out.c7
    go_wp2_with fail
    refine (C7.out _ HX4.out.bel).mono ?_
    rintro e w5 ⟨rfl, hb⟩
    have HX5 := Lib.hid (HX4.out.next hb)
    clear hb x0 x1 x2 x3 x4 x5 x6
    obtain ⟨x0, x1, x2, x3, x4, x5, x6⟩ := HX5.out.c7
    go_wp2
    go_ret
    exact ⟨(by rw [HE.out]; first | done | rfl | (show Ending.returned (Value.bool _) = Ending.returned (Value.bool _); simp [n0, n2, n3])), HX5.out.bel⟩
  have HE := Lib.hid (show E0 = true by rw [← hE]; simp [n0, n2, n3])
  clear hE
  have HX0 := Lib.hid (Bx.start w #[.slice fa fams.length fc, .string lo, .string up, .int .i64 since, .int .i64 til, .int .i64 versions, .int .i64 rows] 33)
  go_enter Tryz.func82, Tryz.ntmps82
  obtain ⟨x0, x1, x2, x3, x4, x5, x6⟩ := HX0.out.c7
  go_wp2_with fail
  refine (C1.out _ HX0.out.bel).mono ?_
  rintro e w1 ⟨rfl, hb⟩
  have HX1 := Lib.hid (HX0.out.next hb)
  clear hb x0 x1 x2 x3 x4 x5 x6
  obtain ⟨x0, x1, x2, x3, x4, x5, x6⟩ := HX1.out.c7
  go_wp2_with fail
  refine (C4.out _ HX1.out.bel).mono ?_
  rintro e w2 ⟨rfl, hb⟩
  have HX2 := Lib.hid (HX1.out.next hb)
  clear hb x0 x1 x2 x3 x4 x5 x6
  obtain ⟨x0, x1, x2, x3, x4, x5, x6⟩ := HX2.out.c7
  go_wp2_with fail
  refine (C5.out _ HX2.out.bel).mono ?_
  rintro e w3 ⟨rfl, hb⟩
  have HX3 := Lib.hid (HX2.out.next hb)
  clear hb x0 x1 x2 x3 x4 x5 x6
  obtain ⟨x0, x1, x2, x3, x4, x5, x6⟩ := HX3.out.c7
  go_wp2_with fail
  refine (C6.out _ HX3.out.bel).mono ?_
  rintro e w4 ⟨rfl, hb⟩
  have HX4 := Lib.hid (HX3.out.next hb)
  clear hb x0 x1 x2 x3 x4 x5 x6
  obtain ⟨x0, x1, x2, x3, x4, x5, x6⟩ := HX4.out.c7
  go_wp2_with fail
  refine (C7.out _ HX4.out.bel).mono ?_
  rintro e w5 ⟨rfl, hb⟩
  have HX5 := Lib.hid (HX4.out.next hb)
  clear hb x0 x1 x2 x3 x4 x5 x6
  obtain ⟨x0, x1, x2, x3, x4, x5, x6⟩ := HX5.out.c7
  go_wp2
  go_ret
  exact ⟨(by rw [HE.out]; first | done | rfl | (show Ending.returned (Value.bool _) = Ending.returned (Value.bool _); simp [n0, n2, n3])), HX5.out.bel⟩
def pEmpty (fams : List ByteArray) (lo up : ByteArray) (since til versions rows : Int) : Bool := (decide (fams.length = 0) && (lo.toList.isEmpty && (up.toList.isEmpty && (decide (since = 0) && (decide (til = 0) && (decide (versions = 0) && decide (rows = 0)))))))
theorem c_pemptyB (fa : Option Addr) (fams : List ByteArray) (fc : Nat) (lo up : ByteArray) (since til versions rows : Int) (w : World) : Calls Tryz.prog 85 #[.agg #[.slice fa fams.length fc, .string lo, .string up, .int .i64 since, .int .i64 til, .int .i64 versions, .int .i64 rows]] w fun e w' => e = .returned (.bool (pEmpty fams lo up since til versions rows)) ∧ Below w.heap.size w w' := c_pempty fa fams.length fc lo up since til versions rows w
set_option maxHeartbeats 4000000 in
set_option maxRecDepth 100000 in
theorem c_pwrite (k : Int) (row stop : ByteArray) (a : Option Addr) (c : Nat) (ms : List MutE) (fam qual : ByteArray) (vk vn : Int) (vs : ByteArray) (fa : Option Addr) (fc : Nat) (fams : List ByteArray) (lo up : ByteArray) (since til versions rows : Int) (hvw : ∀ m ∈ ms, VW m.vn m.vs) (w : World) (hg : Gv w) (hm : HasM w (.slice a ms.length c) ms) (hml : ms.length ≤ 1099511627776) : Calls Tryz.prog 50 #[.agg #[.int .i64 k, .string row, .string stop, .slice a ms.length c, .string fam, .string qual, .int .i64 vk, .int .i64 vn, .string vs, .slice fa fams.length fc, .string lo, .string up, .int .i64 since, .int .i64 til, .int .i64 versions, .int .i64 rows]] w fun e w' => e = .returned (.bool ((!row.toList.isEmpty && (decide ((row.size : Int) ≤ 16) && (stop.toList.isEmpty && (pEmpty fams lo up since til versions rows && (decide (0 < ms.length) && (decide ((ms.length : Int) ≤ 8) && ms.all mutOk)))))))) ∧ Below w.heap.size w w' := by
  generalize hE : ((!row.toList.isEmpty && (decide ((row.size : Int) ≤ 16) && (stop.toList.isEmpty && (pEmpty fams lo up since til versions rows && (decide (0 < ms.length) && (decide ((ms.length : Int) ≤ 8) && ms.all mutOk))))))) = E0
  have C3 := Lib.hid (fun (W : World) (hW : Below w.heap.size w W) => (c_pemptyB fa fams fc lo up since til versions rows W))
  have C6 := Lib.hid (fun (W : World) (hW : Below w.heap.size w W) => (c_mbad (.slice a ms.length c) ms hvw W (hg.below hW) (hm.keep hW) hml))
  generalize hb3 : (pEmpty fams lo up since til versions rows) = b3 at C3 hE
  clear hb3
  generalize hb6 : (ms.all mutOk) = b6 at C6 hE
  clear hb6
  by_cases n0 : ¬ row.toList = []
  case neg =>
    have HE := Lib.hid (show E0 = false by rw [← hE]; simp [n0])
    clear hE
    have HX0 := Lib.hid (Bx.start w #[.int .i64 k, .string row, .string stop, .slice a ms.length c, .string fam, .string qual, .int .i64 vk, .int .i64 vn, .string vs, .slice fa fams.length fc, .string lo, .string up, .int .i64 since, .int .i64 til, .int .i64 versions, .int .i64 rows] 35)
    go_enter Tryz.func50, Tryz.ntmps50
    obtain ⟨x0, x1, x2, x3, x4, x5, x6, x7, x8, x9, x10, x11, x12, x13, x14, x15⟩ := HX0.out.c16
    go_wp2
    go_ret
    exact ⟨(by rw [HE.out]; first | done | rfl | (show Ending.returned (Value.bool _) = Ending.returned (Value.bool _); simp [n0])), HX0.out.bel⟩
  by_cases n1 : (row.size : Int) ≤ 16
  case neg =>
    have HE := Lib.hid (show E0 = false by rw [← hE]; simp [n0, n1])
    clear hE
    have HX0 := Lib.hid (Bx.start w #[.int .i64 k, .string row, .string stop, .slice a ms.length c, .string fam, .string qual, .int .i64 vk, .int .i64 vn, .string vs, .slice fa fams.length fc, .string lo, .string up, .int .i64 since, .int .i64 til, .int .i64 versions, .int .i64 rows] 35)
    go_enter Tryz.func50, Tryz.ntmps50
    obtain ⟨x0, x1, x2, x3, x4, x5, x6, x7, x8, x9, x10, x11, x12, x13, x14, x15⟩ := HX0.out.c16
    go_wp2
    go_ret
    exact ⟨(by rw [HE.out]; first | done | rfl | (show Ending.returned (Value.bool _) = Ending.returned (Value.bool _); simp [n0, n1])), HX0.out.bel⟩
  by_cases n2 : stop.toList = []
  case neg =>
    have HE := Lib.hid (show E0 = false by rw [← hE]; simp [n0, n1, n2])
    clear hE
    have HX0 := Lib.hid (Bx.start w #[.int .i64 k, .string row, .string stop, .slice a ms.length c, .string fam, .string qual, .int .i64 vk, .int .i64 vn, .string vs, .slice fa fams.length fc, .string lo, .string up, .int .i64 since, .int .i64 til, .int .i64 versions, .int .i64 rows] 35)
    go_enter Tryz.func50, Tryz.ntmps50
    obtain ⟨x0, x1, x2, x3, x4, x5, x6, x7, x8, x9, x10, x11, x12, x13, x14, x15⟩ := HX0.out.c16
    go_wp2
    go_ret
    exact ⟨(by rw [HE.out]; first | done | rfl | (show Ending.returned (Value.bool _) = Ending.returned (Value.bool _); simp [n0, n1, n2])), HX0.out.bel⟩
  cases b3
  case false =>
    have HE := Lib.hid (show E0 = false by rw [← hE]; simp [n0, n1, n2])
    clear hE
    have HX0 := Lib.hid (Bx.start w #[.int .i64 k, .string row, .string stop, .slice a ms.length c, .string fam, .string qual, .int .i64 vk, .int .i64 vn, .string vs, .slice fa fams.length fc, .string lo, .string up, .int .i64 since, .int .i64 til, .int .i64 versions, .int .i64 rows] 35)
    go_enter Tryz.func50, Tryz.ntmps50
    obtain ⟨x0, x1, x2, x3, x4, x5, x6, x7, x8, x9, x10, x11, x12, x13, x14, x15⟩ := HX0.out.c16
    go_wp2_with fail
    refine (C3.out _ HX0.out.bel).mono ?_
    rintro e w1 ⟨rfl, hb⟩
    have HX1 := Lib.hid (HX0.out.next hb)
    clear hb x0 x1 x2 x3 x4 x5 x6 x7 x8 x9 x10 x11 x12 x13 x14 x15
    obtain ⟨x0, x1, x2, x3, x4, x5, x6, x7, x8, x9, x10, x11, x12, x13, x14, x15⟩ := HX1.out.c16
    go_wp2
    go_ret
    exact ⟨(by rw [HE.out]; first | done | rfl | (show Ending.returned (Value.bool _) = Ending.returned (Value.bool _); simp [n0, n1, n2])), HX1.out.bel⟩
  by_cases n4 : 0 < ms.length
  case neg =>
    have m4 : ¬ 0 < (ms.length : Int) := by omega
    have HE := Lib.hid (show E0 = false by rw [← hE]; simp [n0, n1, n2, n4])
    clear hE
    have HX0 := Lib.hid (Bx.start w #[.int .i64 k, .string row, .string stop, .slice a ms.length c, .string fam, .string qual, .int .i64 vk, .int .i64 vn, .string vs, .slice fa fams.length fc, .string lo, .string up, .int .i64 since, .int .i64 til, .int .i64 versions, .int .i64 rows] 35)
    go_enter Tryz.func50, Tryz.ntmps50
    obtain ⟨x0, x1, x2, x3, x4, x5, x6, x7, x8, x9, x10, x11, x12, x13, x14, x15⟩ := HX0.out.c16
    go_wp2_with fail
    refine (C3.out _ HX0.out.bel).mono ?_
    rintro e w1 ⟨rfl, hb⟩
    have HX1 := Lib.hid (HX0.out.next hb)
    clear hb x0 x1 x2 x3 x4 x5 x6 x7 x8 x9 x10 x11 x12 x13 x14 x15
    obtain ⟨x0, x1, x2, x3, x4, x5, x6, x7, x8, x9, x10, x11, x12, x13, x14, x15⟩ := HX1.out.c16
    go_wp2
    go_ret
    exact ⟨(by rw [HE.out]; first | done | rfl | (show Ending.returned (Value.bool _) = Ending.returned (Value.bool _); simp [n0, n1, n2, n4])), HX1.out.bel⟩
  have m4 : 0 < (ms.length : Int) := by omega
  by_cases n5 : (ms.length : Int) ≤ 8
  case neg =>
    have HE := Lib.hid (show E0 = false by rw [← hE]; simp [n0, n1, n2, n4, n5])
    clear hE
    have HX0 := Lib.hid (Bx.start w #[.int .i64 k, .string row, .string stop, .slice a ms.length c, .string fam, .string qual, .int .i64 vk, .int .i64 vn, .string vs, .slice fa fams.length fc, .string lo, .string up, .int .i64 since, .int .i64 til, .int .i64 versions, .int .i64 rows] 35)
    go_enter Tryz.func50, Tryz.ntmps50
    obtain ⟨x0, x1, x2, x3, x4, x5, x6, x7, x8, x9, x10, x11, x12, x13, x14, x15⟩ := HX0.out.c16
    go_wp2_with fail
    refine (C3.out _ HX0.out.bel).mono ?_
    rintro e w1 ⟨rfl, hb⟩
    have HX1 := Lib.hid (HX0.out.next hb)
    clear hb x0 x1 x2 x3 x4 x5 x6 x7 x8 x9 x10 x11 x12 x13 x14 x15
    obtain ⟨x0, x1, x2, x3, x4, x5, x6, x7, x8, x9, x10, x11, x12, x13, x14, x15⟩ := HX1.out.c16
    go_wp2
    go_ret
    exact ⟨(by rw [HE.out]; first | done | rfl | (show Ending.returned (Value.bool _) = Ending.returned (Value.bool _); simp [n0, n1, n2, n4, n5])), HX1.out.bel⟩
  cases b6
  case false =>
    have HE := Lib.hid (show E0 = false by rw [← hE]; simp [n0, n1, n2, n4, n5])
    clear hE
    have HX0 := Lib.hid (Bx.start w #[.int .i64 k, .string row, .string stop, .slice a ms.length c, .string fam, .string qual, .int .i64 vk, .int .i64 vn, .string vs, .slice fa fams.length fc, .string lo, .string up, .int .i64 since, .int .i64 til, .int .i64 versions, .int .i64 rows] 35)
    go_enter Tryz.func50, Tryz.ntmps50
    obtain ⟨x0, x1, x2, x3, x4, x5, x6, x7, x8, x9, x10, x11, x12, x13, x14, x15⟩ := HX0.out.c16
    go_wp2_with fail
    refine (C3.out _ HX0.out.bel).mono ?_
    rintro e w1 ⟨rfl, hb⟩
    have HX1 := Lib.hid (HX0.out.next hb)
    clear hb x0 x1 x2 x3 x4 x5 x6 x7 x8 x9 x10 x11 x12 x13 x14 x15
    obtain ⟨x0, x1, x2, x3, x4, x5, x6, x7, x8, x9, x10, x11, x12, x13, x14, x15⟩ := HX1.out.c16
    go_wp2_with fail
    refine (C6.out _ HX1.out.bel).mono ?_
    rintro e w2 ⟨rfl, hb⟩
    have HX2 := Lib.hid (HX1.out.next hb)
    clear hb x0 x1 x2 x3 x4 x5 x6 x7 x8 x9 x10 x11 x12 x13 x14 x15
    obtain ⟨x0, x1, x2, x3, x4, x5, x6, x7, x8, x9, x10, x11, x12, x13, x14, x15⟩ := HX2.out.c16
    go_wp2
    go_ret
    exact ⟨(by rw [HE.out]; first | done | rfl | (show Ending.returned (Value.bool _) = Ending.returned (Value.bool _); simp [n0, n1, n2, n4, n5])), HX2.out.bel⟩
  have HE := Lib.hid (show E0 = true by rw [← hE]; simp [n0, n1, n2, n4, n5])
  clear hE
  have HX0 := Lib.hid (Bx.start w #[.int .i64 k, .string row, .string stop, .slice a ms.length c, .string fam, .string qual, .int .i64 vk, .int .i64 vn, .string vs, .slice fa fams.length fc, .string lo, .string up, .int .i64 since, .int .i64 til, .int .i64 versions, .int .i64 rows] 35)
  go_enter Tryz.func50, Tryz.ntmps50
  obtain ⟨x0, x1, x2, x3, x4, x5, x6, x7, x8, x9, x10, x11, x12, x13, x14, x15⟩ := HX0.out.c16
  go_wp2_with fail
  refine (C3.out _ HX0.out.bel).mono ?_
  rintro e w1 ⟨rfl, hb⟩
  have HX1 := Lib.hid (HX0.out.next hb)
  clear hb x0 x1 x2 x3 x4 x5 x6 x7 x8 x9 x10 x11 x12 x13 x14 x15
  obtain ⟨x0, x1, x2, x3, x4, x5, x6, x7, x8, x9, x10, x11, x12, x13, x14, x15⟩ := HX1.out.c16
  go_wp2_with fail
  refine (C6.out _ HX1.out.bel).mono ?_
  rintro e w2 ⟨rfl, hb⟩
  have HX2 := Lib.hid (HX1.out.next hb)
  clear hb x0 x1 x2 x3 x4 x5 x6 x7 x8 x9 x10 x11 x12 x13 x14 x15
  obtain ⟨x0, x1, x2, x3, x4, x5, x6, x7, x8, x9, x10, x11, x12, x13, x14, x15⟩ := HX2.out.c16
  go_wp2
  go_ret
  exact ⟨(by rw [HE.out]; first | done | rfl | (show Ending.returned (Value.bool _) = Ending.returned (Value.bool _); simp [n0, n1, n2, n4, n5])), HX2.out.bel⟩
end Go.Proofs.YtkogcobcjoojnaaGreatDoor.Fl

namespace Go.Proofs.YtkogcobcjoojnaaGreatDoor.Fl
open Go.RowKit Go.Maps
set_option linter.unusedVariables false
set_option linter.unusedSimpArgs false
def pRight (fams : List ByteArray) (lo up : ByteArray) (since til versions rows : Int) : Bool := (decide ((fams.length : Int) ≤ 6) && (fams.all nameOk && (decide ((lo.size : Int) ≤ 12) && (decide ((up.size : Int) ≤ 12) && (within since 0 1099511627776 && (within til 0 1099511627776 && (within versions 0 8 && within rows 0 1000)))))))
theorem c_frightB (fa : Option Addr) (fc : Nat) (fams : List ByteArray) (lo up : ByteArray) (since til versions rows : Int) (hl : fams.length ≤ 1099511627776) (w : World) (hf : HasS w (.slice fa fams.length fc) fams) : Calls Tryz.prog 82 #[.agg #[.slice fa fams.length fc, .string lo, .string up, .int .i64 since, .int .i64 til, .int .i64 versions, .int .i64 rows]] w fun e w' => e = .returned (.bool (pRight fams lo up since til versions rows)) ∧ Below w.heap.size w w' := c_fright fa fc fams lo up since til versions rows hl w hf
def pWrite (row stop : ByteArray) (ms : List MutE) (fams : List ByteArray) (lo up : ByteArray) (since til versions rows : Int) : Bool := (!row.toList.isEmpty && (decide ((row.size : Int) ≤ 16) && (stop.toList.isEmpty && (pEmpty fams lo up since til versions rows && (decide (0 < ms.length) && (decide ((ms.length : Int) ≤ 8) && ms.all mutOk))))))
theorem c_pwriteB (k : Int) (row stop : ByteArray) (a : Option Addr) (c : Nat) (ms : List MutE) (fam qual : ByteArray) (vk vn : Int) (vs : ByteArray) (fa : Option Addr) (fc : Nat) (fams : List ByteArray) (lo up : ByteArray) (since til versions rows : Int) (hvw : ∀ m ∈ ms, VW m.vn m.vs) (w : World) (hg : Gv w) (hm : HasM w (.slice a ms.length c) ms) (hml : ms.length ≤ 1099511627776) : Calls Tryz.prog 50 #[.agg #[.int .i64 k, .string row, .string stop, .slice a ms.length c, .string fam, .string qual, .int .i64 vk, .int .i64 vn, .string vs, .slice fa fams.length fc, .string lo, .string up, .int .i64 since, .int .i64 til, .int .i64 versions, .int .i64 rows]] w fun e w' => e = .returned (.bool (pWrite row stop ms fams lo up since til versions rows)) ∧ Below w.heap.size w w' := c_pwrite k row stop a c ms fam qual vk vn vs fa fc fams lo up since til versions rows hvw w hg hm hml
set_option maxHeartbeats 4000000 in
set_option maxRecDepth 100000 in
theorem c_pread_a (k : Int) (row : ByteArray) (a : Option Addr) (c : Nat) (m : Nat) (fam qual : ByteArray) (vk vn : Int) (vs : ByteArray) (fa : Option Addr) (fc : Nat) (fams : List ByteArray) (lo up : ByteArray) (since til versions rows : Int) (hl : fams.length ≤ 1099511627776) (w : World) (hf : HasS w (.slice fa fams.length fc) fams) : Calls Tryz.prog 49 #[.agg #[.int .i64 k, .string row, .string ⟨#[]⟩, .slice a m c, .string fam, .string qual, .int .i64 vk, .int .i64 vn, .string vs, .slice fa fams.length fc, .string lo, .string up, .int .i64 since, .int .i64 til, .int .i64 versions, .int .i64 rows]] w fun e w' => e = .returned (.bool ((decide ((row.size : Int) ≤ 16) && (decide (m = 0) && (fam.toList.isEmpty && (qual.toList.isEmpty && (noVal vk vn vs && pRight fams lo up since til versions rows))))))) ∧ Below w.heap.size w w' := by
  generalize hE : ((decide ((row.size : Int) ≤ 16) && (decide (m = 0) && (fam.toList.isEmpty && (qual.toList.isEmpty && (noVal vk vn vs && pRight fams lo up since til versions rows)))))) = E0
  have C4 := Lib.hid (fun (W : World) (hW : Below w.heap.size w W) => (by have := c_pnone vk vn vs W; unfold vv at this; exact this))
  have C5 := Lib.hid (fun (W : World) (hW : Below w.heap.size w W) => (c_frightB fa fc fams lo up since til versions rows hl W (hf.keep hW)))
  generalize hb4 : (noVal vk vn vs) = b4 at C4 hE
  clear hb4
  generalize hb5 : (pRight fams lo up since til versions rows) = b5 at C5 hE
  clear hb5
  by_cases n0 : (row.size : Int) ≤ 16
  case neg =>
    have HE := Lib.hid (show E0 = false by rw [← hE]; simp [n0])
    clear hE
    have HX0 := Lib.hid (Bx.start w #[.int .i64 k, .string row, .string ⟨#[]⟩, .slice a m c, .string fam, .string qual, .int .i64 vk, .int .i64 vn, .string vs, .slice fa fams.length fc, .string lo, .string up, .int .i64 since, .int .i64 til, .int .i64 versions, .int .i64 rows] 35)
    go_enter Tryz.func49, Tryz.ntmps49
    obtain ⟨x0, x1, x2, x3, x4, x5, x6, x7, x8, x9, x10, x11, x12, x13, x14, x15⟩ := HX0.out.c16
    go_wp2
    go_ret
    exact ⟨(by rw [HE.out]; first | done | rfl | (show Ending.returned (Value.bool _) = Ending.returned (Value.bool _); simp [n0])), HX0.out.bel⟩
  by_cases n1 : m = 0
  case neg =>
    have HE := Lib.hid (show E0 = false by rw [← hE]; simp [n0, n1])
    clear hE
    have HX0 := Lib.hid (Bx.start w #[.int .i64 k, .string row, .string ⟨#[]⟩, .slice a m c, .string fam, .string qual, .int .i64 vk, .int .i64 vn, .string vs, .slice fa fams.length fc, .string lo, .string up, .int .i64 since, .int .i64 til, .int .i64 versions, .int .i64 rows] 35)
    go_enter Tryz.func49, Tryz.ntmps49
    obtain ⟨x0, x1, x2, x3, x4, x5, x6, x7, x8, x9, x10, x11, x12, x13, x14, x15⟩ := HX0.out.c16
    go_wp2
    go_ret
    exact ⟨(by rw [HE.out]; first | done | rfl | (show Ending.returned (Value.bool _) = Ending.returned (Value.bool _); simp [n0, n1])), HX0.out.bel⟩
  subst n1
  by_cases n2 : fam.toList = []
  case neg =>
    have HE := Lib.hid (show E0 = false by rw [← hE]; simp [n0, n2])
    clear hE
    have HX0 := Lib.hid (Bx.start w #[.int .i64 k, .string row, .string ⟨#[]⟩, .slice a (0 : Nat) c, .string fam, .string qual, .int .i64 vk, .int .i64 vn, .string vs, .slice fa fams.length fc, .string lo, .string up, .int .i64 since, .int .i64 til, .int .i64 versions, .int .i64 rows] 35)
    go_enter Tryz.func49, Tryz.ntmps49
    obtain ⟨x0, x1, x2, x3, x4, x5, x6, x7, x8, x9, x10, x11, x12, x13, x14, x15⟩ := HX0.out.c16
    go_wp2
    go_ret
    exact ⟨(by rw [HE.out]; first | done | rfl | (show Ending.returned (Value.bool _) = Ending.returned (Value.bool _); simp [n0, n2])), HX0.out.bel⟩
  by_cases n3 : qual.toList = []
  case neg =>
    have HE := Lib.hid (show E0 = false by rw [← hE]; simp [n0, n2, n3])
    clear hE
    have HX0 := Lib.hid (Bx.start w #[.int .i64 k, .string row, .string ⟨#[]⟩, .slice a (0 : Nat) c, .string fam, .string qual, .int .i64 vk, .int .i64 vn, .string vs, .slice fa fams.length fc, .string lo, .string up, .int .i64 since, .int .i64 til, .int .i64 versions, .int .i64 rows] 35)
    go_enter Tryz.func49, Tryz.ntmps49
    obtain ⟨x0, x1, x2, x3, x4, x5, x6, x7, x8, x9, x10, x11, x12, x13, x14, x15⟩ := HX0.out.c16
    go_wp2
    go_ret
    exact ⟨(by rw [HE.out]; first | done | rfl | (show Ending.returned (Value.bool _) = Ending.returned (Value.bool _); simp [n0, n2, n3])), HX0.out.bel⟩
  cases b4
  case false =>
    have HE := Lib.hid (show E0 = false by rw [← hE]; simp [n0, n2, n3])
    clear hE
    have HX0 := Lib.hid (Bx.start w #[.int .i64 k, .string row, .string ⟨#[]⟩, .slice a (0 : Nat) c, .string fam, .string qual, .int .i64 vk, .int .i64 vn, .string vs, .slice fa fams.length fc, .string lo, .string up, .int .i64 since, .int .i64 til, .int .i64 versions, .int .i64 rows] 35)
    go_enter Tryz.func49, Tryz.ntmps49
    obtain ⟨x0, x1, x2, x3, x4, x5, x6, x7, x8, x9, x10, x11, x12, x13, x14, x15⟩ := HX0.out.c16
    go_wp2_with fail
    refine (C4.out _ HX0.out.bel).mono ?_
    rintro e w1 ⟨rfl, hb⟩
    have HX1 := Lib.hid (HX0.out.next hb)
    clear hb x0 x1 x2 x3 x4 x5 x6 x7 x8 x9 x10 x11 x12 x13 x14 x15
    obtain ⟨x0, x1, x2, x3, x4, x5, x6, x7, x8, x9, x10, x11, x12, x13, x14, x15⟩ := HX1.out.c16
    go_wp2
    go_ret
    exact ⟨(by rw [HE.out]; first | done | rfl | (show Ending.returned (Value.bool _) = Ending.returned (Value.bool _); simp [n0, n2, n3])), HX1.out.bel⟩
  cases b5
  case false =>
    have HE := Lib.hid (show E0 = false by rw [← hE]; simp [n0, n2, n3])
    clear hE
    have HX0 := Lib.hid (Bx.start w #[.int .i64 k, .string row, .string ⟨#[]⟩, .slice a (0 : Nat) c, .string fam, .string qual, .int .i64 vk, .int .i64 vn, .string vs, .slice fa fams.length fc, .string lo, .string up, .int .i64 since, .int .i64 til, .int .i64 versions, .int .i64 rows] 35)
    go_enter Tryz.func49, Tryz.ntmps49
    obtain ⟨x0, x1, x2, x3, x4, x5, x6, x7, x8, x9, x10, x11, x12, x13, x14, x15⟩ := HX0.out.c16
    go_wp2_with fail
    refine (C4.out _ HX0.out.bel).mono ?_
    rintro e w1 ⟨rfl, hb⟩
    have HX1 := Lib.hid (HX0.out.next hb)
    clear hb x0 x1 x2 x3 x4 x5 x6 x7 x8 x9 x10 x11 x12 x13 x14 x15
    obtain ⟨x0, x1, x2, x3, x4, x5, x6, x7, x8, x9, x10, x11, x12, x13, x14, x15⟩ := HX1.out.c16
    go_wp2_with fail
    refine (C5.out _ HX1.out.bel).mono ?_
    rintro e w2 ⟨rfl, hb⟩
    have HX2 := Lib.hid (HX1.out.next hb)
    clear hb x0 x1 x2 x3 x4 x5 x6 x7 x8 x9 x10 x11 x12 x13 x14 x15
    obtain ⟨x0, x1, x2, x3, x4, x5, x6, x7, x8, x9, x10, x11, x12, x13, x14, x15⟩ := HX2.out.c16
    go_wp2
    go_ret
    exact ⟨(by rw [HE.out]; first | done | rfl | (show Ending.returned (Value.bool _) = Ending.returned (Value.bool _); simp [n0, n2, n3])), HX2.out.bel⟩
  have HE := Lib.hid (show E0 = true by rw [← hE]; simp [n0, n2, n3])
  clear hE
  have HX0 := Lib.hid (Bx.start w #[.int .i64 k, .string row, .string ⟨#[]⟩, .slice a (0 : Nat) c, .string fam, .string qual, .int .i64 vk, .int .i64 vn, .string vs, .slice fa fams.length fc, .string lo, .string up, .int .i64 since, .int .i64 til, .int .i64 versions, .int .i64 rows] 35)
  go_enter Tryz.func49, Tryz.ntmps49
  obtain ⟨x0, x1, x2, x3, x4, x5, x6, x7, x8, x9, x10, x11, x12, x13, x14, x15⟩ := HX0.out.c16
  go_wp2_with fail
  refine (C4.out _ HX0.out.bel).mono ?_
  rintro e w1 ⟨rfl, hb⟩
  have HX1 := Lib.hid (HX0.out.next hb)
  clear hb x0 x1 x2 x3 x4 x5 x6 x7 x8 x9 x10 x11 x12 x13 x14 x15
  obtain ⟨x0, x1, x2, x3, x4, x5, x6, x7, x8, x9, x10, x11, x12, x13, x14, x15⟩ := HX1.out.c16
  go_wp2_with fail
  refine (C5.out _ HX1.out.bel).mono ?_
  rintro e w2 ⟨rfl, hb⟩
  have HX2 := Lib.hid (HX1.out.next hb)
  clear hb x0 x1 x2 x3 x4 x5 x6 x7 x8 x9 x10 x11 x12 x13 x14 x15
  obtain ⟨x0, x1, x2, x3, x4, x5, x6, x7, x8, x9, x10, x11, x12, x13, x14, x15⟩ := HX2.out.c16
  go_wp2
  go_ret
  exact ⟨(by rw [HE.out]; first | done | rfl | (show Ending.returned (Value.bool _) = Ending.returned (Value.bool _); simp [n0, n2, n3])), HX2.out.bel⟩
set_option maxHeartbeats 4000000 in
set_option maxRecDepth 100000 in
theorem c_pread_b (k : Int) (row stop : ByteArray) (a : Option Addr) (c : Nat) (m : Nat) (fam qual : ByteArray) (vk vn : Int) (vs : ByteArray) (fa : Option Addr) (fc : Nat) (fams : List ByteArray) (lo up : ByteArray) (since til versions rows : Int) (hl : fams.length ≤ 1099511627776) (hs : ¬ stop.toList = []) (w : World) (hf : HasS w (.slice fa fams.length fc) fams) : Calls Tryz.prog 49 #[.agg #[.int .i64 k, .string row, .string stop, .slice a m c, .string fam, .string qual, .int .i64 vk, .int .i64 vn, .string vs, .slice fa fams.length fc, .string lo, .string up, .int .i64 since, .int .i64 til, .int .i64 versions, .int .i64 rows]] w fun e w' => e = .returned (.bool ((decide ((row.size : Int) ≤ 16) && (decide ((stop.size : Int) ≤ 16) && ((Op.bytesLess row.toList stop.toList || row.toList == stop.toList) && (decide (m = 0) && (fam.toList.isEmpty && (qual.toList.isEmpty && (noVal vk vn vs && pRight fams lo up since til versions rows))))))))) ∧ Below w.heap.size w w' := by
  generalize hE : ((decide ((row.size : Int) ≤ 16) && (decide ((stop.size : Int) ≤ 16) && ((Op.bytesLess row.toList stop.toList || row.toList == stop.toList) && (decide (m = 0) && (fam.toList.isEmpty && (qual.toList.isEmpty && (noVal vk vn vs && pRight fams lo up since til versions rows)))))))) = E0
  have C6 := Lib.hid (fun (W : World) (hW : Below w.heap.size w W) => (by have := c_pnone vk vn vs W; unfold vv at this; exact this))
  have C7 := Lib.hid (fun (W : World) (hW : Below w.heap.size w W) => (c_frightB fa fc fams lo up since til versions rows hl W (hf.keep hW)))
  generalize hb6 : (noVal vk vn vs) = b6 at C6 hE
  clear hb6
  generalize hb7 : (pRight fams lo up since til versions rows) = b7 at C7 hE
  clear hb7
  by_cases n0 : (row.size : Int) ≤ 16
  case neg =>
    have HE := Lib.hid (show E0 = false by rw [← hE]; simp [n0])
    clear hE
    have HX0 := Lib.hid (Bx.start w #[.int .i64 k, .string row, .string stop, .slice a m c, .string fam, .string qual, .int .i64 vk, .int .i64 vn, .string vs, .slice fa fams.length fc, .string lo, .string up, .int .i64 since, .int .i64 til, .int .i64 versions, .int .i64 rows] 35)
    go_enter Tryz.func49, Tryz.ntmps49
    obtain ⟨x0, x1, x2, x3, x4, x5, x6, x7, x8, x9, x10, x11, x12, x13, x14, x15⟩ := HX0.out.c16
    go_wp2
    go_ret
    exact ⟨(by rw [HE.out]; first | done | rfl | (show Ending.returned (Value.bool _) = Ending.returned (Value.bool _); simp [n0])), HX0.out.bel⟩
  by_cases n1 : (stop.size : Int) ≤ 16
  case neg =>
    have HE := Lib.hid (show E0 = false by rw [← hE]; simp [n0, n1])
    clear hE
    have HX0 := Lib.hid (Bx.start w #[.int .i64 k, .string row, .string stop, .slice a m c, .string fam, .string qual, .int .i64 vk, .int .i64 vn, .string vs, .slice fa fams.length fc, .string lo, .string up, .int .i64 since, .int .i64 til, .int .i64 versions, .int .i64 rows] 35)
    go_enter Tryz.func49, Tryz.ntmps49
    obtain ⟨x0, x1, x2, x3, x4, x5, x6, x7, x8, x9, x10, x11, x12, x13, x14, x15⟩ := HX0.out.c16
    go_wp2
    go_ret
    exact ⟨(by rw [HE.out]; first | done | rfl | (show Ending.returned (Value.bool _) = Ending.returned (Value.bool _); simp [n0, n1])), HX0.out.bel⟩
  by_cases n2 : (Op.bytesLess row.toList stop.toList || row.toList == stop.toList) = true
  case neg =>
    have HE := Lib.hid (show E0 = false by rw [← hE]; simp [n0, n1, n2])
    clear hE
    have HX0 := Lib.hid (Bx.start w #[.int .i64 k, .string row, .string stop, .slice a m c, .string fam, .string qual, .int .i64 vk, .int .i64 vn, .string vs, .slice fa fams.length fc, .string lo, .string up, .int .i64 since, .int .i64 til, .int .i64 versions, .int .i64 rows] 35)
    go_enter Tryz.func49, Tryz.ntmps49
    obtain ⟨x0, x1, x2, x3, x4, x5, x6, x7, x8, x9, x10, x11, x12, x13, x14, x15⟩ := HX0.out.c16
    go_wp2
    go_ret
    exact ⟨(by rw [HE.out]; first | done | rfl | (show Ending.returned (Value.bool _) = Ending.returned (Value.bool _); simp [n0, n1, n2])), HX0.out.bel⟩
  by_cases n3 : m = 0
  case neg =>
    have HE := Lib.hid (show E0 = false by rw [← hE]; simp [n0, n1, n2, n3])
    clear hE
    have HX0 := Lib.hid (Bx.start w #[.int .i64 k, .string row, .string stop, .slice a m c, .string fam, .string qual, .int .i64 vk, .int .i64 vn, .string vs, .slice fa fams.length fc, .string lo, .string up, .int .i64 since, .int .i64 til, .int .i64 versions, .int .i64 rows] 35)
    go_enter Tryz.func49, Tryz.ntmps49
    obtain ⟨x0, x1, x2, x3, x4, x5, x6, x7, x8, x9, x10, x11, x12, x13, x14, x15⟩ := HX0.out.c16
    go_wp2
    go_ret
    exact ⟨(by rw [HE.out]; first | done | rfl | (show Ending.returned (Value.bool _) = Ending.returned (Value.bool _); simp [n0, n1, n2, n3])), HX0.out.bel⟩
  subst n3
  by_cases n4 : fam.toList = []
  case neg =>
    have HE := Lib.hid (show E0 = false by rw [← hE]; simp [n0, n1, n2, n4])
    clear hE
    have HX0 := Lib.hid (Bx.start w #[.int .i64 k, .string row, .string stop, .slice a (0 : Nat) c, .string fam, .string qual, .int .i64 vk, .int .i64 vn, .string vs, .slice fa fams.length fc, .string lo, .string up, .int .i64 since, .int .i64 til, .int .i64 versions, .int .i64 rows] 35)
    go_enter Tryz.func49, Tryz.ntmps49
    obtain ⟨x0, x1, x2, x3, x4, x5, x6, x7, x8, x9, x10, x11, x12, x13, x14, x15⟩ := HX0.out.c16
    go_wp2
    go_ret
    exact ⟨(by rw [HE.out]; first | done | rfl | (show Ending.returned (Value.bool _) = Ending.returned (Value.bool _); simp [n0, n1, n2, n4])), HX0.out.bel⟩
  by_cases n5 : qual.toList = []
  case neg =>
    have HE := Lib.hid (show E0 = false by rw [← hE]; simp [n0, n1, n2, n4, n5])
    clear hE
    have HX0 := Lib.hid (Bx.start w #[.int .i64 k, .string row, .string stop, .slice a (0 : Nat) c, .string fam, .string qual, .int .i64 vk, .int .i64 vn, .string vs, .slice fa fams.length fc, .string lo, .string up, .int .i64 since, .int .i64 til, .int .i64 versions, .int .i64 rows] 35)
    go_enter Tryz.func49, Tryz.ntmps49
    obtain ⟨x0, x1, x2, x3, x4, x5, x6, x7, x8, x9, x10, x11, x12, x13, x14, x15⟩ := HX0.out.c16
    go_wp2
    go_ret
    exact ⟨(by rw [HE.out]; first | done | rfl | (show Ending.returned (Value.bool _) = Ending.returned (Value.bool _); simp [n0, n1, n2, n4, n5])), HX0.out.bel⟩
  cases b6
  case false =>
    have HE := Lib.hid (show E0 = false by rw [← hE]; simp [n0, n1, n2, n4, n5])
    clear hE
    have HX0 := Lib.hid (Bx.start w #[.int .i64 k, .string row, .string stop, .slice a (0 : Nat) c, .string fam, .string qual, .int .i64 vk, .int .i64 vn, .string vs, .slice fa fams.length fc, .string lo, .string up, .int .i64 since, .int .i64 til, .int .i64 versions, .int .i64 rows] 35)
    go_enter Tryz.func49, Tryz.ntmps49
    obtain ⟨x0, x1, x2, x3, x4, x5, x6, x7, x8, x9, x10, x11, x12, x13, x14, x15⟩ := HX0.out.c16
    go_wp2_with fail
    refine (C6.out _ HX0.out.bel).mono ?_
    rintro e w1 ⟨rfl, hb⟩
    have HX1 := Lib.hid (HX0.out.next hb)
    clear hb x0 x1 x2 x3 x4 x5 x6 x7 x8 x9 x10 x11 x12 x13 x14 x15
    obtain ⟨x0, x1, x2, x3, x4, x5, x6, x7, x8, x9, x10, x11, x12, x13, x14, x15⟩ := HX1.out.c16
    go_wp2
    go_ret
    exact ⟨(by rw [HE.out]; first | done | rfl | (show Ending.returned (Value.bool _) = Ending.returned (Value.bool _); simp [n0, n1, n2, n4, n5])), HX1.out.bel⟩
  cases b7
  case false =>
    have HE := Lib.hid (show E0 = false by rw [← hE]; simp [n0, n1, n2, n4, n5])
    clear hE
    have HX0 := Lib.hid (Bx.start w #[.int .i64 k, .string row, .string stop, .slice a (0 : Nat) c, .string fam, .string qual, .int .i64 vk, .int .i64 vn, .string vs, .slice fa fams.length fc, .string lo, .string up, .int .i64 since, .int .i64 til, .int .i64 versions, .int .i64 rows] 35)
    go_enter Tryz.func49, Tryz.ntmps49
    obtain ⟨x0, x1, x2, x3, x4, x5, x6, x7, x8, x9, x10, x11, x12, x13, x14, x15⟩ := HX0.out.c16
    go_wp2_with fail
    refine (C6.out _ HX0.out.bel).mono ?_
    rintro e w1 ⟨rfl, hb⟩
    have HX1 := Lib.hid (HX0.out.next hb)
    clear hb x0 x1 x2 x3 x4 x5 x6 x7 x8 x9 x10 x11 x12 x13 x14 x15
    obtain ⟨x0, x1, x2, x3, x4, x5, x6, x7, x8, x9, x10, x11, x12, x13, x14, x15⟩ := HX1.out.c16
    go_wp2_with fail
    refine (C7.out _ HX1.out.bel).mono ?_
    rintro e w2 ⟨rfl, hb⟩
    have HX2 := Lib.hid (HX1.out.next hb)
    clear hb x0 x1 x2 x3 x4 x5 x6 x7 x8 x9 x10 x11 x12 x13 x14 x15
    obtain ⟨x0, x1, x2, x3, x4, x5, x6, x7, x8, x9, x10, x11, x12, x13, x14, x15⟩ := HX2.out.c16
    go_wp2
    go_ret
    exact ⟨(by rw [HE.out]; first | done | rfl | (show Ending.returned (Value.bool _) = Ending.returned (Value.bool _); simp [n0, n1, n2, n4, n5])), HX2.out.bel⟩
  have HE := Lib.hid (show E0 = true by rw [← hE]; simp [n0, n1, n2, n4, n5])
  clear hE
  have HX0 := Lib.hid (Bx.start w #[.int .i64 k, .string row, .string stop, .slice a (0 : Nat) c, .string fam, .string qual, .int .i64 vk, .int .i64 vn, .string vs, .slice fa fams.length fc, .string lo, .string up, .int .i64 since, .int .i64 til, .int .i64 versions, .int .i64 rows] 35)
  go_enter Tryz.func49, Tryz.ntmps49
  obtain ⟨x0, x1, x2, x3, x4, x5, x6, x7, x8, x9, x10, x11, x12, x13, x14, x15⟩ := HX0.out.c16
  go_wp2_with fail
  refine (C6.out _ HX0.out.bel).mono ?_
  rintro e w1 ⟨rfl, hb⟩
  have HX1 := Lib.hid (HX0.out.next hb)
  clear hb x0 x1 x2 x3 x4 x5 x6 x7 x8 x9 x10 x11 x12 x13 x14 x15
  obtain ⟨x0, x1, x2, x3, x4, x5, x6, x7, x8, x9, x10, x11, x12, x13, x14, x15⟩ := HX1.out.c16
  go_wp2_with fail
  refine (C7.out _ HX1.out.bel).mono ?_
  rintro e w2 ⟨rfl, hb⟩
  have HX2 := Lib.hid (HX1.out.next hb)
  clear hb x0 x1 x2 x3 x4 x5 x6 x7 x8 x9 x10 x11 x12 x13 x14 x15
  obtain ⟨x0, x1, x2, x3, x4, x5, x6, x7, x8, x9, x10, x11, x12, x13, x14, x15⟩ := HX2.out.c16
  go_wp2
  go_ret
  exact ⟨(by rw [HE.out]; first | done | rfl | (show Ending.returned (Value.bool _) = Ending.returned (Value.bool _); simp [n0, n1, n2, n4, n5])), HX2.out.bel⟩
set_option maxHeartbeats 4000000 in
set_option maxRecDepth 100000 in
theorem c_pform1 (row stop : ByteArray) (a : Option Addr) (c : Nat) (ms : List MutE) (fam qual : ByteArray) (vk vn : Int) (vs : ByteArray) (fa : Option Addr) (fc : Nat) (fams : List ByteArray) (lo up : ByteArray) (since til versions rows : Int) (hvw : ∀ m ∈ ms, VW m.vn m.vs) (hml : ms.length ≤ 1099511627776) (hv : VW vn vs) (w : World) (hg : Gv w) (hm : HasM w (.slice a ms.length c) ms) : Calls Tryz.prog 25 #[.agg #[.int .i64 1, .string row, .string stop, .slice a ms.length c, .string fam, .string qual, .int .i64 vk, .int .i64 vn, .string vs, .slice fa fams.length fc, .string lo, .string up, .int .i64 since, .int .i64 til, .int .i64 versions, .int .i64 rows]] w fun e w' => e = .returned (.bool ((pWrite row stop ms fams lo up since til versions rows && (fam.toList.isEmpty && (qual.toList.isEmpty && noVal vk vn vs))))) ∧ Below w.heap.size w w' := by
  generalize hE : ((pWrite row stop ms fams lo up since til versions rows && (fam.toList.isEmpty && (qual.toList.isEmpty && noVal vk vn vs)))) = E0
  have C0 := Lib.hid (fun (W : World) (hW : Below w.heap.size w W) => (c_pwriteB 1 row stop a c ms fam qual vk vn vs fa fc fams lo up since til versions rows hvw W (hg.below hW) (hm.keep hW) hml))
  have C3 := Lib.hid (fun (W : World) (hW : Below w.heap.size w W) => (by have := c_pnone vk vn vs W; unfold vv at this; exact this))
  generalize hb0 : (pWrite row stop ms fams lo up since til versions rows) = b0 at C0 hE
  clear hb0
  generalize hb3 : (noVal vk vn vs) = b3 at C3 hE
  clear hb3
  cases b0
  case false =>
    have HE := Lib.hid (show E0 = false by rw [← hE]; simp [])
    clear hE
    have HX0 := Lib.hid (Bx.start w #[.int .i64 1, .string row, .string stop, .slice a ms.length c, .string fam, .string qual, .int .i64 vk, .int .i64 vn, .string vs, .slice fa fams.length fc, .string lo, .string up, .int .i64 since, .int .i64 til, .int .i64 versions, .int .i64 rows] 35)
    go_enter Tryz.func25, Tryz.ntmps25
    obtain ⟨x0, x1, x2, x3, x4, x5, x6, x7, x8, x9, x10, x11, x12, x13, x14, x15⟩ := HX0.out.c16
    go_wp2_with fail
    refine (C0.out _ HX0.out.bel).mono ?_
    rintro e w1 ⟨rfl, hb⟩
    have HX1 := Lib.hid (HX0.out.next hb)
    clear hb x0 x1 x2 x3 x4 x5 x6 x7 x8 x9 x10 x11 x12 x13 x14 x15
    obtain ⟨x0, x1, x2, x3, x4, x5, x6, x7, x8, x9, x10, x11, x12, x13, x14, x15⟩ := HX1.out.c16
    go_wp2
    go_ret
    exact ⟨(by rw [HE.out]; first | done | rfl | (show Ending.returned (Value.bool _) = Ending.returned (Value.bool _); simp [])), HX1.out.bel⟩
  by_cases n1 : fam.toList = []
  case neg =>
    have HE := Lib.hid (show E0 = false by rw [← hE]; simp [n1])
    clear hE
    have HX0 := Lib.hid (Bx.start w #[.int .i64 1, .string row, .string stop, .slice a ms.length c, .string fam, .string qual, .int .i64 vk, .int .i64 vn, .string vs, .slice fa fams.length fc, .string lo, .string up, .int .i64 since, .int .i64 til, .int .i64 versions, .int .i64 rows] 35)
    go_enter Tryz.func25, Tryz.ntmps25
    obtain ⟨x0, x1, x2, x3, x4, x5, x6, x7, x8, x9, x10, x11, x12, x13, x14, x15⟩ := HX0.out.c16
    go_wp2_with fail
    refine (C0.out _ HX0.out.bel).mono ?_
    rintro e w1 ⟨rfl, hb⟩
    have HX1 := Lib.hid (HX0.out.next hb)
    clear hb x0 x1 x2 x3 x4 x5 x6 x7 x8 x9 x10 x11 x12 x13 x14 x15
    obtain ⟨x0, x1, x2, x3, x4, x5, x6, x7, x8, x9, x10, x11, x12, x13, x14, x15⟩ := HX1.out.c16
    go_wp2
    go_ret
    exact ⟨(by rw [HE.out]; first | done | rfl | (show Ending.returned (Value.bool _) = Ending.returned (Value.bool _); simp [n1])), HX1.out.bel⟩
  by_cases n2 : qual.toList = []
  case neg =>
    have HE := Lib.hid (show E0 = false by rw [← hE]; simp [n1, n2])
    clear hE
    have HX0 := Lib.hid (Bx.start w #[.int .i64 1, .string row, .string stop, .slice a ms.length c, .string fam, .string qual, .int .i64 vk, .int .i64 vn, .string vs, .slice fa fams.length fc, .string lo, .string up, .int .i64 since, .int .i64 til, .int .i64 versions, .int .i64 rows] 35)
    go_enter Tryz.func25, Tryz.ntmps25
    obtain ⟨x0, x1, x2, x3, x4, x5, x6, x7, x8, x9, x10, x11, x12, x13, x14, x15⟩ := HX0.out.c16
    go_wp2_with fail
    refine (C0.out _ HX0.out.bel).mono ?_
    rintro e w1 ⟨rfl, hb⟩
    have HX1 := Lib.hid (HX0.out.next hb)
    clear hb x0 x1 x2 x3 x4 x5 x6 x7 x8 x9 x10 x11 x12 x13 x14 x15
    obtain ⟨x0, x1, x2, x3, x4, x5, x6, x7, x8, x9, x10, x11, x12, x13, x14, x15⟩ := HX1.out.c16
    go_wp2
    go_ret
    exact ⟨(by rw [HE.out]; first | done | rfl | (show Ending.returned (Value.bool _) = Ending.returned (Value.bool _); simp [n1, n2])), HX1.out.bel⟩
  cases b3
  case false =>
    have HE := Lib.hid (show E0 = false by rw [← hE]; simp [n1, n2])
    clear hE
    have HX0 := Lib.hid (Bx.start w #[.int .i64 1, .string row, .string stop, .slice a ms.length c, .string fam, .string qual, .int .i64 vk, .int .i64 vn, .string vs, .slice fa fams.length fc, .string lo, .string up, .int .i64 since, .int .i64 til, .int .i64 versions, .int .i64 rows] 35)
    go_enter Tryz.func25, Tryz.ntmps25
    obtain ⟨x0, x1, x2, x3, x4, x5, x6, x7, x8, x9, x10, x11, x12, x13, x14, x15⟩ := HX0.out.c16
    go_wp2_with fail
    refine (C0.out _ HX0.out.bel).mono ?_
    rintro e w1 ⟨rfl, hb⟩
    have HX1 := Lib.hid (HX0.out.next hb)
    clear hb x0 x1 x2 x3 x4 x5 x6 x7 x8 x9 x10 x11 x12 x13 x14 x15
    obtain ⟨x0, x1, x2, x3, x4, x5, x6, x7, x8, x9, x10, x11, x12, x13, x14, x15⟩ := HX1.out.c16
    go_wp2_with fail
    refine (C3.out _ HX1.out.bel).mono ?_
    rintro e w2 ⟨rfl, hb⟩
    have HX2 := Lib.hid (HX1.out.next hb)
    clear hb x0 x1 x2 x3 x4 x5 x6 x7 x8 x9 x10 x11 x12 x13 x14 x15
    obtain ⟨x0, x1, x2, x3, x4, x5, x6, x7, x8, x9, x10, x11, x12, x13, x14, x15⟩ := HX2.out.c16
    go_wp2
    go_ret
    exact ⟨(by rw [HE.out]; first | done | rfl | (show Ending.returned (Value.bool _) = Ending.returned (Value.bool _); simp [n1, n2])), HX2.out.bel⟩
  have HE := Lib.hid (show E0 = true by rw [← hE]; simp [n1, n2])
  clear hE
  have HX0 := Lib.hid (Bx.start w #[.int .i64 1, .string row, .string stop, .slice a ms.length c, .string fam, .string qual, .int .i64 vk, .int .i64 vn, .string vs, .slice fa fams.length fc, .string lo, .string up, .int .i64 since, .int .i64 til, .int .i64 versions, .int .i64 rows] 35)
  go_enter Tryz.func25, Tryz.ntmps25
  obtain ⟨x0, x1, x2, x3, x4, x5, x6, x7, x8, x9, x10, x11, x12, x13, x14, x15⟩ := HX0.out.c16
  go_wp2_with fail
  refine (C0.out _ HX0.out.bel).mono ?_
  rintro e w1 ⟨rfl, hb⟩
  have HX1 := Lib.hid (HX0.out.next hb)
  clear hb x0 x1 x2 x3 x4 x5 x6 x7 x8 x9 x10 x11 x12 x13 x14 x15
  obtain ⟨x0, x1, x2, x3, x4, x5, x6, x7, x8, x9, x10, x11, x12, x13, x14, x15⟩ := HX1.out.c16
  go_wp2_with fail
  refine (C3.out _ HX1.out.bel).mono ?_
  rintro e w2 ⟨rfl, hb⟩
  have HX2 := Lib.hid (HX1.out.next hb)
  clear hb x0 x1 x2 x3 x4 x5 x6 x7 x8 x9 x10 x11 x12 x13 x14 x15
  obtain ⟨x0, x1, x2, x3, x4, x5, x6, x7, x8, x9, x10, x11, x12, x13, x14, x15⟩ := HX2.out.c16
  go_wp2
  go_ret
  exact ⟨(by rw [HE.out]; first | done | rfl | (show Ending.returned (Value.bool _) = Ending.returned (Value.bool _); simp [n1, n2])), HX2.out.bel⟩
set_option maxHeartbeats 4000000 in
set_option maxRecDepth 100000 in
theorem c_pform2a (row stop : ByteArray) (a : Option Addr) (c : Nat) (ms : List MutE) (fam qual : ByteArray) (vk vn : Int) (vs : ByteArray) (fa : Option Addr) (fc : Nat) (fams : List ByteArray) (lo up : ByteArray) (since til versions rows : Int) (hvw : ∀ m ∈ ms, VW m.vn m.vs) (hml : ms.length ≤ 1099511627776) (hv : VW vn vs) (hn : noVal vk vn vs = true) (w : World) (hg : Gv w) (hm : HasM w (.slice a ms.length c) ms) : Calls Tryz.prog 25 #[.agg #[.int .i64 2, .string row, .string stop, .slice a ms.length c, .string fam, .string qual, .int .i64 vk, .int .i64 vn, .string vs, .slice fa fams.length fc, .string lo, .string up, .int .i64 since, .int .i64 til, .int .i64 versions, .int .i64 rows]] w fun e w' => e = .returned (.bool ((pWrite row stop ms fams lo up since til versions rows && (nameOk fam && decide ((qual.size : Int) ≤ 12))))) ∧ Below w.heap.size w w' := by
  generalize hE : ((pWrite row stop ms fams lo up since til versions rows && (nameOk fam && decide ((qual.size : Int) ≤ 12)))) = E0
  have C0 := Lib.hid (fun (W : World) (hW : Below w.heap.size w W) => (c_pwriteB 2 row stop a c ms fam qual vk vn vs fa fc fams lo up since til versions rows hvw W (hg.below hW) (hm.keep hW) hml))
  have C1 := Lib.hid (fun (W : World) (hW : Below w.heap.size w W) => (c_pcolumn fam qual W))
  have C2 := Lib.hid (fun (W : World) (hW : Below w.heap.size w W) => (by have := c_pnone vk vn vs W; unfold vv at this; rw [hn] at this; exact this))
  generalize hb0 : (pWrite row stop ms fams lo up since til versions rows) = b0 at C0 hE
  clear hb0
  generalize hb1 : ((nameOk fam && decide ((qual.size : Int) ≤ 12))) = b1 at C1 hE
  clear hb1
  cases b0
  case false =>
    have HE := Lib.hid (show E0 = false by rw [← hE]; simp [])
    clear hE
    have HX0 := Lib.hid (Bx.start w #[.int .i64 2, .string row, .string stop, .slice a ms.length c, .string fam, .string qual, .int .i64 vk, .int .i64 vn, .string vs, .slice fa fams.length fc, .string lo, .string up, .int .i64 since, .int .i64 til, .int .i64 versions, .int .i64 rows] 35)
    go_enter Tryz.func25, Tryz.ntmps25
    obtain ⟨x0, x1, x2, x3, x4, x5, x6, x7, x8, x9, x10, x11, x12, x13, x14, x15⟩ := HX0.out.c16
    go_wp2_with fail
    refine (C0.out _ HX0.out.bel).mono ?_
    rintro e w1 ⟨rfl, hb⟩
    have HX1 := Lib.hid (HX0.out.next hb)
    clear hb x0 x1 x2 x3 x4 x5 x6 x7 x8 x9 x10 x11 x12 x13 x14 x15
    obtain ⟨x0, x1, x2, x3, x4, x5, x6, x7, x8, x9, x10, x11, x12, x13, x14, x15⟩ := HX1.out.c16
    go_wp2
    go_ret
    exact ⟨(by rw [HE.out]; first | done | rfl | (show Ending.returned (Value.bool _) = Ending.returned (Value.bool _); simp [])), HX1.out.bel⟩
  cases b1
  case false =>
    have HE := Lib.hid (show E0 = false by rw [← hE]; simp [])
    clear hE
    have HX0 := Lib.hid (Bx.start w #[.int .i64 2, .string row, .string stop, .slice a ms.length c, .string fam, .string qual, .int .i64 vk, .int .i64 vn, .string vs, .slice fa fams.length fc, .string lo, .string up, .int .i64 since, .int .i64 til, .int .i64 versions, .int .i64 rows] 35)
    go_enter Tryz.func25, Tryz.ntmps25
    obtain ⟨x0, x1, x2, x3, x4, x5, x6, x7, x8, x9, x10, x11, x12, x13, x14, x15⟩ := HX0.out.c16
    go_wp2_with fail
    refine (C0.out _ HX0.out.bel).mono ?_
    rintro e w1 ⟨rfl, hb⟩
    have HX1 := Lib.hid (HX0.out.next hb)
    clear hb x0 x1 x2 x3 x4 x5 x6 x7 x8 x9 x10 x11 x12 x13 x14 x15
    obtain ⟨x0, x1, x2, x3, x4, x5, x6, x7, x8, x9, x10, x11, x12, x13, x14, x15⟩ := HX1.out.c16
    go_wp2_with fail
    refine (C1.out _ HX1.out.bel).mono ?_
    rintro e w2 ⟨rfl, hb⟩
    have HX2 := Lib.hid (HX1.out.next hb)
    clear hb x0 x1 x2 x3 x4 x5 x6 x7 x8 x9 x10 x11 x12 x13 x14 x15
    obtain ⟨x0, x1, x2, x3, x4, x5, x6, x7, x8, x9, x10, x11, x12, x13, x14, x15⟩ := HX2.out.c16
    go_wp2
    go_ret
    exact ⟨(by rw [HE.out]; first | done | rfl | (show Ending.returned (Value.bool _) = Ending.returned (Value.bool _); simp [])), HX2.out.bel⟩
  have HE := Lib.hid (show E0 = true by rw [← hE]; simp [])
  clear hE
  have HX0 := Lib.hid (Bx.start w #[.int .i64 2, .string row, .string stop, .slice a ms.length c, .string fam, .string qual, .int .i64 vk, .int .i64 vn, .string vs, .slice fa fams.length fc, .string lo, .string up, .int .i64 since, .int .i64 til, .int .i64 versions, .int .i64 rows] 35)
  go_enter Tryz.func25, Tryz.ntmps25
  obtain ⟨x0, x1, x2, x3, x4, x5, x6, x7, x8, x9, x10, x11, x12, x13, x14, x15⟩ := HX0.out.c16
  go_wp2_with fail
  refine (C0.out _ HX0.out.bel).mono ?_
  rintro e w1 ⟨rfl, hb⟩
  have HX1 := Lib.hid (HX0.out.next hb)
  clear hb x0 x1 x2 x3 x4 x5 x6 x7 x8 x9 x10 x11 x12 x13 x14 x15
  obtain ⟨x0, x1, x2, x3, x4, x5, x6, x7, x8, x9, x10, x11, x12, x13, x14, x15⟩ := HX1.out.c16
  go_wp2_with fail
  refine (C1.out _ HX1.out.bel).mono ?_
  rintro e w2 ⟨rfl, hb⟩
  have HX2 := Lib.hid (HX1.out.next hb)
  clear hb x0 x1 x2 x3 x4 x5 x6 x7 x8 x9 x10 x11 x12 x13 x14 x15
  obtain ⟨x0, x1, x2, x3, x4, x5, x6, x7, x8, x9, x10, x11, x12, x13, x14, x15⟩ := HX2.out.c16
  go_wp2_with fail
  refine (C2.out _ HX2.out.bel).mono ?_
  rintro e w3 ⟨rfl, hb⟩
  have HX3 := Lib.hid (HX2.out.next hb)
  clear hb x0 x1 x2 x3 x4 x5 x6 x7 x8 x9 x10 x11 x12 x13 x14 x15
  obtain ⟨x0, x1, x2, x3, x4, x5, x6, x7, x8, x9, x10, x11, x12, x13, x14, x15⟩ := HX3.out.c16
  go_wp2
  go_ret
  exact ⟨(by rw [HE.out]; first | done | rfl | (show Ending.returned (Value.bool _) = Ending.returned (Value.bool _); simp [])), HX3.out.bel⟩
set_option maxHeartbeats 4000000 in
set_option maxRecDepth 100000 in
theorem c_pform2b (row stop : ByteArray) (a : Option Addr) (c : Nat) (ms : List MutE) (fam qual : ByteArray) (vk vn : Int) (vs : ByteArray) (fa : Option Addr) (fc : Nat) (fams : List ByteArray) (lo up : ByteArray) (since til versions rows : Int) (hvw : ∀ m ∈ ms, VW m.vn m.vs) (hml : ms.length ≤ 1099511627776) (hv : VW vn vs) (hn : noVal vk vn vs = false) (w : World) (hg : Gv w) (hm : HasM w (.slice a ms.length c) ms) : Calls Tryz.prog 25 #[.agg #[.int .i64 2, .string row, .string stop, .slice a ms.length c, .string fam, .string qual, .int .i64 vk, .int .i64 vn, .string vs, .slice fa fams.length fc, .string lo, .string up, .int .i64 since, .int .i64 til, .int .i64 versions, .int .i64 rows]] w fun e w' => e = .returned (.bool ((pWrite row stop ms fams lo up since til versions rows && ((nameOk fam && decide ((qual.size : Int) ≤ 12)) && rightV vk vn vs)))) ∧ Below w.heap.size w w' := by
  generalize hE : ((pWrite row stop ms fams lo up since til versions rows && ((nameOk fam && decide ((qual.size : Int) ≤ 12)) && rightV vk vn vs))) = E0
  have C0 := Lib.hid (fun (W : World) (hW : Below w.heap.size w W) => (c_pwriteB 2 row stop a c ms fam qual vk vn vs fa fc fams lo up since til versions rows hvw W (hg.below hW) (hm.keep hW) hml))
  have C1 := Lib.hid (fun (W : World) (hW : Below w.heap.size w W) => (c_pcolumn fam qual W))
  have C2 := Lib.hid (fun (W : World) (hW : Below w.heap.size w W) => (by have := c_pnone vk vn vs W; unfold vv at this; rw [hn] at this; exact this))
  have C3 := Lib.hid (fun (W : World) (hW : Below w.heap.size w W) => (by have := c_vright vk vn vs hv.1 hv.2 _ rfl W (hg.below hW); unfold vv at this; exact this))
  generalize hb0 : (pWrite row stop ms fams lo up since til versions rows) = b0 at C0 hE
  clear hb0
  generalize hb1 : ((nameOk fam && decide ((qual.size : Int) ≤ 12))) = b1 at C1 hE
  clear hb1
  generalize hb3 : (rightV vk vn vs) = b3 at C3 hE
  clear hb3
  cases b0
  case false =>
    have HE := Lib.hid (show E0 = false by rw [← hE]; simp [])
    clear hE
    have HX0 := Lib.hid (Bx.start w #[.int .i64 2, .string row, .string stop, .slice a ms.length c, .string fam, .string qual, .int .i64 vk, .int .i64 vn, .string vs, .slice fa fams.length fc, .string lo, .string up, .int .i64 since, .int .i64 til, .int .i64 versions, .int .i64 rows] 35)
    go_enter Tryz.func25, Tryz.ntmps25
    obtain ⟨x0, x1, x2, x3, x4, x5, x6, x7, x8, x9, x10, x11, x12, x13, x14, x15⟩ := HX0.out.c16
    go_wp2_with fail
    refine (C0.out _ HX0.out.bel).mono ?_
    rintro e w1 ⟨rfl, hb⟩
    have HX1 := Lib.hid (HX0.out.next hb)
    clear hb x0 x1 x2 x3 x4 x5 x6 x7 x8 x9 x10 x11 x12 x13 x14 x15
    obtain ⟨x0, x1, x2, x3, x4, x5, x6, x7, x8, x9, x10, x11, x12, x13, x14, x15⟩ := HX1.out.c16
    go_wp2
    go_ret
    exact ⟨(by rw [HE.out]; first | done | rfl | (show Ending.returned (Value.bool _) = Ending.returned (Value.bool _); simp [])), HX1.out.bel⟩
  cases b1
  case false =>
    have HE := Lib.hid (show E0 = false by rw [← hE]; simp [])
    clear hE
    have HX0 := Lib.hid (Bx.start w #[.int .i64 2, .string row, .string stop, .slice a ms.length c, .string fam, .string qual, .int .i64 vk, .int .i64 vn, .string vs, .slice fa fams.length fc, .string lo, .string up, .int .i64 since, .int .i64 til, .int .i64 versions, .int .i64 rows] 35)
    go_enter Tryz.func25, Tryz.ntmps25
    obtain ⟨x0, x1, x2, x3, x4, x5, x6, x7, x8, x9, x10, x11, x12, x13, x14, x15⟩ := HX0.out.c16
    go_wp2_with fail
    refine (C0.out _ HX0.out.bel).mono ?_
    rintro e w1 ⟨rfl, hb⟩
    have HX1 := Lib.hid (HX0.out.next hb)
    clear hb x0 x1 x2 x3 x4 x5 x6 x7 x8 x9 x10 x11 x12 x13 x14 x15
    obtain ⟨x0, x1, x2, x3, x4, x5, x6, x7, x8, x9, x10, x11, x12, x13, x14, x15⟩ := HX1.out.c16
    go_wp2_with fail
    refine (C1.out _ HX1.out.bel).mono ?_
    rintro e w2 ⟨rfl, hb⟩
    have HX2 := Lib.hid (HX1.out.next hb)
    clear hb x0 x1 x2 x3 x4 x5 x6 x7 x8 x9 x10 x11 x12 x13 x14 x15
    obtain ⟨x0, x1, x2, x3, x4, x5, x6, x7, x8, x9, x10, x11, x12, x13, x14, x15⟩ := HX2.out.c16
    go_wp2
    go_ret
    exact ⟨(by rw [HE.out]; first | done | rfl | (show Ending.returned (Value.bool _) = Ending.returned (Value.bool _); simp [])), HX2.out.bel⟩
  cases b3
  case false =>
    have HE := Lib.hid (show E0 = false by rw [← hE]; simp [])
    clear hE
    have HX0 := Lib.hid (Bx.start w #[.int .i64 2, .string row, .string stop, .slice a ms.length c, .string fam, .string qual, .int .i64 vk, .int .i64 vn, .string vs, .slice fa fams.length fc, .string lo, .string up, .int .i64 since, .int .i64 til, .int .i64 versions, .int .i64 rows] 35)
    go_enter Tryz.func25, Tryz.ntmps25
    obtain ⟨x0, x1, x2, x3, x4, x5, x6, x7, x8, x9, x10, x11, x12, x13, x14, x15⟩ := HX0.out.c16
    go_wp2_with fail
    refine (C0.out _ HX0.out.bel).mono ?_
    rintro e w1 ⟨rfl, hb⟩
    have HX1 := Lib.hid (HX0.out.next hb)
    clear hb x0 x1 x2 x3 x4 x5 x6 x7 x8 x9 x10 x11 x12 x13 x14 x15
    obtain ⟨x0, x1, x2, x3, x4, x5, x6, x7, x8, x9, x10, x11, x12, x13, x14, x15⟩ := HX1.out.c16
    go_wp2_with fail
    refine (C1.out _ HX1.out.bel).mono ?_
    rintro e w2 ⟨rfl, hb⟩
    have HX2 := Lib.hid (HX1.out.next hb)
    clear hb x0 x1 x2 x3 x4 x5 x6 x7 x8 x9 x10 x11 x12 x13 x14 x15
    obtain ⟨x0, x1, x2, x3, x4, x5, x6, x7, x8, x9, x10, x11, x12, x13, x14, x15⟩ := HX2.out.c16
    go_wp2_with fail
    refine (C2.out _ HX2.out.bel).mono ?_
    rintro e w3 ⟨rfl, hb⟩
    have HX3 := Lib.hid (HX2.out.next hb)
    clear hb x0 x1 x2 x3 x4 x5 x6 x7 x8 x9 x10 x11 x12 x13 x14 x15
    obtain ⟨x0, x1, x2, x3, x4, x5, x6, x7, x8, x9, x10, x11, x12, x13, x14, x15⟩ := HX3.out.c16
    go_wp2_with fail
    refine (C3.out _ HX3.out.bel).mono ?_
    rintro e w4 ⟨rfl, hb⟩
    have HX4 := Lib.hid (HX3.out.next hb)
    clear hb x0 x1 x2 x3 x4 x5 x6 x7 x8 x9 x10 x11 x12 x13 x14 x15
    obtain ⟨x0, x1, x2, x3, x4, x5, x6, x7, x8, x9, x10, x11, x12, x13, x14, x15⟩ := HX4.out.c16
    go_wp2
    go_ret
    exact ⟨(by rw [HE.out]; first | done | rfl | (show Ending.returned (Value.bool _) = Ending.returned (Value.bool _); simp [])), HX4.out.bel⟩
  have HE := Lib.hid (show E0 = true by rw [← hE]; simp [])
  clear hE
  have HX0 := Lib.hid (Bx.start w #[.int .i64 2, .string row, .string stop, .slice a ms.length c, .string fam, .string qual, .int .i64 vk, .int .i64 vn, .string vs, .slice fa fams.length fc, .string lo, .string up, .int .i64 since, .int .i64 til, .int .i64 versions, .int .i64 rows] 35)
  go_enter Tryz.func25, Tryz.ntmps25
  obtain ⟨x0, x1, x2, x3, x4, x5, x6, x7, x8, x9, x10, x11, x12, x13, x14, x15⟩ := HX0.out.c16
  go_wp2_with fail
  refine (C0.out _ HX0.out.bel).mono ?_
  rintro e w1 ⟨rfl, hb⟩
  have HX1 := Lib.hid (HX0.out.next hb)
  clear hb x0 x1 x2 x3 x4 x5 x6 x7 x8 x9 x10 x11 x12 x13 x14 x15
  obtain ⟨x0, x1, x2, x3, x4, x5, x6, x7, x8, x9, x10, x11, x12, x13, x14, x15⟩ := HX1.out.c16
  go_wp2_with fail
  refine (C1.out _ HX1.out.bel).mono ?_
  rintro e w2 ⟨rfl, hb⟩
  have HX2 := Lib.hid (HX1.out.next hb)
  clear hb x0 x1 x2 x3 x4 x5 x6 x7 x8 x9 x10 x11 x12 x13 x14 x15
  obtain ⟨x0, x1, x2, x3, x4, x5, x6, x7, x8, x9, x10, x11, x12, x13, x14, x15⟩ := HX2.out.c16
  go_wp2_with fail
  refine (C2.out _ HX2.out.bel).mono ?_
  rintro e w3 ⟨rfl, hb⟩
  have HX3 := Lib.hid (HX2.out.next hb)
  clear hb x0 x1 x2 x3 x4 x5 x6 x7 x8 x9 x10 x11 x12 x13 x14 x15
  obtain ⟨x0, x1, x2, x3, x4, x5, x6, x7, x8, x9, x10, x11, x12, x13, x14, x15⟩ := HX3.out.c16
  go_wp2_with fail
  refine (C3.out _ HX3.out.bel).mono ?_
  rintro e w4 ⟨rfl, hb⟩
  have HX4 := Lib.hid (HX3.out.next hb)
  clear hb x0 x1 x2 x3 x4 x5 x6 x7 x8 x9 x10 x11 x12 x13 x14 x15
  obtain ⟨x0, x1, x2, x3, x4, x5, x6, x7, x8, x9, x10, x11, x12, x13, x14, x15⟩ := HX4.out.c16
  go_wp2
  go_ret
  exact ⟨(by rw [HE.out]; first | done | rfl | (show Ending.returned (Value.bool _) = Ending.returned (Value.bool _); simp [])), HX4.out.bel⟩
end Go.Proofs.YtkogcobcjoojnaaGreatDoor.Fl

namespace Go.Proofs.YtkogcobcjoojnaaGreatDoor.Fl
open Go.RowKit Go.Maps
set_option linter.unusedVariables false
set_option linter.unusedSimpArgs false
/-- So many cells put into an array, from a place on. -/
def putA : Array Value → Nat → List Value → Array Value
  | cs, _, [] => cs
  | cs, o, v :: r => putA (cs.setIfInBounds o v) (o + 1) r
theorem setCells_row (b : Nat) (T : TypeId) : ∀ (vs : List Value) (o : Nat) (cs : Array Value) (w : World), w.heap[b]? = some (.cells cs T (0, 0)) → w.setCells b o vs = w.setRow b (putA cs o vs)
  | [], o, cs, w, h => by
    show w = w.setRow b cs
    have hlt : b < w.heap.size := (Array.getElem?_eq_some_iff.1 h).1
    have hv : w.heap[b] = .cells cs T (0, 0) := (Array.getElem?_eq_some_iff.1 h).2
    unfold World.setRow
    cases w with
    | mk heap tape drawn os output =>
      congr 1
      apply Array.ext
      · simp
      · intro k h1 h2
        simp only [Array.getElem_modify]
        split
        · rename_i hk; subst hk; simp at hv; simp [hv]
        · rfl
  | v :: r, o, cs, w, h => by
    rw [World.setCells, putA, setCell_eq_setRow w b o cs T (0, 0) v h, setCells_row b T r (o + 1) (cs.setIfInBounds o v) _ (setRow_heap w b cs _ T (0, 0) h), setRow_setRow]
/-- A box: what block b holds. -/
def Bk (b : Nat) (cs : Array Value) (T : TypeId) (W : World) : Prop := W.heap[b]? = some (.cells cs T (0, 0))
theorem Bk.lt {b : Nat} {cs : Array Value} {T : TypeId} {W : World} (h : Bk b cs T W) : b < W.heap.size := (Array.getElem?_eq_some_iff.1 h).1
theorem Bk.cell {b : Nat} {cs : Array Value} {T : TypeId} {W : World} (h : Bk b cs T W) (j : Nat) (v : Value) (hj : cs[j]? = some v) : W.cell? ⟨b, j, none⟩ = some v := by
  unfold Bk at h
  simp [World.cell?, h, hj]
theorem Bk.frozen {b : Nat} {cs : Array Value} {T : TypeId} {W : World} (h : Bk b cs T W) (j : Nat) : W.frozen? ⟨b, j, none⟩ = false := by
  unfold Bk at h
  simp [World.frozen?, h]
theorem Bk.next {b : Nat} {cs : Array Value} {T : TypeId} {W W' : World} (h : Bk b cs T W) (hb : Below W.heap.size W W') : Bk b cs T W' := (hb.block b h.lt).trans h
theorem Bk.row {b : Nat} {cs : Array Value} {T : TypeId} {W : World} (h : Bk b cs T W) (cs' : Array Value) : Bk b cs' T (W.setRow b cs') := setRow_heap W b cs cs' T (0, 0) h
theorem Bk.off {b g : Nat} {cs : Array Value} {T : TypeId} {W : World} (h : Bk b cs T W) (hne : g ≠ b) (cs' : Array Value) : Bk b cs T (W.setRow g cs') := by
  unfold Bk at h ⊢
  rw [setRow_other _ _ _ _ (Ne.symm hne)]
  exact h
theorem Bk.new (W : World) (cs : Array Value) (T : TypeId) : Bk W.heap.size cs T (W.alloc (.cells cs T)) := heap_alloc_new _ _
theorem Bk.set {b : Nat} {cs : Array Value} {T : TypeId} {W : World} (h : Bk b cs T W) (j : Nat) (v : Value) : W.setCell ⟨b, j, none⟩ v = W.setRow b (cs.setIfInBounds j v) := setCell_eq_setRow W b j cs T (0, 0) v h
theorem setRow_size (W : World) (g : Nat) (cs : Array Value) : (W.setRow g cs).heap.size = W.heap.size := by simp [World.setRow]
theorem below_row {B g : Nat} {w W : World} (h : Below B w W) (hg : B ≤ g) (cs : Array Value) : Below B w (W.setRow g cs) :=
  h.trans ⟨rfl, rfl, rfl, by rw [setRow_size]; exact Nat.le_refl _, fun k hk => setRow_other _ _ _ _ (by omega)⟩
theorem putA_mid (post : List Value) : ∀ (vs pre mid : List Value), vs.length = mid.length → putA (pre ++ mid ++ post).toArray pre.length vs = (pre ++ vs ++ post).toArray
  | [], pre, mid, h => by
    have : mid = [] := List.length_eq_zero_iff.1 h.symm
    subst this
    rfl
  | v :: r, pre, [], h => by simp at h
  | v :: r, pre, m :: mid, h => by
    rw [putA]
    have e : (pre ++ m :: mid ++ post).toArray.setIfInBounds pre.length v = ((pre ++ [v]) ++ mid ++ post).toArray := by simp
    have ih := putA_mid post r (pre ++ [v]) mid (by simpa using h)
    rw [List.length_append] at ih
    rw [e, show pre.length + 1 = pre.length + [v].length from rfl, ih]
    simp
/-- A row stored into a part of a box. -/
theorem wpList_store_part {P : Program} {ops : Array Oper} {rest : List Oper} {op : Oper} {a : Act} {w : World} {Q : Exit → Act → World → Prop} (hgd : op.guard = none) (ty : TypeId) (x y : Operand) (ho : op.op = .store ty x y)
    (b o : Nat) (cells : Array Value) (hx : a.eval x = .pointer (some ⟨b, o, none⟩)) (hy : a.eval y = .agg cells)
    (T : TypeId) (pre mid post : List Value) (hg : Bk b (pre ++ mid ++ post).toArray T w) (hpo : pre.length = o) (n : Nat) (hi : (P.info? ty).map (·.size) = some n) (hn : cells.size = n) (hm : mid.length = n) (h1 : cells.all (·.oneCell') = true)
    (h : wpList P ops Q rest (a.put op.dst undef) (w.setRow b (pre ++ cells.toList ++ post).toArray)) : wpList P ops Q (op :: rest) a w := by
  subst hn
  subst hpo
  refine wpList_store_mid hgd ty x y ho b pre.length cells hx hy (fun j hj => ?_) hi h1 ?_
  · have hlt : pre.length + j < (pre ++ mid ++ post).toArray.size := by simp; omega
    exact ⟨by rw [hg.cell (pre.length + j) (pre ++ mid ++ post).toArray[pre.length + j] (by rw [Array.getElem?_eq_getElem hlt])]; rfl, hg.frozen _⟩
  · rw [setCells_row b T cells.toList pre.length _ w hg, putA_mid post cells.toList pre mid (by simp [hm])]
    exact h
/-- A row stored into a whole box. -/
theorem wpList_store_all {P : Program} {ops : Array Oper} {rest : List Oper} {op : Oper} {a : Act} {w : World} {Q : Exit → Act → World → Prop} (hgd : op.guard = none) (ty : TypeId) (x y : Operand) (ho : op.op = .store ty x y)
    (b : Nat) (cells : Array Value) (hx : a.eval x = .pointer (some ⟨b, 0, none⟩)) (hy : a.eval y = .agg cells)
    (T : TypeId) (cs : Array Value) (hg : Bk b cs T w) (n : Nat) (hi : (P.info? ty).map (·.size) = some n) (hn : cells.size = n) (hm : cs.size = n) (h1 : cells.all (·.oneCell') = true)
    (h : wpList P ops Q rest (a.put op.dst undef) (w.setRow b cells)) : wpList P ops Q (op :: rest) a w :=
  wpList_store_row hgd ty x y ho b cells hx hy T cs hg (by rw [hi, hn]) (by omega) h1 h
/-- A row loaded out of a box. -/
theorem wpList_load_blk {P : Program} {ops : Array Oper} {rest : List Oper} {op : Oper} {a : Act} {w : World} {Q : Exit → Act → World → Prop} (hgd : op.guard = none) (ty : TypeId) (x : Operand) (ho : op.op = .load ty x)
    (b o : Nat) (hx : a.eval x = .pointer (some ⟨b, o, none⟩)) (T : TypeId) (cs : Array Value) (hg : Bk b cs T w) (cl : List Value) (d : TypeDesc) (hc : ∀ j v, cl[j]? = some v → cs[o + j]? = some v)
    (hu : P.underlying ty = some d) (hd : d.isRow = true) (hi : (P.info? ty).map (·.size) = some cl.length)
    (h : wpList P ops Q rest (a.put op.dst (.agg cl.toArray)) w) : wpList P ops Q (op :: rest) a w :=
  wpList_load_mid hgd ty x ho b o hx cl d (fun j v hj => hg.cell _ _ (hc j v hj)) hu hd hi h
theorem ecells_one (a : Option Addr) (n c : Nat) (a2 : Option Addr) (n2 c2 : Nat) (e : EvE) : (ecells (.slice a n c) (.slice a2 n2 c2) e).all (·.oneCell') = true := by simp [ecells, Value.oneCell']
theorem qcells_one (a : Option Addr) (n c : Nat) (a2 : Option Addr) (n2 c2 : Nat) (q : ReqE) : (qcells (.slice a n c) (.slice a2 n2 c2) q).all (·.oneCell') = true := by simp [qcells, Value.oneCell']
theorem ccells_one (c : ChgE) : (ccells c).all (·.oneCell') = true := by simp [ccells, Value.oneCell']
theorem mcells_one (m : MutE) : (mcells m).all (·.oneCell') = true := by simp [mcells, Value.oneCell']
theorem fcells_one (a : Option Addr) (n c : Nat) (f : FilE) : (fcells (.slice a n c) f).all (·.oneCell') = true := by simp [fcells, Value.oneCell']
/-- An event's cells: its numbers, its request's, its change's. -/
def eHead (e : EvE) : List Value := [.int .i64 e.kind, .int .i64 e.node, .int .i64 e.dst, .int .i64 e.log, .int .i64 e.pos, .int .i64 e.by_, .int .i64 e.keep, .int .i64 e.client, .int .i64 e.seq, .bool e.stays]
theorem ecells_parts (ms vs : Value) (e : EvE) : ecells ms vs e = (eHead e ++ (qcells ms vs e.req).toList ++ (ccells e.chg).toList).toArray := rfl
theorem szE : (Tryz.prog.info? 39).map (·.size) = some 33 := by kernel_rfl
theorem szQ : (Tryz.prog.info? 35).map (·.size) = some 16 := by kernel_rfl
theorem szC : (Tryz.prog.info? 37).map (·.size) = some 7 := by kernel_rfl
theorem szF : (Tryz.prog.info? 33).map (·.size) = some 7 := by kernel_rfl
theorem szM : (Tryz.prog.info? 90).map (·.size) = some 6 := by kernel_rfl
theorem szV : (Tryz.prog.info? 30).map (·.size) = some 3 := by kernel_rfl
/-- A part of a box loaded. -/
theorem wpList_load_part {P : Program} {ops : Array Oper} {rest : List Oper} {op : Oper} {a : Act} {w : World} {Q : Exit → Act → World → Prop} (hgd : op.guard = none) (ty : TypeId) (x : Operand) (ho : op.op = .load ty x)
    (b o : Nat) (hx : a.eval x = .pointer (some ⟨b, o, none⟩)) (T : TypeId) (pre : List Value) (mid : Array Value) (post : List Value) (hg : Bk b (pre ++ mid.toList ++ post).toArray T w) (hpo : pre.length = o) (n : Nat) (hi : (P.info? ty).map (·.size) = some n) (hm : mid.size = n)
    (hu : ∃ d, P.underlying ty = some d ∧ d.isRow = true)
    (h : wpList P ops Q rest (a.put op.dst (.agg mid)) w) : wpList P ops Q (op :: rest) a w := by
  obtain ⟨d, hu, hd⟩ := hu
  subst hpo
  subst hm
  refine wpList_load_blk hgd ty x ho b pre.length hx T _ hg mid.toList d (fun j v hj => ?_) hu hd (by simpa using hi) (by simpa using h)
  have hl := (List.getElem?_eq_some_iff.1 hj).1
  rw [List.getElem?_toArray, List.append_assoc, List.getElem?_append_right (by omega), Nat.add_sub_cancel_left, List.getElem?_append_left hl]
  exact hj
/-- A whole box loaded. -/
theorem wpList_load_all {P : Program} {ops : Array Oper} {rest : List Oper} {op : Oper} {a : Act} {w : World} {Q : Exit → Act → World → Prop} (hgd : op.guard = none) (ty : TypeId) (x : Operand) (ho : op.op = .load ty x)
    (b : Nat) (hx : a.eval x = .pointer (some ⟨b, 0, none⟩)) (T : TypeId) (cs : Array Value) (hg : Bk b cs T w) (n : Nat) (hi : (P.info? ty).map (·.size) = some n) (hm : cs.size = n)
    (hu : ∃ d, P.underlying ty = some d ∧ d.isRow = true)
    (h : wpList P ops Q rest (a.put op.dst (.agg cs)) w) : wpList P ops Q (op :: rest) a w := by
  obtain ⟨d, hu, hd⟩ := hu
  refine wpList_load_blk hgd ty x ho b 0 hx T cs hg cs.toList d (fun j v hj => by rw [Nat.zero_add]; simpa using hj) hu hd (by rw [hi, ← hm]; simp) (by simpa using h)
theorem ruE : ∃ d, Tryz.prog.underlying 39 = some d ∧ d.isRow = true := ⟨_, Tryz.underlying39, rfl⟩
theorem ruQ : ∃ d, Tryz.prog.underlying 35 = some d ∧ d.isRow = true := ⟨_, Tryz.underlying35, rfl⟩
theorem ruC : ∃ d, Tryz.prog.underlying 37 = some d ∧ d.isRow = true := ⟨_, Tryz.underlying37, rfl⟩
theorem ruF : ∃ d, Tryz.prog.underlying 33 = some d ∧ d.isRow = true := ⟨_, Tryz.underlying33, rfl⟩
theorem ruM : ∃ d, Tryz.prog.underlying 90 = some d ∧ d.isRow = true := ⟨_, Tryz.underlying90, rfl⟩
theorem ruV : ∃ d, Tryz.prog.underlying 30 = some d ∧ d.isRow = true := ⟨_, Tryz.underlying30, rfl⟩
theorem nE (ms vs : Value) (e : EvE) : (ecells ms vs e).size = 33 := rfl
theorem nH (e : EvE) : (eHead e).length = 10 := rfl
theorem nQ (ms vs : Value) (q : ReqE) : (qcells ms vs q).size = 16 := rfl
theorem nQl (ms vs : Value) (q : ReqE) : (qcells ms vs q).toList.length = 16 := rfl
theorem nHQ (ms vs : Value) (e : EvE) (q : ReqE) : (eHead e ++ (qcells ms vs q).toList).length = 26 := rfl
theorem nC (c : ChgE) : (ccells c).size = 7 := rfl
theorem nCl (c : ChgE) : (ccells c).toList.length = 7 := rfl
theorem nM (m : MutE) : (mcells m).size = 6 := rfl
end Go.Proofs.YtkogcobcjoojnaaGreatDoor.Fl
