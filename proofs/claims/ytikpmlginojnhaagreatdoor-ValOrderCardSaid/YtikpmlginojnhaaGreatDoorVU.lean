/- Values: alive, long. -/
import Derived.Test.YtikpmlginojnhaaGreatDoorVT
import Derived.Test.YtikpmlginojnhaaGreatDoorVP
namespace Go.Proofs.YtikpmlginojnhaaGreatDoor.Fl
open Go.RowKit Go.Maps
set_option linter.unusedVariables false
set_option linter.unusedSimpArgs false
theorem liv_right : rightV 3 0 ⟨#[97, 0]⟩ = true := by
  unfold rightV
  rw [if_neg (by decide), if_neg (by decide), if_neg (by decide), if_neg (by decide), if_pos rfl]
  decide +kernel
theorem liv_enc : encV 3 0 ⟨#[97, 0]⟩ = [3, 97, 0, 255, 0, 1] := by rw [encV_right liv_right]; rfl
theorem liv_show : showV 3 0 ⟨#[97, 0]⟩ = ⟨#[116, 34, 97, 92, 48, 48, 34]⟩ := by
  unfold showV
  rw [if_neg (by rw [liv_right]; decide), if_neg (by decide), if_neg (by decide), if_neg (by decide), if_neg (by decide)]
  decide +kernel
theorem liv_rd : RdV ⟨#[116, 34, 97, 92, 48, 48, 34]⟩ 3 0 ⟨#[97, 0]⟩ true := Or.inl ⟨rfl, by unfold Wf; omega, liv_right, liv_show⟩
theorem liv_dec : DecIs [3, 97, 0, 255, 0, 1] 3 0 ⟨#[97, 0]⟩ true := Or.inl ⟨rfl, by unfold Wf; omega, liv_right, liv_enc⟩
theorem liv_none : rightV 0 0 ⟨#[]⟩ = false := by decide
theorem liv_ord : ordV 3 0 ⟨#[97, 0]⟩ 1 0 ⟨#[]⟩ = 1 := by decide
theorem box_keep {W W' : World} {g : Nat} {o : Obj} (h : W.heap[g]? = some o) (hb : Below W.heap.size W W') : W'.heap[g]? = some o := (hb.block _ (lt_block h)).trans h
theorem lit_new (W : World) (o : Obj) (l : List Int) : HasB ((W.alloc o).alloc (.cells (l.map (Value.int .u8)).toArray 5)) (.slice (some ⟨W.heap.size + 1, 0, none⟩) l.length l.length) l := by
  have h := heap_alloc_new (W.alloc o) (.cells (l.map (Value.int .u8)).toArray 5)
  rw [show (W.alloc o).heap.size = W.heap.size + 1 by simp] at h
  exact HasB.block h (Nat.le_refl _)
theorem below_alloc (W : World) (o : Obj) : Below W.heap.size W (W.alloc o) := (Below.refl _ _).alloc (Nat.le_refl _) o
theorem below_to {w W W' : World} (h : Below w.heap.size w W) (hb : Below W.heap.size W W') : Below w.heap.size w W' := h.trans (hb.mono h.size)
set_option maxHeartbeats 4000000 in
set_option maxRecDepth 100000 in
theorem c_valive (w : World) (hg : Gv w) : Calls Tryz.prog 9 #[] w fun e w' => e = .returned (.bool true) ∧ Below w.heap.size w w' := by
  have hb0 := below_alloc w (.cells #[.int .i64 3, .int .i64 0, .string ⟨#[97, 0]⟩] 23)
  have HB := Lib.hid hb0
  have HG := Lib.hid (hg.below hb0)
  have H1 := Lib.hid (heap_alloc_new w (.cells #[.int .i64 3, .int .i64 0, .string ⟨#[97, 0]⟩] 23))
  clear hb0 hg
  have C1 := Lib.hid (fun W hg => c_vencode 3 0 ⟨#[97, 0]⟩ (by unfold Wf; omega) (by decide) W hg)
  have C2 := Lib.hid (fun W hg => c_vread ⟨#[116, 34, 97, 92, 48, 48, 34]⟩ (by decide) W hg 3 0 ⟨#[97, 0]⟩ true liv_rd)
  have C3 := Lib.hid (fun W v hv hg => c_vdecode W v [3, 97, 0, 255, 0, 1] hv (by unfold Byts; decide) (by decide) hg 3 0 ⟨#[97, 0]⟩ true liv_dec)
  have C4 := Lib.hid (fun W hg => c_vshow 3 0 ⟨#[97, 0]⟩ (by unfold Wf; omega) (by decide) W hg)
  have C5 := Lib.hid (fun W hg => c_vright 3 0 ⟨#[97, 0]⟩ (by unfold Wf; omega) (by decide) true liv_right W hg)
  have C6 := Lib.hid (fun W hg => c_vright 0 0 ⟨#[]⟩ (by unfold Wf; omega) (by decide) false liv_none W hg)
  have C7 := Lib.hid (fun W => c_vorder 3 0 ⟨#[97, 0]⟩ 1 0 ⟨#[]⟩ W)
  rw [liv_right, liv_enc] at C1
  rw [liv_show] at C4
  rw [liv_ord] at C7
  simp only [vv] at C1 C2 C3 C4 C5 C6 C7
  go_enter Tryz.func9, Tryz.ntmps9
  go_wp2_with fail
  refine (C1.out _ HG.out).mono ?_
  rintro e w2 ⟨v2, rfl, hv, hb⟩
  have HB2 := Lib.hid (below_to HB.out hb)
  have HG2 := Lib.hid (HG.out.below hb)
  have H12 := Lib.hid (box_keep H1.out hb)
  have HV2 := Lib.hid hv
  clear hv hb HB HG H1
  go_wp2_with fail
  refine (C2.out _ HG2.out).mono ?_
  rintro e w3 ⟨rfl, hb⟩
  have ha := below_alloc w3 (.cells #[.int .i64 3, .int .i64 0, .string ⟨#[97, 0]⟩] 23)
  have hab := below_alloc (w3.alloc (.cells #[.int .i64 3, .int .i64 0, .string ⟨#[97, 0]⟩] 23)) (.cells ([3, 97, 0, 255, 0, 1].map (Value.int .u8)).toArray 5)
  have HB3 := Lib.hid (below_to (below_to (below_to HB2.out hb) ha) hab)
  have HG3 := Lib.hid (((HG2.out.below hb).below ha).below hab)
  have H13 := Lib.hid (box_keep (box_keep (box_keep H12.out hb) ha) hab)
  have HV3 := Lib.hid (((HV2.out.below hb).below ha).below hab)
  have H43 := Lib.hid (box_keep (heap_alloc_new w3 (.cells #[.int .i64 3, .int .i64 0, .string ⟨#[97, 0]⟩] 23)) hab)
  have HL3 := Lib.hid (lit_new w3 (.cells #[.int .i64 3, .int .i64 0, .string ⟨#[97, 0]⟩] 23) [3, 97, 0, 255, 0, 1])
  clear hb ha hab HB2 HG2 H12 HV2
  go_wp2_with fail
  refine (C3.out _ _ HL3.out HG3.out).mono ?_
  rintro e w5 ⟨rfl, hb⟩
  have ha := below_alloc w5 (.cells #[.int .i64 3, .int .i64 0, .string ⟨#[97, 0]⟩] 23)
  have hab := below_alloc (w5.alloc (.cells #[.int .i64 3, .int .i64 0, .string ⟨#[97, 0]⟩] 23)) (.cells ([3, 97, 0, 255, 0, 1].map (Value.int .u8)).toArray 5)
  have HB5 := Lib.hid (below_to (below_to (below_to HB3.out hb) ha) hab)
  have HG5 := Lib.hid (((HG3.out.below hb).below ha).below hab)
  have H15 := Lib.hid (box_keep (box_keep (box_keep H13.out hb) ha) hab)
  have H45 := Lib.hid (box_keep (box_keep (box_keep H43.out hb) ha) hab)
  have HV5 := Lib.hid (((HV3.out.below hb).below ha).below hab)
  have H65 := Lib.hid (box_keep (heap_alloc_new w5 (.cells #[.int .i64 3, .int .i64 0, .string ⟨#[97, 0]⟩] 23)) hab)
  have HL5 := Lib.hid (lit_new w5 (.cells #[.int .i64 3, .int .i64 0, .string ⟨#[97, 0]⟩] 23) [3, 97, 0, 255, 0, 1])
  clear hb ha hab HB3 HG3 H13 H43 HV3 HL3
  go_wp2_with fail
  refine (c_same _ _ _ _ _ HV5.out HL5.out (by decide) true (by decide)).mono ?_
  rintro e w6 ⟨rfl, hb⟩
  have HB6 := Lib.hid (below_to HB5.out hb)
  have HG6 := Lib.hid (HG5.out.below hb)
  have H16 := Lib.hid (box_keep H15.out hb)
  have H46 := Lib.hid (box_keep H45.out hb)
  have H66 := Lib.hid (box_keep H65.out hb)
  clear hb HB5 HG5 H15 H45 H65 HV5 HL5
  obtain ⟨x0, x1, x2⟩ := cells3 H16.out
  obtain ⟨y0, y1, y2⟩ := cells3 H46.out
  obtain ⟨z0, z1, z2⟩ := cells3 H66.out
  go_wp2_with fail
  refine (C4.out _ HG6.out).mono ?_
  rintro e w7 ⟨rfl, hb⟩
  have HB7 := Lib.hid (below_to HB6.out hb)
  have HG7 := Lib.hid (HG6.out.below hb)
  have H17 := Lib.hid (box_keep H16.out hb)
  clear hb x0 x1 x2 y0 y1 y2 z0 z1 z2 HB6 HG6 H16 H46 H66
  obtain ⟨x0, x1, x2⟩ := cells3 H17.out
  go_wp2_with fail
  refine (C5.out _ HG7.out).mono ?_
  rintro e w8 ⟨rfl, hb⟩
  have HB8 := Lib.hid (below_to HB7.out hb)
  have HG8 := Lib.hid (HG7.out.below hb)
  have H18 := Lib.hid (box_keep H17.out hb)
  clear hb x0 x1 x2 HB7 HG7 H17
  go_wp2_with fail
  refine (C6.out _ HG8.out).mono ?_
  rintro e w9 ⟨rfl, hb⟩
  have HB9 := Lib.hid (below_to HB8.out hb)
  have H19 := Lib.hid (box_keep H18.out hb)
  clear hb HB8 HG8 H18
  obtain ⟨x0, x1, x2⟩ := cells3 H19.out
  go_wp2_with fail
  refine (C7.out _).mono ?_
  rintro e w10 ⟨rfl, hb⟩
  have HB10 := Lib.hid (below_to HB9.out hb)
  clear hb HB9 x0 x1 x2 H19
  go_wp2_with fail
  go_ret
  exact ⟨rfl, HB10.out⟩
set_option maxHeartbeats 4000000 in
theorem c_vlong (k n : Int) (s : ByteArray) (b : Bool) (hb : decide (500 < (s.size : Int)) = b) (w : World) : Calls Tryz.prog 10 #[vv k n s] w fun e w' => e = .returned (.bool b) ∧ Below w.heap.size w w' := by
  have HB := Lib.hid (below_alloc w (.cells #[.int .i64 k, .int .i64 n, .string s] 23))
  unfold vv
  go_enter Tryz.func10, Tryz.ntmps10
  go_wp2
  go_ret
  exact ⟨rfl, HB.out⟩
end Go.Proofs.YtikpmlginojnhaaGreatDoor.Fl
