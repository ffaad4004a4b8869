/- Floating numbers: eight bytes, and back. -/
import Derived.Test.YtikpmlginojnhaaGreatDoorF3
import Derived.IntWalk
namespace Go.Proofs.YtikpmlginojnhaaGreatDoor.Fl
open Go.RowKit Go.Maps
set_option linter.unusedVariables false
set_option linter.unusedSimpArgs false
/-- A number's eight bytes, the highest first. -/
def b8 (r : Int) : List Int := [r / 72057594037927936 % 256, r / 281474976710656 % 256, r / 1099511627776 % 256, r / 4294967296 % 256, r / 16777216 % 256, r / 65536 % 256, r / 256 % 256, r % 256]
theorem b8_len (r : Int) : (b8 r).length = 8 := rfl
/-- The bytes of right bits. -/
def bytesF (n : Int) : List Int := if rightU (U n) = true then b8 (rankU (U n)) else []
theorem info5 : (Tryz.prog.info? 5).map (fun i => (i.zero, i.size, i.bytes)) = some (some (.int .u8 0), 1, 1) := by kernel_rfl
set_option maxHeartbeats 4000000 in
set_option maxRecDepth 100000 in
theorem c_bytes (n : Int) (w : World) :
    Calls Tryz.prog 54 #[.int .i64 n] w fun e w' => ∃ v, e = .returned v ∧ HasB w' v (bytesF n) ∧ Below w.heap.size w w' := by
  have hu : IntKind.u64.wrap n = U n := wrap_U n
  cases hr : rightU (U n) with
  | false =>
    have C1 := Lib.hid (c_right n false hr)
    have HB := Lib.hid (show bytesF n = [] by unfold bytesF; rw [if_neg (by rw [hr]; decide)])
    clear hu hr
    go_enter Tryz.func54, Tryz.ntmps54
    go_wp2_with (go_at_call 29; refine (C1.out _).mono ?_; rintro e w' ⟨rfl, rfl⟩)
    go_ret
    exact ⟨_, rfl, by rw [HB.out]; exact HasB.nil _, Below.refl _ _⟩
  | true =>
    have C1 := Lib.hid (c_right n true hr)
    have C2 := Lib.hid (c_brank (U n) (U_bd n).1 (U_bd n).2 _ rfl)
    have HB := Lib.hid (show bytesF n = b8 (rankU (U n)) by unfold bytesF; rw [if_pos hr])
    clear hr
    generalize rankU (U n) = r at *
    generalize U n = u at *
    have hU := Tryz.underlying26
    obtain ⟨i0, hi, hz0, hz1, hz2⟩ := info_parts info5
    go_enter Tryz.func54, Tryz.ntmps54
    go_wp2_with (first | (go_at_call 29; refine (C1.out _).mono ?_; rintro e w' ⟨rfl, rfl⟩) | (go_at_call 60; refine (C2.out _).mono ?_; rintro e w' ⟨rfl, rfl⟩))
    go_loopw [4, 5] (fun v s W => ∃ j : Nat, j ≤ 8 ∧ s = .int .i64 (56 - 8 * (j : Int)) ∧ Hid (W.ownsRow w.heap.size 5 1 v j (((b8 r).take j).map (.int .u8))) ∧ Hid (Below w.heap.size w W)) (fun _ s _ => (intOf s + 8).toNat)
    case atStart => exact ⟨0, by omega, by go_num, World.ownsRow_nil _ _ _ _, Below.refl _ _⟩
    case round =>
      obtain ⟨j, hj, rfl, HO, HW⟩ := hrel
      obtain rfl | rfl | rfl | rfl | rfl | rfl | rfl | rfl | rfl : j = 0 ∨ j = 1 ∨ j = 2 ∨ j = 3 ∨ j = 4 ∨ j = 5 ∨ j = 6 ∨ j = 7 ∨ j = 8 := by omega
      · go_wp2_with (at_builtin; refine wpList_append_own_at _ rfl (.tmp 16) (.tmp 21) 26 rfl w.heap.size 5 i0 (.int .u8 0) 1 1 hU hi hz0 hz1 hz2 rfl (by decide) u4 _ _ rfl (HO.out.alloc _) ⟨wr.heap.size, 0, none⟩ 1 1 [.int .u8 (r / 72057594037927936 % 256)] rfl rfl ?c1 ?c2 ?c3 ?c4 ?c5 ?_; (case c1 => exact World.news_of_block (heap_alloc_new _ _)); (case c2 => simp [Value.oneCell']); (case c3 => unfold maxLen; omega); (case c4 => omega); (case c5 => have := HW.out.size; simp; omega); intro v2 w2 hown2 hgrow2 hnil2 hloc2)
        have HO2 := Lib.hid hown2
        have HW2 := Lib.hid (own_below HW.out HO.out hgrow2)
        clear hown2 hgrow2 hnil2 hloc2 HO HW
        go_wp2
        go_roundw
        case rel => exact ⟨1, by omega, by go_num, HO2.out, HW2.out⟩
        case measure => simp [intOf]
      · go_wp2_with (at_builtin; refine wpList_append_own_at _ rfl (.tmp 16) (.tmp 21) 26 rfl w.heap.size 5 i0 (.int .u8 0) 1 1 hU hi hz0 hz1 hz2 rfl (by decide) u4 _ _ rfl (HO.out.alloc _) ⟨wr.heap.size, 0, none⟩ 1 1 [.int .u8 (r / 281474976710656 % 256)] rfl rfl ?c1 ?c2 ?c3 ?c4 ?c5 ?_; (case c1 => exact World.news_of_block (heap_alloc_new _ _)); (case c2 => simp [Value.oneCell']); (case c3 => unfold maxLen; omega); (case c4 => omega); (case c5 => have := HW.out.size; simp; omega); intro v2 w2 hown2 hgrow2 hnil2 hloc2)
        have HO2 := Lib.hid hown2
        have HW2 := Lib.hid (own_below HW.out HO.out hgrow2)
        clear hown2 hgrow2 hnil2 hloc2 HO HW
        go_wp2
        go_roundw
        case rel => exact ⟨2, by omega, by go_num, HO2.out, HW2.out⟩
        case measure => simp [intOf]
      · go_wp2_with (at_builtin; refine wpList_append_own_at _ rfl (.tmp 16) (.tmp 21) 26 rfl w.heap.size 5 i0 (.int .u8 0) 1 1 hU hi hz0 hz1 hz2 rfl (by decide) u4 _ _ rfl (HO.out.alloc _) ⟨wr.heap.size, 0, none⟩ 1 1 [.int .u8 (r / 1099511627776 % 256)] rfl rfl ?c1 ?c2 ?c3 ?c4 ?c5 ?_; (case c1 => exact World.news_of_block (heap_alloc_new _ _)); (case c2 => simp [Value.oneCell']); (case c3 => unfold maxLen; omega); (case c4 => omega); (case c5 => have := HW.out.size; simp; omega); intro v2 w2 hown2 hgrow2 hnil2 hloc2)
        have HO2 := Lib.hid hown2
        have HW2 := Lib.hid (own_below HW.out HO.out hgrow2)
        clear hown2 hgrow2 hnil2 hloc2 HO HW
        go_wp2
        go_roundw
        case rel => exact ⟨3, by omega, by go_num, HO2.out, HW2.out⟩
        case measure => simp [intOf]
      · go_wp2_with (at_builtin; refine wpList_append_own_at _ rfl (.tmp 16) (.tmp 21) 26 rfl w.heap.size 5 i0 (.int .u8 0) 1 1 hU hi hz0 hz1 hz2 rfl (by decide) u4 _ _ rfl (HO.out.alloc _) ⟨wr.heap.size, 0, none⟩ 1 1 [.int .u8 (r / 4294967296 % 256)] rfl rfl ?c1 ?c2 ?c3 ?c4 ?c5 ?_; (case c1 => exact World.news_of_block (heap_alloc_new _ _)); (case c2 => simp [Value.oneCell']); (case c3 => unfold maxLen; omega); (case c4 => omega); (case c5 => have := HW.out.size; simp; omega); intro v2 w2 hown2 hgrow2 hnil2 hloc2)
        have HO2 := Lib.hid hown2
        have HW2 := Lib.hid (own_below HW.out HO.out hgrow2)
        clear hown2 hgrow2 hnil2 hloc2 HO HW
        go_wp2
        go_roundw
        case rel => exact ⟨4, by omega, by go_num, HO2.out, HW2.out⟩
        case measure => simp [intOf]
      · go_wp2_with (at_builtin; refine wpList_append_own_at _ rfl (.tmp 16) (.tmp 21) 26 rfl w.heap.size 5 i0 (.int .u8 0) 1 1 hU hi hz0 hz1 hz2 rfl (by decide) u4 _ _ rfl (HO.out.alloc _) ⟨wr.heap.size, 0, none⟩ 1 1 [.int .u8 (r / 16777216 % 256)] rfl rfl ?c1 ?c2 ?c3 ?c4 ?c5 ?_; (case c1 => exact World.news_of_block (heap_alloc_new _ _)); (case c2 => simp [Value.oneCell']); (case c3 => unfold maxLen; omega); (case c4 => omega); (case c5 => have := HW.out.size; simp; omega); intro v2 w2 hown2 hgrow2 hnil2 hloc2)
        have HO2 := Lib.hid hown2
        have HW2 := Lib.hid (own_below HW.out HO.out hgrow2)
        clear hown2 hgrow2 hnil2 hloc2 HO HW
        go_wp2
        go_roundw
        case rel => exact ⟨5, by omega, by go_num, HO2.out, HW2.out⟩
        case measure => simp [intOf]
      · go_wp2_with (at_builtin; refine wpList_append_own_at _ rfl (.tmp 16) (.tmp 21) 26 rfl w.heap.size 5 i0 (.int .u8 0) 1 1 hU hi hz0 hz1 hz2 rfl (by decide) u4 _ _ rfl (HO.out.alloc _) ⟨wr.heap.size, 0, none⟩ 1 1 [.int .u8 (r / 65536 % 256)] rfl rfl ?c1 ?c2 ?c3 ?c4 ?c5 ?_; (case c1 => exact World.news_of_block (heap_alloc_new _ _)); (case c2 => simp [Value.oneCell']); (case c3 => unfold maxLen; omega); (case c4 => omega); (case c5 => have := HW.out.size; simp; omega); intro v2 w2 hown2 hgrow2 hnil2 hloc2)
        have HO2 := Lib.hid hown2
        have HW2 := Lib.hid (own_below HW.out HO.out hgrow2)
        clear hown2 hgrow2 hnil2 hloc2 HO HW
        go_wp2
        go_roundw
        case rel => exact ⟨6, by omega, by go_num, HO2.out, HW2.out⟩
        case measure => simp [intOf]
      · go_wp2_with (at_builtin; refine wpList_append_own_at _ rfl (.tmp 16) (.tmp 21) 26 rfl w.heap.size 5 i0 (.int .u8 0) 1 1 hU hi hz0 hz1 hz2 rfl (by decide) u4 _ _ rfl (HO.out.alloc _) ⟨wr.heap.size, 0, none⟩ 1 1 [.int .u8 (r / 256 % 256)] rfl rfl ?c1 ?c2 ?c3 ?c4 ?c5 ?_; (case c1 => exact World.news_of_block (heap_alloc_new _ _)); (case c2 => simp [Value.oneCell']); (case c3 => unfold maxLen; omega); (case c4 => omega); (case c5 => have := HW.out.size; simp; omega); intro v2 w2 hown2 hgrow2 hnil2 hloc2)
        have HO2 := Lib.hid hown2
        have HW2 := Lib.hid (own_below HW.out HO.out hgrow2)
        clear hown2 hgrow2 hnil2 hloc2 HO HW
        go_wp2
        go_roundw
        case rel => exact ⟨7, by omega, by go_num, HO2.out, HW2.out⟩
        case measure => simp [intOf]
      · go_wp2_with (at_builtin; refine wpList_append_own_at _ rfl (.tmp 16) (.tmp 21) 26 rfl w.heap.size 5 i0 (.int .u8 0) 1 1 hU hi hz0 hz1 hz2 rfl (by decide) u4 _ _ rfl (HO.out.alloc _) ⟨wr.heap.size, 0, none⟩ 1 1 [.int .u8 (r % 256)] rfl rfl ?c1 ?c2 ?c3 ?c4 ?c5 ?_; (case c1 => exact World.news_of_block (heap_alloc_new _ _)); (case c2 => simp [Value.oneCell']); (case c3 => unfold maxLen; omega); (case c4 => omega); (case c5 => have := HW.out.size; simp; omega); intro v2 w2 hown2 hgrow2 hnil2 hloc2)
        have HO2 := Lib.hid hown2
        have HW2 := Lib.hid (own_below HW.out HO.out hgrow2)
        clear hown2 hgrow2 hnil2 hloc2 HO HW
        go_wp2
        go_roundw
        case rel => exact ⟨8, by omega, by go_num, HO2.out, HW2.out⟩
        case measure => simp [intOf]
      · go_wp2
        go_ret
        exact ⟨_, rfl, by rw [HB.out]; exact HasB.own HO.out, HW.out⟩
end Go.Proofs.YtikpmlginojnhaaGreatDoor.Fl
