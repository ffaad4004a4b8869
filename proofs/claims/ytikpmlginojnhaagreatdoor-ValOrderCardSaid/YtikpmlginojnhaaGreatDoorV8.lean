/- Values as bytes: the document's Encode. -/
import Derived.Test.YtikpmlginojnhaaGreatDoorV7
namespace Go.Proofs.YtikpmlginojnhaaGreatDoor.Fl
open Go.RowKit Go.Maps
set_option linter.unusedVariables false
set_option linter.unusedSimpArgs false
theorem SrcB.of_block {W : World} {g c : Nat} {l : List Int} {fr : Nat × Nat} (h : W.heap[g]? = some (.cells (l.map (Value.int .u8)).toArray 5 fr)) : SrcB W (.slice (some ⟨g, 0, none⟩) l.length c) l := by
  refine ⟨⟨g, 0, none⟩, c, rfl, fun k hk => ?_⟩
  rw [add_plain]
  simp only [World.cell?, h]
  rw [List.getElem?_toArray, at_map hk]
  rfl
set_option maxHeartbeats 4000000 in
set_option maxRecDepth 100000 in
theorem c_rvencode (k n : Int) (s : ByteArray) (hn : Wf n) (hs : s.size ≤ 140737488351232) (w : World) :
    Calls Tryz.prog 12 #[vv k n s] w fun e w' => ∃ v, e = .returned (.tuple #[v, .bool (rightV k n s)]) ∧ HasB w' v (encV k n s) ∧ Below w.heap.size w w' := by
  have hbx := (Below.refl w.heap.size w).alloc (Nat.le_refl _) (.cells #[.int .i64 k, .int .i64 n, .string s] 23)
  have HB := Lib.hid hbx
  clear hbx
  cases hr : rightV k n s with
  | false =>
    have HE := Lib.hid (show encV k n s = [] by unfold encV; rw [if_neg (by rw [hr]; decide)])
    have C1 := Lib.hid (fun W => c_rvright k n s hn hs false hr W)
    unfold vv at C1 ⊢
    clear hr
    go_enter Tryz.func12, Tryz.ntmps12
    go_wp2_with (go_at_call 14; ((refine (C1.out _).mono ?_); rintro e w' ⟨rfl, hb⟩; have HB2 := Lib.hid (HB.out.trans (hb.mono HB.out.size)); clear hb))
    go_ret2
    exact ⟨_, rfl, by rw [HE.out]; exact HasB.nil _, HB2.out⟩
  | true =>
    have HE := Lib.hid (show encV k n s = [k] ++ encP k n s by unfold encV; rw [if_pos hr]; rfl)
    have C1 := Lib.hid (fun W => c_rvright k n s hn hs true hr W)
    have HL := Lib.hid (encP_len k n s hr)
    unfold vv at C1 ⊢
    rcases right_kinds hr with ⟨rfl, h⟩ | ⟨rfl, h, h2⟩ | ⟨rfl, h, h2⟩ | ⟨rfl, rfl, h⟩ | ⟨rfl, rfl, h, h2⟩
    · have hu := wrap_U n
      have hq : IntKind.u64.wrap (U n + 9223372036854775808) = n + 9223372036854775808 := by unfold Wf at hn; unfold U; rw [wrap_u64]; omega
      have C2 := Lib.hid (c_reight (n + 9223372036854775808) (by unfold Wf at hn; omega) (by unfold Wf at hn; omega))
      rw [show encP 1 n s = b8 (n + 9223372036854775808) from rfl] at HE HL
      generalize U n = u at hq hu
      generalize hl : b8 (n + 9223372036854775808) = l at *
      clear hn hr h hl
      go_enter Tryz.func12, Tryz.ntmps12
      go_wp2_with (first | (go_at_call 14; ((refine (C1.out _).mono ?_); rintro e w1 ⟨rfl, hb⟩; have HB1 := Lib.hid (HB.out.trans (hb.mono HB.out.size)); have HBX := Lib.hid ((hb.block w.heap.size (by simp)).trans (heap_alloc_new w _)); obtain ⟨x0, x1, x2⟩ := cells3 HBX.out; obtain ⟨y0, y1, y2⟩ := cells_on ((Below.refl _ w1).alloc (Nat.le_refl _) (.cells #[.int .u8 1] 5)) ⟨x0, x1, x2⟩; clear hb)) | (go_at_call 26; ((refine (C2.out _).mono ?_); rintro e w2 ⟨v, rfl, hv, hb⟩; have HV := Lib.hid hv; have HOB := Lib.hid hb; clear hv hb)) | (at_builtin; refine wp_append_b rfl (.tmp 16) (.tmp 21) rfl w1.heap.size _ _ [1] (l) rfl rfl ?o1 ?s1 ?l1 ?b1 ?_; (case o1 => exact ((OwnB.row w1 [1] w1.heap.size (Nat.le_refl _) (by simp)).below HOB.out)); (case s1 => exact HV.out.src HL.out.1); (case l1 => have := HL.out.2; show 1 + _ ≤ _; omega); (case b1 => have := HOB.out.size; simp at this; omega); intro v3 w3 ho hb3 hg3; have HO3 := Lib.hid ho; have HB3 : Hid (Below w1.heap.size w1 w3) := Lib.hid (((Below.refl _ w1).alloc (Nat.le_refl _) _).trans ((HOB.out.mono (by simp)).trans hb3)); clear ho hb3 hg3))
      go_ret2
      exact ⟨_, rfl, by rw [HE.out]; exact HO3.out.has, HB1.out.trans (HB3.out.mono HB1.out.size)⟩
    · rw [show encP 4 n s = [n] from rfl] at HE HL
      have hw : IntKind.u8.wrap n = n := by rcases h2 with rfl | rfl <;> decide
      clear hr h h2 hn
      go_enter Tryz.func12, Tryz.ntmps12
      go_wp2_with (first | (go_at_call 14; ((refine (C1.out _).mono ?_); rintro e w1 ⟨rfl, hb⟩; have HB1 := Lib.hid (HB.out.trans (hb.mono HB.out.size)); have HBX := Lib.hid ((hb.block w.heap.size (by simp)).trans (heap_alloc_new w _)); obtain ⟨x0, x1, x2⟩ := cells3 HBX.out; obtain ⟨y0, y1, y2⟩ := cells_on ((Below.refl _ w1).alloc (Nat.le_refl _) (.cells #[.int .u8 4] 5)) ⟨x0, x1, x2⟩; clear hb)) | (at_builtin; (refine wp_append_b rfl (.tmp 32) (.tmp 36) rfl w1.heap.size _ _ [4] [n] rfl rfl ?o1 ?s1 ?l1 ?b1 ?_; (case o1 => exact (OwnB.row w1 [4] w1.heap.size (Nat.le_refl _) (by simp)).alloc _); (case s1 => exact SrcB.of_block (l := [n]) (box_a w1 _ _).2); (case l1 => show 1 + 1 ≤ _; omega); (case b1 => simp; omega); intro v3 w3 ho hb3 hg3; have HO3 := Lib.hid ho; have HB3 : Hid (Below w1.heap.size w1 w3) := Lib.hid ((((Below.refl _ w1).alloc (Nat.le_refl _) _).alloc (by simp) _).trans hb3); clear ho hb3 hg3)))
      go_ret2
      exact ⟨_, rfl, by rw [HE.out]; exact HO3.out.has, HB1.out.trans (HB3.out.mono HB1.out.size)⟩
    · have C2 := Lib.hid (c_rbytes n hn)
      rw [show encP 5 n s = bytesF n from rfl] at HE HL
      generalize bytesF n = l at *
      clear hn hr h h2
      go_enter Tryz.func12, Tryz.ntmps12
      go_wp2_with (first | (go_at_call 14; ((refine (C1.out _).mono ?_); rintro e w1 ⟨rfl, hb⟩; have HB1 := Lib.hid (HB.out.trans (hb.mono HB.out.size)); have HBX := Lib.hid ((hb.block w.heap.size (by simp)).trans (heap_alloc_new w _)); obtain ⟨x0, x1, x2⟩ := cells3 HBX.out; obtain ⟨y0, y1, y2⟩ := cells_on ((Below.refl _ w1).alloc (Nat.le_refl _) (.cells #[.int .u8 5] 5)) ⟨x0, x1, x2⟩; clear hb)) | (go_at_call 27; ((refine (C2.out _).mono ?_); rintro e w2 ⟨v, rfl, hv, hb⟩; have HV := Lib.hid hv; have HOB := Lib.hid hb; clear hv hb)) | (at_builtin; refine wp_append_b rfl (.tmp 25) (.tmp 28) rfl w1.heap.size _ _ [5] (l) rfl rfl ?o1 ?s1 ?l1 ?b1 ?_; (case o1 => exact ((OwnB.row w1 [5] w1.heap.size (Nat.le_refl _) (by simp)).below HOB.out)); (case s1 => exact HV.out.src HL.out.1); (case l1 => have := HL.out.2; show 1 + _ ≤ _; omega); (case b1 => have := HOB.out.size; simp at this; omega); intro v3 w3 ho hb3 hg3; have HO3 := Lib.hid ho; have HB3 : Hid (Below w1.heap.size w1 w3) := Lib.hid (((Below.refl _ w1).alloc (Nat.le_refl _) _).trans ((HOB.out.mono (by simp)).trans hb3)); clear ho hb3 hg3))
      go_ret2
      exact ⟨_, rfl, by rw [HE.out]; exact HO3.out.has, HB1.out.trans (HB3.out.mono HB1.out.size)⟩
    · have C2 := Lib.hid (c_rescaped s (by omega))
      rw [show encP 2 0 s = esc (byt s) from rfl] at HE HL
      generalize esc (byt s) = l at *
      clear hn hr h
      go_enter Tryz.func12, Tryz.ntmps12
      go_wp2_with (first | (go_at_call 14; ((refine (C1.out _).mono ?_); rintro e w1 ⟨rfl, hb⟩; have HB1 := Lib.hid (HB.out.trans (hb.mono HB.out.size)); have HBX := Lib.hid ((hb.block w.heap.size (by simp)).trans (heap_alloc_new w _)); obtain ⟨x0, x1, x2⟩ := cells3 HBX.out; obtain ⟨y0, y1, y2⟩ := cells_on ((Below.refl _ w1).alloc (Nat.le_refl _) (.cells #[.int .u8 2] 5)) ⟨x0, x1, x2⟩; clear hb)) | (go_at_call 28; ((refine (C2.out _).mono ?_); rintro e w2 ⟨v, rfl, hv, hb⟩; have HV := Lib.hid hv; have HOB := Lib.hid hb; clear hv hb)) | (at_builtin; refine wp_append_b rfl (.tmp 38) (.tmp 41) rfl w1.heap.size _ _ [2] (l) rfl rfl ?o1 ?s1 ?l1 ?b1 ?_; (case o1 => exact ((OwnB.row w1 [2] w1.heap.size (Nat.le_refl _) (by simp)).below HOB.out)); (case s1 => exact HV.out.src HL.out.1); (case l1 => have := HL.out.2; show 1 + _ ≤ _; omega); (case b1 => have := HOB.out.size; simp at this; omega); intro v3 w3 ho hb3 hg3; have HO3 := Lib.hid ho; have HB3 : Hid (Below w1.heap.size w1 w3) := Lib.hid (((Below.refl _ w1).alloc (Nat.le_refl _) _).trans ((HOB.out.mono (by simp)).trans hb3)); clear ho hb3 hg3))
      go_ret2
      exact ⟨_, rfl, by rw [HE.out]; exact HO3.out.has, HB1.out.trans (HB3.out.mono HB1.out.size)⟩
    · have C2 := Lib.hid (c_rescaped s (by omega))
      rw [show encP 3 0 s = esc (byt s) from rfl] at HE HL
      generalize esc (byt s) = l at *
      clear hn hr h
      go_enter Tryz.func12, Tryz.ntmps12
      go_wp2_with (first | (go_at_call 14; ((refine (C1.out _).mono ?_); rintro e w1 ⟨rfl, hb⟩; have HB1 := Lib.hid (HB.out.trans (hb.mono HB.out.size)); have HBX := Lib.hid ((hb.block w.heap.size (by simp)).trans (heap_alloc_new w _)); obtain ⟨x0, x1, x2⟩ := cells3 HBX.out; obtain ⟨y0, y1, y2⟩ := cells_on ((Below.refl _ w1).alloc (Nat.le_refl _) (.cells #[.int .u8 3] 5)) ⟨x0, x1, x2⟩; clear hb)) | (go_at_call 28; ((refine (C2.out _).mono ?_); rintro e w2 ⟨v, rfl, hv, hb⟩; have HV := Lib.hid hv; have HOB := Lib.hid hb; clear hv hb)) | (at_builtin; refine wp_append_b rfl (.tmp 38) (.tmp 41) rfl w1.heap.size _ _ [3] (l) rfl rfl ?o1 ?s1 ?l1 ?b1 ?_; (case o1 => exact ((OwnB.row w1 [3] w1.heap.size (Nat.le_refl _) (by simp)).below HOB.out)); (case s1 => exact HV.out.src HL.out.1); (case l1 => have := HL.out.2; show 1 + _ ≤ _; omega); (case b1 => have := HOB.out.size; simp at this; omega); intro v3 w3 ho hb3 hg3; have HO3 := Lib.hid ho; have HB3 : Hid (Below w1.heap.size w1 w3) := Lib.hid (((Below.refl _ w1).alloc (Nat.le_refl _) _).trans ((HOB.out.mono (by simp)).trans hb3)); clear ho hb3 hg3))
      go_ret2
      exact ⟨_, rfl, by rw [HE.out]; exact HO3.out.has, HB1.out.trans (HB3.out.mono HB1.out.size)⟩
end Go.Proofs.YtikpmlginojnhaaGreatDoor.Fl
