/- Values out of text: the document's Read: texts and bytes. -/
import Derived.Test.YtikpmlginojnhaaGreatDoorVR
namespace Go.Proofs.YtikpmlginojnhaaGreatDoor.Fl
open Go.RowKit Go.Maps
set_option linter.unusedVariables false
set_option linter.unusedSimpArgs false
theorem Tk.belowB {w W W' : World} {a0 a1 a2 : Value} {k n : Int} {s : ByteArray} (h : Tk w W a0 a1 a2 k n s) (hb : Below (w.heap.size + 2) W W') : Tk w W' a0 a1 a2 k n s :=
  ⟨(hb.block _ (by omega)).trans h.z, (hb.block _ (by omega)).trans h.v, h.bel.trans (hb.mono (by omega))⟩
theorem gs_txt2 {s : ByteArray} {o : List Int} (ho : Byts o) (h0 : b0 s = 98) (h : ∀ l, Byts l → byt s = [98] ++ quo l → l = o) : Gs s 2 0 (txt o) := fun k' n' t' h1 h2 => by
  have hb := form_b h2
  rcases h2 with ⟨rfl, rfl, e⟩ | ⟨rfl, rfl, rfl, e⟩ | ⟨rfl, rfl, rfl, e⟩ | ⟨rfl, rfl, hr, e⟩ | ⟨rfl, rfl, e⟩ | ⟨rfl, rfl, e⟩ <;> first | (exfalso; clear e; omega) | skip
  have := h (byt t') (byt_bd t') (by rw [e, byt_append, byt_txt _ (quo_byts _ (byt_bd t'))]; rfl)
  exact ⟨rfl, rfl, byt_inj (by rw [byt_txt _ ho, this])⟩
theorem gs_txt3 {s : ByteArray} {o : List Int} (ho : Byts o) (h0 : b0 s = 116) (hf : ¬ s = ⟨#[116, 114, 117, 101]⟩) (h : ∀ l, Byts l → byt s = [116] ++ quo l → l = o) : Gs s 3 0 (txt o) := fun k' n' t' h1 h2 => by
  have hb := form_b h2
  rcases h2 with ⟨rfl, rfl, e⟩ | ⟨rfl, rfl, rfl, e⟩ | ⟨rfl, rfl, rfl, e⟩ | ⟨rfl, rfl, hr, e⟩ | ⟨rfl, rfl, e⟩ | ⟨rfl, rfl, e⟩ <;> first | (exfalso; clear e; omega) | exact absurd e hf | skip
  have := h (byt t') (byt_bd t') (by rw [e, byt_append, byt_txt _ (quo_byts _ (byt_bd t'))]; rfl)
  exact ⟨rfl, rfl, byt_inj (by rw [byt_txt _ ho, this])⟩
theorem ud_bd (c : Int) : 0 ≤ ud c ∧ ud c < 16 := by
  unfold ud
  have := uh_bd c
  split <;> omega
theorem ud_uh {c : Int} (h : 0 ≤ uh c) : ud c = uh c := by
  unfold ud
  rw [if_neg (by omega)]
theorem drop3 {l : List Int} {i : Nat} (h : i + 2 < l.length) : l.drop i = l.getD i 0 :: l.getD (i + 1) 0 :: l.getD (i + 2) 0 :: l.drop (i + 3) := by
  rw [drop1 (by omega), drop1 (by omega), drop1 h]
theorem w64_add (i : Nat) (c : Int) (h : i ≤ 2000000) (h0 : 0 ≤ c) (h1 : c ≤ 10) : wrap64 ((i : Int) + c) = (i : Int) + c := by unfold wrap64; omega
theorem i64_add (i : Nat) (c : Int) (h : i ≤ 2000000) (h0 : 0 ≤ c) (h1 : c ≤ 10) : IntKind.i64.wrap ((i : Int) + c) = (i : Int) + c := by rw [IntKind.wrap_i64]; omega
theorem i16 {a : Int} (ha : 0 ≤ a ∧ a < 16) : IntKind.i64.wrap (16 * a) = 16 * a := by rw [IntKind.wrap_i64]; omega
theorem i16b {a b : Int} (ha : 0 ≤ a ∧ a < 16) (hb : 0 ≤ b ∧ b < 16) : IntKind.i64.wrap (16 * a + b) = 16 * a + b := by rw [IntKind.wrap_i64]; omega
theorem w16 {a : Int} (ha : 0 ≤ a ∧ a < 16) : wrap64 (16 * a) = 16 * a := by unfold wrap64; omega
theorem w16b {a b : Int} (ha : 0 ≤ a ∧ a < 16) (hb : 0 ≤ b ∧ b < 16) : wrap64 (16 * a + b) = 16 * a + b := by unfold wrap64; omega
theorem w8b {a b : Int} (ha : 0 ≤ a ∧ a < 16) (hb : 0 ≤ b ∧ b < 16) : IntKind.u8.wrap (16 * a + b) = 16 * a + b := by unfold IntKind.wrap; simp [IntKind.bits, IntKind.signed]; omega
set_option maxHeartbeats 4000000 in
set_option maxRecDepth 100000 in
theorem c_rvread2 (s : ByteArray) (h0 : b0 s = 98) (hs : s.size ≤ 1000000) (w : World) (k n : Int) (t : ByteArray) (b : Bool) (hr : RdV s k n t b) :
    Calls Tryz.prog 23 #[.string s] w fun e w' => e = .returned (.tuple #[vv k n t, .bool b]) ∧ Below w.heap.size w w' := by
  have h1 := byt_b0 (s := s) (by omega)
  have q0 := size_empty h1
  have q1 : (s.toList == [116, 114, 117, 101]) = false := tl_false (b0_ne (by rw [h0]; decide))
  have q2 : (s.toList == [102, 97, 108, 115, 101]) = false := tl_false (b0_ne (by rw [h0]; decide))
  have x0 := at0 s h1
  rw [h0] at x0
  have HTK0 := Lib.hid (Tk.start w (.int .i64 0) (.int .i64 0) (.string ⟨#[]⟩) 2 0 ⟨#[]⟩)
  have HB0 := Lib.hid h0
  have HR := Lib.hid hr
  have HSZ := Lib.hid hs
  have HI := Lib.hid (show Qv s [98] [34] [] ((byt s).drop 2) from fun l hl h => ⟨l, hl, rfl, by rw [h]; rfl⟩)
  clear hr h0
  go_enter Tryz.func23, Tryz.ntmps23
  go_upto_region 26 with fail
  generalize (w.alloc (.cells #[.int .i64 0, .int .i64 0, .string ⟨#[]⟩] 23)).alloc (.cells #[.int .i64 2, .int .i64 0, .string ⟨#[]⟩] 23) = W1 at HTK0 ⊢
  have hW1 := lt_block HTK0.out.v
  have HO0 := Lib.hid (OwnB.row W1 [] (w.heap.size + 2) hW1 (by decide))
  have HT0 := Lib.hid (HTK0.out.belowB (((Below.refl _ _).alloc (Nat.le_refl _) (.cells #[] 5)).mono hW1))
  clear hW1 HTK0
  go_wp2
  go_loopw [7, 8] (fun v7 v8 W => ∃ (i : Nat) (o : List Int), v8 = .int .i64 i ∧ 2 ≤ i ∧ i ≤ s.size + 2 ∧ o.length ≤ i ∧ Hid (OwnB W (w.heap.size + 2) v7 o) ∧ Hid (Byts o) ∧ Hid (Qv s [98] [34] o ((byt s).drop i)) ∧ Hid (Tk w W (.int .i64 0) (.int .i64 0) (.string ⟨#[]⟩) 2 0 ⟨#[]⟩)) (fun _ v8 _ => s.size + 3 - (intOf v8).toNat)
  case atStart => exact ⟨2, [], rfl, by omega, by omega, by simp, HO0, Lib.hid (fun x h => by cases h), HI, HT0⟩
  case round =>
    clear HI HO0 HT0
    obtain ⟨i, o, rfl, hi2, hi, hol, HO, HOB, HQV, HTK⟩ := hrel
    by_cases hlt : i + 1 < s.size
    · have t1 : decide ((i : Int) + 1 < (s.size : Int)) = true := decide_eq_true (by omega)
      have x1 := str_at s i (by omega)
      have hbl := byt_len s
      have hx := byts_at (byt_bd s) i (by omega)
      have HD := Lib.hid (drop1 (l := byt s) (i := i) (by omega))
      have HD3 := Lib.hid (fun h => drop3 (l := byt s) (i := i) h)
      have a0 := str_at s (i + 1) hlt
      obtain ⟨x, ex⟩ : ∃ x, (byt s).getD i 0 = x := ⟨_, rfl⟩
      obtain ⟨ya, ea⟩ : ∃ x, (byt s).getD (i + 1) 0 = x := ⟨_, rfl⟩
      rw [ex] at x1 hx HD HD3
      rw [ea] at HD3 a0
      have hWs := lt_block HTK.out.v
      by_cases h92 : x = 92
      · have t2 : (x == 92) = true := by simp [h92]
        by_cases h3 : i + 3 < s.size
        · have t3 : decide ((i : Int) + 3 < (s.size : Int)) = true := decide_eq_true (by omega)
          have a2 := str_at s (i + 2) (by omega)
          obtain ⟨yb, eb⟩ : ∃ x, (byt s).getD (i + 2) 0 = x := ⟨_, rfl⟩
          rw [eb] at a2
          have a0' : ∀ w, (Instr.index 9 (.string s) (.int .i64 ((i : Int) + 1))).run Tryz.prog w = .ok (.int .u8 ya) w := a0
          have a2' : ∀ w, (Instr.index 9 (.string s) (.int .i64 ((i : Int) + 2))).run Tryz.prog w = .ok (.int .u8 yb) w := a2
          have HQ2 := Lib.hid (show Qv s [98] [34] (o ++ [16 * ud ya + ud yb]) ((byt s).drop (i + 3)) by
            have h := HQV.out
            rw [HD3.out (by omega), eb, h92] at h
            exact qv_esc h (by decide) (fun h1 h2 => by rw [ud_uh h1, ud_uh h2]; omega))
          have C1 := Lib.hid (fun W => c_digit ya W)
          have C2 := Lib.hid (fun W => c_digit yb W)
          have hua := ud_bd ya
          have hub := ud_bd yb
          generalize ud ya = da at *
          generalize ud yb = db at *
          have HOB2 := Lib.hid (byts_snoc HOB.out (show 0 ≤ 16 * da + db ∧ 16 * da + db < 256 by omega))
          have HH := Lib.hid (And.intro hi2 (And.intro hol h3))
          have HLE : i ≤ 2000000 := by omega
          have m4 := w64_add i 1 HLE (by decide) (by decide)
          have m5 := w64_add i 2 HLE (by decide) (by decide)
          have m6 := i64_add i 1 HLE (by decide) (by decide)
          have m7 := i64_add i 2 HLE (by decide) (by decide)
          have m8 := i16 hua
          have m9 := i16b hua hub
          have m1 := w16 hua
          have m2 := w16b hua hub
          have m3 := w8b hua hub
          clear a0 a2 hx h92 ex ea eb hua hub hbl
          go_wp2_with fail
          refine wp_region_held_drew (S := fun _ => True) (by kernel_rfl) trivial (fun hHeld => ?_)
          refine wpAnyH_take (i := 0) (oi := ?o_1) (v := ?v_1) ?hi_1 ?hs_1 ?hf_1 ?hr_1 ?hQ_1 ?hy_1 ?hS_1 ?rest_1; (case hi_1 => (simp only [List.getElem?_toArray, List.getElem?_cons_zero, List.getElem?_cons_succ]; rfl)); (case hs_1 => kernel_rfl); (case hf_1 => kernel_rfl); (case hr_1 => kernel_rfl); (case hQ_1 => exact fun _ _ _ h => h); (case hS_1 => assumption); (case hy_1 => (refine Or.inl ⟨by rfl, ?_⟩; intro w hSw; go_simp; first | done | with_reducible rfl)); (try simp only [Act.put, List.setIfInBounds_toArray, List.set_cons_zero, List.set_cons_succ])
          refine wpAnyH_take (i := 1) (oi := ?o_2) (v := ?v_2) ?hi_2 ?hs_2 ?hf_2 ?hr_2 ?hQ_2 ?hy_2 ?hS_2 ?rest_2; (case hi_2 => (simp only [List.getElem?_toArray, List.getElem?_cons_zero, List.getElem?_cons_succ]; rfl)); (case hs_2 => kernel_rfl); (case hf_2 => kernel_rfl); (case hr_2 => kernel_rfl); (case hQ_2 => exact fun _ _ _ h => h); (case hS_2 => assumption); (case hy_2 => (refine Or.inl ⟨by rfl, ?_⟩; intro w hSw; go_simp; first | done | with_reducible rfl)); (try simp only [Act.put, List.setIfInBounds_toArray, List.set_cons_zero, List.set_cons_succ])
          refine wpAnyH_take (i := 2) (oi := ?o_3) (v := ?v_3) ?hi_3 ?hs_3 ?hf_3 ?hr_3 ?hQ_3 ?hy_3 ?hS_3 ?rest_3; (case hi_3 => (simp only [List.getElem?_toArray, List.getElem?_cons_zero, List.getElem?_cons_succ]; rfl)); (case hs_3 => kernel_rfl); (case hf_3 => kernel_rfl); (case hr_3 => kernel_rfl); (case hQ_3 => exact fun _ _ _ h => h); (case hS_3 => assumption); (case hy_3 => (refine Or.inl ⟨by rfl, ?_⟩; intro w hSw; go_simp; first | done | with_reducible rfl)); (try simp only [Act.put, List.setIfInBounds_toArray, List.set_cons_zero, List.set_cons_succ])
          refine wpAnyH_take (i := 3) (oi := ?o_4) (v := ?v_4) ?hi_4 ?hs_4 ?hf_4 ?hr_4 ?hQ_4 ?hy_4 ?hS_4 ?rest_4; (case hi_4 => (simp only [List.getElem?_toArray, List.getElem?_cons_zero, List.getElem?_cons_succ]; rfl)); (case hs_4 => kernel_rfl); (case hf_4 => kernel_rfl); (case hr_4 => kernel_rfl); (case hQ_4 => exact fun _ _ _ h => h); (case hS_4 => assumption); (case hy_4 => (refine Or.inl ⟨by rfl, ?_⟩; intro w hSw; go_simp; first | done | with_reducible rfl)); (try simp only [Act.put, List.setIfInBounds_toArray, List.set_cons_zero, List.set_cons_succ])
          refine wpAnyH_take (i := 4) (oi := ?o_5) (v := ?v_5) ?hi_5 ?hs_5 ?hf_5 ?hr_5 ?hQ_5 ?hy_5 ?hS_5 ?rest_5; (case hi_5 => (simp only [List.getElem?_toArray, List.getElem?_cons_zero, List.getElem?_cons_succ]; rfl)); (case hs_5 => kernel_rfl); (case hf_5 => kernel_rfl); (case hr_5 => kernel_rfl); (case hQ_5 => exact fun _ _ _ h => h); (case hS_5 => assumption); (case hy_5 => (refine Or.inl ⟨by rfl, ?_⟩; intro w hSw; go_simp; first | done | with_reducible rfl)); (try simp only [Act.put, List.setIfInBounds_toArray, List.set_cons_zero, List.set_cons_succ])
          refine wpAnyH_take (i := 7) (oi := ?o_6) (v := ?v_6) ?hi_6 ?hs_6 ?hf_6 ?hr_6 ?hQ_6 ?hy_6 ?hS_6 ?rest_6; (case hi_6 => (simp only [List.getElem?_toArray, List.getElem?_cons_zero, List.getElem?_cons_succ]; rfl)); (case hs_6 => kernel_rfl); (case hf_6 => kernel_rfl); (case hr_6 => kernel_rfl); (case hQ_6 => exact fun _ _ _ h => h); (case hS_6 => assumption); (case hy_6 => (refine Or.inl ⟨by rfl, ?_⟩; intro w hSw; go_simp; first | done | with_reducible rfl)); (try simp only [Act.put, List.setIfInBounds_toArray, List.set_cons_zero, List.set_cons_succ])
          refine wpAnyH_take (i := 8) (oi := ?o_7) (v := ?v_7) ?hi_7 ?hs_7 ?hf_7 ?hr_7 ?hQ_7 ?hy_7 ?hS_7 ?rest_7; (case hi_7 => (simp only [List.getElem?_toArray, List.getElem?_cons_zero, List.getElem?_cons_succ]; rfl)); (case hs_7 => kernel_rfl); (case hf_7 => kernel_rfl); (case hr_7 => kernel_rfl); (case hQ_7 => exact fun _ _ _ h => h); (case hS_7 => assumption); (case hy_7 => (refine Or.inl ⟨by rfl, ?_⟩; intro w hSw; go_simp; first | done | with_reducible rfl)); (try simp only [Act.put, List.setIfInBounds_toArray, List.set_cons_zero, List.set_cons_succ])
          refine wpAnyH_take (i := 9) (oi := ?o_8) (v := ?v_8) ?hi_8 ?hs_8 ?hf_8 ?hr_8 ?hQ_8 ?hy_8 ?hS_8 ?rest_8; (case hi_8 => (simp only [List.getElem?_toArray, List.getElem?_cons_zero, List.getElem?_cons_succ]; rfl)); (case hs_8 => kernel_rfl); (case hf_8 => kernel_rfl); (case hr_8 => kernel_rfl); (case hQ_8 => exact fun _ _ _ h => h); (case hS_8 => assumption); (case hy_8 => (refine Or.inl ⟨by rfl, ?_⟩; intro w hSw; go_simp; first | done | with_reducible rfl)); (try simp only [Act.put, List.setIfInBounds_toArray, List.set_cons_zero, List.set_cons_succ])
          refine wpAnyH_take (i := 10) (oi := ?o_9) (v := ?v_9) ?hi_9 ?hs_9 ?hf_9 ?hr_9 ?hQ_9 ?hy_9 ?hS_9 ?rest_9; (case hi_9 => (simp only [List.getElem?_toArray, List.getElem?_cons_zero, List.getElem?_cons_succ]; rfl)); (case hs_9 => kernel_rfl); (case hf_9 => kernel_rfl); (case hr_9 => kernel_rfl); (case hQ_9 => exact fun _ _ _ h => h); (case hS_9 => assumption); (case hy_9 => (refine Or.inl ⟨by rfl, ?_⟩; intro w hSw; go_simp; first | done | with_reducible rfl)); (try simp only [Act.put, List.setIfInBounds_toArray, List.set_cons_zero, List.set_cons_succ])
          refine wpAnyH_ready (rs := [5]) (by kernel_rfl) (by simp) ?_; refine AllReadyH.cons (o := ?o_10) ?hi_10 (fun K hK => ?_) AllReadyH.nil; (case hi_10 => (simp only [List.getElem?_toArray, List.getElem?_cons_zero, List.getElem?_cons_succ]; rfl)); go_simp; ((go_at_call 52); (with_reducible refine (C1.out _).mono ?_); rintro e w' ⟨rfl, rfl⟩); refine hK.out _ _ ?_ (fun hHeld => ?_); (· exact trivial); clear hK K; (try simp only [Act.put, List.setIfInBounds_toArray, List.set_cons_zero, List.set_cons_succ])
          refine wpAnyH_take (i := 6) (oi := ?o_11) (v := ?v_11) ?hi_11 ?hs_11 ?hf_11 ?hr_11 ?hQ_11 ?hy_11 ?hS_11 ?rest_11; (case hi_11 => (simp only [List.getElem?_toArray, List.getElem?_cons_zero, List.getElem?_cons_succ]; rfl)); (case hs_11 => kernel_rfl); (case hf_11 => kernel_rfl); (case hr_11 => kernel_rfl); (case hQ_11 => exact fun _ _ _ h => h); (case hS_11 => assumption); (case hy_11 => (refine Or.inl ⟨by rfl, ?_⟩; intro w hSw; go_simp; first | done | with_reducible rfl)); (try simp only [Act.put, List.setIfInBounds_toArray, List.set_cons_zero, List.set_cons_succ])
          refine wpAnyH_ready (rs := [11]) (by kernel_rfl) (by simp) ?_; refine AllReadyH.cons (o := ?o_12) ?hi_12 (fun K hK => ?_) AllReadyH.nil; (case hi_12 => (simp only [List.getElem?_toArray, List.getElem?_cons_zero, List.getElem?_cons_succ]; rfl)); go_simp; ((go_at_call 52); (with_reducible refine (C2.out _).mono ?_); rintro e w' ⟨rfl, rfl⟩); refine hK.out _ _ ?_ (fun hHeld => ?_); (· exact trivial); clear hK K; (try simp only [Act.put, List.setIfInBounds_toArray, List.set_cons_zero, List.set_cons_succ])
          refine wpAnyH_take (i := 12) (oi := ?o_13) (v := ?v_13) ?hi_13 ?hs_13 ?hf_13 ?hr_13 ?hQ_13 ?hy_13 ?hS_13 ?rest_13; (case hi_13 => (simp only [List.getElem?_toArray, List.getElem?_cons_zero, List.getElem?_cons_succ]; rfl)); (case hs_13 => kernel_rfl); (case hf_13 => kernel_rfl); (case hr_13 => kernel_rfl); (case hQ_13 => exact fun _ _ _ h => h); (case hS_13 => assumption); (case hy_13 => (refine Or.inl ⟨by rfl, ?_⟩; intro w hSw; go_simp; first | done | with_reducible rfl)); (try simp only [Act.put, List.setIfInBounds_toArray, List.set_cons_zero, List.set_cons_succ])
          refine wpAnyH_take (i := 13) (oi := ?o_14) (v := ?v_14) ?hi_14 ?hs_14 ?hf_14 ?hr_14 ?hQ_14 ?hy_14 ?hS_14 ?rest_14; (case hi_14 => (simp only [List.getElem?_toArray, List.getElem?_cons_zero, List.getElem?_cons_succ]; rfl)); (case hs_14 => kernel_rfl); (case hf_14 => kernel_rfl); (case hr_14 => kernel_rfl); (case hQ_14 => exact fun _ _ _ h => h); (case hS_14 => assumption); (case hy_14 => (refine Or.inl ⟨by rfl, ?_⟩; intro w hSw; go_simp; first | done | with_reducible rfl)); (try simp only [Act.put, List.setIfInBounds_toArray, List.set_cons_zero, List.set_cons_succ])
          refine wpAnyH_ready (rs := [14]) (by kernel_rfl) (by simp) ?_; refine AllReadyH.cons (o := ?o_15) ?hi_15 (fun K hK => ?_) AllReadyH.nil; (case hi_15 => (simp only [List.getElem?_toArray, List.getElem?_cons_zero, List.getElem?_cons_succ]; rfl)); go_simp; skip; refine hK.out _ _ ?_ (fun hHeld => ?_); (· exact trivial); clear hK K; (try simp only [Act.put, List.setIfInBounds_toArray, List.set_cons_zero, List.set_cons_succ])
          refine wpAnyH_ready (rs := [15]) (by kernel_rfl) (by simp) ?_; refine AllReadyH.cons (o := ?o_16) ?hi_16 (fun K hK => ?_) AllReadyH.nil; (case hi_16 => (simp only [List.getElem?_toArray, List.getElem?_cons_zero, List.getElem?_cons_succ]; rfl)); (refine step_append_b rfl (.tmp 108) (.tmp 122) rfl (w.heap.size + 2) _ _ o [16 * da + db] rfl rfl ?o1 ?s1 ?l1 ?b1 ?_; (case o1 => first | exact HO.out.alloc _ | exact HO.out.drew.alloc _ | exact (HO.out.alloc _).drew); (case s1 => exact SrcB.row _ [16 * da + db]); (case l1 => simp; omega); (case b1 => simp; omega); intro v2 w2 ho hb2 hg2; have HO2 := Lib.hid ho; have HT2 := Lib.hid (HTK.out.belowB (by first | exact (((Below.refl _ _).alloc (Nat.le_refl _) _).mono hWs).trans hb2 | exact (((Below.refl _ _).drew.alloc (Nat.le_refl _) _).mono hWs).trans hb2 | exact (((Below.refl _ _).alloc (Nat.le_refl _) _).drew.mono hWs).trans hb2)); clear ho hb2 hg2); refine hK.out _ _ ?_ (fun hHeld => ?_); (· exact trivial); clear hK K; (try simp only [Act.put, List.setIfInBounds_toArray, List.set_cons_zero, List.set_cons_succ])
          refine wpAnyH_take (i := 16) (oi := ?o_17) (v := ?v_17) ?hi_17 ?hs_17 ?hf_17 ?hr_17 ?hQ_17 ?hy_17 ?hS_17 ?rest_17; (case hi_17 => (simp only [List.getElem?_toArray, List.getElem?_cons_zero, List.getElem?_cons_succ]; rfl)); (case hs_17 => kernel_rfl); (case hf_17 => kernel_rfl); (case hr_17 => kernel_rfl); (case hQ_17 => exact fun _ _ _ h => h); (case hS_17 => assumption); (case hy_17 => (refine Or.inl ⟨by rfl, ?_⟩; intro w hSw; go_simp; first | done | with_reducible rfl)); (try simp only [Act.put, List.setIfInBounds_toArray, List.set_cons_zero, List.set_cons_succ])
          refine wpAnyH_done (by kernel_rfl) ?_ _
          clear m1 m2 m3 m4 m5 m6 m7 m8 m9 a0' a2' C1 C2
          go_wp2
          go_roundw
          case rel =>
            obtain ⟨g1, g2, g3⟩ := HH.out
            exact ⟨i + 3, o ++ [16 * da + db], by go_num, by omega, by omega, by simp; omega, HO2, HOB2, HQ2, HT2⟩
          case measure => simp [intOf]; omega
        · have t3 : decide ((i : Int) + 3 < (s.size : Int)) = false := decide_eq_false (by omega)
          have HQ2 := Lib.hid (show Qv s [98] [34] (o ++ [x]) ((byt s).drop (i + 1)) by
            have h := HQV.out
            rw [HD.out] at h
            refine qv_plain h (by rw [List.length_drop]; simp; omega) (fun a b v _ he hl _ _ => ?_)
            have := congrArg List.length he
            rw [List.length_drop] at this
            simp at this hl
            omega)
          have HOB2 := Lib.hid (byts_snoc HOB.out hx)
          have HH := Lib.hid (And.intro hi2 (And.intro hol hlt))
          clear a0 hx h92 ex ea hbl h3
          go_wp2_with (at_builtin; refine wp_append_b rfl (.tmp 126) (.tmp 130) rfl (w.heap.size + 2) _ _ o [x] rfl rfl ?o1 ?s1 ?l1 ?b1 ?_; (case o1 => exact HO.out.alloc _); (case s1 => exact SrcB.row wr [x]); (case l1 => simp; omega); (case b1 => simp; omega); intro v2 w2 ho hb2 hg2; have HO2 := Lib.hid ho; have HT2 := Lib.hid (HTK.out.belowB ((((Below.refl _ _).alloc (Nat.le_refl _) _).mono hWs).trans hb2)); clear ho hb2 hg2)
          go_roundw
          case rel =>
            obtain ⟨g1, g2, g3⟩ := HH.out
            exact ⟨i + 1, o ++ [x], by go_num, by omega, by omega, by simp; omega, HO2, HOB2, HQ2, HT2⟩
          case measure => simp [intOf]; omega
      · have t2 : (x == 92) = false := by simp [h92]
        have HQ2 := Lib.hid (show Qv s [98] [34] (o ++ [x]) ((byt s).drop (i + 1)) by
          have h := HQV.out
          rw [HD.out] at h
          exact qv_plain h (by rw [List.length_drop]; simp; omega) (fun a b v h _ _ _ _ => h92 h))
        have HOB2 := Lib.hid (byts_snoc HOB.out hx)
        have HH := Lib.hid (And.intro hi2 (And.intro hol hlt))
        clear a0 hx h92 ex ea hbl
        go_wp2_with (at_builtin; refine wp_append_b rfl (.tmp 126) (.tmp 130) rfl (w.heap.size + 2) _ _ o [x] rfl rfl ?o1 ?s1 ?l1 ?b1 ?_; (case o1 => exact HO.out.alloc _); (case s1 => exact SrcB.row wr [x]); (case l1 => simp; omega); (case b1 => simp; omega); intro v2 w2 ho hb2 hg2; have HO2 := Lib.hid ho; have HT2 := Lib.hid (HTK.out.belowB ((((Below.refl _ _).alloc (Nat.le_refl _) _).mono hWs).trans hb2)); clear ho hb2 hg2)
        go_roundw
        case rel =>
          obtain ⟨g1, g2, g3⟩ := HH.out
          exact ⟨i + 1, o ++ [x], by go_num, by omega, by omega, by simp; omega, HO2, HOB2, HQ2, HT2⟩
        case measure => simp [intOf]; omega
    · have t1 : decide ((i : Int) + 1 < (s.size : Int)) = false := decide_eq_false (by omega)
      have hbl := byt_len s
      have HL := Lib.hid (show ∀ l, Byts l → byt s = [98] ++ quo l → l = o from fun l hl h => qv_end HQV.out (by rw [List.length_drop, hbl]; show _ ≤ 1; omega) l hl h)
      have hso : (txt o).size ≤ 2000000 := by rw [txt_size]; omega
      have HC := Lib.hid (rdv_cand (gs_txt2 HOB.out HB0.out HL.out) (by unfold Wf; omega) HR.out)
      have C2 := Lib.hid (fun W => c_rvshow 2 0 (txt o) (by unfold Wf; omega) (by omega) W)
      have kc := conv_has wr _ o HO.out.has HOB.out
      have HQ := Lib.hid (show showV 2 0 (txt o) = s → ¬ s = ⟨#[63]⟩ from fun _ => b0_ne (by rw [HB0.out]; decide))
      simp only [vv] at C2 ⊢
      generalize txt o = tx at *
      obtain ⟨u, hu⟩ : ∃ u, showV 2 0 tx = u := ⟨_, rfl⟩
      rw [hu] at C2 HC HQ
      clear hu hbl hso HL HR
      obtain ⟨z0, z1, z2, y0, y1, y2⟩ := HTK.out.cells
      obtain ⟨f0, f1, f2⟩ := HTK.out.frozenv
      have HTKo := HTK
      clear HTK
      go_wp2_with fail
      have HTK := Lib.hid (HTKo.out.setS tx)
      clear z0 z1 z2 y0 y1 y2 f0 f1 f2
      by_cases he : u = s
      · obtain ⟨hb1, hk1, hn1, ht1⟩ : b = true ∧ k = 2 ∧ n = 0 ∧ t = tx := by
          rcases HC.out with ⟨_, _, h⟩ | ⟨h, _⟩
          · exact h
          · rcases h with h | h
            · exact absurd h (HQ.out he)
            · exact absurd he h
        subst he hb1
        refine (C2.out _).mono ?_
        rintro e w3 ⟨rfl, hb⟩
        have HTK3 := Lib.hid (HTK.out.below hb)
        clear hb
        obtain ⟨z0, z1, z2, y0, y1, y2⟩ := HTK3.out.cells
        obtain ⟨f0, f1, f2⟩ := HTK3.out.frozen
        go_wp2_with fail
        exact bodyPost_ret (ret_cell rfl _ _ w.heap.size _ _ _ true (0, 0) rfl rfl (HTK3.out.put _ _ _).z) rfl ⟨by rw [hk1, hn1, ht1] <;> rfl, (HTK3.out.put _ _ _).bel⟩
      · obtain ⟨rfl, rfl, rfl, rfl⟩ : b = false ∧ k = 0 ∧ n = 0 ∧ t = ⟨#[]⟩ := by
          rcases HC.out with ⟨_, h, _⟩ | ⟨_, h⟩
          · exact absurd h he
          · exact h
        have q2 : (u.toList == s.toList) = false := by
          apply beq_eq_false_iff_ne.2
          intro e
          exact he (toList_inj e)
        clear he HC
        refine (C2.out _).mono ?_
        rintro e w3 ⟨rfl, hb⟩
        have HTK3 := Lib.hid (HTK.out.below hb)
        clear hb
        obtain ⟨z0, z1, z2, y0, y1, y2⟩ := HTK3.out.cells
        obtain ⟨f0, f1, f2⟩ := HTK3.out.frozen
        go_wp2_with fail
        exact bodyPost_ret (ret_cell rfl _ _ w.heap.size 0 0 ⟨#[]⟩ false (0, 0) rfl rfl (HTK3.out.put _ _ _).z) rfl ⟨rfl, (HTK3.out.put _ _ _).bel⟩
set_option maxHeartbeats 4000000 in
set_option maxRecDepth 100000 in
theorem c_rvread3 (s : ByteArray) (h0 : b0 s = 116) (hf : ¬ s = ⟨#[116, 114, 117, 101]⟩) (hs : s.size ≤ 1000000) (w : World) (k n : Int) (t : ByteArray) (b : Bool) (hr : RdV s k n t b) :
    Calls Tryz.prog 23 #[.string s] w fun e w' => e = .returned (.tuple #[vv k n t, .bool b]) ∧ Below w.heap.size w w' := by
  have h1 := byt_b0 (s := s) (by omega)
  have q0 := size_empty h1
  have q1 : (s.toList == [116, 114, 117, 101]) = false := tl_false hf
  have q2 : (s.toList == [102, 97, 108, 115, 101]) = false := tl_false (b0_ne (by rw [h0]; decide))
  have x0 := at0 s h1
  rw [h0] at x0
  have HTK0 := Lib.hid (Tk.start w (.int .i64 0) (.int .i64 0) (.string ⟨#[]⟩) 3 0 ⟨#[]⟩)
  have HB0 := Lib.hid h0
  have HR := Lib.hid hr
  have HSZ := Lib.hid hs
  have HF := Lib.hid hf
  clear hf
  have HI := Lib.hid (show Qv s [116] [34] [] ((byt s).drop 2) from fun l hl h => ⟨l, hl, rfl, by rw [h]; rfl⟩)
  clear hr h0
  go_enter Tryz.func23, Tryz.ntmps23
  go_upto_region 26 with fail
  generalize (w.alloc (.cells #[.int .i64 0, .int .i64 0, .string ⟨#[]⟩] 23)).alloc (.cells #[.int .i64 3, .int .i64 0, .string ⟨#[]⟩] 23) = W1 at HTK0 ⊢
  have hW1 := lt_block HTK0.out.v
  have HO0 := Lib.hid (OwnB.row W1 [] (w.heap.size + 2) hW1 (by decide))
  have HT0 := Lib.hid (HTK0.out.belowB (((Below.refl _ _).alloc (Nat.le_refl _) (.cells #[] 5)).mono hW1))
  clear hW1 HTK0
  go_wp2
  go_loopw [7, 8] (fun v7 v8 W => ∃ (i : Nat) (o : List Int), v8 = .int .i64 i ∧ 2 ≤ i ∧ i ≤ s.size + 2 ∧ o.length ≤ i ∧ Hid (OwnB W (w.heap.size + 2) v7 o) ∧ Hid (Byts o) ∧ Hid (Qv s [116] [34] o ((byt s).drop i)) ∧ Hid (Tk w W (.int .i64 0) (.int .i64 0) (.string ⟨#[]⟩) 3 0 ⟨#[]⟩)) (fun _ v8 _ => s.size + 3 - (intOf v8).toNat)
  case atStart => exact ⟨2, [], rfl, by omega, by omega, by simp, HO0, Lib.hid (fun x h => by cases h), HI, HT0⟩
  case round =>
    clear HI HO0 HT0
    obtain ⟨i, o, rfl, hi2, hi, hol, HO, HOB, HQV, HTK⟩ := hrel
    by_cases hlt : i + 1 < s.size
    · have t1 : decide ((i : Int) + 1 < (s.size : Int)) = true := decide_eq_true (by omega)
      have x1 := str_at s i (by omega)
      have hbl := byt_len s
      have hx := byts_at (byt_bd s) i (by omega)
      have HD := Lib.hid (drop1 (l := byt s) (i := i) (by omega))
      have HD3 := Lib.hid (fun h => drop3 (l := byt s) (i := i) h)
      have a0 := str_at s (i + 1) hlt
      obtain ⟨x, ex⟩ : ∃ x, (byt s).getD i 0 = x := ⟨_, rfl⟩
      obtain ⟨ya, ea⟩ : ∃ x, (byt s).getD (i + 1) 0 = x := ⟨_, rfl⟩
      rw [ex] at x1 hx HD HD3
      rw [ea] at HD3 a0
      have hWs := lt_block HTK.out.v
      by_cases h92 : x = 92
      · have t2 : (x == 92) = true := by simp [h92]
        by_cases h3 : i + 3 < s.size
        · have t3 : decide ((i : Int) + 3 < (s.size : Int)) = true := decide_eq_true (by omega)
          have a2 := str_at s (i + 2) (by omega)
          obtain ⟨yb, eb⟩ : ∃ x, (byt s).getD (i + 2) 0 = x := ⟨_, rfl⟩
          rw [eb] at a2
          have a0' : ∀ w, (Instr.index 9 (.string s) (.int .i64 ((i : Int) + 1))).run Tryz.prog w = .ok (.int .u8 ya) w := a0
          have a2' : ∀ w, (Instr.index 9 (.string s) (.int .i64 ((i : Int) + 2))).run Tryz.prog w = .ok (.int .u8 yb) w := a2
          have HQ2 := Lib.hid (show Qv s [116] [34] (o ++ [16 * ud ya + ud yb]) ((byt s).drop (i + 3)) by
            have h := HQV.out
            rw [HD3.out (by omega), eb, h92] at h
            exact qv_esc h (by decide) (fun h1 h2 => by rw [ud_uh h1, ud_uh h2]; omega))
          have C1 := Lib.hid (fun W => c_digit ya W)
          have C2 := Lib.hid (fun W => c_digit yb W)
          have hua := ud_bd ya
          have hub := ud_bd yb
          generalize ud ya = da at *
          generalize ud yb = db at *
          have HOB2 := Lib.hid (byts_snoc HOB.out (show 0 ≤ 16 * da + db ∧ 16 * da + db < 256 by omega))
          have HH := Lib.hid (And.intro hi2 (And.intro hol h3))
          have HLE : i ≤ 2000000 := by omega
          have m4 := w64_add i 1 HLE (by decide) (by decide)
          have m5 := w64_add i 2 HLE (by decide) (by decide)
          have m6 := i64_add i 1 HLE (by decide) (by decide)
          have m7 := i64_add i 2 HLE (by decide) (by decide)
          have m8 := i16 hua
          have m9 := i16b hua hub
          have m1 := w16 hua
          have m2 := w16b hua hub
          have m3 := w8b hua hub
          clear a0 a2 hx h92 ex ea eb hua hub hbl
          go_wp2_with fail
          refine wp_region_held_drew (S := fun _ => True) (by kernel_rfl) trivial (fun hHeld => ?_)
          refine wpAnyH_take (i := 0) (oi := ?o_1) (v := ?v_1) ?hi_1 ?hs_1 ?hf_1 ?hr_1 ?hQ_1 ?hy_1 ?hS_1 ?rest_1; (case hi_1 => (simp only [List.getElem?_toArray, List.getElem?_cons_zero, List.getElem?_cons_succ]; rfl)); (case hs_1 => kernel_rfl); (case hf_1 => kernel_rfl); (case hr_1 => kernel_rfl); (case hQ_1 => exact fun _ _ _ h => h); (case hS_1 => assumption); (case hy_1 => (refine Or.inl ⟨by rfl, ?_⟩; intro w hSw; go_simp; first | done | with_reducible rfl)); (try simp only [Act.put, List.setIfInBounds_toArray, List.set_cons_zero, List.set_cons_succ])
          refine wpAnyH_take (i := 1) (oi := ?o_2) (v := ?v_2) ?hi_2 ?hs_2 ?hf_2 ?hr_2 ?hQ_2 ?hy_2 ?hS_2 ?rest_2; (case hi_2 => (simp only [List.getElem?_toArray, List.getElem?_cons_zero, List.getElem?_cons_succ]; rfl)); (case hs_2 => kernel_rfl); (case hf_2 => kernel_rfl); (case hr_2 => kernel_rfl); (case hQ_2 => exact fun _ _ _ h => h); (case hS_2 => assumption); (case hy_2 => (refine Or.inl ⟨by rfl, ?_⟩; intro w hSw; go_simp; first | done | with_reducible rfl)); (try simp only [Act.put, List.setIfInBounds_toArray, List.set_cons_zero, List.set_cons_succ])
          refine wpAnyH_take (i := 2) (oi := ?o_3) (v := ?v_3) ?hi_3 ?hs_3 ?hf_3 ?hr_3 ?hQ_3 ?hy_3 ?hS_3 ?rest_3; (case hi_3 => (simp only [List.getElem?_toArray, List.getElem?_cons_zero, List.getElem?_cons_succ]; rfl)); (case hs_3 => kernel_rfl); (case hf_3 => kernel_rfl); (case hr_3 => kernel_rfl); (case hQ_3 => exact fun _ _ _ h => h); (case hS_3 => assumption); (case hy_3 => (refine Or.inl ⟨by rfl, ?_⟩; intro w hSw; go_simp; first | done | with_reducible rfl)); (try simp only [Act.put, List.setIfInBounds_toArray, List.set_cons_zero, List.set_cons_succ])
          refine wpAnyH_take (i := 3) (oi := ?o_4) (v := ?v_4) ?hi_4 ?hs_4 ?hf_4 ?hr_4 ?hQ_4 ?hy_4 ?hS_4 ?rest_4; (case hi_4 => (simp only [List.getElem?_toArray, List.getElem?_cons_zero, List.getElem?_cons_succ]; rfl)); (case hs_4 => kernel_rfl); (case hf_4 => kernel_rfl); (case hr_4 => kernel_rfl); (case hQ_4 => exact fun _ _ _ h => h); (case hS_4 => assumption); (case hy_4 => (refine Or.inl ⟨by rfl, ?_⟩; intro w hSw; go_simp; first | done | with_reducible rfl)); (try simp only [Act.put, List.setIfInBounds_toArray, List.set_cons_zero, List.set_cons_succ])
          refine wpAnyH_take (i := 4) (oi := ?o_5) (v := ?v_5) ?hi_5 ?hs_5 ?hf_5 ?hr_5 ?hQ_5 ?hy_5 ?hS_5 ?rest_5; (case hi_5 => (simp only [List.getElem?_toArray, List.getElem?_cons_zero, List.getElem?_cons_succ]; rfl)); (case hs_5 => kernel_rfl); (case hf_5 => kernel_rfl); (case hr_5 => kernel_rfl); (case hQ_5 => exact fun _ _ _ h => h); (case hS_5 => assumption); (case hy_5 => (refine Or.inl ⟨by rfl, ?_⟩; intro w hSw; go_simp; first | done | with_reducible rfl)); (try simp only [Act.put, List.setIfInBounds_toArray, List.set_cons_zero, List.set_cons_succ])
          refine wpAnyH_take (i := 7) (oi := ?o_6) (v := ?v_6) ?hi_6 ?hs_6 ?hf_6 ?hr_6 ?hQ_6 ?hy_6 ?hS_6 ?rest_6; (case hi_6 => (simp only [List.getElem?_toArray, List.getElem?_cons_zero, List.getElem?_cons_succ]; rfl)); (case hs_6 => kernel_rfl); (case hf_6 => kernel_rfl); (case hr_6 => kernel_rfl); (case hQ_6 => exact fun _ _ _ h => h); (case hS_6 => assumption); (case hy_6 => (refine Or.inl ⟨by rfl, ?_⟩; intro w hSw; go_simp; first | done | with_reducible rfl)); (try simp only [Act.put, List.setIfInBounds_toArray, List.set_cons_zero, List.set_cons_succ])
          refine wpAnyH_take (i := 8) (oi := ?o_7) (v := ?v_7) ?hi_7 ?hs_7 ?hf_7 ?hr_7 ?hQ_7 ?hy_7 ?hS_7 ?rest_7; (case hi_7 => (simp only [List.getElem?_toArray, List.getElem?_cons_zero, List.getElem?_cons_succ]; rfl)); (case hs_7 => kernel_rfl); (case hf_7 => kernel_rfl); (case hr_7 => kernel_rfl); (case hQ_7 => exact fun _ _ _ h => h); (case hS_7 => assumption); (case hy_7 => (refine Or.inl ⟨by rfl, ?_⟩; intro w hSw; go_simp; first | done | with_reducible rfl)); (try simp only [Act.put, List.setIfInBounds_toArray, List.set_cons_zero, List.set_cons_succ])
          refine wpAnyH_take (i := 9) (oi := ?o_8) (v := ?v_8) ?hi_8 ?hs_8 ?hf_8 ?hr_8 ?hQ_8 ?hy_8 ?hS_8 ?rest_8; (case hi_8 => (simp only [List.getElem?_toArray, List.getElem?_cons_zero, List.getElem?_cons_succ]; rfl)); (case hs_8 => kernel_rfl); (case hf_8 => kernel_rfl); (case hr_8 => kernel_rfl); (case hQ_8 => exact fun _ _ _ h => h); (case hS_8 => assumption); (case hy_8 => (refine Or.inl ⟨by rfl, ?_⟩; intro w hSw; go_simp; first | done | with_reducible rfl)); (try simp only [Act.put, List.setIfInBounds_toArray, List.set_cons_zero, List.set_cons_succ])
          refine wpAnyH_take (i := 10) (oi := ?o_9) (v := ?v_9) ?hi_9 ?hs_9 ?hf_9 ?hr_9 ?hQ_9 ?hy_9 ?hS_9 ?rest_9; (case hi_9 => (simp only [List.getElem?_toArray, List.getElem?_cons_zero, List.getElem?_cons_succ]; rfl)); (case hs_9 => kernel_rfl); (case hf_9 => kernel_rfl); (case hr_9 => kernel_rfl); (case hQ_9 => exact fun _ _ _ h => h); (case hS_9 => assumption); (case hy_9 => (refine Or.inl ⟨by rfl, ?_⟩; intro w hSw; go_simp; first | done | with_reducible rfl)); (try simp only [Act.put, List.setIfInBounds_toArray, List.set_cons_zero, List.set_cons_succ])
          refine wpAnyH_ready (rs := [5]) (by kernel_rfl) (by simp) ?_; refine AllReadyH.cons (o := ?o_10) ?hi_10 (fun K hK => ?_) AllReadyH.nil; (case hi_10 => (simp only [List.getElem?_toArray, List.getElem?_cons_zero, List.getElem?_cons_succ]; rfl)); go_simp; ((go_at_call 52); (with_reducible refine (C1.out _).mono ?_); rintro e w' ⟨rfl, rfl⟩); refine hK.out _ _ ?_ (fun hHeld => ?_); (· exact trivial); clear hK K; (try simp only [Act.put, List.setIfInBounds_toArray, List.set_cons_zero, List.set_cons_succ])
          refine wpAnyH_take (i := 6) (oi := ?o_11) (v := ?v_11) ?hi_11 ?hs_11 ?hf_11 ?hr_11 ?hQ_11 ?hy_11 ?hS_11 ?rest_11; (case hi_11 => (simp only [List.getElem?_toArray, List.getElem?_cons_zero, List.getElem?_cons_succ]; rfl)); (case hs_11 => kernel_rfl); (case hf_11 => kernel_rfl); (case hr_11 => kernel_rfl); (case hQ_11 => exact fun _ _ _ h => h); (case hS_11 => assumption); (case hy_11 => (refine Or.inl ⟨by rfl, ?_⟩; intro w hSw; go_simp; first | done | with_reducible rfl)); (try simp only [Act.put, List.setIfInBounds_toArray, List.set_cons_zero, List.set_cons_succ])
          refine wpAnyH_ready (rs := [11]) (by kernel_rfl) (by simp) ?_; refine AllReadyH.cons (o := ?o_12) ?hi_12 (fun K hK => ?_) AllReadyH.nil; (case hi_12 => (simp only [List.getElem?_toArray, List.getElem?_cons_zero, List.getElem?_cons_succ]; rfl)); go_simp; ((go_at_call 52); (with_reducible refine (C2.out _).mono ?_); rintro e w' ⟨rfl, rfl⟩); refine hK.out _ _ ?_ (fun hHeld => ?_); (· exact trivial); clear hK K; (try simp only [Act.put, List.setIfInBounds_toArray, List.set_cons_zero, List.set_cons_succ])
          refine wpAnyH_take (i := 12) (oi := ?o_13) (v := ?v_13) ?hi_13 ?hs_13 ?hf_13 ?hr_13 ?hQ_13 ?hy_13 ?hS_13 ?rest_13; (case hi_13 => (simp only [List.getElem?_toArray, List.getElem?_cons_zero, List.getElem?_cons_succ]; rfl)); (case hs_13 => kernel_rfl); (case hf_13 => kernel_rfl); (case hr_13 => kernel_rfl); (case hQ_13 => exact fun _ _ _ h => h); (case hS_13 => assumption); (case hy_13 => (refine Or.inl ⟨by rfl, ?_⟩; intro w hSw; go_simp; first | done | with_reducible rfl)); (try simp only [Act.put, List.setIfInBounds_toArray, List.set_cons_zero, List.set_cons_succ])
          refine wpAnyH_take (i := 13) (oi := ?o_14) (v := ?v_14) ?hi_14 ?hs_14 ?hf_14 ?hr_14 ?hQ_14 ?hy_14 ?hS_14 ?rest_14; (case hi_14 => (simp only [List.getElem?_toArray, List.getElem?_cons_zero, List.getElem?_cons_succ]; rfl)); (case hs_14 => kernel_rfl); (case hf_14 => kernel_rfl); (case hr_14 => kernel_rfl); (case hQ_14 => exact fun _ _ _ h => h); (case hS_14 => assumption); (case hy_14 => (refine Or.inl ⟨by rfl, ?_⟩; intro w hSw; go_simp; first | done | with_reducible rfl)); (try simp only [Act.put, List.setIfInBounds_toArray, List.set_cons_zero, List.set_cons_succ])
          refine wpAnyH_ready (rs := [14]) (by kernel_rfl) (by simp) ?_; refine AllReadyH.cons (o := ?o_15) ?hi_15 (fun K hK => ?_) AllReadyH.nil; (case hi_15 => (simp only [List.getElem?_toArray, List.getElem?_cons_zero, List.getElem?_cons_succ]; rfl)); go_simp; skip; refine hK.out _ _ ?_ (fun hHeld => ?_); (· exact trivial); clear hK K; (try simp only [Act.put, List.setIfInBounds_toArray, List.set_cons_zero, List.set_cons_succ])
          refine wpAnyH_ready (rs := [15]) (by kernel_rfl) (by simp) ?_; refine AllReadyH.cons (o := ?o_16) ?hi_16 (fun K hK => ?_) AllReadyH.nil; (case hi_16 => (simp only [List.getElem?_toArray, List.getElem?_cons_zero, List.getElem?_cons_succ]; rfl)); (refine step_append_b rfl (.tmp 108) (.tmp 122) rfl (w.heap.size + 2) _ _ o [16 * da + db] rfl rfl ?o1 ?s1 ?l1 ?b1 ?_; (case o1 => first | exact HO.out.alloc _ | exact HO.out.drew.alloc _ | exact (HO.out.alloc _).drew); (case s1 => exact SrcB.row _ [16 * da + db]); (case l1 => simp; omega); (case b1 => simp; omega); intro v2 w2 ho hb2 hg2; have HO2 := Lib.hid ho; have HT2 := Lib.hid (HTK.out.belowB (by first | exact (((Below.refl _ _).alloc (Nat.le_refl _) _).mono hWs).trans hb2 | exact (((Below.refl _ _).drew.alloc (Nat.le_refl _) _).mono hWs).trans hb2 | exact (((Below.refl _ _).alloc (Nat.le_refl _) _).drew.mono hWs).trans hb2)); clear ho hb2 hg2); refine hK.out _ _ ?_ (fun hHeld => ?_); (· exact trivial); clear hK K; (try simp only [Act.put, List.setIfInBounds_toArray, List.set_cons_zero, List.set_cons_succ])
          refine wpAnyH_take (i := 16) (oi := ?o_17) (v := ?v_17) ?hi_17 ?hs_17 ?hf_17 ?hr_17 ?hQ_17 ?hy_17 ?hS_17 ?rest_17; (case hi_17 => (simp only [List.getElem?_toArray, List.getElem?_cons_zero, List.getElem?_cons_succ]; rfl)); (case hs_17 => kernel_rfl); (case hf_17 => kernel_rfl); (case hr_17 => kernel_rfl); (case hQ_17 => exact fun _ _ _ h => h); (case hS_17 => assumption); (case hy_17 => (refine Or.inl ⟨by rfl, ?_⟩; intro w hSw; go_simp; first | done | with_reducible rfl)); (try simp only [Act.put, List.setIfInBounds_toArray, List.set_cons_zero, List.set_cons_succ])
          refine wpAnyH_done (by kernel_rfl) ?_ _
          clear m1 m2 m3 m4 m5 m6 m7 m8 m9 a0' a2' C1 C2
          go_wp2
          go_roundw
          case rel =>
            obtain ⟨g1, g2, g3⟩ := HH.out
            exact ⟨i + 3, o ++ [16 * da + db], by go_num, by omega, by omega, by simp; omega, HO2, HOB2, HQ2, HT2⟩
          case measure => simp [intOf]; omega
        · have t3 : decide ((i : Int) + 3 < (s.size : Int)) = false := decide_eq_false (by omega)
          have HQ2 := Lib.hid (show Qv s [116] [34] (o ++ [x]) ((byt s).drop (i + 1)) by
            have h := HQV.out
            rw [HD.out] at h
            refine qv_plain h (by rw [List.length_drop]; simp; omega) (fun a b v _ he hl _ _ => ?_)
            have := congrArg List.length he
            rw [List.length_drop] at this
            simp at this hl
            omega)
          have HOB2 := Lib.hid (byts_snoc HOB.out hx)
          have HH := Lib.hid (And.intro hi2 (And.intro hol hlt))
          clear a0 hx h92 ex ea hbl h3
          go_wp2_with (at_builtin; refine wp_append_b rfl (.tmp 126) (.tmp 130) rfl (w.heap.size + 2) _ _ o [x] rfl rfl ?o1 ?s1 ?l1 ?b1 ?_; (case o1 => exact HO.out.alloc _); (case s1 => exact SrcB.row wr [x]); (case l1 => simp; omega); (case b1 => simp; omega); intro v2 w2 ho hb2 hg2; have HO2 := Lib.hid ho; have HT2 := Lib.hid (HTK.out.belowB ((((Below.refl _ _).alloc (Nat.le_refl _) _).mono hWs).trans hb2)); clear ho hb2 hg2)
          go_roundw
          case rel =>
            obtain ⟨g1, g2, g3⟩ := HH.out
            exact ⟨i + 1, o ++ [x], by go_num, by omega, by omega, by simp; omega, HO2, HOB2, HQ2, HT2⟩
          case measure => simp [intOf]; omega
      · have t2 : (x == 92) = false := by simp [h92]
        have HQ2 := Lib.hid (show Qv s [116] [34] (o ++ [x]) ((byt s).drop (i + 1)) by
          have h := HQV.out
          rw [HD.out] at h
          exact qv_plain h (by rw [List.length_drop]; simp; omega) (fun a b v h _ _ _ _ => h92 h))
        have HOB2 := Lib.hid (byts_snoc HOB.out hx)
        have HH := Lib.hid (And.intro hi2 (And.intro hol hlt))
        clear a0 hx h92 ex ea hbl
        go_wp2_with (at_builtin; refine wp_append_b rfl (.tmp 126) (.tmp 130) rfl (w.heap.size + 2) _ _ o [x] rfl rfl ?o1 ?s1 ?l1 ?b1 ?_; (case o1 => exact HO.out.alloc _); (case s1 => exact SrcB.row wr [x]); (case l1 => simp; omega); (case b1 => simp; omega); intro v2 w2 ho hb2 hg2; have HO2 := Lib.hid ho; have HT2 := Lib.hid (HTK.out.belowB ((((Below.refl _ _).alloc (Nat.le_refl _) _).mono hWs).trans hb2)); clear ho hb2 hg2)
        go_roundw
        case rel =>
          obtain ⟨g1, g2, g3⟩ := HH.out
          exact ⟨i + 1, o ++ [x], by go_num, by omega, by omega, by simp; omega, HO2, HOB2, HQ2, HT2⟩
        case measure => simp [intOf]; omega
    · have t1 : decide ((i : Int) + 1 < (s.size : Int)) = false := decide_eq_false (by omega)
      have hbl := byt_len s
      have HL := Lib.hid (show ∀ l, Byts l → byt s = [116] ++ quo l → l = o from fun l hl h => qv_end HQV.out (by rw [List.length_drop, hbl]; show _ ≤ 1; omega) l hl h)
      have hso : (txt o).size ≤ 2000000 := by rw [txt_size]; omega
      have HC := Lib.hid (rdv_cand (gs_txt3 HOB.out HB0.out HF.out HL.out) (by unfold Wf; omega) HR.out)
      have C2 := Lib.hid (fun W => c_rvshow 3 0 (txt o) (by unfold Wf; omega) (by omega) W)
      have kc := conv_has wr _ o HO.out.has HOB.out
      have HQ := Lib.hid (show showV 3 0 (txt o) = s → ¬ s = ⟨#[63]⟩ from fun _ => b0_ne (by rw [HB0.out]; decide))
      simp only [vv] at C2 ⊢
      generalize txt o = tx at *
      obtain ⟨u, hu⟩ : ∃ u, showV 3 0 tx = u := ⟨_, rfl⟩
      rw [hu] at C2 HC HQ
      clear hu hbl hso HL HR
      obtain ⟨z0, z1, z2, y0, y1, y2⟩ := HTK.out.cells
      obtain ⟨f0, f1, f2⟩ := HTK.out.frozenv
      have HTKo := HTK
      clear HTK
      go_wp2_with fail
      have HTK := Lib.hid (HTKo.out.setS tx)
      clear z0 z1 z2 y0 y1 y2 f0 f1 f2
      by_cases he : u = s
      · obtain ⟨hb1, hk1, hn1, ht1⟩ : b = true ∧ k = 3 ∧ n = 0 ∧ t = tx := by
          rcases HC.out with ⟨_, _, h⟩ | ⟨h, _⟩
          · exact h
          · rcases h with h | h
            · exact absurd h (HQ.out he)
            · exact absurd he h
        subst he hb1
        refine (C2.out _).mono ?_
        rintro e w3 ⟨rfl, hb⟩
        have HTK3 := Lib.hid (HTK.out.below hb)
        clear hb
        obtain ⟨z0, z1, z2, y0, y1, y2⟩ := HTK3.out.cells
        obtain ⟨f0, f1, f2⟩ := HTK3.out.frozen
        go_wp2_with fail
        exact bodyPost_ret (ret_cell rfl _ _ w.heap.size _ _ _ true (0, 0) rfl rfl (HTK3.out.put _ _ _).z) rfl ⟨by rw [hk1, hn1, ht1] <;> rfl, (HTK3.out.put _ _ _).bel⟩
      · obtain ⟨rfl, rfl, rfl, rfl⟩ : b = false ∧ k = 0 ∧ n = 0 ∧ t = ⟨#[]⟩ := by
          rcases HC.out with ⟨_, h, _⟩ | ⟨_, h⟩
          · exact absurd h he
          · exact h
        have q2 : (u.toList == s.toList) = false := by
          apply beq_eq_false_iff_ne.2
          intro e
          exact he (toList_inj e)
        clear he HC
        refine (C2.out _).mono ?_
        rintro e w3 ⟨rfl, hb⟩
        have HTK3 := Lib.hid (HTK.out.below hb)
        clear hb
        obtain ⟨z0, z1, z2, y0, y1, y2⟩ := HTK3.out.cells
        obtain ⟨f0, f1, f2⟩ := HTK3.out.frozen
        go_wp2_with fail
        exact bodyPost_ret (ret_cell rfl _ _ w.heap.size 0 0 ⟨#[]⟩ false (0, 0) rfl rfl (HTK3.out.put _ _ _).z) rfl ⟨rfl, (HTK3.out.put _ _ _).bel⟩
end Go.Proofs.YtikpmlginojnhaaGreatDoor.Fl
