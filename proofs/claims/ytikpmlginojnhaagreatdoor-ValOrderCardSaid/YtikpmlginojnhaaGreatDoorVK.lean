/- Values out of text: unquoted. -/
import Derived.Test.YtikpmlginojnhaaGreatDoorVJ
namespace Go.Proofs.YtikpmlginojnhaaGreatDoor.Fl
open Go.RowKit Go.Maps
set_option linter.unusedVariables false
set_option linter.unusedSimpArgs false
theorem byt_cons {t : ByteArray} (h : ¬ t.size = 0) : ∃ x u, byt t = x :: u ∧ t.size = u.length + 1 := by
  have hl := byt_len t
  cases hh : byt t with
  | nil => rw [hh] at hl; simp at hl; omega
  | cons x u => rw [hh] at hl; exact ⟨x, u, rfl, by simpa using hl.symm⟩
theorem cut_k {t : ByteArray} {l : List Int} (k : Nat) (h : byt t = l) : byt (t.extract k t.size) = l.drop k := by rw [byt_cut, h]
set_option maxHeartbeats 4000000 in
set_option maxRecDepth 100000 in
theorem c_unquoted (s : ByteArray) (hs : s.size ≤ 1000000) (w : World) :
    Calls Tryz.prog 71 #[.string s] w fun e w' => ∃ t : ByteArray, e = .returned (.string t) ∧ t.size ≤ s.size ∧ UqIs s t ∧ Below w.heap.size w w' := by
  have C1 := Lib.hid (fun W => c_trim s (by omega) W)
  have HQ0 := Lib.hid (show Qv s [] [] [] (byt (trimQ s)) from fun l hl h => ⟨l, hl, rfl, by rw [List.append_nil]; exact trim_quo hl h⟩)
  have HT0 := trim_size s
  generalize trimQ s = t0 at C1 HQ0 HT0
  go_enter Tryz.func71, Tryz.ntmps71
  go_wp2_with (go_at_call 89; ((with_reducible refine (C1.out _).mono ?_); rintro e w1 ⟨rfl, hb⟩; have HB1 := Lib.hid hb; clear hb))
  go_loopw [0, 3, 4, 5] (fun v0 v3 v4 v5 W => ∃ (t : ByteArray) (o : List Int), v0 = .string t ∧ o.length + t.size ≤ s.size ∧ Hid (Qv s [] [] o (byt t)) ∧ Hid (OwnB W w.heap.size v3 o) ∧ Hid (Byts o) ∧ Hid (Below w.heap.size w W)) (fun v0 _ _ _ _ => match v0 with | .string t => t.size | _ => 0)
  case atStart => exact ⟨t0, [], rfl, by show 0 + t0.size ≤ s.size; omega, HQ0, Lib.hid (OwnB.nil _ _), Lib.hid (fun x h => by cases h), HB1⟩
  case round =>
    obtain ⟨t, o, rfl, hot, HQ, HO, HOB, HW⟩ := hrel
    clear HQ0 HB1 HT0 C1
    by_cases h0 : t.size = 0
    · have t1 : decide (0 < (t.size : Int)) = false := decide_eq_false (by omega)
      have kc := conv_has wr _ o HO.out.has HOB.out
      have HE := Lib.hid (show UqIs s (txt o) from fun l hl h => by rw [byt_txt _ HOB.out]; exact (qv_end HQ.out (by rw [byt_len, h0]; exact Nat.le_refl _) l hl h).symm)
      have HSO : (txt o).size ≤ s.size := by rw [txt_size]; omega
      have HSO := Lib.hid HSO
      go_wp2
      go_ret
      exact ⟨txt o, rfl, HSO.out, HE.out, HW.out⟩
    · have t1 : decide (0 < (t.size : Int)) = true := decide_eq_true (by omega)
      obtain ⟨x, u, hxu, hlu⟩ := byt_cons h0
      have HXU := Lib.hid hxu
      have hbu : Byts (x :: u) := hxu ▸ byt_bd t
      have hx := hbu x (by simp)
      have x0 : ∀ w, (Instr.index 9 (.string t) (.int .i64 0)).run Tryz.prog w = .ok (.int .u8 x) w := fun w => by
        have := str_at t 0 (by omega) w
        rw [hxu] at this
        exact this
      have HBU := Lib.hid hbu
      have HLU := Lib.hid hlu
      clear hbu hlu
      by_cases h92 : x = 92
      · have t2 : (x == 92) = true := by simp [h92]
        by_cases h2 : 2 < t.size
        · have t3 : decide (2 < (t.size : Int)) = true := decide_eq_true (by omega)
          obtain ⟨a, b, v, huv⟩ : ∃ a b v, u = a :: b :: v := by
            have := HLU.out
            match u, (by omega : 2 ≤ u.length) with
            | a :: b :: v, _ => exact ⟨a, b, v, rfl⟩
          subst huv
          have ha := HBU.out a (by simp)
          have hb := HBU.out b (by simp)
          have x1 : ∀ w, (Instr.index 9 (.string t) (.int .i64 1)).run Tryz.prog w = .ok (.int .u8 a) w := fun w => by have := str_at t 1 (by omega) w; rw [hxu] at this; exact this
          have x2 : ∀ w, (Instr.index 9 (.string t) (.int .i64 2)).run Tryz.prog w = .ok (.int .u8 b) w := fun w => by have := str_at t 2 (by omega) w; rw [hxu] at this; exact this
          have C2 := Lib.hid (fun W => c_idxh a ha.1 ha.2 W)
          have C3 := Lib.hid (fun W => c_idxh b hb.1 hb.2 W)
          have HA := uh_bd a
          have HB := uh_bd b
          have HV := Lib.hid (show ∀ y, (0 ≤ uh a → 0 ≤ uh b → y = uh a * 16 + uh b) → Qv s [] [] (o ++ [y]) (byt (t.extract 3 t.size)) by intro y hy; rw [cut_k 3 HXU.out]; have h := HQ.out; rw [HXU.out, h92] at h; exact qv_esc h (by simp) hy)
          have HP := Lib.hid (show (¬ 0 ≤ uh a ∨ ¬ 0 ≤ uh b) → ∀ c d z, x = 92 → a :: b :: v = c :: d :: z → ([] : List Int).length ≤ z.length → 0 ≤ uh c → 0 ≤ uh d → False by
            intro hc c d z _ he _ h1 h2
            obtain ⟨e1, he⟩ := List.cons_eq_cons.1 he
            obtain ⟨e2, he⟩ := List.cons_eq_cons.1 he
            rw [← e1] at h1
            rw [← e2] at h2
            rcases hc with hc | hc
            · exact hc h1
            · exact hc h2)
          generalize uh a = ya at *
          generalize uh b = yb at *
          clear ha hb h92 hxu h2
          rcases HA with rfl | HA
          · rcases HB with rfl | HB
            · have HQ2 := Lib.hid (show Qv s [] [] (o ++ [x]) (byt (t.extract 1 t.size)) by rw [cut_k 1 HXU.out]; have h := HQ.out; rw [HXU.out] at h; exact qv_plain h (by simp) (HP.out (Or.inl (by omega))))
              have HOB2 := Lib.hid (byts_snoc HOB.out hx)
              have hsz := Lib.hid (size_cut t 1)
              clear hx
              go_wp2_with fail
              go_quiet (first | (go_at_call 90; exact Calls.quiet_of_same (C2.out _)) | (go_at_call 90; exact Calls.quiet_of_same (C3.out _)))
              have HOq := Lib.hid (HO.out.below (below_drewN wr nq))
              have HWq := Lib.hid (HW.out.trans ((below_drewN wr nq).mono HW.out.size))
              generalize wr.drewN nq = wq at HOq HWq ⊢
              go_wp2_with (at_builtin; refine wp_append_b rfl (.tmp 41) (.tmp 44) rfl w.heap.size _ _ o [x] rfl rfl ?o1 ?s1 ?l1 ?b1 ?_; (case o1 => exact HOq.out.alloc _); (case s1 => exact SrcB.row _ [x]); (case l1 => simp; omega); (case b1 => have := HWq.out.size; simp; omega); intro v2 w2 ho hb2 hg2; have HO2 := Lib.hid ho; have HW2 := Lib.hid ((HWq.out.alloc HWq.out.size _).trans hb2); clear ho hb2 hg2)
              go_roundw
              case rel => exact ⟨t.extract 1 t.size, o ++ [x], rfl, by rw [hsz.out]; simp; omega, HQ2, HO2, HOB2, HW2⟩
              case measure => show (t.extract 1 t.size).size < t.size; rw [hsz.out]; omega
            · have HQ2 := Lib.hid (show Qv s [] [] (o ++ [x]) (byt (t.extract 1 t.size)) by rw [cut_k 1 HXU.out]; have h := HQ.out; rw [HXU.out] at h; exact qv_plain h (by simp) (HP.out (Or.inl (by omega))))
              have HOB2 := Lib.hid (byts_snoc HOB.out hx)
              have hsz := Lib.hid (size_cut t 1)
              clear hx
              go_wp2_with fail
              go_quiet (first | (go_at_call 90; exact Calls.quiet_of_same (C2.out _)) | (go_at_call 90; exact Calls.quiet_of_same (C3.out _)))
              have HOq := Lib.hid (HO.out.below (below_drewN wr nq))
              have HWq := Lib.hid (HW.out.trans ((below_drewN wr nq).mono HW.out.size))
              generalize wr.drewN nq = wq at HOq HWq ⊢
              go_wp2_with (at_builtin; refine wp_append_b rfl (.tmp 41) (.tmp 44) rfl w.heap.size _ _ o [x] rfl rfl ?o1 ?s1 ?l1 ?b1 ?_; (case o1 => exact HOq.out.alloc _); (case s1 => exact SrcB.row _ [x]); (case l1 => simp; omega); (case b1 => have := HWq.out.size; simp; omega); intro v2 w2 ho hb2 hg2; have HO2 := Lib.hid ho; have HW2 := Lib.hid ((HWq.out.alloc HWq.out.size _).trans hb2); clear ho hb2 hg2)
              go_roundw
              case rel => exact ⟨t.extract 1 t.size, o ++ [x], rfl, by rw [hsz.out]; simp; omega, HQ2, HO2, HOB2, HW2⟩
              case measure => show (t.extract 1 t.size).size < t.size; rw [hsz.out]; omega
          · rcases HB with rfl | HB
            · have HQ2 := Lib.hid (show Qv s [] [] (o ++ [x]) (byt (t.extract 1 t.size)) by rw [cut_k 1 HXU.out]; have h := HQ.out; rw [HXU.out] at h; exact qv_plain h (by simp) (HP.out (Or.inr (by omega))))
              have HOB2 := Lib.hid (byts_snoc HOB.out hx)
              have hsz := Lib.hid (size_cut t 1)
              clear hx
              go_wp2_with fail
              go_quiet (first | (go_at_call 90; exact Calls.quiet_of_same (C2.out _)) | (go_at_call 90; exact Calls.quiet_of_same (C3.out _)))
              have HOq := Lib.hid (HO.out.below (below_drewN wr nq))
              have HWq := Lib.hid (HW.out.trans ((below_drewN wr nq).mono HW.out.size))
              generalize wr.drewN nq = wq at HOq HWq ⊢
              go_wp2_with (at_builtin; refine wp_append_b rfl (.tmp 41) (.tmp 44) rfl w.heap.size _ _ o [x] rfl rfl ?o1 ?s1 ?l1 ?b1 ?_; (case o1 => exact HOq.out.alloc _); (case s1 => exact SrcB.row _ [x]); (case l1 => simp; omega); (case b1 => have := HWq.out.size; simp; omega); intro v2 w2 ho hb2 hg2; have HO2 := Lib.hid ho; have HW2 := Lib.hid ((HWq.out.alloc HWq.out.size _).trans hb2); clear ho hb2 hg2)
              go_roundw
              case rel => exact ⟨t.extract 1 t.size, o ++ [x], rfl, by rw [hsz.out]; simp; omega, HQ2, HO2, HOB2, HW2⟩
              case measure => show (t.extract 1 t.size).size < t.size; rw [hsz.out]; omega
            · have HQ2 := Lib.hid (HV.out (ya * 16 + yb) (fun _ _ => rfl))
              have HOB2 := Lib.hid (byts_snoc HOB.out (show 0 ≤ ya * 16 + yb ∧ ya * 16 + yb < 256 by omega))
              have hsz := Lib.hid (size_cut t 3)
              have m1 := b_hex HA HB
              have m2 : IntKind.u8.wrap (ya * 16 + yb) = ya * 16 + yb := by unfold IntKind.wrap; simp [IntKind.bits, IntKind.signed]; omega
              have m3 : wrap64 (ya * 16) = ya * 16 := by unfold wrap64; omega
              have hge : 3 ≤ t.size := by have := HLU.out; simp at this; omega
              clear hx
              go_wp2_with fail
              go_quiet (first | (go_at_call 90; exact Calls.quiet_of_same (C2.out _)) | (go_at_call 90; exact Calls.quiet_of_same (C3.out _)))
              have HOq := Lib.hid (HO.out.below (below_drewN wr nq))
              have HWq := Lib.hid (HW.out.trans ((below_drewN wr nq).mono HW.out.size))
              generalize wr.drewN nq = wq at HOq HWq ⊢
              go_wp2_with (at_builtin; refine wp_append_b rfl (.tmp 31) (.tmp 37) rfl w.heap.size _ _ o [ya * 16 + yb] rfl rfl ?o1 ?s1 ?l1 ?b1 ?_; (case o1 => exact HOq.out.alloc _); (case s1 => exact SrcB.row _ [ya * 16 + yb]); (case l1 => simp; omega); (case b1 => have := HWq.out.size; simp; omega); intro v2 w2 ho hb2 hg2; have HO2 := Lib.hid ho; have HW2 := Lib.hid ((HWq.out.alloc HWq.out.size _).trans hb2); clear ho hb2 hg2)
              go_roundw
              case rel => exact ⟨t.extract 3 t.size, o ++ [ya * 16 + yb], rfl, by rw [hsz.out]; simp; omega, HQ2, HO2, HOB2, HW2⟩
              case measure => show (t.extract 3 t.size).size < t.size; rw [hsz.out]; omega
        · have t3 : decide (2 < (t.size : Int)) = false := decide_eq_false (by omega)
          have HQ2 := Lib.hid (show Qv s [] [] (o ++ [x]) (byt (t.extract 1 t.size)) by rw [cut_k 1 HXU.out]; have h := HQ.out; rw [HXU.out] at h; exact qv_plain h (by simp) (fun a b v _ he _ _ _ => by subst he; have := HLU.out; simp at this; omega))
          have HOB2 := Lib.hid (byts_snoc HOB.out hx)
          have hsz := Lib.hid (size_cut t 1)
          clear hxu hx h92
          go_wp2_with (at_builtin; refine wp_append_b rfl (.tmp 41) (.tmp 44) rfl w.heap.size _ _ o [x] rfl rfl ?o1 ?s1 ?l1 ?b1 ?_; (case o1 => exact HO.out.alloc _); (case s1 => exact SrcB.row _ [x]); (case l1 => simp; omega); (case b1 => have := HW.out.size; simp; omega); intro v2 w2 ho hb2 hg2; have HO2 := Lib.hid ho; have HW2 := Lib.hid ((HW.out.alloc HW.out.size _).trans hb2); clear ho hb2 hg2)
          go_roundw
          case rel => exact ⟨t.extract 1 t.size, o ++ [x], rfl, by rw [hsz.out]; simp; omega, HQ2, HO2, HOB2, HW2⟩
          case measure => show (t.extract 1 t.size).size < t.size; rw [hsz.out]; omega
      · have t2 : (x == 92) = false := by simp [h92]
        have HQ2 := Lib.hid (show Qv s [] [] (o ++ [x]) (byt (t.extract 1 t.size)) by rw [cut_k 1 HXU.out]; have h := HQ.out; rw [HXU.out] at h; exact qv_plain h (by simp) (fun a b v h _ _ _ _ => h92 h))
        have HOB2 := Lib.hid (byts_snoc HOB.out hx)
        have hsz := Lib.hid (size_cut t 1)
        clear hxu hx h92
        go_wp2_with (at_builtin; refine wp_append_b rfl (.tmp 41) (.tmp 44) rfl w.heap.size _ _ o [x] rfl rfl ?o1 ?s1 ?l1 ?b1 ?_; (case o1 => exact HO.out.alloc _); (case s1 => exact SrcB.row _ [x]); (case l1 => simp; omega); (case b1 => have := HW.out.size; simp; omega); intro v2 w2 ho hb2 hg2; have HO2 := Lib.hid ho; have HW2 := Lib.hid ((HW.out.alloc HW.out.size _).trans hb2); clear ho hb2 hg2)
        go_roundw
        case rel => exact ⟨t.extract 1 t.size, o ++ [x], rfl, by rw [hsz.out]; simp; omega, HQ2, HO2, HOB2, HW2⟩
        case measure => show (t.extract 1 t.size).size < t.size; rw [hsz.out]; omega
end Go.Proofs.YtikpmlginojnhaaGreatDoor.Fl
