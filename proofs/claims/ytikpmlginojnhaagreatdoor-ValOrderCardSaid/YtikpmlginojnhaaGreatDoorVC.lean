/- Values out of bytes: texts. -/
import Derived.Test.YtikpmlginojnhaaGreatDoorVB
namespace Go.Proofs.YtikpmlginojnhaaGreatDoor.Fl
open Go.RowKit Go.Maps
set_option linter.unusedVariables false
set_option linter.unusedSimpArgs false
/-- The text that is told. -/
def unsT (l : List Int) : ByteArray := match uns l with
  | some p => txt p.1
  | none => ⟨#[]⟩
theorem drop2 {l : List Int} {i : Nat} (h : i + 1 < l.length) : l.drop i = l.getD i 0 :: l.getD (i + 1) 0 :: l.drop (i + 2) := by
  rw [List.drop_eq_getElem_cons (by omega), List.drop_eq_getElem_cons h]
  simp [List.getD_eq_getElem?_getD, List.getElem?_eq_getElem, h, show i < l.length by omega]
theorem drop1 {l : List Int} {i : Nat} (h : i < l.length) : l.drop i = l.getD i 0 :: l.drop (i + 1) := by
  rw [List.drop_eq_getElem_cons h]
  simp [List.getD_eq_getElem?_getD, List.getElem?_eq_getElem, h]
/-- What is told, and what is left to go through. -/
def Un (l o : List Int) (i : Nat) : Prop := uns l = (uns (l.drop i)).map (fun p => (o ++ p.1, p.2))
theorem un_start (l : List Int) : Un l [] 0 := by
  unfold Un
  rw [List.drop_zero]
  cases uns l <;> rfl
theorem un_plain {l o : List Int} {i : Nat} (h : Un l o i) (hi : i + 1 < l.length) {x : Int} (e : l.getD i 0 = x) (hx : ¬ x = 0) : Un l (o ++ [x]) (i + 1) := by
  unfold Un at *
  rw [h, drop2 hi, uns, e, if_neg hx, drop1 hi]
  cases uns (l.getD (i + 1) 0 :: l.drop (i + 1 + 1)) <;> simp
theorem un_mark {l o : List Int} {i : Nat} (h : Un l o i) (hi : i + 1 < l.length) (e : l.getD i 0 = 0) (e2 : l.getD (i + 1) 0 = 255) : Un l (o ++ [0]) (i + 2) := by
  unfold Un at *
  rw [h, drop2 hi, uns, e, e2, if_pos rfl, if_neg (by decide), if_pos rfl]
  cases uns (l.drop (i + 2)) <;> simp
theorem un_end {l o : List Int} {i : Nat} (h : Un l o i) (hi : i + 1 < l.length) (e : l.getD i 0 = 0) (e2 : l.getD (i + 1) 0 = 1) : uns l = some (o, l.drop (i + 2)) := by
  unfold Un at *
  rw [h, drop2 hi, uns, e, e2, if_pos rfl, if_pos rfl]
  simp
theorem un_bad {l o : List Int} {i : Nat} (h : Un l o i) (hi : i + 1 < l.length) (e : l.getD i 0 = 0) (e1 : ¬ l.getD (i + 1) 0 = 1) (e2 : ¬ l.getD (i + 1) 0 = 255) : uns l = none := by
  unfold Un at *
  rw [h, drop2 hi, uns, e, if_pos rfl, if_neg e1, if_neg e2]
  rfl
theorem un_short {l o : List Int} {i : Nat} (h : Un l o i) (hi : ¬ i + 1 < l.length) : uns l = none := by
  unfold Un at h
  rw [h]
  have : (l.drop i).length ≤ 1 := by rw [List.length_drop]; omega
  match l.drop i, this with
  | [], _ => rfl
  | [_], _ => rfl
  | _ :: _ :: _, h => simp at h
theorem byts_snoc {o : List Int} {x : Int} (h : Byts o) (h0 : 0 ≤ x ∧ x < 256) : Byts (o ++ [x]) := by
  intro z hz
  rcases List.mem_append.1 hz with hz | hz
  · exact h z hz
  · have : z = x := by simpa using hz
    omega
set_option maxHeartbeats 4000000 in
set_option maxRecDepth 100000 in
theorem c_runesc (w : World) (v : Value) (l : List Int) (hv : HasB w v l) (hb : Byts l) (hm : l.length ≤ 1000000) :
    Calls Tryz.prog 49 #[v] w fun e w' => ∃ v' b, e = .returned (.tuple #[.string (unsT l), v', .bool b]) ∧ Below w.heap.size w w' := by
  obtain ⟨A, c, rfl, hc, hk⟩ := hv
  have HK := Lib.hid hk
  have HBY := Lib.hid hb
  clear hk hb
  go_enter Tryz.func49, Tryz.ntmps49
  go_wp2
  have HO0 := Lib.hid (OwnB.row w [] w.heap.size (Nat.le_refl _) (by decide))
  have HB0 := Lib.hid ((Below.refl w.heap.size w).alloc (Nat.le_refl _) (.cells #[] 5))
  go_loopw [5, 6] (fun v5 v6 W => ∃ (i : Nat) (o : List Int), v6 = .int .i64 i ∧ i ≤ l.length ∧ o.length ≤ i ∧ Hid (OwnB W w.heap.size v5 o) ∧ Hid (Byts o) ∧ Hid (Un l o i) ∧ Hid (Below w.heap.size w W)) (fun _ v6 _ => l.length - (intOf v6).toNat)
  case atStart => exact ⟨0, [], rfl, by omega, by simp, HO0, Lib.hid (fun x h => by cases h), Lib.hid (un_start l), HB0⟩
  case round =>
    obtain ⟨i, o, rfl, hi, hol, HO, HOB, HU, HW⟩ := hrel
    clear HO0 HB0
    by_cases hlt : i + 1 < l.length
    · have t1 : decide ((i : Int) + 1 < (l.length : Int)) = true := decide_eq_true (by omega)
      obtain ⟨ad, rfl, c0⟩ := HK.out i (by omega)
      obtain ⟨ad2, e2, c1⟩ := HK.out (i + 1) hlt
      obtain rfl := Option.some.inj e2
      clear e2
      have x0 := (HW.out.cell (World.block_lt_of_cell? w _ c0)).trans c0
      have x1 := (HW.out.cell (World.block_lt_of_cell? w _ c1)).trans c1
      have hb0 := byts_at HBY.out i (by omega)
      clear c0 c1
      obtain ⟨x, ex⟩ : ∃ x, l.getD i 0 = x := ⟨_, rfl⟩
      obtain ⟨y, ey⟩ : ∃ y, l.getD (i + 1) 0 = y := ⟨_, rfl⟩
      rw [ex] at x0 hb0
      rw [ey] at x1
      have hi0 : (0 : Int) ≤ (i : Int) := by omega
      have hi1 : (i : Int) < (l.length : Int) := by omega
      have hi2 : (0 : Int) ≤ (i : Int) + 1 := by omega
      have hi3 : (i : Int) + 1 < (l.length : Int) := by omega
      have x1b : wr.cell? ⟨ad.block, ad.off + (i + 1), none⟩ = some (.int .u8 y) := by simpa [Addr.add] using x1
      clear x1
      by_cases hx : x = 0
      · subst hx
        have tx : ((0 : Int) != 0) = false := by decide
        by_cases hy1 : y = 1
        · subst hy1
          have HE := Lib.hid (show unsT l = txt o by unfold unsT; rw [un_end HU.out hlt ex ey])
          clear ex ey hb0
          have kc := conv_has wr u5 o HO.out.has HOB.out
          have s1 : (0 : Int) ≤ (i : Int) + 2 := by omega
          have s2 : (i : Int) + 2 ≤ (l.length : Int) := by omega
          have s3 : (i : Int) + 2 ≤ (c : Int) := by omega
          have s4 : IntKind.i64.wrap ((i : Int) + 2) = (i : Int) + 2 := IntWalk.i64_in _ (by omega)
          go_wp2
          go_region_held3 (fun W => (convert 26 9 u5).run Tryz.prog W = .ok (.string (txt o)) W) (exact conv_has _ u5 o (by first | exact HO.out.drew.has | exact HO.out.has) HOB.out) (fail)
          all_goals go_wp2
          all_goals (go_ret3; (try simp only [HE.out]); first | exact ⟨_, _, rfl, HW.out.drew⟩ | exact ⟨⟨_, Or.inr rfl⟩, HW.out.drew⟩)
        · have ty1 : (y == 1) = false := by simp [hy1]
          by_cases hy2 : y = 255
          · subst hy2
            have HU2 := Lib.hid (un_mark HU.out hlt ex ey)
            have HOB2 := Lib.hid (byts_snoc HOB.out (by omega : (0 : Int) ≤ 0 ∧ (0 : Int) < 256))
            clear ex ey hb0 hy1
            go_wp2_with (at_builtin; refine wp_append_b rfl (.tmp 45) (.tmp 46) rfl w.heap.size _ _ o [0] rfl rfl ?o1 ?s1 ?l1 ?b1 ?_; (case o1 => exact HO.out.alloc _); (case s1 => exact SrcB.row _ [0]); (case l1 => show o.length + 1 ≤ _; omega); (case b1 => have := HW.out.size; simp; omega); intro v2 w2 ho hb2 hg2; have HO2 := Lib.hid ho; have HW2 := Lib.hid ((HW.out.alloc HW.out.size _).trans hb2); clear ho hb2 hg2)
            go_roundw
            case rel => exact ⟨i + 2, o ++ [0], by go_num, by omega, by simp; omega, HO2, HOB2, HU2, HW2⟩
            case measure => simp [intOf]; omega
          · have ty2 : (y != 255) = true := by simp [hy2]
            have HE := Lib.hid (show unsT l = ⟨#[]⟩ by unfold unsT; rw [un_bad HU.out hlt ex (by rw [ey]; exact hy1) (by rw [ey]; exact hy2)])
            clear ex ey hb0 hy1 hy2
            go_wp2
            go_ret3
            exact ⟨_, _, by rw [HE.out]; rfl, HW.out⟩
      · have tx : (x != 0) = true := by simp [hx]
        have HU2 := Lib.hid (un_plain HU.out hlt ex hx)
        have HOB2 := Lib.hid (byts_snoc HOB.out hb0)
        clear ex ey hb0 hx
        go_wp2_with (at_builtin; refine wp_append_b rfl (.tmp 20) (.tmp 25) rfl w.heap.size _ _ o [x] rfl rfl ?o1 ?s1 ?l1 ?b1 ?_; (case o1 => exact HO.out.alloc _); (case s1 => exact SrcB.row _ [x]); (case l1 => show o.length + 1 ≤ _; omega); (case b1 => have := HW.out.size; simp; omega); intro v2 w2 ho hb2 hg2; have HO2 := Lib.hid ho; have HW2 := Lib.hid ((HW.out.alloc HW.out.size _).trans hb2); clear ho hb2 hg2)
        go_roundw
        case rel => exact ⟨i + 1, o ++ [x], by go_num, by omega, by simp; omega, HO2, HOB2, HU2, HW2⟩
        case measure => simp [intOf]; omega
    · have HE := Lib.hid (show unsT l = ⟨#[]⟩ by unfold unsT; rw [un_short HU.out hlt])
      have t1 : decide ((i : Int) + 1 < (l.length : Int)) = false := decide_eq_false (by omega)
      clear hlt
      go_wp2
      go_ret3
      exact ⟨_, _, by rw [HE.out]; rfl, HW.out⟩
end Go.Proofs.YtikpmlginojnhaaGreatDoor.Fl
