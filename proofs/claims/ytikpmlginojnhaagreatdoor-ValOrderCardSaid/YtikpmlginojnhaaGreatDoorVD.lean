/- Values out of bytes: the program's texts. -/
import Derived.Test.YtikpmlginojnhaaGreatDoorVC
namespace Go.Proofs.YtikpmlginojnhaaGreatDoor.Fl
open Go.RowKit Go.Maps
set_option linter.unusedVariables false
set_option linter.unusedSimpArgs false
/-- Is that all? -/
def unsOk (l : List Int) : Bool := match uns l with
  | some p => p.2.isEmpty
  | none => false
theorem idx_spec : ∀ (l : List Int), Byts l → (Lib.indexByte (Lib.bytesOf l) 0 = -1 ∧ ∀ k, k < l.length → ¬ l.getD k 0 = 0) ∨ ∃ j : Nat, j < l.length ∧ Lib.indexByte (Lib.bytesOf l) 0 = j ∧ l.getD j 0 = 0 ∧ ∀ k, k < j → ¬ l.getD k 0 = 0
  | [], _ => Or.inl ⟨rfl, fun k h => by simp at h⟩
  | x :: t, hb => by
    have hx := hb x (by simp)
    have ih := idx_spec t (fun z hz => hb z (by simp [hz]))
    have e : Lib.indexByte (Lib.bytesOf (x :: t)) 0 = if (UInt8.ofNat x.toNat == 0) = true then 0 else if (Lib.indexByte (Lib.bytesOf t) 0 == -1) = true then -1 else Lib.indexByte (Lib.bytesOf t) 0 + 1 := rfl
    rw [e]
    by_cases h0 : x = 0
    · subst h0
      exact Or.inr ⟨0, by simp, by simp, rfl, fun k h => by omega⟩
    · have hne : (UInt8.ofNat x.toNat == 0) = false := by
        apply beq_eq_false_iff_ne.2
        intro h
        have := congrArg UInt8.toNat h
        rw [UInt8.toNat_ofNat'] at this
        have h0' : (0 : UInt8).toNat = 0 := rfl
        omega
      rw [hne, if_neg (by decide)]
      rcases ih with ⟨h1, h2⟩ | ⟨j, h1, h2, h3, h4⟩
      · left
        rw [h1]
        refine ⟨rfl, fun k hk => ?_⟩
        cases k with
        | zero => exact h0
        | succ k => exact h2 k (by simpa using hk)
      · right
        rw [h2]
        refine ⟨j + 1, by simpa using h1, ?_, h3, fun k hk => ?_⟩
        · rw [if_neg (by intro h; have := beq_iff_eq.1 h; omega)]
          omega
        · cases k with
          | zero => exact h0
          | succ k => exact h4 k (by omega)
theorem un_run {l o : List Int} {m : Nat} (h : Un l o m) : ∀ (j : Nat), m + j < l.length → (∀ k, k < j → ¬ l.getD (m + k) 0 = 0) → Un l (o ++ (l.drop m).take j) (m + j)
  | 0, _, _ => by simpa using h
  | j + 1, hl, hz => by
    have ih := un_run h j (by omega) (fun k hk => hz k (by omega))
    have h2 := un_plain ih (by omega) rfl (hz j (by omega))
    have e : (l.drop m).take (j + 1) = (l.drop m).take j ++ [l.getD (m + j) 0] := by
      rw [take_snoc _ j (by rw [List.length_drop]; omega)]
      simp [List.getD_eq_getElem?_getD]
    rw [e, ← List.append_assoc]
    exact h2
theorem un_none {l o : List Int} {m : Nat} (h : Un l o m) (hz : ∀ k, m + k + 1 < l.length → ¬ l.getD (m + k) 0 = 0) : uns l = none := by
  by_cases hm : m + 1 < l.length
  · have h2 := un_run h (l.length - 1 - m) (by omega) (fun k hk => hz k (by omega))
    exact un_short h2 (by omega)
  · exact un_short h hm
set_option maxHeartbeats 4000000 in
set_option maxRecDepth 100000 in
theorem c_unesc (w : World) (ad : Addr) (c : Nat) (l : List Int) (hc : l.length ≤ c) (hk : ∀ k, k < l.length → w.cell? (ad.add k) = some (.int .u8 (l.getD k 0))) (hb : Byts l) (hm : l.length ≤ 1000000) :
    Calls Tryz.prog 68 #[.slice (some ad) l.length c] w fun e w' => e = .returned (.tuple #[.string (unsT l), .bool (unsOk l)]) ∧ Below w.heap.size w w' := by
  have HK := Lib.hid hk
  have HBY := Lib.hid hb
  obtain ⟨T, hT⟩ : ∃ T, unsT l = T := ⟨_, rfl⟩
  obtain ⟨K, hK⟩ : ∃ K, unsOk l = K := ⟨_, rfl⟩
  rw [hT, hK]
  have HT := Lib.hid (And.intro hT hK)
  clear hk hb hT hK
  go_enter Tryz.func68, Tryz.ntmps68
  go_wp2
  go_loopw [0, 4] (fun v0 v4 W => ∃ (m : Nat) (o : List Int) (a : Addr) (c1 : Nat), m ≤ l.length ∧ o.length ≤ m ∧ v0 = .slice (some a) (l.length - m) c1 ∧ l.length - m ≤ c1 ∧ Hid (∀ k, k < l.length - m → w.cell? (a.add k) = some (.int .u8 (l.getD (m + k) 0))) ∧ Hid (OwnB W w.heap.size v4 o) ∧ Hid (Byts o) ∧ Hid (Un l o m) ∧ Hid (Below w.heap.size w W)) (fun v0 _ _ => match v0 with | .slice _ n _ => n | _ => 0)
  case atStart => exact ⟨0, [], ad, c, by omega, by simp, by simp, by omega, Lib.hid (fun k hk => by rw [Nat.zero_add]; exact HK.out k (by omega)), Lib.hid (OwnB.nil _ _), Lib.hid (fun x h => by cases h), Lib.hid (un_start l), Lib.hid (Below.refl _ _)⟩
  case round =>
    obtain ⟨m, o, a, c1, hml, hol, rfl, hc1, HC, HO, HOB, HU, HW⟩ := hrel
    have hxs : (l.drop m).length = l.length - m := by rw [List.length_drop]
    have hgd : ∀ k, (l.drop m).getD k 0 = l.getD (m + k) 0 := fun k => by simp [List.getD_eq_getElem?_getD]
    have C1 := Lib.hid (fun W (hW : ∀ k, k < l.length - m → W.cell? (a.add k) = some (.int .u8 ((l.drop m).getD k 0))) => Tryz.bytes_IndexByte_at a (l.length - m) c1 (l.drop m) 0 W hxs hW)
    have HCW := Lib.hid (show ∀ k, k < l.length - m → wr.cell? (a.add k) = some (.int .u8 ((l.drop m).getD k 0)) from fun k hk => by rw [hgd k, ← HC.out k hk]; exact HW.out.cell (World.block_lt_of_cell? w _ (HC.out k hk)))
    rw [show ((0 : Int).toNat.toUInt8) = 0 from rfl] at C1
    have hdb : Byts (l.drop m) := fun x hx => HBY.out x (List.mem_of_mem_drop hx)
    rcases idx_spec (l.drop m) hdb with ⟨h1, h2⟩ | ⟨j, h1, h2, h3, h4⟩
    · have hn : uns l = none := un_none HU.out (fun k hk => by rw [← hgd k]; exact h2 k (by omega))
      obtain ⟨rfl, rfl⟩ : T = ⟨#[]⟩ ∧ K = false := by
        obtain ⟨rfl, rfl⟩ := HT.out
        unfold unsT unsOk
        rw [hn]
        exact ⟨rfl, rfl⟩
      rw [h1] at C1
      clear h1 h2 hn hgd hxs hdb HT
      go_wp2_with (go_at_call 85; ((refine (C1.out _ HCW.out).mono ?_); rintro e w' ⟨rfl, rfl⟩))
      go_ret2
      exact ⟨rfl, HW.out⟩
    · rw [h2] at C1
      rw [hxs] at h1
      have hz0 : l.getD (m + j) 0 = 0 := by rw [← hgd j]; exact h3
      have hzk : ∀ k, k < j → ¬ l.getD (m + k) 0 = 0 := fun k hk => by rw [← hgd k]; exact h4 k hk
      have hj0 : (0 : Int) ≤ (j : Int) := by omega
      have tj : decide ((j : Int) < 0) = false := decide_eq_false (by omega)
      by_cases hj : j + 1 = l.length - m
      · have hn : uns l = none := un_none HU.out (fun k hk => hzk k (by omega))
        obtain ⟨rfl, rfl⟩ : T = ⟨#[]⟩ ∧ K = false := by
          obtain ⟨rfl, rfl⟩ := HT.out
          unfold unsT unsOk
          rw [hn]
          exact ⟨rfl, rfl⟩
        have te : ((j : Int) + 1 == ((l.length - m : Nat) : Int)) = true := by simp; omega
        clear h1 h2 h3 h4 hn hgd hxs hdb HT hz0 hzk
        go_wp2_with (go_at_call 85; ((refine (C1.out _ HCW.out).mono ?_); rintro e w' ⟨rfl, rfl⟩))
        go_ret2
        exact ⟨rfl, HW.out⟩
      · have hj2 : j + 1 < l.length - m := by omega
        have te : ((j : Int) + 1 == ((l.length - m : Nat) : Int)) = false := by simp; omega
        have HR := Lib.hid (un_run HU.out j (by omega) hzk)
        have HTB := Lib.hid (show Byts ((l.drop m).take j) from fun x hx => hdb x (List.mem_of_mem_take hx))
        obtain ⟨y, ey⟩ : ∃ y, l.getD (m + j + 1) 0 = y := ⟨_, rfl⟩
        have HY := Lib.hid (show w.cell? ⟨a.block, a.off + (j + 1), none⟩ = some (.int .u8 y) by have := HC.out (j + 1) (by omega); rw [show m + (j + 1) = m + j + 1 by omega, ey] at this; simpa [Addr.add] using this)
        have HTL := Lib.hid (show ((l.drop m).take j).length = j by rw [List.length_take, hxs]; omega)
        have HSRC := Lib.hid (show SrcB wr (.slice (some a) j c1) ((l.drop m).take j) from ⟨a, c1, by rw [HTL.out], fun k hk => by
          rw [HTL.out] at hk
          rw [HCW.out k (by omega)]
          congr 2
          simp only [List.getD_eq_getElem?_getD]
          rw [List.getElem?_take_of_lt hk]⟩)
        have HZ := Lib.hid (And.intro hz0 hzk)
        clear h1 h2 h3 h4 hgd hxs hdb hz0 hzk
        have g1 : (j : Int) ≤ (c1 : Int) := by omega
        have g2 : (j : Int) + 1 < ((l.length - m : Nat) : Int) := by omega
        have g3 : (0 : Int) ≤ (j : Int) + 1 := by omega
        have g4 : (0 : Int) ≤ (j : Int) + 2 := by omega
        have g5 : (j : Int) + 2 ≤ ((l.length - m : Nat) : Int) := by omega
        have g6 : (j : Int) + 2 ≤ (c1 : Int) := by omega
        have g7 : ((j : Int) + 2).toNat = j + 2 := by omega
        have g8 : ((j : Int) + 1).toNat = j + 1 := by omega
        by_cases hy1 : y = 1
        · subst hy1
          have HE := Lib.hid (show T = txt (o ++ (l.drop m).take j) ∧ K = (l.drop (m + j + 2)).isEmpty by
            obtain ⟨rfl, rfl⟩ := HT.out
            have := un_end HR.out (by omega) HZ.out.1 ey
            unfold unsT unsOk
            rw [this]
            exact ⟨rfl, rfl⟩)
          have HK2 := Lib.hid (show K = (((l.length - m - (j + 2) : Nat) : Int) == 0) by
            rw [HE.out.2, Bool.eq_iff_iff, List.isEmpty_iff, beq_iff_eq, ← List.length_eq_zero_iff, List.length_drop]
            omega)
          go_wp2_with (first | (go_at_call 85; ((refine (C1.out _ HCW.out).mono ?_); rintro e w' ⟨rfl, rfl⟩)) | (at_builtin; refine wp_append_b rfl (.tmp 18) (.tmp 21) rfl w.heap.size _ _ o ((l.drop m).take j) rfl rfl ?o1 ?s1 ?l1 ?b1 ?_; (case o1 => exact HO.out); (case s1 => exact HSRC.out); (case l1 => rw [HTL.out]; omega); (case b1 => exact HW.out.size); intro v2 w2 ho hb2 hg2; have HO2 := Lib.hid ho; have HW2 := Lib.hid (HW.out.trans hb2); have x1 := (HW2.out.cell (World.block_lt_of_cell? w _ HY.out)).trans HY.out; have kc := conv_has w2 v2 _ ho.has (fun x hx => by rcases List.mem_append.1 hx with h | h; (· exact HOB.out x h); (· exact HTB.out x h)); clear ho hb2 hg2))
          all_goals go_ret2
          all_goals exact ⟨by rw [HE.out.1, HK2.out]; rfl, HW2.out⟩
        · have ty1 : (y == 1) = false := by simp [hy1]
          by_cases hy2 : y = 255
          · subst hy2
            have HU2 := Lib.hid (un_mark HR.out (by omega) HZ.out.1 ey)
            clear hy1
            go_wp2_with (first | (go_at_call 85; ((refine (C1.out _ HCW.out).mono ?_); rintro e w' ⟨rfl, rfl⟩)) | (at_builtin; refine wp_append_b rfl (.tmp 18) (.tmp 21) rfl w.heap.size _ _ o ((l.drop m).take j) rfl rfl ?o1 ?s1 ?l1 ?b1 ?_; (case o1 => exact HO.out); (case s1 => exact HSRC.out); (case l1 => rw [HTL.out]; omega); (case b1 => exact HW.out.size); intro v2 w2 ho hb2 hg2; have HO2 := Lib.hid ho; have HW2 := Lib.hid (HW.out.trans hb2); have x1 := (HW2.out.cell (World.block_lt_of_cell? w _ HY.out)).trans HY.out; have kc := conv_has w2 v2 _ ho.has (fun x hx => by rcases List.mem_append.1 hx with h | h; (· exact HOB.out x h); (· exact HTB.out x h)); clear ho hb2 hg2) | (at_builtin; refine wp_append_b rfl (.tmp 43) (.tmp 44) rfl w.heap.size _ _ (o ++ (l.drop m).take j) [0] rfl rfl ?o1 ?s1 ?l1 ?b1 ?_; (case o1 => exact HO2.out.alloc _); (case s1 => exact SrcB.row _ [0]); (case l1 => rw [List.length_append, HTL.out]; show o.length + j + 1 ≤ _; omega); (case b1 => have := HW2.out.size; simp; omega); intro v3 w3 ho hb2 hg2; have HO3 := Lib.hid ho; have HW3 := Lib.hid ((HW2.out.alloc HW2.out.size _).trans hb2); clear ho hb2 hg2))
            go_roundw
            case rel =>
              have hl0 : l.length - (m + j + 2) = l.length - m - (j + 2) := by omega
              have HOB3 : Byts (o ++ (l.drop m).take j ++ [0]) := byts_snoc (fun x hx => by rcases List.mem_append.1 hx with h | h; (· exact HOB.out x h); (· exact HTB.out x h)) (by omega)
              by_cases hcc : c1 = j + 2
              · rw [if_pos hcc]
                exact ⟨m + j + 2, _, a, c1 - (j + 2), by omega, by rw [List.length_append, List.length_append, HTL.out]; show o.length + j + 1 ≤ _; omega, by rw [hl0], by omega, Lib.hid (fun k hk => by omega), HO3, Lib.hid HOB3, HU2, HW3⟩
              · rw [if_neg hcc]
                refine ⟨m + j + 2, _, ⟨a.block, a.off + (j + 1 + 1), none⟩, c1 - (j + 2), by omega, by rw [List.length_append, List.length_append, HTL.out]; show o.length + j + 1 ≤ _; omega, by rw [hl0], by omega, Lib.hid (fun k hk => ?_), HO3, Lib.hid HOB3, HU2, HW3⟩
                have h := HC.out (j + 2 + k) (by omega)
                have e1 : a.add (j + 2 + k) = (⟨a.block, a.off + (j + 1 + 1), none⟩ : Addr).add k := by
                  unfold Addr.add
                  rw [if_neg (by simp)]
                  by_cases hk0 : k = 0
                  · subst hk0; simp
                  · simp [hk0]; omega
                rw [e1] at h
                rw [h, show m + (j + 2 + k) = m + j + 2 + k by omega]
            case measure => simp; omega
          · have ty2 : (y != 255) = true := by simp [hy2]
            obtain ⟨rfl, rfl⟩ : T = ⟨#[]⟩ ∧ K = false := by
              obtain ⟨rfl, rfl⟩ := HT.out
              unfold unsT unsOk
              rw [un_bad HR.out (by omega) HZ.out.1 (by rw [ey]; exact hy1) (by rw [ey]; exact hy2)]
              exact ⟨rfl, rfl⟩
            clear hy1 hy2 HT
            go_wp2_with (first | (go_at_call 85; ((refine (C1.out _ HCW.out).mono ?_); rintro e w' ⟨rfl, rfl⟩)) | (at_builtin; refine wp_append_b rfl (.tmp 18) (.tmp 21) rfl w.heap.size _ _ o ((l.drop m).take j) rfl rfl ?o1 ?s1 ?l1 ?b1 ?_; (case o1 => exact HO.out); (case s1 => exact HSRC.out); (case l1 => rw [HTL.out]; omega); (case b1 => exact HW.out.size); intro v2 w2 ho hb2 hg2; have HO2 := Lib.hid ho; have HW2 := Lib.hid (HW.out.trans hb2); have x1 := (HW2.out.cell (World.block_lt_of_cell? w _ HY.out)).trans HY.out; have kc := conv_has w2 v2 _ ho.has (fun x hx => by rcases List.mem_append.1 hx with h | h; (· exact HOB.out x h); (· exact HTB.out x h)); clear ho hb2 hg2))
            all_goals go_ret2
            all_goals exact ⟨rfl, HW2.out⟩
end Go.Proofs.YtikpmlginojnhaaGreatDoor.Fl
