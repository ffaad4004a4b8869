/- Floating numbers: the statements' walks: FloatBytes. -/
import Derived.Test.YtljhjhfnoalhkaaDoorFM
namespace Go.Proofs.YtljhjhfnoalhkaaDoor.Fl
open Go.RowKit Go.Maps
set_option linter.unusedVariables false
set_option linter.unusedSimpArgs false
theorem val_append (l t : List Int) : val (l ++ t) = val l * 256 ^ t.length + val t := by
  unfold val
  rw [List.foldl_append]
  exact val_acc t _
theorem val_b8 (r : Int) (h : 0 ≤ r ∧ r < 18446744073709551616) : val (b8 r) = r := by
  simp only [val, b8, List.foldl]
  omega
theorem b8_byts (r : Int) : Byts (b8 r) := by
  intro x hx
  simp only [b8, List.mem_cons, List.not_mem_nil, or_false] at hx
  omega
theorem lex_lt {x y : List Int} (hx : Byts x) (hy : Byts y) (hl : x.length = y.length) (i : Nat) (hi : i < x.length) (hp : ∀ j, j < i → x.getD j 0 = y.getD j 0) (h : x.getD i 0 < y.getD i 0) : val x < val y := by
  have ex : x = x.take i ++ x.getD i 0 :: x.drop (i + 1) := by
    conv => lhs; rw [← List.take_append_drop i x]
    rw [List.drop_eq_getElem_cons hi, List.getD_eq_getElem?_getD, List.getElem?_eq_getElem hi]
    rfl
  have hi' : i < y.length := by omega
  have ey : y = y.take i ++ y.getD i 0 :: y.drop (i + 1) := by
    conv => lhs; rw [← List.take_append_drop i y]
    rw [List.drop_eq_getElem_cons hi', List.getD_eq_getElem?_getD, List.getElem?_eq_getElem hi']
    rfl
  have et : x.take i = y.take i := by
    refine List.ext_getElem (by simp; omega) (fun j h1 h2 => ?_)
    have hj : j < i := by simp at h1; omega
    have := hp j hj
    have a1 : j < x.length := by omega
    have a2 : j < y.length := by omega
    simpa [List.getD_eq_getElem?_getD, List.getElem?_eq_getElem, a1, a2, List.getElem_take] using this
  have b1 := val_bd (x.drop (i + 1)) (fun z hz => hx z (List.mem_of_mem_drop hz))
  have b2 := val_bd (y.drop (i + 1)) (fun z hz => hy z (List.mem_of_mem_drop hz))
  have l1 : (x.drop (i + 1)).length = (y.drop (i + 1)).length := by simp; omega
  rw [ex, ey, val_append, val_append, val_cons, val_cons, et, List.length_cons, List.length_cons, l1]
  rw [l1] at b1
  have hpw : (0 : Int) < 256 ^ (y.drop (i + 1)).length := Int.pow_pos (by decide)
  generalize (256 : Int) ^ (y.drop (i + 1)).length = p at *
  generalize x.getD i 0 = a at *
  generalize y.getD i 0 = b at *
  have : (a + 1) * p ≤ b * p := Int.mul_le_mul_of_nonneg_right (by omega) (by omega)
  rw [Int.add_mul] at this
  omega
theorem from_bytes (a : Int) (ha : Wf a) (hr : rightU (U a) = true) : fromF (bytesF a) = (a, true) := by
  have e : bytesF a = b8 (rankU (U a)) := by unfold bytesF; rw [if_pos hr]
  have hb := rankU_bd (U a) (U_bd a).1 (U_bd a).2
  have eu : unrankU (rankU (U a)) = U a := by
    unfold unrankU rankU
    rw [if_pos hr]
    have := U_bd a
    split <;> split <;> omega
  unfold fromF
  rw [e, val_b8 _ hb, eu, if_pos ⟨rfl, hr⟩]
  have : wrap64 (U a) = a := by
    unfold Wf at ha
    unfold U wrap64
    omega
  rw [this]
/-- What the loop over the bytes has told. -/
def Lx (x y : List Int) (s : Int) (i : Nat) (c : Int) : Prop := (c = 0 ∧ ∀ j, j < i → x.getD j 0 = y.getD j 0) ∨ (c ≠ 0 ∧ c = s)
theorem sgn_self (p : Int) : sgn p p = 0 := by unfold sgn; rw [if_neg (by omega), if_neg (by omega)]
theorem lx_end {x y : List Int} {s : Int} (hl : x.length = y.length) (hs : s = sgn (val x) (val y)) {c : Int} (h : Lx x y s x.length c) : c = s := by
  rcases h with ⟨rfl, h⟩ | ⟨_, h⟩
  · have := (same_at hl).1 h
    subst this
    rw [hs, sgn_self]
  · exact h
theorem lx_eq {x y : List Int} {s : Int} {i : Nat} (h : Lx x y s i 0) (e : x.getD i 0 = y.getD i 0) : Lx x y s (i + 1) 0 := by
  rcases h with ⟨_, h⟩ | ⟨h, _⟩
  · left
    refine ⟨rfl, fun j hj => ?_⟩
    by_cases hj2 : j = i
    · subst hj2; exact e
    · exact h j (by omega)
  · exact (h rfl).elim
theorem lx_lt {x y : List Int} {s : Int} {i : Nat} (hx : Byts x) (hy : Byts y) (hl : x.length = y.length) (hi : i < x.length) (hs : s = sgn (val x) (val y)) (h : Lx x y s i 0) (e : x.getD i 0 < y.getD i 0) : Lx x y s (i + 1) (-1) := by
  rcases h with ⟨_, h⟩ | ⟨h, _⟩
  · right
    have := lex_lt hx hy hl i hi h e
    rw [hs]
    unfold sgn
    rw [if_pos this]
    exact ⟨by omega, rfl⟩
  · exact (h rfl).elim
theorem lx_gt {x y : List Int} {s : Int} {i : Nat} (hx : Byts x) (hy : Byts y) (hl : x.length = y.length) (hi : i < x.length) (hs : s = sgn (val x) (val y)) (h : Lx x y s i 0) (e : y.getD i 0 < x.getD i 0) : Lx x y s (i + 1) 1 := by
  rcases h with ⟨_, h⟩ | ⟨h, _⟩
  · right
    have := lex_lt hy hx hl.symm i (by omega) (fun j hj => (h j hj).symm) e
    rw [hs]
    unfold sgn
    rw [if_neg (by omega), if_pos this]
    exact ⟨by omega, rfl⟩
  · exact (h rfl).elim
set_option maxHeartbeats 8000000 in
set_option maxRecDepth 100000 in
theorem floatBytes (w : World) (a b : Int) (ha : Wf a) (hb : Wf b) (hg : Gl w) : Calls Tryd.prog 8 #[.int .i64 a, .int .i64 b] w fun e w' => e = .returned (.bool true) ∧ Below w.heap.size w w' := by
  have C0 := Lib.hid (c_alive w hg)
  have HA := Lib.hid ha
  have HB := Lib.hid hb
  have HG := Lib.hid hg
  have R1 := Lib.hid (c_right a _ rfl)
  have R2 := Lib.hid (c_right b _ rfl)
  clear hg ha hb
  go_enter Tryd.func8, Tryd.ntmps8
  go_wp2_with fail
  refine C0.out.mono ?_
  rintro e w1 ⟨rfl, hb⟩
  have HW1 := Lib.hid hb
  clear hb
  go_wp2_with fail
  refine (c_bytes a w1).mono ?_
  rintro e w2 ⟨v1, rfl, hv, hb⟩
  have HW2 := Lib.hid (HW1.out.trans (hb.mono HW1.out.size))
  have HV1 := Lib.hid hv
  clear hb hv HW1
  go_wp2_with fail
  refine (c_bytes b w2).mono ?_
  rintro e w3 ⟨v2, rfl, hv, hb⟩
  have HW3 := Lib.hid (HW2.out.trans (hb.mono HW2.out.size))
  have HX := Lib.hid (HV1.out.below hb)
  have HY := Lib.hid hv
  clear hb hv HW2 HV1
  have HG3 := Lib.hid (HG.out.below HW3.out)
  cases h1 : rightU (U a) with
  | false =>
    rw [h1] at R1
    have e1 : bytesF a = [] := by unfold bytesF; rw [if_neg (by rw [h1]; decide)]
    rw [e1] at HX
    obtain ⟨A1, c1, rfl, _, _⟩ := HX.out
    have hsh : showS a = ⟨#[63]⟩ := by unfold showS; rw [if_pos h1]
    have C5 := Lib.hid (c_show a HA.out _ hsh w3 HG3.out)
    clear h1 e1 hsh
    go_wp2_with (first | (go_at_call 10; ((with_reducible refine (R1.out _).mono ?_); rintro e w' ⟨rfl, rfl⟩)) | (go_at_call 17; ((with_reducible refine C5.out.mono ?_); rintro e w4 ⟨rfl, hb⟩; have HW4 := Lib.hid (HW3.out.trans (hb.mono HW3.out.size)); clear hb)))
    go_ret
    exact ⟨rfl, HW4.out⟩
  | true =>
    rw [h1] at R1
    cases h2 : rightU (U b) with
    | false =>
      rw [h2] at R2
      clear h1 h2
      go_wp2_with (first | (go_at_call 10; ((with_reducible refine (R1.out _).mono ?_); rintro e w' ⟨rfl, rfl⟩)) | (go_at_call 10; ((with_reducible refine (R2.out _).mono ?_); rintro e w' ⟨rfl, rfl⟩)))
      go_ret
      exact ⟨rfl, HW3.out⟩
    | true =>
      rw [h2] at R2
      have e1 : bytesF a = b8 (rankU (U a)) := by unfold bytesF; rw [if_pos h1]
      have e2 : bytesF b = b8 (rankU (U b)) := by unfold bytesF; rw [if_pos h2]
      have hfa := from_bytes a HA.out h1
      have hrd : RdIs (showS a) a true := Or.inl ⟨rfl, HA.out, h1, rfl⟩
      have hsz : (showS a).size ≤ 140737488351232 := by
        by_cases hn : Named a
        · have := show_short hn; omega
        · rw [show_long h1 hn]; omega
      have C4 := Lib.hid (c_order a b)
      have hs : sgn (rankU (U a)) (rankU (U b)) = sgn (val (bytesF a)) (val (bytesF b)) := by
        rw [e1, e2, val_b8 _ (rankU_bd _ (U_bd a).1 (U_bd a).2), val_b8 _ (rankU_bd _ (U_bd b).1 (U_bd b).2)]
      generalize sgn (rankU (U a)) (rankU (U b)) = s at C4 hs
      have HL1 := Lib.hid (show (bytesF a).length = 8 by rw [e1]; rfl)
      have HL2 := Lib.hid (show (bytesF b).length = 8 by rw [e2]; rfl)
      have HB1 := Lib.hid (show Byts (bytesF a) by rw [e1]; exact b8_byts _)
      have HB2 := Lib.hid (show Byts (bytesF b) by rw [e2]; exact b8_byts _)
      have HS := Lib.hid hs
      have HFA := Lib.hid hfa
      have C5 := Lib.hid (fun W hg => c_show a HA.out _ rfl W hg)
      have C6 := Lib.hid (fun W hg => c_read (showS a) hsz W hg a true hrd)
      generalize showS a = t at C5 C6
      generalize bytesF a = x at *
      generalize bytesF b = y at *
      have C7 := Lib.hid (fun W (hv : HasB W v1 x) => c_from W v1 x hv HB1.out (by rw [HL1.out]; decide) a true HFA.out)
      obtain ⟨A1, c1, rfl, hc1, hk1⟩ := HX.out
      obtain ⟨A2, c2, rfl, hc2, hk2⟩ := HY.out
      have H1 := Lib.hid hk1
      have H2 := Lib.hid hk2
      rw [HL1.out] at C7 HX
      clear h1 h2 e1 e2 hfa hrd hsz hs hk1 hk2
      rw [HL1.out, HL2.out]
      go_wp2_with (first | (go_at_call 10; ((with_reducible refine (R1.out _).mono ?_); rintro e w' ⟨rfl, rfl⟩)) | (go_at_call 10; ((with_reducible refine (R2.out _).mono ?_); rintro e w' ⟨rfl, rfl⟩)))
      go_loopw [7, 8] (fun v7 v8 W => ∃ (i : Nat) (c : Int), i ≤ 8 ∧ v7 = .int .i64 c ∧ v8 = .int .i64 i ∧ Hid (Lx x y s i c) ∧ ∃ n, W = w3.drewN n) (fun _ v8 _ => 8 - (intOf v8).toNat)
      case atStart => exact ⟨0, 0, by omega, rfl, rfl, Lib.hid (Or.inl ⟨rfl, fun j h => by omega⟩), 0, rfl⟩
      case round =>
        obtain ⟨i, c, hi, rfl, rfl, HLX, m, rfl⟩ := hrel
        by_cases hlt : i < 8
        · have hi0 : (0 : Int) ≤ (i : Int) := by omega
          have hi1 : (i : Int) < 8 := by omega
          by_cases hc : c = 0
          · subst hc
            obtain ⟨ad1, rfl, x1⟩ := H1.out i (by rw [HL1.out]; exact hlt)
            obtain ⟨ad2, rfl, x2⟩ := H2.out i (by rw [HL2.out]; exact hlt)
            have hll : x.length = y.length := by rw [HL1.out, HL2.out]
            have hix : i < x.length := by rw [HL1.out]; exact hlt
            have N1 := Lib.hid (lx_eq HLX.out)
            have N2 := Lib.hid (lx_lt HB1.out HB2.out hll hix HS.out HLX.out)
            have N3 := Lib.hid (lx_gt HB1.out HB2.out hll hix HS.out HLX.out)
            clear hll hix
            generalize x.getD i 0 = p at x1 N1 N2 N3
            generalize y.getD i 0 = q at x2 N1 N2 N3
            rcases Int.lt_trichotomy p q with h | h | h
            · have t1 : decide (p < q) = true := decide_eq_true h
              have t2 : decide (q < p) = false := decide_eq_false (by omega)
              have NN := Lib.hid (N2.out h)
              clear h N1 N2 N3
              go_wp2
              go_quiet (fail)
              go_wp2
              go_quiet (fail)
              go_wp2
              go_roundw
              case rel => exact ⟨i + 1, -1, by omega, rfl, by go_num, NN, _, by first | rfl | rw [World.drewN_drewN]⟩
              case measure => simp [intOf]; omega
            · have t1 : decide (p < q) = false := decide_eq_false (by omega)
              have t2 : decide (q < p) = false := decide_eq_false (by omega)
              have NN := Lib.hid (N1.out h)
              clear h N1 N2 N3
              go_wp2
              go_quiet (fail)
              go_wp2
              go_quiet (fail)
              go_wp2
              go_roundw
              case rel => exact ⟨i + 1, 0, by omega, rfl, by go_num, NN, _, by first | rfl | rw [World.drewN_drewN]⟩
              case measure => simp [intOf]; omega
            · have t1 : decide (p < q) = false := decide_eq_false (by omega)
              have t2 : decide (q < p) = true := decide_eq_true h
              have NN := Lib.hid (N3.out h)
              clear h N1 N2 N3
              go_wp2
              go_quiet (fail)
              go_wp2
              go_quiet (fail)
              go_wp2
              go_roundw
              case rel => exact ⟨i + 1, 1, by omega, rfl, by go_num, NN, _, by first | rfl | rw [World.drewN_drewN]⟩
              case measure => simp [intOf]; omega
          · have hs : c = s := by
              rcases HLX.out with ⟨h, _⟩ | ⟨_, h⟩
              · exact (hc h).elim
              · exact h
            have t1 : (c == 0) = false := by simp [hc]
            subst hs
            clear hc
            have HZ := Lib.hid (HW3.out.trans ((below_drewN w3 m).mono HW3.out.size))
            have HXZ := Lib.hid (HX.out.below (below_drewN w3 m))
            have HGZ := Lib.hid (HG3.out.below (below_drewN w3 m))
            generalize w3.drewN m = wz at HZ HXZ HGZ ⊢
            go_wp2_with fail
            refine (C7.out wz HXZ.out).mono ?_
            rintro e w4 ⟨rfl, hb⟩
            have HW4 := Lib.hid (HZ.out.trans (hb.mono HZ.out.size))
            have HG4 := Lib.hid (HGZ.out.below hb)
            clear hb
            go_wp2_with fail
            refine (C5.out w4 HG4.out).mono ?_
            rintro e w5 ⟨rfl, hb⟩
            have HW5 := Lib.hid (HW4.out.trans (hb.mono HW4.out.size))
            have HG5 := Lib.hid (HG4.out.below hb)
            clear hb
            go_wp2_with fail
            refine (C6.out w5 HG5.out).mono ?_
            rintro e w6 ⟨rfl, hb⟩
            have HW6 := Lib.hid (HW5.out.trans (hb.mono HW5.out.size))
            clear hb
            go_wp2_with (go_at_call 12; ((with_reducible refine (C4.out _).mono ?_); rintro e w' ⟨rfl, rfl⟩))
            go_ret
            exact ⟨rfl, HW6.out⟩
        · have hi8 : i = 8 := by omega
          subst hi8
          have hs : c = s := by
            have h := HLX.out
            rw [← HL1.out] at h
            exact lx_end (by rw [HL1.out, HL2.out]) HS.out h
          subst hs
          have HZ := Lib.hid (HW3.out.trans ((below_drewN w3 m).mono HW3.out.size))
          have HXZ := Lib.hid (HX.out.below (below_drewN w3 m))
          have HGZ := Lib.hid (HG3.out.below (below_drewN w3 m))
          generalize w3.drewN m = wz at HZ HXZ HGZ ⊢
          go_wp2_with fail
          refine (C7.out wz HXZ.out).mono ?_
          rintro e w4 ⟨rfl, hb⟩
          have HW4 := Lib.hid (HZ.out.trans (hb.mono HZ.out.size))
          have HG4 := Lib.hid (HGZ.out.below hb)
          clear hb
          go_wp2_with fail
          refine (C5.out w4 HG4.out).mono ?_
          rintro e w5 ⟨rfl, hb⟩
          have HW5 := Lib.hid (HW4.out.trans (hb.mono HW4.out.size))
          have HG5 := Lib.hid (HG4.out.below hb)
          clear hb
          go_wp2_with fail
          refine (C6.out w5 HG5.out).mono ?_
          rintro e w6 ⟨rfl, hb⟩
          have HW6 := Lib.hid (HW5.out.trans (hb.mono HW5.out.size))
          clear hb
          go_wp2_with (go_at_call 12; ((with_reducible refine (C4.out _).mono ?_); rintro e w' ⟨rfl, rfl⟩))
          go_ret
          exact ⟨rfl, HW6.out⟩
end Go.Proofs.YtljhjhfnoalhkaaDoor.Fl
