/- Floating numbers: the document's bits of eight bytes. -/
import Derived.Test.YtikpmlginojnhaaGreatDoorF6
namespace Go.Proofs.YtikpmlginojnhaaGreatDoor.Fl
open Go.RowKit Go.Maps
set_option linter.unusedVariables false
set_option linter.unusedSimpArgs false
set_option maxHeartbeats 4000000 in
set_option maxRecDepth 100000 in
theorem c_rfrom (w : World) (v : Value) (l : List Int) (hv : HasB w v l) (hb : Byts l) (hm : l.length ≤ 1000000) (n : Int) (b : Bool) (he : fromF l = (n, b)) :
    Calls Tryz.prog 48 #[v] w fun e w' => e = .returned (.tuple #[.int .i64 n, .bool b]) ∧ Below w.heap.size w w' := by
  obtain ⟨A, c, rfl, hc, hk⟩ := hv
  have H1 := Lib.hid hk
  clear hk
  by_cases hl : l.length = 8
  · obtain ⟨u, n', b', e1, e2, e3, e4, h5, h6, h7, h8⟩ := from_parts l hb hl
    rw [e4] at he
    have C1 := Lib.hid (c_rright n' h8 b' e3)
    have HL := Lib.hid hl
    have HBY := Lib.hid hb
    have HE := Lib.hid he
    have HV := Lib.hid (⟨h5, h6⟩ : 0 ≤ val l ∧ val l < 18446744073709551616)
    have H7 := Lib.hid h7
    have E1 := Lib.hid e1
    have E2 := Lib.hid e2
    have hq : ((l.length : Int) != 8) = false := by simp [hl]
    have h9 : (8 : Int) ≤ (l.length : Int) := by omega
    clear e1 e2 e3 e4 h5 h6 h7 hl hb he h8
    go_enter Tryz.func48, Tryz.ntmps48
    go_wp2
    go_loopw [4, 5] (fun r i W => ∃ (k : Nat) (q : Int), k ≤ 8 ∧ r = .int .u64 q ∧ i = .int .i64 k ∧ Hid (q = val (l.take k)) ∧ ∃ n, W = w.drewN n) (fun _ i _ => 8 - (intOf i).toNat)
    case atStart => exact ⟨0, 0, by omega, rfl, rfl, rfl, 0, rfl⟩
    case round =>
      obtain ⟨k, q, hk, rfl, rfl, HQ, m, rfl⟩ := hrel
      by_cases hlt : k < 8
      · obtain ⟨ad, rfl, x1⟩ := H1.out k (by have := HL.out; omega)
        have hx := byts_at HBY.out k (by have := HL.out; omega)
        have hqb := val_take_bd HBY.out k (by omega) HL.out
        rw [← HQ.out] at hqb
        have hws : IntKind.u64.wrap (q * 256) = q * 256 := wraps_u64 _ (by omega) (by simp only [Int.reducePow]; omega)
        have hwx : IntKind.u64.wrap (l.getD k 0) = l.getD k 0 := wraps_u64 _ (by omega) (by simp only [Int.reducePow]; omega)
        have hwa : IntKind.u64.wrap (q * 256 + l.getD k 0) = q * 256 + l.getD k 0 := wraps_u64 _ (by omega) (by simp only [Int.reducePow]; omega)
        have HN := Lib.hid (show q * 256 + l.getD k 0 = val (l.take (k + 1)) by rw [take_snoc l k (by have := HL.out; omega), val_snoc, HQ.out])
        generalize l.getD k 0 = x at x1 hwx hwa HN
        generalize hq2 : q * 256 + x = q2 at hwa HN
        have HQ2 := Lib.hid hq2
        clear hx hqb hq2
        have hk0 : (0 : Int) ≤ (k : Int) := by omega
        have hk1 : (k : Int) < 8 := by omega
        have hk2 : (k : Int) < (l.length : Int) := by omega
        go_wp2
        go_roundw
        case rel => exact ⟨k + 1, q2, by omega, by rw [← HQ2.out]; first | rfl | (rw [HQ2.out, hwa]), by go_num, HN, _, rfl⟩
        case measure => simp [intOf]; omega
      · have hk' : k = 8 := by omega
        subst hk'
        rw [List.take_of_length_le (by rw [HL.out]; exact Nat.le_refl _)] at HQ
        have HQ2 := HQ.out
        subst HQ2
        obtain ⟨ad, rfl, x1⟩ := H1.out 0 (by have := HL.out; omega)
        rw [show ad.add 0 = ad by simp [Addr.add]] at x1
        have x2 : (w.drewN m).cell? ad = some (.int .u8 (l.getD 0 0)) := by simpa using x1
        have HBW := Lib.hid (below_drewN w m)
        clear x1
        generalize w.drewN m = wz at x2 HBW ⊢
        have h7 := H7.out
        have hxn := b_not (val l) HV.out.1 HV.out.2
        rw [← max_u64] at hxn
        have hsub : 9223372036854775808 ≤ val l → IntKind.u64.wrap (val l - 9223372036854775808) = val l - 9223372036854775808 := fun h => wraps_u64 _ (by omega) (by have := HV.out; simp only [Int.reducePow]; omega)
        have e1 := E1.out
        unfold unrankU at e1
        generalize l.getD 0 0 = x at x2 h7
        by_cases hx : 128 ≤ x
        · have hd : decide (128 ≤ x) = true := decide_eq_true hx
          rw [if_pos (h7.1 hx)] at e1
          have hs : IntKind.u64.wrap (val l - 9223372036854775808) = u := by rw [hsub (h7.1 hx)]; exact e1
          clear h7 hxn hsub e1 hx E1 HV HQ H7
          generalize val l = q at *
          have e2 := E2.out
          cases b' with
          | true =>
            go_wp2_with fail
            clear hs e2
            refine (C1.out _).mono ?_
            rintro e w1 ⟨rfl, rfl⟩
            go_wp2
            go_ret2
            obtain ⟨rfl, rfl⟩ : n' = n ∧ true = b := by simpa using HE.out
            exact ⟨rfl, HBW.out⟩
          | false =>
            go_wp2_with fail
            clear hs e2
            refine (C1.out _).mono ?_
            rintro e w1 ⟨rfl, rfl⟩
            go_wp2
            go_ret2
            obtain ⟨rfl, rfl⟩ : 0 = n ∧ false = b := by simpa using HE.out
            exact ⟨rfl, HBW.out⟩
        · have hd : decide (128 ≤ x) = false := decide_eq_false hx
          rw [if_neg (fun h => hx (h7.2 h))] at e1
          have hs : bits .xor .u64 IntKind.u64.max (val l) = u := by rw [hxn, max_u64]; exact e1
          clear h7 hxn hsub e1 hx E1 HV HQ H7
          generalize val l = q at *
          have e2 := E2.out
          cases b' with
          | true =>
            go_wp2_with fail
            clear hs e2
            refine (C1.out _).mono ?_
            rintro e w1 ⟨rfl, rfl⟩
            go_wp2
            go_ret2
            obtain ⟨rfl, rfl⟩ : n' = n ∧ true = b := by simpa using HE.out
            exact ⟨rfl, HBW.out⟩
          | false =>
            go_wp2_with fail
            clear hs e2
            refine (C1.out _).mono ?_
            rintro e w1 ⟨rfl, rfl⟩
            go_wp2
            go_ret2
            obtain ⟨rfl, rfl⟩ : 0 = n ∧ false = b := by simpa using HE.out
            exact ⟨rfl, HBW.out⟩
  · have hq : ((l.length : Int) != 8) = true := by
      rw [bne_iff_ne]
      omega
    rw [from_not l hl] at he
    obtain ⟨rfl, rfl⟩ : 0 = n ∧ false = b := by simpa using he
    clear he hl hb
    go_enter Tryz.func48, Tryz.ntmps48
    go_wp2
    go_ret2
    exact ⟨rfl, Below.refl _ _⟩
end Go.Proofs.YtikpmlginojnhaaGreatDoor.Fl
