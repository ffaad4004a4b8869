/- LeaseFree: at the time that is told it may go on, and not ahead of it. -/
import Derived.Test.YtfadanmfelbfiaaC2
namespace Go.Proofs.Ytfadanmfelbfiaa.L
open Go.RowKit Go.Maps Go.Proofs.YtfadanmfelbfiaaW.PrintWords Go.Proofs.YtfadanmfelbfiaaW.PrintLast Go.Proofs.YtfadanmfelbfiaaW.PrintMore
set_option linter.unusedVariables false
set_option linter.unusedSimpArgs false
set_option maxHeartbeats 4000000 in
set_option maxRecDepth 100000 in
theorem leaseFree_in (w : World) (A : Option Addr) (c : Nat) (l : List T3) (v now : Int) (hl : HasL w A l) (hlen : l.length ≤ 200) (hn0 : 0 ≤ now) (hn1 : now ≤ 1099511627776) :
    Calls Try.prog 6 #[.slice A l.length c, .int .i64 v, .int .i64 now] w fun e w' => e = .returned (.bool true) ∧ Below w.heap.size w w' := by
  have HL := Lib.hid hl
  clear hl
  have d1 : decide (200 < (l.length : Int)) = false := decide_eq_false (by omega)
  have d2 : decide (now < 0) = false := decide_eq_false (by omega)
  have d3 : decide (1099511627776 < now) = false := decide_eq_false (by omega)
  go_enter Try.func6, Try.ntmps6
  go_wp2_with (go_at_call 8; refine (alive _).mono ?_; rintro e w1 ⟨rfl, hb1⟩; have HB1 := Lib.hid hb1; clear hb1)
  have c1 := Lib.hid (new_yes 5 w1 (by omega) (by omega))
  go_wp2_with (go_at_call 17; refine c1.out.mono ?_; rintro e w2 ⟨B, g, m, hB, hg, hm, rfl, hbk, hbel⟩; have hst : Bs w w2 B g m (List.replicate 5 (0, 0)) [] 0 := ⟨hbk, HB1.out.trans (hbel.mono HB1.out.size), (by have := HB1.out.size; omega), rb_rep 5 (by omega) (by omega), a_gb0, Nat.le_refl _⟩; have HS := Lib.hid hst; clear hst hbk hbel hB hg hm)
  go_loopg [9] l.length (fun gg v9 wr => ∃ (k : Nat) (gr gs : Gs), k ≤ l.length ∧ l.length - k ≤ gg ∧ v9 = .int .i64 k ∧ Hid (Bs w wr B g m gr gs k))
  case atStart => exact ⟨0, _, _, by omega, by omega, rfl, HS⟩
  case round =>
    clear HS
    obtain ⟨k, gr, gs, hk, hg, rfl, HS⟩ := hrel
    by_cases hlt : k < l.length
    · obtain ⟨ad, e, hv1, hv2, hv3⟩ := (HL.out.below HS.out.bel) k hlt
      subst e
      generalize l.getD k (0, 0, 0) = x at hv1 hv2 hv3
      obtain ⟨a, b, d⟩ := x
      simp only at hv1 hv2 hv3
      have hk0 : (0 : Int) ≤ (k : Int) := by omega
      have hk1 : (k : Int) < (l.length : Int) := by omega
      go_wp2
      go_still_tail 16, (by kernel_rfl)
      change wpList _ _ _ _ _ wr.drew
      go_wp2_with (go_at_call 19; refine (bs_give (HS.out.below ((Below.refl _ _).drew)) (by omega) a b d).mono ?_; rintro e w' ⟨r, gr', gs', rfl, hv, hs⟩; clear HS; have HS := Lib.hid hs; clear hs hv)
      go_roundg (l.length - (k + 1))
      case measure => omega
      case rel => exact ⟨k + 1, gr', gs', by omega, by omega, by go_num, HS⟩
    · have hk' : k = l.length := by omega
      subst hk'
      obtain ⟨x, hx⟩ := FreeIs.exists gs v now
      have hle := hx.le HS.out.gb hn1
      have hge := hx.1
      have HX := Lib.hid hx
      clear hx
      by_cases hxn : x = now
      · subst hxn
        have e1 : (x == x) = true := by simp
        go_wp2_with (first
          | (go_at_call 27; ((with_reducible refine (bs_free HS.out v x x HX.out).mono ?_); rintro e w' ⟨rfl, hs⟩; clear HS; have HS := Lib.hid hs; clear hs))
          | (go_at_call 25; ((with_reducible refine (bs_may HS.out (by omega) v x true (HX.out.may (Int.le_refl _))).mono ?_); rintro e w' ⟨rfl, hs⟩; clear HS; have HS := Lib.hid hs; clear hs))
          | (go_at_call 25; ((with_reducible refine (bs_may HS.out (by omega) v (x + 1) true (HX.out.may (by omega))).mono ?_); rintro e w' ⟨rfl, hs⟩; clear HS; have HS := Lib.hid hs; clear hs)))
        go_ret
        exact ⟨rfl, HS.out.bel⟩
      · have e1 : (x == now) = false := by simpa using hxn
        have HXN := Lib.hid hxn
        clear hxn
        go_wp2_with (first
          | (go_at_call 27; ((with_reducible refine (bs_free HS.out v now x HX.out).mono ?_); rintro e w' ⟨rfl, hs⟩; clear HS; have HS := Lib.hid hs; clear hs))
          | (go_at_call 25; ((with_reducible refine (bs_may HS.out (by omega) v x true (HX.out.may (Int.le_refl _))).mono ?_); rintro e w' ⟨rfl, hs⟩; clear HS; have HS := Lib.hid hs; clear hs))
          | (go_at_call 25; ((with_reducible refine (bs_may HS.out (by omega) v (x + 1) true (HX.out.may (by omega))).mono ?_); rintro e w' ⟨rfl, hs⟩; clear HS; have HS := Lib.hid hs; clear hs))
          | (go_at_call 25; ((with_reducible refine (bs_may HS.out (by omega) v (x - 1) false (HX.out.not_may HXN.out)).mono ?_); rintro e w' ⟨rfl, hs⟩; clear HS; have HS := Lib.hid hs; clear hs)))
        go_ret
        exact ⟨rfl, HS.out.bel⟩
set_option maxHeartbeats 4000000 in
theorem leaseFree (w : World) (A : Option Addr) (c : Nat) (l : List T3) (v now : Int) (hl : HasL w A l) (hlen : l.length ≤ 9223372036854775807) :
    Calls Try.prog 6 #[.slice A l.length c, .int .i64 v, .int .i64 now] w fun e w' => e = .returned (.bool true) ∧ Below w.heap.size w w' := by
  by_cases h1 : l.length ≤ 200
  · by_cases h2 : 0 ≤ now
    · by_cases h3 : now ≤ 1099511627776
      · exact leaseFree_in w A c l v now hl h1 h2 h3
      · have h3' : 1099511627776 < now := by omega
        clear h3 hl
        go_enter Try.func6, Try.ntmps6
        go_wp2_with (go_at_call 8; refine (alive _).mono ?_; rintro e w1 ⟨rfl, hb1⟩; have HB1 := Lib.hid hb1; clear hb1)
        go_ret
        exact ⟨rfl, HB1.out⟩
    · have h2' : now < 0 := by omega
      clear h2 hl
      go_enter Try.func6, Try.ntmps6
      go_wp2_with (go_at_call 8; refine (alive _).mono ?_; rintro e w1 ⟨rfl, hb1⟩; have HB1 := Lib.hid hb1; clear hb1)
      go_ret
      exact ⟨rfl, HB1.out⟩
  · have h1' : (200 : Int) < (l.length : Int) := by omega
    clear h1 hl
    go_enter Try.func6, Try.ntmps6
    go_wp2_with (go_at_call 8; refine (alive _).mono ?_; rintro e w1 ⟨rfl, hb1⟩; have HB1 := Lib.hid hb1; clear hb1)
    go_ret
    exact ⟨rfl, HB1.out⟩
end Go.Proofs.Ytfadanmfelbfiaa.L
