/- LeaseElder: what holds a version may go on no sooner than what holds an elder one. -/
import Derived.Test.YtfadanmfelbfiaaC2
namespace Go.Proofs.Ytfadanmfelbfiaa.L
open Go.RowKit Go.Maps Go.Proofs.YtfadanmfelbfiaaW.PrintWords Go.Proofs.YtfadanmfelbfiaaW.PrintLast Go.Proofs.YtfadanmfelbfiaaW.PrintMore
set_option linter.unusedVariables false
set_option linter.unusedSimpArgs false
set_option maxHeartbeats 4000000 in
set_option maxRecDepth 100000 in
theorem leaseElder_in (w : World) (A : Option Addr) (c : Nat) (l : List T3) (v now : Int) (hl : HasL w A l) (hlen : l.length ≤ 200) (hv0 : 1 ≤ v) (hv1 : v ≤ 1099511627776) (hn0 : 0 ≤ now) (hn1 : now ≤ 1099511627776) :
    Calls Try.prog 7 #[.slice A l.length c, .int .i64 v, .int .i64 now] w fun e w' => e = .returned (.bool true) ∧ Below w.heap.size w w' := by
  have HL := Lib.hid hl
  clear hl
  have d1 : decide (200 < (l.length : Int)) = false := decide_eq_false (by omega)
  have d2 : decide (now < 0) = false := decide_eq_false (by omega)
  have d3 : decide (1099511627776 < now) = false := decide_eq_false (by omega)
  have d4 : decide (v < 1) = false := decide_eq_false (by omega)
  have d5 : decide (1099511627776 < v) = false := decide_eq_false (by omega)
  go_enter Try.func7, Try.ntmps7
  go_wp2_with (go_at_call 8; refine (alive _).mono ?_; rintro e w1 ⟨rfl, hb1⟩; have HB1 := Lib.hid hb1; clear hb1)
  have c1 := Lib.hid (new_yes 5 w1 (by omega) (by omega))
  go_wp2_with (go_at_call 17; refine c1.out.mono ?_; rintro e w2 ⟨B, g, m, hB, hg, hm, rfl, hbk, hbel⟩; have hst : Bs w w2 B g m (List.replicate 5 (0, 0)) [] 0 := ⟨hbk, HB1.out.trans (hbel.mono HB1.out.size), (by have := HB1.out.size; omega), rb_rep 5 (by omega) (by omega), a_gb0, Nat.le_refl _⟩; have HS := Lib.hid hst; clear hst hbk hbel hB hg hm)
  go_loopg [9] l.length (fun gg v9 wr => ∃ (k : Nat) (gr gs : Gs), k ≤ l.length ∧ l.length - k ≤ gg ∧ v9 = .int .i64 k ∧ Hid (Bs w wr B g m gr gs k))
  case atStart => exact ⟨0, _, _, by omega, by omega, rfl, HS⟩
  case round =>
    clear HS
    obtain ⟨k, gr, gs, hk, hg, rfl, HS⟩ := hrel
    by_cases hlt : k < l.length
    · obtain ⟨ad, e, hv1, hv2, hv3⟩ := (HL.out.below HS.out.bel) k hlt
      subst e
      generalize l.getD k (0, 0, 0) = x at hv1 hv2 hv3
      obtain ⟨a, b, d⟩ := x
      simp only at hv1 hv2 hv3
      have hk0 : (0 : Int) ≤ (k : Int) := by omega
      have hk1 : (k : Int) < (l.length : Int) := by omega
      go_wp2
      go_still_tail 16, (by kernel_rfl)
      change wpList _ _ _ _ _ wr.drew
      go_wp2_with (go_at_call 19; refine (bs_give (HS.out.below ((Below.refl _ _).drew)) (by omega) a b d).mono ?_; rintro e w' ⟨r, gr', gs', rfl, hv, hs⟩; clear HS; have HS := Lib.hid hs; clear hs hv)
      obtain ⟨x, hx⟩ := FreeIs.exists gs' v now
      obtain ⟨y, hy⟩ := FreeIs.exists gs' (v - 1) now
      have hyx := hx.mono hy (by omega)
      have HX := Lib.hid hx
      have HY := Lib.hid hy
      clear hx hy
      obtain ⟨m1, hm1⟩ := MayIs.exists gs' v now
      cases m1 with
      | true =>
        have HM := Lib.hid hm1
        clear hm1
        go_wp2_with (first
          | (go_at_call 25; ((with_reducible refine (bs_may HS.out (by omega) v now true HM.out).mono ?_); rintro e w' ⟨rfl, hs⟩; clear HS; have HS := Lib.hid hs; clear hs))
          | (go_at_call 25; ((with_reducible refine (bs_may HS.out (by omega) (v - 1) now true (HM.out.mono (by omega) (by omega))).mono ?_); rintro e w' ⟨rfl, hs⟩; clear HS; have HS := Lib.hid hs; clear hs))
          | (go_at_call 25; ((with_reducible refine (bs_may HS.out (by omega) v (now + 1) true (HM.out.mono (by omega) (by omega))).mono ?_); rintro e w' ⟨rfl, hs⟩; clear HS; have HS := Lib.hid hs; clear hs))
          | (go_at_call 27; ((with_reducible refine (bs_free HS.out v now x HX.out).mono ?_); rintro e w' ⟨rfl, hs⟩; clear HS; have HS := Lib.hid hs; clear hs))
          | (go_at_call 27; ((with_reducible refine (bs_free HS.out (v - 1) now y HY.out).mono ?_); rintro e w' ⟨rfl, hs⟩; clear HS; have HS := Lib.hid hs; clear hs)))
        go_roundg (l.length - (k + 1))
        case measure => omega
        case rel => exact ⟨k + 1, gr', gs', by omega, by omega, by go_num, HS⟩
      | false =>
        have HM := Lib.hid hm1
        clear hm1
        go_wp2_with (first
          | (go_at_call 25; ((with_reducible refine (bs_may HS.out (by omega) v now false HM.out).mono ?_); rintro e w' ⟨rfl, hs⟩; clear HS; have HS := Lib.hid hs; clear hs))
          | (go_at_call 27; ((with_reducible refine (bs_free HS.out v now x HX.out).mono ?_); rintro e w' ⟨rfl, hs⟩; clear HS; have HS := Lib.hid hs; clear hs))
          | (go_at_call 27; ((with_reducible refine (bs_free HS.out (v - 1) now y HY.out).mono ?_); rintro e w' ⟨rfl, hs⟩; clear HS; have HS := Lib.hid hs; clear hs)))
        go_roundg (l.length - (k + 1))
        case measure => omega
        case rel => exact ⟨k + 1, gr', gs', by omega, by omega, by go_num, HS⟩
    · have hk' : k = l.length := by omega
      subst hk'
      obtain ⟨x, ok, hx⟩ := OldIs.exists gs now
      have HX := Lib.hid hx
      clear hx
      cases ok with
      | false =>
        go_wp2_with (go_at_call 23; ((with_reducible refine (bs_old HS.out (by omega) now x false HX.out).mono ?_); rintro e w' ⟨rfl, hs⟩; clear HS; have HS := Lib.hid hs; clear hs))
        go_ret
        exact ⟨rfl, HS.out.bel⟩
      | true =>
        have hb : 1 ≤ x ∧ x ≤ 1099511627776 := by
          rcases HX.out with ⟨e, _⟩ | ⟨_, ⟨p, hp, rfl, _⟩, _⟩
          · cases e
          · have := HS.out.gb p hp; omega
        have h1 : MayIs gs x now true := by
          rcases HX.out with ⟨e, _⟩ | ⟨_, _, h⟩
          · cases e
          · exact ⟨fun _ p hp hn => h p hp hn, fun _ => rfl⟩
        have h2 : MayIs gs (x + 1) now false := by
          rcases HX.out with ⟨e, _⟩ | ⟨_, ⟨p, hp, e, hn⟩, _⟩
          · cases e
          · exact ⟨(fun e => by cases e), fun hh => by have := hh p hp hn; omega⟩
        have H1 := Lib.hid h1
        have H2 := Lib.hid h2
        clear h1 h2
        go_wp2_with (first
          | (go_at_call 23; ((with_reducible refine (bs_old HS.out (by omega) now x true HX.out).mono ?_); rintro e w' ⟨rfl, hs⟩; clear HS; have HS := Lib.hid hs; clear hs))
          | (go_at_call 25; ((with_reducible refine (bs_may HS.out (by omega) (x + 1) now false H2.out).mono ?_); rintro e w' ⟨rfl, hs⟩; clear HS; have HS := Lib.hid hs; clear hs))
          | (go_at_call 25; ((with_reducible refine (bs_may HS.out (by omega) x now true H1.out).mono ?_); rintro e w' ⟨rfl, hs⟩; clear HS; have HS := Lib.hid hs; clear hs)))
        go_ret
        exact ⟨rfl, HS.out.bel⟩
set_option maxHeartbeats 4000000 in
theorem leaseElder (w : World) (A : Option Addr) (c : Nat) (l : List T3) (v now : Int) (hl : HasL w A l) (hlen : l.length ≤ 9223372036854775807) :
    Calls Try.prog 7 #[.slice A l.length c, .int .i64 v, .int .i64 now] w fun e w' => e = .returned (.bool true) ∧ Below w.heap.size w w' := by
  by_cases h1 : l.length ≤ 200
  · by_cases hok : 1 ≤ v ∧ v ≤ 1099511627776 ∧ 0 ≤ now ∧ now ≤ 1099511627776
    · exact leaseElder_in w A c l v now hl h1 hok.1 hok.2.1 hok.2.2.1 hok.2.2.2
    · rcases (by omega : v < 1 ∨ (1 ≤ v ∧ 1099511627776 < v) ∨ (1 ≤ v ∧ v ≤ 1099511627776 ∧ now < 0) ∨ (1 ≤ v ∧ v ≤ 1099511627776 ∧ 0 ≤ now ∧ 1099511627776 < now)) with h | ⟨h2, h3⟩ | ⟨h2, h3, h4⟩ | ⟨h2, h3, h4, h5⟩
      · clear hok hl
        go_enter Try.func7, Try.ntmps7
        go_wp2_with (go_at_call 8; refine (alive _).mono ?_; rintro e w1 ⟨rfl, hb1⟩; have HB1 := Lib.hid hb1; clear hb1)
        go_ret
        exact ⟨rfl, HB1.out⟩
      · clear hok hl
        go_enter Try.func7, Try.ntmps7
        go_wp2_with (go_at_call 8; refine (alive _).mono ?_; rintro e w1 ⟨rfl, hb1⟩; have HB1 := Lib.hid hb1; clear hb1)
        go_ret
        exact ⟨rfl, HB1.out⟩
      · clear hok hl
        go_enter Try.func7, Try.ntmps7
        go_wp2_with (go_at_call 8; refine (alive _).mono ?_; rintro e w1 ⟨rfl, hb1⟩; have HB1 := Lib.hid hb1; clear hb1)
        go_ret
        exact ⟨rfl, HB1.out⟩
      · clear hok hl
        go_enter Try.func7, Try.ntmps7
        go_wp2_with (go_at_call 8; refine (alive _).mono ?_; rintro e w1 ⟨rfl, hb1⟩; have HB1 := Lib.hid hb1; clear hb1)
        go_ret
        exact ⟨rfl, HB1.out⟩
  · have h1' : (200 : Int) < (l.length : Int) := by omega
    clear h1 hl
    go_enter Try.func7, Try.ntmps7
    go_wp2_with (go_at_call 8; refine (alive _).mono ?_; rintro e w1 ⟨rfl, hb1⟩; have HB1 := Lib.hid hb1; clear hb1)
    go_ret
    exact ⟨rfl, HB1.out⟩
end Go.Proofs.Ytfadanmfelbfiaa.L
