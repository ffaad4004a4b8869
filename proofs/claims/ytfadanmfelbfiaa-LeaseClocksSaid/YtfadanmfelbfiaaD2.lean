/- LeaseClocks: every row of Ticks is answered as the document says. -/
import Derived.Test.YtfadanmfelbfiaaC2
namespace Go.Proofs.Ytfadanmfelbfiaa.L
open Go.RowKit Go.Maps Go.Proofs.YtfadanmfelbfiaaW.PrintWords Go.Proofs.YtfadanmfelbfiaaW.PrintLast Go.Proofs.YtfadanmfelbfiaaW.PrintMore
set_option linter.unusedVariables false
set_option linter.unusedSimpArgs false
/-- The program's clocks and the document's, side by side, made by the call. -/
structure Cs (w W : World) (B g R h : Nat) (l1 l2 : List Int) (s : Int) : Prop where
  c1 : Clk 57 W B g l1 s
  c2 : Clk 59 W R h l2 s
  bel : Below w.heap.size w W
  ge : w.heap.size ≤ B ∧ w.heap.size ≤ g ∧ w.heap.size ≤ R ∧ w.heap.size ≤ h
  ne : R ≠ B ∧ R ≠ g ∧ h ≠ B ∧ h ≠ g
  b1 : CB l1
  b2 : CB l2
  s0 : 0 ≤ s
  s1 : s ≤ 1000
theorem Cs.below {w W W' : World} {B g R h : Nat} {l1 l2 : List Int} {s : Int} (H : Cs w W B g R h l1 l2 s) (hb : Below W.heap.size W W') : Cs w W' B g R h l1 l2 s :=
  ⟨H.c1.of_eq (hb.block _ (lt_of_block H.c1.box)) (hb.block _ H.c1.row.lt), H.c2.of_eq (hb.block _ (lt_of_block H.c2.box)) (hb.block _ H.c2.row.lt), H.bel.trans (hb.mono H.bel.size), H.ge, H.ne, H.b1, H.b2, H.s0, H.s1⟩
section
variable {w W : World} {B g R h : Nat} {l1 l2 : List Int} {s : Int}
theorem cs_tick (H : Cs w W B g R h l1 l2 s) (n b : Int) (r : Bool) (l' : List Int) (ht : Tk l1 s n b r l') :
    Calls Try.prog 11 #[.pointer (some ⟨B, 0, none⟩), .int .i64 n, .int .i64 b] W fun e W' => e = .returned (.bool r) ∧ Cs w W' B g R h l' l2 s :=
  (tick W B g l1 s n b H.c1 H.b1 H.s0 H.s1).mono fun e W' ⟨r1, m, he, ht1, hk, hb⟩ => by
    obtain ⟨rfl, rfl⟩ := ht1.unique ht
    exact ⟨he, hk, H.c2.of_eq (hb.block _ (lt_of_block H.c2.box) (by have := H.ne; omega)) (hb.block _ H.c2.row.lt (by have := H.ne; omega)), H.bel.trans (hb.to_below H.bel.size (fun k hk => by have := H.ge; omega)), H.ge, H.ne, (ht.cb H.b1).1, H.b2, H.s0, H.s1⟩
theorem cs_rTick (H : Cs w W B g R h l1 l2 s) (n b : Int) (r : Bool) (l' : List Int) (ht : Tk l2 s n b r l') :
    Calls Try.prog 12 #[.pointer (some ⟨R, 0, none⟩), .int .i64 n, .int .i64 b] W fun e W' => e = .returned (.bool r) ∧ Cs w W' B g R h l1 l' s :=
  (rTick W R h l2 s n b H.c2 H.b2 H.s0 H.s1).mono fun e W' ⟨r1, m, he, ht1, hk, hb⟩ => by
    obtain ⟨rfl, rfl⟩ := ht1.unique ht
    exact ⟨he, H.c1.of_eq (hb.block _ (lt_of_block H.c1.box) (by have := H.ne; omega)) (hb.block _ H.c1.row.lt (by have := H.ne; omega)), hk, H.bel.trans (hb.to_below H.bel.size (fun k hk => by have := H.ge; omega)), H.ge, H.ne, H.b1, (ht.cb H.b2).1, H.s0, H.s1⟩
theorem cs_now (H : Cs w W B g R h l1 l2 s) (n x : Int) (hx : nowI l1 n = x) :
    Calls Try.prog 13 #[.pointer (some ⟨B, 0, none⟩), .int .i64 n] W fun e W' => e = .returned (.int .i64 x) ∧ Cs w W' B g R h l1 l2 s :=
  (now W B g l1 s n H.c1 H.b1.lo H.b1.hi).mono fun e W' ⟨he, hd⟩ => by
    rw [hx] at he
    obtain ⟨q, rfl⟩ := hd.out
    exact ⟨he, H.below (below_drewN (Below.refl _ _) _)⟩
theorem cs_rNow (H : Cs w W B g R h l1 l2 s) (n x : Int) (hx : nowI l2 n = x) :
    Calls Try.prog 14 #[.pointer (some ⟨R, 0, none⟩), .int .i64 n] W fun e W' => e = .returned (.int .i64 x) ∧ Cs w W' B g R h l1 l2 s :=
  (rNow W R h l2 s n H.c2 H.b2.lo H.b2.hi).mono fun e W' ⟨he, hd⟩ => by
    rw [hx] at he
    obtain ⟨q, rfl⟩ := hd.out
    exact ⟨he, H.below (below_drewN (Below.refl _ _) _)⟩
theorem cs_spread (H : Cs w W B g R h l1 l2 s) (x : Int) (hx : IsSpread l1 x) :
    Calls Try.prog 15 #[.pointer (some ⟨B, 0, none⟩)] W fun e W' => e = .returned (.int .i64 x) ∧ Cs w W' B g R h l1 l2 s :=
  (spread W B g l1 s H.c1 H.b1).mono fun e W' ⟨x1, he, hx1, hd⟩ => by
    obtain rfl := hx1.unique hx
    obtain ⟨q, rfl⟩ := hd.out
    exact ⟨he, H.below (below_drewN (Below.refl _ _) _)⟩
theorem cs_rSpread (H : Cs w W B g R h l1 l2 s) (x : Int) (hx : IsSpread l2 x) :
    Calls Try.prog 16 #[.pointer (some ⟨R, 0, none⟩)] W fun e W' => e = .returned (.int .i64 x) ∧ Cs w W' B g R h l1 l2 s :=
  (rSpread W R h l2 s H.c2 H.b2).mono fun e W' ⟨x1, he, hx1, hd⟩ => by
    obtain rfl := hx1.unique hx
    obtain ⟨q, rfl⟩ := hd.out
    exact ⟨he, H.below (below_drewN (Below.refl _ _) _)⟩
end
theorem IsSpread.exists (l : List Int) (h : 1 ≤ l.length) : ∃ x, IsSpread l x := by
  obtain ⟨x, ⟨i, hi, ei⟩, h2⟩ := IsMax.exists l l.length h
  obtain ⟨y, ⟨j, hj, ej⟩, k2⟩ := IsMin.exists l l.length h
  refine ⟨x - y, ⟨i, j, hi, hj, by omega⟩, fun a b ha hb => ?_⟩
  have := h2 a ha
  have := k2 b hb
  omega
theorem Tk.exists (l : List Int) (s n b : Int) : ∃ r l', Tk l s n b r l' := by
  by_cases h : TickOk l s n b
  · exact ⟨true, _, Or.inl ⟨h, rfl, rfl⟩⟩
  · exact ⟨false, _, Or.inr ⟨h, rfl, rfl⟩⟩
theorem tight_rep (n : Nat) (s : Int) (h : 0 ≤ s) : Tight (List.replicate n 0) s := fun i k hi hk => by
  simp at hi hk
  simp [List.getD_eq_getElem?_getD, List.getElem?_replicate, hi, hk, h]
set_option maxHeartbeats 8000000 in
set_option maxRecDepth 100000 in
theorem leaseClocks_in (w : World) (n : Nat) (s : Int) (A : Option Addr) (c : Nat) (l : Gs) (hl : HasT w A l) (hlen : l.length ≤ 300) (h1 : 1 ≤ n) (h2 : n ≤ 5) (h3 : 0 ≤ s) (h4 : s ≤ 1000) :
    Calls Try.prog 3 #[.int .i64 n, .int .i64 s, .slice A l.length c] w fun e w' => e = .returned (.bool true) ∧ Below w.heap.size w w' := by
  have HL := Lib.hid hl
  clear hl
  have d1 : decide (300 < (l.length : Int)) = false := decide_eq_false (by omega)
  go_enter Try.func3, Try.ntmps3
  go_wp2_with (go_at_call 8; refine (alive _).mono ?_; rintro e w1 ⟨rfl, hb1⟩; have HB1 := Lib.hid hb1; clear hb1)
  have c1 := Lib.hid (newClocks_yes n s w1 h1 h2 h3 h4)
  go_wp2_with (go_at_call 9; refine c1.out.mono ?_; rintro e w2 ⟨B, g, hB, hg, rfl, hck, hbel⟩)
  have c2 := Lib.hid (rNewClocks_yes n s w2 h1 h2 h3 h4)
  have HCK := Lib.hid hck
  have HBE := Lib.hid hbel
  clear hck hbel
  go_wp2_with (go_at_call 10; refine c2.out.mono ?_; rintro e w3 ⟨R, h, hR, hh, rfl, hck2, hbel2⟩; have hst : Cs w w3 B g R h (List.replicate n 0) (List.replicate n 0) s := (have hlt1 := lt_of_block HCK.out.box; have hlt2 := HCK.out.row.lt; have hz1 := HB1.out.size; have hz2 := HBE.out.size; ⟨HCK.out.of_eq (hbel2.block _ hlt1) (hbel2.block _ hlt2), hck2, (HB1.out.trans (HBE.out.mono hz1)).trans (hbel2.mono (by omega)), by omega, by omega, cb_rep n h1 h2, cb_rep n h1 h2, h3, h4⟩); have HS := Lib.hid hst; clear hst hck2 hbel2 hR hh hB hg)
  go_loopg [11] l.length (fun gg v11 wr => ∃ (k : Nat) (m : List Int), k ≤ l.length ∧ l.length - k ≤ gg ∧ v11 = .int .i64 k ∧ Hid (Cs w wr B g R h m m s) ∧ Hid (Tight m s))
  case atStart => exact ⟨0, _, by omega, by omega, rfl, HS, tight_rep n s h3⟩
  case round =>
    clear HS
    obtain ⟨k, m, hk, hg, rfl, HS, HT⟩ := hrel
    by_cases hlt : k < l.length
    · obtain ⟨ad, e, hw1, hw2⟩ := HL.out k hlt
      subst e
      generalize l.getD k (0, 0) = x at hw1 hw2
      obtain ⟨a, b⟩ := x
      simp only at hw1 hw2
      have hv1 := cell_below HS.out.bel hw1
      have hv2 := cell_below HS.out.bel hw2
      have HW1 := Lib.hid hw1
      have HW2 := Lib.hid hw2
      clear hw1 hw2
      have hk0 : (0 : Int) ≤ (k : Int) := by omega
      have hk1 : (k : Int) < (l.length : Int) := by omega
      obtain ⟨r, m', ht⟩ := Tk.exists m s a b
      have HTK := Lib.hid ht
      have HT' := Lib.hid (ht.tight HT.out h3)
      have HCB := Lib.hid (ht.cb HS.out.b1).1
      obtain ⟨y, hy⟩ := IsSpread.exists m' HCB.out.lo
      have hys : y ≤ s := by
        obtain ⟨⟨i, j, hi, hj, e⟩, _⟩ := hy
        have := HT'.out i j hi hj
        omega
      have HY := Lib.hid hy
      clear ht hy
      have hrr : (r != r) = false := by simp
      obtain ⟨z, hz⟩ : ∃ z, nowI m' a = z := ⟨_, rfl⟩
      have HZ := Lib.hid hz
      clear hz
      have hzz : (z != z) = false := by simp
      have hyy : (y != y) = false := by simp
      have hgt : decide (y > s) = false := decide_eq_false (by omega)
      go_wp2
      go_region_held3 (fun W => W.cell? (ad.add (k * 2)) = some (.int .i64 a) ∧ W.cell? ⟨(ad.add (k * 2)).block, (ad.add (k * 2)).off + 1, none⟩ = some (.int .i64 b)) (first | exact ⟨cell_below HS.out.bel HW1.out, cell_below HS.out.bel HW2.out⟩ | go_keep)
        (first
          | (go_at_call 11; ((with_reducible refine (cs_tick (HS.out.below ((Below.refl _ _).drew)) a b r m' HTK.out).mono ?_); rintro e w' ⟨rfl, hs⟩; clear HS; have HS := Lib.hid hs; clear hs))
          | (go_at_call 12; ((with_reducible refine (cs_rTick HS.out a b r m' HTK.out).mono ?_); rintro e w' ⟨rfl, hs⟩; clear HS; have HS := Lib.hid hs; clear hs))
          | (go_at_call 13; ((with_reducible refine (cs_now HS.out a z HZ.out).mono ?_); rintro e w' ⟨rfl, hs⟩; clear HS; have HS := Lib.hid hs; clear hs))
          | (go_at_call 14; ((with_reducible refine (cs_rNow HS.out a z HZ.out).mono ?_); rintro e w' ⟨rfl, hs⟩; clear HS; have HS := Lib.hid hs; clear hs))
          | (go_at_call 15; ((with_reducible refine (cs_spread HS.out y HY.out).mono ?_); rintro e w' ⟨rfl, hs⟩; clear HS; have HS := Lib.hid hs; clear hs))
          | (go_at_call 16; ((with_reducible refine (cs_rSpread HS.out y HY.out).mono ?_); rintro e w' ⟨rfl, hs⟩; clear HS; have HS := Lib.hid hs; clear hs)))
      go_wp2
      go_roundg (l.length - (k + 1))
      case measure => omega
      case rel => exact ⟨k + 1, m', by omega, by omega, by go_num, HS, HT'⟩
    · have hk' : k = l.length := by omega
      subst hk'
      go_wp2
      go_ret
      exact ⟨rfl, HS.out.bel⟩
set_option maxHeartbeats 4000000 in
theorem leaseClocks (w : World) (n s : Int) (A : Option Addr) (c : Nat) (l : Gs) (hl : HasT w A l) (hlen : l.length ≤ 9223372036854775807) :
    Calls Try.prog 3 #[.int .i64 n, .int .i64 s, .slice A l.length c] w fun e w' => e = .returned (.bool true) ∧ Below w.heap.size w w' := by
  by_cases h1 : l.length ≤ 300
  · by_cases hok : 1 ≤ n ∧ n ≤ 5 ∧ 0 ≤ s ∧ s ≤ 1000
    · obtain ⟨q, rfl⟩ := Int.eq_ofNat_of_zero_le (show 0 ≤ n by omega)
      exact leaseClocks_in w q s A c l hl h1 (by omega) (by omega) hok.2.2.1 hok.2.2.2
    · have c1 := Lib.hid (fun w => newClocks_no n s w hok)
      have c2 := Lib.hid (fun w => rNewClocks_no n s w hok)
      clear hl hok
      go_enter Try.func3, Try.ntmps3
      go_wp2_with (first
        | (go_at_call 8; refine (alive _).mono ?_; rintro e w1 ⟨rfl, hb1⟩; have HB1 := Lib.hid hb1; clear hb1)
        | (go_at_call 9; refine (c1.out _).mono ?_; rintro e w' ⟨rfl, rfl⟩)
        | (go_at_call 10; refine (c2.out _).mono ?_; rintro e w' ⟨rfl, rfl⟩))
      refine wp_loop_rounds 1 ?_
      rw [rounds_succ]
      by_cases h0 : 0 < l.length
      · have h0' : (0 : Int) < (l.length : Int) := by omega
        go_wp2
        go_ret
        exact ⟨rfl, HB1.out⟩
      · have h0' : ¬ (0 : Int) < (l.length : Int) := by omega
        go_wp2
        go_ret
        exact ⟨rfl, HB1.out⟩
  · have h1' : (300 : Int) < (l.length : Int) := by omega
    clear h1 hl
    go_enter Try.func3, Try.ntmps3
    go_wp2_with (go_at_call 8; refine (alive _).mono ?_; rintro e w1 ⟨rfl, hb1⟩; have HB1 := Lib.hid hb1; clear hb1)
    go_ret
    exact ⟨rfl, HB1.out⟩
end Go.Proofs.Ytfadanmfelbfiaa.L
