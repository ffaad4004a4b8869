/- LeaseGives: every row of Gives is answered as the document says, and every question. -/
import Derived.Test.YtfadanmfelbfiaaC2
namespace Go.Proofs.Ytfadanmfelbfiaa.L
open Go.RowKit Go.Maps Go.Proofs.YtfadanmfelbfiaaW.PrintWords Go.Proofs.YtfadanmfelbfiaaW.PrintLast Go.Proofs.YtfadanmfelbfiaaW.PrintMore
set_option linter.unusedVariables false
set_option linter.unusedSimpArgs false
/-- The program's book and the document's, side by side, made by the call. -/
structure Ds0 (w W : World) (B g m R gv gu : Nat) (v3 v4 : Value) (gr gs gr2 gs2 : Gs) (n : Nat) : Prop where
  bk : Bk W B g m gr gs
  rk : RBk W R gv gu v3 v4 gr2 gs2
  bel : Below w.heap.size w W
  ge : w.heap.size ≤ B ∧ w.heap.size ≤ g ∧ w.heap.size ≤ m
  gef : ∀ k, RF R gv gu v3 v4 k → w.heap.size ≤ k
  ne : ∀ k, RF R gv gu v3 v4 k → k ≠ B ∧ k ≠ g ∧ k ≠ m
  rb : RB gr
  gb : GB gs
  rb2 : RB gr2
  gb2 : GB gs2
  len : gs.length ≤ n
  len2 : gs2.length ≤ n
/-- .. and a lease that was loaded. -/
structure Ds (w W : World) (B g m R gv gu : Nat) (v3 v4 : Value) (gr gs gr2 gs2 : Gs) (n X : Nat) (a b d : Int) : Prop extends Ds0 w W B g m R gv gu v3 v4 gr gs gr2 gs2 n where
  xb : W.heap[X]? = some (.cells #[.int .i64 a, .int .i64 b, .int .i64 d] 45 (0, 0))
  xn : X ≠ B ∧ X ≠ g ∧ X ≠ m
  xf : ∀ k, RF R gv gu v3 v4 k → k ≠ X
section
variable {w W W' : World} {B g m R gv gu : Nat} {v3 v4 : Value} {gr gs gr2 gs2 : Gs} {n X : Nat} {a b d : Int}
theorem Ds0.below (H : Ds0 w W B g m R gv gu v3 v4 gr gs gr2 gs2 n) (hb : Below W.heap.size W W') : Ds0 w W' B g m R gv gu v3 v4 gr gs gr2 gs2 n :=
  ⟨H.bk.below hb, H.rk.below hb, H.bel.trans (hb.mono H.bel.size), H.ge, H.gef, H.ne, H.rb, H.gb, H.rb2, H.gb2, H.len, H.len2⟩
theorem Ds.below (H : Ds w W B g m R gv gu v3 v4 gr gs gr2 gs2 n X a b d) (hb : Below W.heap.size W W') : Ds w W' B g m R gv gu v3 v4 gr gs gr2 gs2 n X a b d :=
  ⟨H.toDs0.below hb, (hb.block _ (lt_of_block H.xb)).trans H.xb, H.xn, H.xf⟩
theorem Ds0.load (H : Ds0 w W B g m R gv gu v3 v4 gr gs gr2 gs2 n) (a b d : Int) : Ds w (W.alloc (.cells #[.int .i64 a, .int .i64 b, .int .i64 d] 45)) B g m R gv gu v3 v4 gr gs gr2 gs2 n W.heap.size a b d :=
  ⟨H.below ((Below.refl _ _).alloc (Nat.le_refl _) _), heap_alloc_new _ _, by have := H.bk.lt; omega, fun k hk => by have := H.rk.lt k hk; omega⟩
theorem Ds.x0 (H : Ds w W B g m R gv gu v3 v4 gr gs gr2 gs2 n X a b d) : W.cell? ⟨X, 0, none⟩ = some (.int .i64 a) := by simp [World.cell?, H.xb]
theorem Ds.x1 (H : Ds w W B g m R gv gu v3 v4 gr gs gr2 gs2 n X a b d) : W.cell? ⟨X, 1, none⟩ = some (.int .i64 b) := by simp [World.cell?, H.xb]
theorem Ds.x2 (H : Ds w W B g m R gv gu v3 v4 gr gs gr2 gs2 n X a b d) : W.cell? ⟨X, 2, none⟩ = some (.int .i64 d) := by simp [World.cell?, H.xb]
theorem ds_give (H : Ds w W B g m R gv gu v3 v4 gr gs gr2 gs2 n X a b d) (hn : n < 1000000) (p v u : Int) (r : Bool) (gr' gs' : Gs) (hv : Gv gr gs p v u r gr' gs') :
    Calls Try.prog 19 #[.pointer (some ⟨B, 0, none⟩), .int .i64 p, .int .i64 v, .int .i64 u] W fun e W' => e = .returned (.bool r) ∧ Ds w W' B g m R gv gu v3 v4 gr' gs' gr2 gs2 (n + 1) X a b d :=
  (give W B g m gr gs p v u H.bk H.rb H.gb (Nat.lt_of_le_of_lt H.len hn)).mono fun e W' ⟨r1, gr1, gs1, he, hv1, hk, hb⟩ => by
    obtain ⟨rfl, rfl, rfl⟩ := hv1.unique hv
    have hkp := hv.keeps H.rb H.gb
    have hx := H.xn
    have hl1 := H.len
    have hl2 := H.len2
    exact ⟨he, ⟨hk, H.rk.of_eq (fun k hk => hb.block k (H.rk.lt k hk) (by have := H.ne k hk; omega)), H.bel.trans (hb.to_below H.bel.size (fun k hk => by have := H.ge; omega)), H.ge, H.gef, H.ne, hkp.1, hkp.2.1, H.rb2, H.gb2, by omega, by omega⟩,
      (hb.block _ (lt_of_block H.xb) (by omega)).trans H.xb, H.xn, H.xf⟩
/-- The document's book goes on: its blocks may be new ones. -/
def RGave (w : World) (B g m R gv gu : Nat) (gr gs gr2 gs2 : Gs) (n X : Nat) (a b d : Int) (r : Bool) (e : Ending) (W' : World) : Prop := ∃ v3' v4', e = .returned (.bool r) ∧ Ds w W' B g m R gv gu v3' v4' gr gs gr2 gs2 n X a b d
theorem ds_rGive (H : Ds w W B g m R gv gu v3 v4 gr gs gr2 gs2 n X a b d) (hn : n < 1000000) (p v u : Int) (r : Bool) (gr' gs' : Gs) (hv : Gv gr2 gs2 p v u r gr' gs') :
    Calls Try.prog 20 #[.pointer (some ⟨R, 0, none⟩), .int .i64 p, .int .i64 v, .int .i64 u] W (RGave w B g m R gv gu gr gs gr' gs' (n + 1) X a b d r) :=
  (rGive W R gv gu v3 v4 gr2 gs2 p v u H.rk H.rb2 (Nat.lt_of_le_of_lt H.len2 hn)).mono fun e W' ⟨r1, gr1, gs1, v3', v4', he, hv1, hk, hb, hf⟩ => by
    obtain ⟨rfl, rfl, rfl⟩ := hv1.unique hv
    have hkp := hv.keeps H.rb2 H.gb2
    have hx := lt_of_block H.xb
    have hl := H.bk.lt
    have hl1 := H.len
    have hl2 := H.len2
    have hsz := H.bel.size
    have nB : ∀ q, q = B ∨ q = g ∨ q = m → ¬ RF R gv gu v3 v4 q := fun q hq hr => by have := H.ne q hr; omega
    refine ⟨v3', v4', he, ⟨H.bk.of_eq (hb.block _ hl.1 (nB _ (Or.inl rfl))) (hb.block _ hl.2.1 (nB _ (Or.inr (Or.inl rfl)))) (hb.block _ hl.2.2 (nB _ (Or.inr (Or.inr rfl)))), hk, H.bel.trans (hb.to_below hsz (fun k hk hr => by have := H.gef k hr; omega)), H.ge, fun k hk => ?_, fun k hk => ?_, H.rb, H.gb, hkp.1, hkp.2.1, by omega, by omega⟩,
      (hb.block _ hx (fun hr => H.xf _ hr rfl)).trans H.xb, H.xn, fun k hk => ?_⟩
    · rcases hf k hk with h | h
      · exact H.gef k h
      · omega
    · rcases hf k hk with h | h
      · exact H.ne k h
      · omega
    · rcases hf k hk with h | h
      · exact H.xf k h
      · omega
theorem ds_of (H : Ds w W B g m R gv gu v3 v4 gr gs gr2 gs2 n X a b d) (p x y : Int) (hx : ofI gr p = (x, y)) :
    Calls Try.prog 21 #[.pointer (some ⟨B, 0, none⟩), .int .i64 p] W fun e W' => e = .returned (.tuple #[.int .i64 x, .int .i64 y]) ∧ Ds w W' B g m R gv gu v3 v4 gr gs gr2 gs2 n X a b d :=
  (of_ W B g m gr gs p H.bk H.rb).mono fun e W' ⟨he, hd⟩ => by
    rw [hx] at he
    obtain ⟨q, rfl⟩ := hd.out
    exact ⟨he, H.below (below_drewN (Below.refl _ _) _)⟩
theorem ds_rOf (H : Ds w W B g m R gv gu v3 v4 gr gs gr2 gs2 n X a b d) (p x y : Int) (hx : ofI gr2 p = (x, y)) :
    Calls Try.prog 22 #[.pointer (some ⟨R, 0, none⟩), .int .i64 p] W fun e W' => e = .returned (.tuple #[.int .i64 x, .int .i64 y]) ∧ Ds w W' B g m R gv gu v3 v4 gr gs gr2 gs2 n X a b d :=
  (rOf W R gv gu v3 v4 gr2 gs2 p H.rk H.rb2).mono fun e W' ⟨he, hd⟩ => by
    rw [hx] at he
    obtain ⟨q, rfl⟩ := hd.out
    exact ⟨he, H.below (below_drewN (Below.refl _ _) _)⟩
theorem ds_old (H : Ds w W B g m R gv gu v3 v4 gr gs gr2 gs2 n X a b d) (hn : n < 1000000) (now x : Int) (ok : Bool) (hx : OldIs gs now x ok) :
    Calls Try.prog 23 #[.pointer (some ⟨B, 0, none⟩), .int .i64 now] W fun e W' => e = .returned (.tuple #[.int .i64 x, .bool ok]) ∧ Ds w W' B g m R gv gu v3 v4 gr gs gr2 gs2 n X a b d :=
  (oldest W B g m gr gs now H.bk (Nat.lt_of_le_of_lt H.len hn)).mono fun e W' ⟨x1, ok1, he, hx1, hb⟩ => by
    obtain ⟨rfl, rfl⟩ := hx1.unique hx
    exact ⟨he, H.below hb⟩
theorem ds_rOld (H : Ds w W B g m R gv gu v3 v4 gr gs gr2 gs2 n X a b d) (now x : Int) (ok : Bool) (hx : OldIs gs2 now x ok) :
    Calls Try.prog 24 #[.pointer (some ⟨R, 0, none⟩), .int .i64 now] W fun e W' => e = .returned (.tuple #[.int .i64 x, .bool ok]) ∧ Ds w W' B g m R gv gu v3 v4 gr gs gr2 gs2 n X a b d :=
  (rOldest W R gv gu v3 v4 gr2 gs2 now H.rk).mono fun e W' ⟨x1, ok1, he, hx1, hb⟩ => by
    obtain ⟨rfl, rfl⟩ := hx1.unique hx
    exact ⟨he, H.below hb⟩
theorem ds_may (H : Ds w W B g m R gv gu v3 v4 gr gs gr2 gs2 n X a b d) (hn : n < 1000000) (v now : Int) (c : Bool) (hx : MayIs gs v now c) :
    Calls Try.prog 25 #[.pointer (some ⟨B, 0, none⟩), .int .i64 v, .int .i64 now] W fun e W' => e = .returned (.bool c) ∧ Ds w W' B g m R gv gu v3 v4 gr gs gr2 gs2 n X a b d :=
  (may W B g m gr gs v now H.bk (Nat.lt_of_le_of_lt H.len hn)).mono fun e W' ⟨b1, he, hx1, hb⟩ => by
    obtain rfl := hx1.unique hx
    exact ⟨he, H.below hb⟩
theorem ds_rMay (H : Ds w W B g m R gv gu v3 v4 gr gs gr2 gs2 n X a b d) (v now : Int) (c : Bool) (hx : MayIs gs2 v now c) :
    Calls Try.prog 26 #[.pointer (some ⟨R, 0, none⟩), .int .i64 v, .int .i64 now] W fun e W' => e = .returned (.bool c) ∧ Ds w W' B g m R gv gu v3 v4 gr gs gr2 gs2 n X a b d :=
  (rMay W R gv gu v3 v4 gr2 gs2 v now H.rk).mono fun e W' ⟨b1, he, hx1, hb⟩ => by
    obtain rfl := hx1.unique hx
    exact ⟨he, H.below hb⟩
theorem ds_free (H : Ds w W B g m R gv gu v3 v4 gr gs gr2 gs2 n X a b d) (v now x : Int) (hx : FreeIs gs v now x) :
    Calls Try.prog 27 #[.pointer (some ⟨B, 0, none⟩), .int .i64 v, .int .i64 now] W fun e W' => e = .returned (.int .i64 x) ∧ Ds w W' B g m R gv gu v3 v4 gr gs gr2 gs2 n X a b d :=
  (free W B g m gr gs v now H.bk).mono fun e W' ⟨x1, he, hx1, hb⟩ => by
    obtain rfl := hx1.unique hx
    exact ⟨he, H.below hb⟩
theorem ds_rFree (H : Ds w W B g m R gv gu v3 v4 gr gs gr2 gs2 n X a b d) (v now x : Int) (hx : FreeIs gs2 v now x) :
    Calls Try.prog 28 #[.pointer (some ⟨R, 0, none⟩), .int .i64 v, .int .i64 now] W fun e W' => e = .returned (.int .i64 x) ∧ Ds w W' B g m R gv gu v3 v4 gr gs gr2 gs2 n X a b d :=
  (rFree W R gv gu v3 v4 gr2 gs2 v now H.rk).mono fun e W' ⟨x1, he, hx1, hb⟩ => by
    obtain rfl := hx1.unique hx
    exact ⟨he, H.below hb⟩
end
theorem Gv.exists (gr gs : Gs) (n v u : Int) : ∃ r gr' gs', Gv gr gs n v u r gr' gs' := by
  by_cases h : GiveOk gr n v u
  · exact ⟨true, _, _, Or.inl ⟨h, rfl, rfl, rfl⟩⟩
  · exact ⟨false, _, _, Or.inr ⟨h, rfl, rfl, rfl⟩⟩
set_option maxHeartbeats 8000000 in
set_option maxRecDepth 100000 in
theorem leaseGives_in (w : World) (n : Nat) (A : Option Addr) (c : Nat) (l : List T3) (now v : Int) (hl : HasL w A l) (hlen : l.length ≤ 200) (h1 : 1 ≤ n) (h2 : n ≤ 5) :
    Calls Try.prog 4 #[.int .i64 n, .slice A l.length c, .int .i64 now, .int .i64 v] w fun e w' => e = .returned (.bool true) ∧ Below w.heap.size w w' := by
  have HL := Lib.hid hl
  clear hl
  have d1 : decide (200 < (l.length : Int)) = false := decide_eq_false (by omega)
  go_enter Try.func4, Try.ntmps4
  go_wp2_with (go_at_call 8; refine (alive _).mono ?_; rintro e w1 ⟨rfl, hb1⟩; have HB1 := Lib.hid hb1; clear hb1)
  have c1 := Lib.hid (new_yes n w1 h1 h2)
  go_wp2_with (go_at_call 17; refine c1.out.mono ?_; rintro e w2 ⟨B, g, m, hB, hg, hm, rfl, hck, hbel⟩)
  have c2 := Lib.hid (rNew_yes n w2 h1 h2)
  have HCK := Lib.hid hck
  have HBE := Lib.hid hbel
  clear hck hbel
  go_wp2_with (go_at_call 18; refine c2.out.mono ?_; rintro e w3 ⟨R, gv, gu, v3, v4, hF, rfl, hrk, hbel2⟩; have hst : Ds0 w w3 B g m R gv gu v3 v4 (List.replicate n (0, 0)) [] (List.replicate n (0, 0)) [] 0 := (have hlt := HCK.out.lt; have hz1 := HB1.out.size; have hz2 := HBE.out.size; ⟨HCK.out.below hbel2, hrk, (HB1.out.trans (HBE.out.mono hz1)).trans (hbel2.mono (by omega)), by omega, fun k hk => by have := hF k hk; omega, fun k hk => by have := hF k hk; omega, rb_rep n h1 h2, a_gb0, rb_rep n h1 h2, a_gb0, Nat.le_refl _, Nat.le_refl _⟩); have HS := Lib.hid hst; clear hst hrk hbel2 hF hB hg hm)
  go_loopg [13] l.length (fun gg v13 wr => ∃ (k : Nat) (v3 v4 : Value) (gr gs : Gs), k ≤ l.length ∧ l.length - k ≤ gg ∧ v13 = .int .i64 k ∧ Hid (Ds0 w wr B g m R gv gu v3 v4 gr gs gr gs (2 * k)))
  case atStart => exact ⟨0, _, _, _, _, by omega, by omega, rfl, HS⟩
  case round =>
    clear HS
    obtain ⟨k, v3, v4, gr, gs, hk, hg, rfl, HS0⟩ := hrel
    by_cases hlt : k < l.length
    · obtain ⟨ad, e, hv1, hv2, hv3⟩ := (HL.out.below HS0.out.bel) k hlt
      subst e
      generalize l.getD k (0, 0, 0) = x at hv1 hv2 hv3
      obtain ⟨a, b, d⟩ := x
      simp only at hv1 hv2 hv3
      have hk0 : (0 : Int) ≤ (k : Int) := by omega
      have hk1 : (k : Int) < (l.length : Int) := by omega
      have HS := Lib.hid (HS0.out.load a b d)
      obtain ⟨r, gr', gs', ht⟩ := Gv.exists gr gs a b d
      have HV := Lib.hid ht
      clear ht
      obtain ⟨p, hp⟩ : ∃ p, ofI gr' a = p := ⟨_, rfl⟩
      obtain ⟨p1, p2⟩ := p
      have HP := Lib.hid hp
      clear hp
      obtain ⟨x, ok, hx⟩ := OldIs.exists gs' now
      obtain ⟨y, hy⟩ := FreeIs.exists gs' v now
      obtain ⟨mb, hmb⟩ := MayIs.exists gs' v now
      have HX := Lib.hid hx
      have HY := Lib.hid hy
      have HM := Lib.hid hmb
      clear hx hy hmb
      have z1 : (r != r) = false := by simp
      have z2 : (p1 != p1) = false := by simp
      have z3 : (p2 != p2) = false := by simp
      have z4 : (x != x) = false := by simp
      have z5 : (ok != ok) = false := by simp
      have z6 : (mb != mb) = false := by simp
      have z7 : (y != y) = false := by simp
      go_wp2
      go_region_held3 (fun W => W.cell? ⟨wr.heap.size, 0, none⟩ = some (.int .i64 a) ∧ W.cell? ⟨wr.heap.size, 1, none⟩ = some (.int .i64 b) ∧ W.cell? ⟨wr.heap.size, 2, none⟩ = some (.int .i64 d)) (first | exact ⟨HS.out.x0, HS.out.x1, HS.out.x2⟩ | go_keep)
        (first
          | (go_at_call 19; ((with_reducible refine (ds_give (HS.out.below ((Below.refl _ _).drew)) (by omega) a b d r gr' gs' HV.out).mono ?_); rintro e w' ⟨rfl, hs⟩; clear HS; have HS := Lib.hid hs; clear hs))
          | (go_at_call 20; ((with_reducible refine (ds_rGive HS.out (by omega) a b d r gr' gs' HV.out).mono ?_); rintro e w' ⟨v3', v4', rfl, hs⟩; clear HS; have HS := Lib.hid hs; clear hs)))
      have q0 := HS.out.x0
      have q1 := HS.out.x1
      have q2 := HS.out.x2
      go_wp2_with (first
        | (go_at_call 21; ((with_reducible refine (ds_of HS.out a p1 p2 HP.out).mono ?_); rintro e w' ⟨rfl, hs⟩; clear HS; have HS := Lib.hid hs; clear hs; clear q0 q1 q2; have q0 := HS.out.x0; have q1 := HS.out.x1; have q2 := HS.out.x2))
        | (go_at_call 22; ((with_reducible refine (ds_rOf HS.out a p1 p2 HP.out).mono ?_); rintro e w' ⟨rfl, hs⟩; clear HS; have HS := Lib.hid hs; clear hs; clear q0 q1 q2; have q0 := HS.out.x0; have q1 := HS.out.x1; have q2 := HS.out.x2))
        | (go_at_call 23; ((with_reducible refine (ds_old HS.out (by omega) now x ok HX.out).mono ?_); rintro e w' ⟨rfl, hs⟩; clear HS; have HS := Lib.hid hs; clear hs; clear q0 q1 q2; have q0 := HS.out.x0; have q1 := HS.out.x1; have q2 := HS.out.x2))
        | (go_at_call 24; ((with_reducible refine (ds_rOld HS.out now x ok HX.out).mono ?_); rintro e w' ⟨rfl, hs⟩; clear HS; have HS := Lib.hid hs; clear hs; clear q0 q1 q2; have q0 := HS.out.x0; have q1 := HS.out.x1; have q2 := HS.out.x2))
        | (go_at_call 25; ((with_reducible refine (ds_may HS.out (by omega) v now mb HM.out).mono ?_); rintro e w' ⟨rfl, hs⟩; clear HS; have HS := Lib.hid hs; clear hs; clear q0 q1 q2; have q0 := HS.out.x0; have q1 := HS.out.x1; have q2 := HS.out.x2))
        | (go_at_call 26; ((with_reducible refine (ds_rMay HS.out v now mb HM.out).mono ?_); rintro e w' ⟨rfl, hs⟩; clear HS; have HS := Lib.hid hs; clear hs; clear q0 q1 q2; have q0 := HS.out.x0; have q1 := HS.out.x1; have q2 := HS.out.x2))
        | (go_at_call 27; ((with_reducible refine (ds_free HS.out v now y HY.out).mono ?_); rintro e w' ⟨rfl, hs⟩; clear HS; have HS := Lib.hid hs; clear hs; clear q0 q1 q2; have q0 := HS.out.x0; have q1 := HS.out.x1; have q2 := HS.out.x2))
        | (go_at_call 28; ((with_reducible refine (ds_rFree HS.out v now y HY.out).mono ?_); rintro e w' ⟨rfl, hs⟩; clear HS; have HS := Lib.hid hs; clear hs; clear q0 q1 q2; have q0 := HS.out.x0; have q1 := HS.out.x1; have q2 := HS.out.x2)))
      go_roundg (l.length - (k + 1))
      case measure => omega
      case rel => exact ⟨k + 1, _, _, gr', gs', by omega, by omega, by go_num, by have hz := HS.out.toDs0; rwa [show 2 * k + 1 + 1 = 2 * (k + 1) from by omega] at hz⟩
    · have hk' : k = l.length := by omega
      subst hk'
      go_wp2
      go_ret
      exact ⟨rfl, HS0.out.bel⟩
set_option maxHeartbeats 4000000 in
theorem leaseGives (w : World) (n : Int) (A : Option Addr) (c : Nat) (l : List T3) (now v : Int) (hl : HasL w A l) (hlen : l.length ≤ 9223372036854775807) :
    Calls Try.prog 4 #[.int .i64 n, .slice A l.length c, .int .i64 now, .int .i64 v] w fun e w' => e = .returned (.bool true) ∧ Below w.heap.size w w' := by
  by_cases h1 : l.length ≤ 200
  · by_cases hok : 1 ≤ n ∧ n ≤ 5
    · obtain ⟨q, rfl⟩ := Int.eq_ofNat_of_zero_le (show 0 ≤ n by omega)
      exact leaseGives_in w q A c l now v hl h1 (by omega) (by omega)
    · have c1 := Lib.hid (fun w => new_no n w hok)
      have c2 := Lib.hid (fun w => rNew_no n w hok)
      clear hl hok
      go_enter Try.func4, Try.ntmps4
      go_wp2_with (first
        | (go_at_call 8; refine (alive _).mono ?_; rintro e w1 ⟨rfl, hb1⟩; have HB1 := Lib.hid hb1; clear hb1)
        | (go_at_call 17; refine (c1.out _).mono ?_; rintro e w' ⟨rfl, rfl⟩)
        | (go_at_call 18; refine (c2.out _).mono ?_; rintro e w' ⟨rfl, rfl⟩))
      refine wp_loop_rounds 1 ?_
      rw [rounds_succ]
      by_cases h0 : 0 < l.length
      · have h0' : (0 : Int) < (l.length : Int) := by omega
        go_wp2
        go_ret
        exact ⟨rfl, HB1.out⟩
      · have h0' : ¬ (0 : Int) < (l.length : Int) := by omega
        go_wp2
        go_ret
        exact ⟨rfl, HB1.out⟩
  · have h1' : (200 : Int) < (l.length : Int) := by omega
    clear h1 hl
    go_enter Try.func4, Try.ntmps4
    go_wp2_with (go_at_call 8; refine (alive _).mono ?_; rintro e w1 ⟨rfl, hb1⟩; have HB1 := Lib.hid hb1; clear hb1)
    go_ret
    exact ⟨rfl, HB1.out⟩
end Go.Proofs.Ytfadanmfelbfiaa.L
