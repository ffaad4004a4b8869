/- The statements' first line: what the document fixes of leases and clocks. -/
import Derived.Test.YtfadanmfelbfiaaB6
namespace Go.Proofs.Ytfadanmfelbfiaa.L
open Go.RowKit Go.Maps Go.Proofs.YtfadanmfelbfiaaW.PrintWords Go.Proofs.YtfadanmfelbfiaaW.PrintLast Go.Proofs.YtfadanmfelbfiaaW.PrintMore
set_option linter.unusedVariables false
set_option linter.unusedSimpArgs false
/-- The program's book and clocks, side by side, made by the call. -/
structure St (w W : World) (B g m Bc gc : Nat) (gr gs : Gs) (l : List Int) (s : Int) : Prop where
  bk : Bk W B g m gr gs
  ck : Clk 57 W Bc gc l s
  bel : Below w.heap.size w W
  ge : w.heap.size ≤ B ∧ w.heap.size ≤ g ∧ w.heap.size ≤ m ∧ w.heap.size ≤ Bc ∧ w.heap.size ≤ gc
  ne : Bc ≠ B ∧ Bc ≠ g ∧ Bc ≠ m ∧ gc ≠ B ∧ gc ≠ g ∧ gc ≠ m
theorem St.below {w W W' : World} {B g m Bc gc : Nat} {gr gs : Gs} {l : List Int} {s : Int} (h : St w W B g m Bc gc gr gs l s) (hb : Below W.heap.size W W') : St w W' B g m Bc gc gr gs l s :=
  ⟨h.bk.below hb, h.ck.of_eq (hb.block _ (lt_of_block h.ck.box)) (hb.block _ h.ck.row.lt), h.bel.trans (hb.mono h.bel.size), h.ge, h.ne⟩
theorem St.book {w W W' : World} {B g m Bc gc : Nat} {gr gs gr' gs' : Gs} {l : List Int} {s : Int} (h : St w W B g m Bc gc gr gs l s) (hk : Bk W' B g m gr' gs') (hb : But (fun k => k = g ∨ k = m) W W') : St w W' B g m Bc gc gr' gs' l s :=
  ⟨hk, h.ck.of_eq (hb.block _ (lt_of_block h.ck.box) (by have := h.ne; omega)) (hb.block _ h.ck.row.lt (by have := h.ne; omega)), h.bel.trans (hb.to_below h.bel.size (fun k hk => by have := h.ge; omega)), h.ge, h.ne⟩
theorem St.clock {w W W' : World} {B g m Bc gc : Nat} {gr gs : Gs} {l l' : List Int} {s : Int} (h : St w W B g m Bc gc gr gs l s) (hk : Clk 57 W' Bc gc l' s) (hb : But (fun k => k = gc) W W') : St w W' B g m Bc gc gr gs l' s :=
  ⟨h.bk.of_eq (hb.block _ h.bk.lt.1 (by have := h.ne; omega)) (hb.block _ h.bk.lt.2.1 (by have := h.ne; omega)) (hb.block _ h.bk.lt.2.2 (by have := h.ne; omega)), hk, h.bel.trans (hb.to_below h.bel.size (fun k hk => by have := h.ge; omega)), h.ge, h.ne⟩
section
variable {w W : World} {B g m Bc gc : Nat} {gr gs : Gs} {l : List Int} {s : Int}
theorem st_give (h : St w W B g m Bc gc gr gs l s) (hr : RB gr) (hg : GB gs) (hs : gs.length < 1000000) (n v u : Int) (r : Bool) (gr' gs' : Gs) (hv : Gv gr gs n v u r gr' gs') :
    Calls Try.prog 19 #[.pointer (some ⟨B, 0, none⟩), .int .i64 n, .int .i64 v, .int .i64 u] W fun e W' => e = .returned (.bool r) ∧ St w W' B g m Bc gc gr' gs' l s :=
  (give W B g m gr gs n v u h.bk hr hg hs).mono fun e W' ⟨r1, gr1, gs1, he, hv1, hk, hb⟩ => by
    obtain ⟨rfl, rfl, rfl⟩ := hv1.unique hv
    exact ⟨he, h.book hk hb⟩
theorem st_oldest (h : St w W B g m Bc gc gr gs l s) (hs : gs.length < 1000000) (now x : Int) (ok : Bool) (hx : OldIs gs now x ok) :
    Calls Try.prog 23 #[.pointer (some ⟨B, 0, none⟩), .int .i64 now] W fun e W' => e = .returned (.tuple #[.int .i64 x, .bool ok]) ∧ St w W' B g m Bc gc gr gs l s :=
  (oldest W B g m gr gs now h.bk hs).mono fun e W' ⟨x1, ok1, he, hx1, hb⟩ => by
    obtain ⟨rfl, rfl⟩ := hx1.unique hx
    exact ⟨he, h.below hb⟩
theorem st_of (h : St w W B g m Bc gc gr gs l s) (hr : RB gr) (n a b : Int) (hn : ofI gr n = (a, b)) :
    Calls Try.prog 21 #[.pointer (some ⟨B, 0, none⟩), .int .i64 n] W fun e W' => e = .returned (.tuple #[.int .i64 a, .int .i64 b]) ∧ St w W' B g m Bc gc gr gs l s :=
  (of_ W B g m gr gs n h.bk hr).mono fun e W' ⟨he, hd⟩ => by
    rw [hn] at he
    obtain ⟨q, rfl⟩ := hd.out
    exact ⟨he, h.below (below_drewN (Below.refl _ _) _)⟩
theorem st_may (h : St w W B g m Bc gc gr gs l s) (hs : gs.length < 1000000) (v now : Int) (b : Bool) (hx : MayIs gs v now b) :
    Calls Try.prog 25 #[.pointer (some ⟨B, 0, none⟩), .int .i64 v, .int .i64 now] W fun e W' => e = .returned (.bool b) ∧ St w W' B g m Bc gc gr gs l s :=
  (may W B g m gr gs v now h.bk hs).mono fun e W' ⟨b1, he, hx1, hb⟩ => by
    obtain rfl := hx1.unique hx
    exact ⟨he, h.below hb⟩
theorem st_free (h : St w W B g m Bc gc gr gs l s) (v now x : Int) (hx : FreeIs gs v now x) :
    Calls Try.prog 27 #[.pointer (some ⟨B, 0, none⟩), .int .i64 v, .int .i64 now] W fun e W' => e = .returned (.int .i64 x) ∧ St w W' B g m Bc gc gr gs l s :=
  (free W B g m gr gs v now h.bk).mono fun e W' ⟨x1, he, hx1, hb⟩ => by
    obtain rfl := hx1.unique hx
    exact ⟨he, h.below hb⟩
theorem st_tick (h : St w W B g m Bc gc gr gs l s) (hc : CB l) (h0 : 0 ≤ s) (h1 : s ≤ 1000) (n b : Int) (r : Bool) (l' : List Int) (ht : Tk l s n b r l') :
    Calls Try.prog 11 #[.pointer (some ⟨Bc, 0, none⟩), .int .i64 n, .int .i64 b] W fun e W' => e = .returned (.bool r) ∧ St w W' B g m Bc gc gr gs l' s :=
  (tick W Bc gc l s n b h.ck hc h0 h1).mono fun e W' ⟨r1, l1, he, ht1, hk, hb⟩ => by
    obtain ⟨rfl, rfl⟩ := ht1.unique ht
    exact ⟨he, h.clock hk hb⟩
theorem st_now (h : St w W B g m Bc gc gr gs l s) (hc : CB l) (n x : Int) (hx : nowI l n = x) :
    Calls Try.prog 13 #[.pointer (some ⟨Bc, 0, none⟩), .int .i64 n] W fun e W' => e = .returned (.int .i64 x) ∧ St w W' B g m Bc gc gr gs l s :=
  (now W Bc gc l s n h.ck hc.lo hc.hi).mono fun e W' ⟨he, hd⟩ => by
    rw [hx] at he
    obtain ⟨q, rfl⟩ := hd.out
    exact ⟨he, h.below (below_drewN (Below.refl _ _) _)⟩
theorem st_spread (h : St w W B g m Bc gc gr gs l s) (hc : CB l) (x : Int) (hx : IsSpread l x) :
    Calls Try.prog 15 #[.pointer (some ⟨Bc, 0, none⟩)] W fun e W' => e = .returned (.int .i64 x) ∧ St w W' B g m Bc gc gr gs l s :=
  (spread W Bc gc l s h.ck hc).mono fun e W' ⟨x1, he, hx1, hd⟩ => by
    obtain rfl := hx1.unique hx
    obtain ⟨q, rfl⟩ := hd.out
    exact ⟨he, h.below (below_drewN (Below.refl _ _) _)⟩
end
end Go.Proofs.Ytfadanmfelbfiaa.L
