/- One book, made by the call; what came in as leases. -/
import Derived.Test.YtfadanmfelbfiaaC1
namespace Go.Proofs.Ytfadanmfelbfiaa.L
open Go.RowKit Go.Maps Go.Proofs.YtfadanmfelbfiaaW.PrintWords Go.Proofs.YtfadanmfelbfiaaW.PrintLast Go.Proofs.YtfadanmfelbfiaaW.PrintMore
set_option linter.unusedVariables false
set_option linter.unusedSimpArgs false
structure Bs (w W : World) (B g m : Nat) (gr gs : Gs) (n : Nat) : Prop where
  bk : Bk W B g m gr gs
  bel : Below w.heap.size w W
  ge : w.heap.size ≤ B ∧ w.heap.size ≤ g ∧ w.heap.size ≤ m
  rb : RB gr
  gb : GB gs
  len : gs.length ≤ n
theorem Bs.below {w W W' : World} {B g m n : Nat} {gr gs : Gs} (h : Bs w W B g m gr gs n) (hb : Below W.heap.size W W') : Bs w W' B g m gr gs n :=
  ⟨h.bk.below hb, h.bel.trans (hb.mono h.bel.size), h.ge, h.rb, h.gb, h.len⟩
theorem Bs.book {w W W' : World} {B g m n : Nat} {gr gs gr' gs' : Gs} {a v u : Int} {r : Bool} (h : Bs w W B g m gr gs n) (hv : Gv gr gs a v u r gr' gs') (hk : Bk W' B g m gr' gs') (hb : But (fun k => k = g ∨ k = m) W W') : Bs w W' B g m gr' gs' (n + 1) :=
  ⟨hk, h.bel.trans (hb.to_below h.bel.size (fun k hk => by have := h.ge; omega)), h.ge, (hv.keeps h.rb h.gb).1, (hv.keeps h.rb h.gb).2.1, by have := (hv.keeps h.rb h.gb).2.2.2; have := h.len; omega⟩
/-- The program answers so, in whatever book. -/
def GaveIs (w : World) (B g m : Nat) (gr gs : Gs) (n : Nat) (a v u : Int) (e : Ending) (W' : World) : Prop := ∃ r gr' gs', e = .returned (.bool r) ∧ Gv gr gs a v u r gr' gs' ∧ Bs w W' B g m gr' gs' (n + 1)
section
variable {w W : World} {B g m n : Nat} {gr gs : Gs}
theorem bs_give (h : Bs w W B g m gr gs n) (hs : n < 1000000) (a v u : Int) : Calls Try.prog 19 #[.pointer (some ⟨B, 0, none⟩), .int .i64 a, .int .i64 v, .int .i64 u] W (GaveIs w B g m gr gs n a v u) :=
  (give W B g m gr gs a v u h.bk h.rb h.gb (Nat.lt_of_le_of_lt h.len hs)).mono fun e W' ⟨r1, gr1, gs1, he, hv1, hk, hb⟩ => ⟨r1, gr1, gs1, he, hv1, h.book hv1 hk hb⟩
theorem bs_oldest (h : Bs w W B g m gr gs n) (hs : n < 1000000) (now : Int) :
    Calls Try.prog 23 #[.pointer (some ⟨B, 0, none⟩), .int .i64 now] W fun e W' => ∃ x ok, e = .returned (.tuple #[.int .i64 x, .bool ok]) ∧ OldIs gs now x ok ∧ Bs w W' B g m gr gs n :=
  (oldest W B g m gr gs now h.bk (Nat.lt_of_le_of_lt h.len hs)).mono fun e W' ⟨x1, ok1, he, hx1, hb⟩ => ⟨x1, ok1, he, hx1, h.below hb⟩
theorem bs_may (h : Bs w W B g m gr gs n) (hs : n < 1000000) (v now : Int) (b : Bool) (hx : MayIs gs v now b) :
    Calls Try.prog 25 #[.pointer (some ⟨B, 0, none⟩), .int .i64 v, .int .i64 now] W fun e W' => e = .returned (.bool b) ∧ Bs w W' B g m gr gs n :=
  (may W B g m gr gs v now h.bk (Nat.lt_of_le_of_lt h.len hs)).mono fun e W' ⟨b1, he, hx1, hb⟩ => by
    obtain rfl := hx1.unique hx
    exact ⟨he, h.below hb⟩
theorem bs_free (h : Bs w W B g m gr gs n) (v now x : Int) (hx : FreeIs gs v now x) :
    Calls Try.prog 27 #[.pointer (some ⟨B, 0, none⟩), .int .i64 v, .int .i64 now] W fun e W' => e = .returned (.int .i64 x) ∧ Bs w W' B g m gr gs n :=
  (free W B g m gr gs v now h.bk).mono fun e W' ⟨x1, he, hx1, hb⟩ => by
    obtain rfl := hx1.unique hx
    exact ⟨he, h.below hb⟩
end
theorem FreeIs.exists (gs : Gs) (v now : Int) : ∃ x, FreeIs gs v now x := by
  induction gs with
  | nil => exact ⟨now, Int.le_refl _, Or.inl rfl, fun p hp => by cases hp⟩
  | cons p gs ih =>
    obtain ⟨x, h1, h2, h3⟩ := ih
    by_cases hp : p.1 < v ∧ x < p.2
    · refine ⟨p.2, by omega, Or.inr ⟨p, List.mem_cons_self .., hp.1, rfl⟩, fun q hq hv => ?_⟩
      rcases List.mem_cons.1 hq with rfl | hq
      · exact Int.le_refl _
      · have := h3 q hq hv; omega
    · refine ⟨x, h1, ?_, fun q hq hv => ?_⟩
      · rcases h2 with h2 | ⟨q, hq, hv, e⟩
        · exact Or.inl h2
        · exact Or.inr ⟨q, List.mem_cons_of_mem _ hq, hv, e⟩
      · rcases List.mem_cons.1 hq with rfl | hq
        · omega
        · exact h3 q hq hv
theorem FreeIs.le {gs : Gs} {v now x : Int} (h : FreeIs gs v now x) (hg : GB gs) (hn : now ≤ 1099511627776) : x ≤ 1099511627776 := by
  obtain ⟨h1, h2 | ⟨p, hp, _, rfl⟩, h3⟩ := h
  · omega
  · exact (hg p hp).2.2.2
theorem FreeIs.may {gs : Gs} {v now x y : Int} (h : FreeIs gs v now x) (hy : x ≤ y) : MayIs gs v y true :=
  ⟨fun _ p hp hpy => by
    rcases Int.lt_or_le p.1 v with h' | h'
    · have := h.2.2 p hp h'; omega
    · exact h', fun _ => rfl⟩
theorem FreeIs.not_may {gs : Gs} {v now x : Int} (h : FreeIs gs v now x) (hx : x ≠ now) : MayIs gs v (x - 1) false := by
  refine ⟨(fun e => by cases e), fun hh => ?_⟩
  rcases h.2.1 with e | ⟨p, hp, hpv, e⟩
  · exact absurd e hx
  · have := hh p hp (by omega); omega
theorem FreeIs.mono {gs : Gs} {v v' now x y : Int} (h : FreeIs gs v now x) (k : FreeIs gs v' now y) (hv : v' ≤ v) : y ≤ x := by
  rcases k.2.1 with rfl | ⟨p, hp, hpv, rfl⟩
  · exact h.1
  · exact h.2.2 p hp (by omega)
theorem MayIs.exists (gs : Gs) (v now : Int) : ∃ b, MayIs gs v now b := by
  by_cases h : ∀ p ∈ gs, now < p.2 → v ≤ p.1
  · exact ⟨true, fun _ => h, fun _ => rfl⟩
  · exact ⟨false, (fun e => by cases e), fun h' => absurd h' h⟩
theorem MayIs.mono {gs : Gs} {v v' now now' : Int} (h : MayIs gs v now true) (hv : v' ≤ v) (hn : now ≤ now') : MayIs gs v' now' true :=
  ⟨fun _ p hp hpn => by have := h.1 rfl p hp (by omega); omega, fun _ => rfl⟩
theorem rb_rep (n : Nat) (h1 : 1 ≤ n) (h2 : n ≤ 5) : RB (List.replicate n (0, 0)) := ⟨by simpa using h1, by simpa using h2, fun i => by
  have : (List.replicate n ((0 : Int), (0 : Int))).getD i (0, 0) = (0, 0) := by
    rw [List.getD_eq_getElem?_getD, List.getElem?_replicate]
    by_cases h : i < n
    · rw [if_pos h]; rfl
    · rw [if_neg h]; rfl
  rw [this]
  simp⟩
theorem cb_rep (n : Nat) (h1 : 1 ≤ n) (h2 : n ≤ 5) : CB (List.replicate n 0) := ⟨by simpa using h1, by simpa using h2, fun i => by
  have : (List.replicate n (0 : Int)).getD i 0 = 0 := by
    rw [List.getD_eq_getElem?_getD, List.getElem?_replicate]
    by_cases h : i < n
    · rw [if_pos h]; rfl
    · rw [if_neg h]; rfl
  rw [this]
  omega⟩
theorem OldIs.exists_take (gs : Gs) (now : Int) : ∀ k, k ≤ gs.length → ∃ x s, OldIs (gs.take k) now x s
  | 0, _ => ⟨0, false, OldIs.start gs now⟩
  | k + 1, hk => by
    obtain ⟨x, s, h⟩ := OldIs.exists_take gs now k (by omega)
    obtain ⟨p, hp⟩ : ∃ p, gs.getD k (0, 0) = p := ⟨_, rfl⟩
    obtain ⟨a, b⟩ := p
    by_cases hn : now < b
    · cases s with
      | false => exact ⟨a, true, h.new (by omega) hp hn (Or.inl rfl)⟩
      | true =>
        by_cases hx : a < x
        · exact ⟨a, true, h.new (by omega) hp hn (Or.inr hx)⟩
        · exact ⟨x, true, h.old (by omega) hp (Or.inr ⟨rfl, by omega⟩)⟩
    · exact ⟨x, s, h.old (by omega) hp (Or.inl (by omega))⟩
theorem OldIs.exists (gs : Gs) (now : Int) : ∃ x s, OldIs gs now x s := by
  have := OldIs.exists_take gs now gs.length (Nat.le_refl _)
  rwa [List.take_length] at this
theorem bs_old {w W : World} {B g m n : Nat} {gr gs : Gs} (h : Bs w W B g m gr gs n) (hs : n < 1000000) (now x : Int) (ok : Bool) (hx : OldIs gs now x ok) :
    Calls Try.prog 23 #[.pointer (some ⟨B, 0, none⟩), .int .i64 now] W fun e W' => e = .returned (.tuple #[.int .i64 x, .bool ok]) ∧ Bs w W' B g m gr gs n :=
  (bs_oldest h hs now).mono fun e W' ⟨x1, ok1, he, hx1, hb⟩ => by
    obtain ⟨rfl, rfl⟩ := hx1.unique hx
    exact ⟨he, hb⟩
/-- Leases that came in. -/
abbrev T3 := Int × Int × Int
def HasL (w : World) (A : Option Addr) (l : List T3) : Prop := ∀ k, k < l.length → ∃ ad, A = some ad ∧ w.cell? (ad.add (k * 3)) = some (.int .i64 (l.getD k (0, 0, 0)).1) ∧
  w.cell? ⟨(ad.add (k * 3)).block, (ad.add (k * 3)).off + 1, none⟩ = some (.int .i64 (l.getD k (0, 0, 0)).2.1) ∧ w.cell? ⟨(ad.add (k * 3)).block, (ad.add (k * 3)).off + 2, none⟩ = some (.int .i64 (l.getD k (0, 0, 0)).2.2)
theorem cell_below {w W : World} (hb : Below w.heap.size w W) {a : Addr} {u : Value} (h : w.cell? a = some u) : W.cell? a = some u := (hb.cell (World.block_lt_of_cell? w a h)).trans h
theorem HasL.below {w W : World} {A : Option Addr} {l : List T3} (h : HasL w A l) (hb : Below w.heap.size w W) : HasL W A l := fun k hk => by
  obtain ⟨ad, e, h1, h2, h3⟩ := h k hk
  exact ⟨ad, e, cell_below hb h1, cell_below hb h2, cell_below hb h3⟩
/-- Ticks that came in. -/
def HasT (w : World) (A : Option Addr) (l : Gs) : Prop := ∀ k, k < l.length → ∃ ad, A = some ad ∧ w.cell? (ad.add (k * 2)) = some (.int .i64 (l.getD k (0, 0)).1) ∧
  w.cell? ⟨(ad.add (k * 2)).block, (ad.add (k * 2)).off + 1, none⟩ = some (.int .i64 (l.getD k (0, 0)).2)
theorem HasT.below {w W : World} {A : Option Addr} {l : Gs} (h : HasT w A l) (hb : Below w.heap.size w W) : HasT W A l := fun k hk => by
  obtain ⟨ad, e, h1, h2⟩ := h k hk
  exact ⟨ad, e, cell_below hb h1, cell_below hb h2⟩
/-- Nodes and ticks that came in are numbers that Go holds. -/
def WfL (l : List T3) : Prop := ∀ x ∈ l, (Lit.int .i64 x.1).wf = true ∧ (Lit.int .i64 x.2.1).wf = true ∧ (Lit.int .i64 x.2.2).wf = true
def WfT (l : Gs) : Prop := ∀ x ∈ l, (Lit.int .i64 x.1).wf = true ∧ (Lit.int .i64 x.2).wf = true
end Go.Proofs.Ytfadanmfelbfiaa.L
