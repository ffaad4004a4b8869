/- What lies in memory: rows of numbers, clocks; what is left alone. -/
import Derived.Test.YtfadanmfelbfiaaA0
namespace Go.Proofs.Ytfadanmfelbfiaa.L
open Go.RowKit Go.Maps
set_option linter.unusedVariables false
set_option linter.unusedSimpArgs false

/-- Draws alone. -/
structure Drawn (w w' : World) : Prop where mk :: (out : ∃ n, w' = w.drewN n)
theorem Drawn.refl (w : World) : Drawn w w := ⟨⟨0, rfl⟩⟩
theorem Drawn.step {w w' : World} (h : Drawn w w') (n : Nat) : Drawn w (w'.drewN n) := by
  obtain ⟨m, rfl⟩ := h.out
  exact ⟨⟨m + n, by rw [World.drewN_drewN]⟩⟩
theorem Drawn.heap {w w' : World} (h : Drawn w w') : w'.heap = w.heap := by
  obtain ⟨m, rfl⟩ := h.out
  rfl
/-- w' is w but for new blocks, and for the blocks of S. -/
structure But (S : Nat → Prop) (w w' : World) : Prop where
  os : w'.os = w.os
  tape : w'.tape = w.tape
  output : w'.output = w.output
  size : w.heap.size ≤ w'.heap.size
  block : ∀ k, k < w.heap.size → ¬ S k → w'.heap[k]? = w.heap[k]?
theorem But.refl (S : Nat → Prop) (w : World) : But S w w := ⟨rfl, rfl, rfl, Nat.le_refl _, fun _ _ _ => rfl⟩
theorem But.trans {S : Nat → Prop} {a b c : World} (h : But S a b) (k : But S b c) : But S a c :=
  ⟨k.os.trans h.os, k.tape.trans h.tape, k.output.trans h.output, Nat.le_trans h.size k.size, fun i hi hn => (k.block i (Nat.lt_of_lt_of_le hi h.size) hn).trans (h.block i hi hn)⟩
theorem But.mono {S T : Nat → Prop} {a b : World} (h : But S a b) (hs : ∀ k, k < a.heap.size → S k → T k) : But T a b :=
  ⟨h.os, h.tape, h.output, h.size, fun i hi hn => h.block i hi (fun x => hn (hs i hi x))⟩
theorem But.drawn {S : Nat → Prop} {a b : World} (h : Drawn a b) : But S a b := by
  obtain ⟨n, rfl⟩ := h.out
  exact ⟨rfl, rfl, rfl, Nat.le_refl _, fun _ _ _ => rfl⟩
theorem But.drewN {S : Nat → Prop} {a b : World} (h : But S a b) (n : Nat) : But S a (b.drewN n) := ⟨h.os, h.tape, h.output, h.size, h.block⟩
theorem But.drew {S : Nat → Prop} {a b : World} (h : But S a b) : But S a b.drew := ⟨h.os, h.tape, h.output, h.size, h.block⟩
theorem But.below {S : Nat → Prop} {a b : World} (h : Below a.heap.size a b) : But S a b := ⟨h.os, h.tape, h.output, h.size, fun i hi _ => h.block i hi⟩
theorem But.alloc {S : Nat → Prop} {a b : World} (h : But S a b) (o : Obj) : But S a (b.alloc o) := h.trans (But.below ((Below.refl _ _).alloc (Nat.le_refl _) _))
theorem But.setCell {S : Nat → Prop} {a b : World} (h : But S a b) {p : Addr} (hp : p.block < a.heap.size → S p.block) (u : Value) : But S a (b.setCell p u) :=
  ⟨h.os, h.tape, h.output, by have := h.size; simpa [World.setCell] using this, fun k hk hn => (Below.heap_setCell _ _ _ _ (fun e => by subst e; exact hn (hp hk))).trans (h.block k hk hn)⟩
theorem But.to_below {S : Nat → Prop} {a b : World} {B : Nat} (h : But S a b) (hB : B ≤ a.heap.size) (hS : ∀ k, k < B → ¬ S k) : Below B a b := ⟨h.os, h.tape, h.output, h.size, fun k hk => h.block k (Nat.lt_of_lt_of_le hk hB) (hS k hk)⟩
theorem But.grown {S : Nat → Prop} {a w w' : World} {row : Option Nat} (h : But S a w) (hg : w.grownBy w' row) (hr : ∀ k, row = some k → k < a.heap.size → S k) : But S a w' :=
  ⟨hg.os.trans h.os, hg.tape.trans h.tape, hg.output.trans h.output, Nat.le_trans h.size hg.size, fun k hk hn => (hg.block k (Nat.lt_of_lt_of_le hk h.size) (fun e => hn (hr k e.symm hk))).trans (h.block k hk hn)⟩

/-- The cells of a row of numbers. -/
def intsA (l : List Int) : Array Value := (l.map (Value.int .i64)).toArray
/-- Block g holds the numbers l. -/
def HasInts (w : World) (g : Nat) (l : List Int) : Prop := w.heap[g]? = some (.cells (intsA l) 3 (0, 0))
theorem HasInts.lt {w : World} {g : Nat} {l : List Int} (h : HasInts w g l) : g < w.heap.size := lt_of_block h
theorem HasInts.of_eq {w w' : World} {g : Nat} {l : List Int} (h : HasInts w g l) (e : w'.heap[g]? = w.heap[g]?) : HasInts w' g l := e.trans h
theorem HasInts.cell {w : World} {g : Nat} {l : List Int} (h : HasInts w g l) (k : Nat) (hk : k < l.length) : w.cell? ⟨g, k, none⟩ = some (.int .i64 (l.getD k 0)) := by
  unfold HasInts at h
  simp [World.cell?, h, intsA, hk, List.getD_eq_getElem?_getD, List.getElem?_eq_getElem hk]
theorem HasInts.free {w : World} {g : Nat} {l : List Int} (h : HasInts w g l) (k : Nat) : w.frozen? ⟨g, k, none⟩ = false := by
  unfold HasInts at h
  simp [World.frozen?, h]
theorem HasInts.set {w : World} {g : Nat} {l : List Int} (h : HasInts w g l) (k : Nat) (v : Int) : HasInts (w.setCell ⟨g, k, none⟩ (.int .i64 v)) g (l.set k v) := by
  have hlt := h.lt
  have h' : w.heap[g] = .cells (intsA l) 3 (0, 0) := by unfold HasInts at h; simpa [Array.getElem?_eq_getElem hlt] using h
  show (w.heap.modify g _)[g]? = _
  rw [Array.getElem?_eq_getElem (by simpa using hlt), Array.getElem_modify_self, h']
  simp [intsA]
theorem HasInts.new (w : World) (l : List Int) : HasInts (w.alloc (.cells (intsA l) 3)) w.heap.size l := heap_alloc_new _ _
/-- A fresh row of noughts. -/
theorem madeInts (n : Nat) : madeCells (Value.int .i64 0).cells (n * 1) = intsA (List.replicate n 0) := by
  apply Array.ext
  · simp [size_madeCells, intsA]
  · intro i h1 h2
    simp [madeCells, intsA, Value.cells, Nat.mod_one]
/-- Clocks: a struct of a row and the skew. -/
structure Clk (T : Nat) (w : World) (B g : Nat) (l : List Int) (s : Int) : Prop where
  box : w.heap[B]? = some (.cells #[.slice (some ⟨g, 0, none⟩) l.length l.length, .int .i64 s] T (0, 0))
  row : HasInts w g l
  ne : g ≠ B
theorem Clk.of_eq {T : Nat} {w w' : World} {B g : Nat} {l : List Int} {s : Int} (h : Clk T w B g l s) (e : w'.heap[B]? = w.heap[B]?) (e' : w'.heap[g]? = w.heap[g]?) : Clk T w' B g l s := ⟨e.trans h.box, h.row.of_eq e', h.ne⟩
theorem Clk.c0 {T : Nat} {w : World} {B g : Nat} {l : List Int} {s : Int} (h : Clk T w B g l s) : w.cell? ⟨B, 0, none⟩ = some (.slice (some ⟨g, 0, none⟩) l.length l.length) := by simp [World.cell?, h.box]
theorem Clk.c1 {T : Nat} {w : World} {B g : Nat} {l : List Int} {s : Int} (h : Clk T w B g l s) : w.cell? ⟨B, 1, none⟩ = some (.int .i64 s) := by simp [World.cell?, h.box]

def nowI (l : List Int) (n : Int) : Int := if 0 ≤ n ∧ n < l.length then l.getD n.toNat 0 else 0
theorem now (w : World) (B g : Nat) (l : List Int) (s n : Int) (h : Clk 57 w B g l s) (h1 : 1 ≤ l.length) (h5 : l.length ≤ 5) :
    Calls Try.prog 13 #[.pointer (some ⟨B, 0, none⟩), .int .i64 n] w fun e w' => e = .returned (.int .i64 (nowI l n)) ∧ Drawn w w' := by
  have hc0 := h.c0
  by_cases hn : 0 ≤ n ∧ n < l.length
  · obtain ⟨k, rfl⟩ := Int.eq_ofNat_of_zero_le hn.1
    have hk : k < l.length := by omega
    have hv := h.row.cell k hk
    have c1 := fun w => within k 0 (l.length - 1) w
    rw [show withinB (k : Int) 0 ((l.length : Int) - 1) = true from by simp [withinB]; omega] at c1
    have hr : nowI l (k : Int) = l.getD k 0 := by unfold nowI; rw [if_pos hn]; rfl
    generalize l.getD k 0 = v at hv hr
    have HR := Lib.hid hr
    clear hr hn
    go_enter Try.func13, Try.ntmps13
    go_wp2_with (go_at_call 30; ((with_reducible refine (c1 _).mono ?_); rintro e w' ⟨rfl, rfl⟩))
    go_ret
    exact ⟨by rw [HR.out]; rfl, Drawn.refl _⟩
  · have c1 := fun w => within n 0 (l.length - 1) w
    rw [show withinB n 0 ((l.length : Int) - 1) = false from by simp [withinB]; omega] at c1
    have HR := Lib.hid (show nowI l n = 0 from by unfold nowI; rw [if_neg hn])
    clear hn
    go_enter Try.func13, Try.ntmps13
    go_wp2_with (go_at_call 30; ((with_reducible refine (c1 _).mono ?_); rintro e w' ⟨rfl, rfl⟩))
    go_ret
    exact ⟨by rw [HR.out]; rfl, Drawn.refl _⟩
end Go.Proofs.Ytfadanmfelbfiaa.L
