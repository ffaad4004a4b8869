-- Written by a program of this session, out of Lean's print of the loaded program (a patched copy of the kit's print).
import Derived.Test.YthbgjaboghnpjaaQx0
namespace Go.Proofs.Ythbgjaboghnpjaa.Q
open Go.RowKit Go.Proofs.YthbgjaboghnpjaaW.PrintWords Go.Proofs.YthbgjaboghnpjaaW.PrintLast Go.Proofs.YthbgjaboghnpjaaW.PrintMore
attribute [local go_sem] max2_int min2_int max_two min_two max_three min_three max_four min_four   -- for this text's walks alone
set_option linter.unusedVariables false
set_option linter.unusedSimpArgs false

/-- A state of type 60 at block g of W; what its slices lead to came in by w0. -/
def IsS60 (w0 W : World) (g : Nat) (f0 : List ByteArray) (f1 : ByteArray) (f2 : ByteArray) (f3 : Int) (f4 : Int) (f5 : Int) (f6 : Int) (f7 : ByteArray) (f8 : ByteArray) (f9 : ByteArray) (f10 : Int) (f11 : Int) (f12 : Int) (f13 : Int) (f14 : ByteArray) (f15 : Bool) (f16 : Int) (f17 : Int) (f18 : Bool) : Prop := ∃ A0 c0, W.heap[g]? = some (.cells #[.slice A0 f0.length c0, .string f1, .string f2, .int .i64 f3, .int .i64 f4, .int .i64 f5, .int .i64 f6, .string f7, .string f8, .string f9, .int .i64 f10, .int .i64 f11, .int .i64 f12, .int .i64 f13, .string f14, .bool f15, .int .i64 f16, .int .i64 f17, .bool f18] 60 (0, 0)) ∧ w0.heap.size ≤ g ∧ Kd.C Kd.string w0 A0 f0.length f0
theorem IsS60.grown {w0 W : World} {g : Nat} {f0 : List ByteArray} {f1 : ByteArray} {f2 : ByteArray} {f3 : Int} {f4 : Int} {f5 : Int} {f6 : Int} {f7 : ByteArray} {f8 : ByteArray} {f9 : ByteArray} {f10 : Int} {f11 : Int} {f12 : Int} {f13 : Int} {f14 : ByteArray} {f15 : Bool} {f16 : Int} {f17 : Int} {f18 : Bool} {W1 : World} {row : Option Nat} (h : IsS60 w0 W g f0 f1 f2 f3 f4 f5 f6 f7 f8 f9 f10 f11 f12 f13 f14 f15 f16 f17 f18) (hw : W.grownBy W1 row) (hne : some g ≠ row) : IsS60 w0 W1 g f0 f1 f2 f3 f4 f5 f6 f7 f8 f9 f10 f11 f12 f13 f14 f15 f16 f17 f18 := by
  obtain ⟨A0, c0, hb, hg, hr0⟩ := h
  exact ⟨A0, c0, blk_grown hb hw hne, hg, hr0⟩
theorem IsS60.own_neN {w0 W : World} {g : Nat} {f0 : List ByteArray} {f1 : ByteArray} {f2 : ByteArray} {f3 : Int} {f4 : Int} {f5 : Int} {f6 : Int} {f7 : ByteArray} {f8 : ByteArray} {f9 : ByteArray} {f10 : Int} {f11 : Int} {f12 : Int} {f13 : Int} {f14 : ByteArray} {f15 : Bool} {f16 : Int} {f17 : Int} {f18 : Bool} {α : Type} {d : Kd α} {e : Nat} {base : Nat} {ok : Nat → Prop} {v : Value} {xs : List α} (h : IsS60 w0 W g f0 f1 f2 f3 f4 f5 f6 f7 f8 f9 f10 f11 f12 f13 f14 f15 f16 f17 f18) (ho : Kd.N d e W base ok v xs) (ht : e ≠ 60) : some g ≠ v.ownBlock := by
  obtain ⟨A0, c0, hb, hg, hr0⟩ := h
  exact Kd.N_ne ho hb ht
theorem IsS60.fresh {w0 W : World} {g : Nat} {f0 : List ByteArray} {f1 : ByteArray} {f2 : ByteArray} {f3 : Int} {f4 : Int} {f5 : Int} {f6 : Int} {f7 : ByteArray} {f8 : ByteArray} {f9 : ByteArray} {f10 : Int} {f11 : Int} {f12 : Int} {f13 : Int} {f14 : ByteArray} {f15 : Bool} {f16 : Int} {f17 : Int} {f18 : Bool} (h : IsS60 w0 W g f0 f1 f2 f3 f4 f5 f6 f7 f8 f9 f10 f11 f12 f13 f14 f15 f16 f17 f18) : ∀ k, W.heap.size ≤ k → k ≠ g := by
  obtain ⟨A0, c0, hb, hg, hr0⟩ := h
  exact Kd.freshB hb
theorem IsS60.kept {w0 W : World} {g : Nat} {f0 : List ByteArray} {f1 : ByteArray} {f2 : ByteArray} {f3 : Int} {f4 : Int} {f5 : Int} {f6 : Int} {f7 : ByteArray} {f8 : ByteArray} {f9 : ByteArray} {f10 : Int} {f11 : Int} {f12 : Int} {f13 : Int} {f14 : ByteArray} {f15 : Bool} {f16 : Int} {f17 : Int} {f18 : Bool} {W1 : World} {S : Nat → Prop} (h : IsS60 w0 W g f0 f1 f2 f3 f4 f5 f6 f7 f8 f9 f10 f11 f12 f13 f14 f15 f16 f17 f18) (hk : Kept W W1 S) (hne : ¬ S g) : IsS60 w0 W1 g f0 f1 f2 f3 f4 f5 f6 f7 f8 f9 f10 f11 f12 f13 f14 f15 f16 f17 f18 := by
  obtain ⟨A0, c0, hb, hg, hr0⟩ := h
  exact ⟨A0, c0, blk_kept hb hk hne, hg, hr0⟩
theorem IsS60.below {w0 W : World} {g : Nat} {f0 : List ByteArray} {f1 : ByteArray} {f2 : ByteArray} {f3 : Int} {f4 : Int} {f5 : Int} {f6 : Int} {f7 : ByteArray} {f8 : ByteArray} {f9 : ByteArray} {f10 : Int} {f11 : Int} {f12 : Int} {f13 : Int} {f14 : ByteArray} {f15 : Bool} {f16 : Int} {f17 : Int} {f18 : Bool} {W1 : World} (h : IsS60 w0 W g f0 f1 f2 f3 f4 f5 f6 f7 f8 f9 f10 f11 f12 f13 f14 f15 f16 f17 f18) (hw : Below W.heap.size W W1) : IsS60 w0 W1 g f0 f1 f2 f3 f4 f5 f6 f7 f8 f9 f10 f11 f12 f13 f14 f15 f16 f17 f18 := h.grown (grown_of_below hw none) (by simp)
theorem IsS60.alloc {w0 W : World} {g : Nat} {f0 : List ByteArray} {f1 : ByteArray} {f2 : ByteArray} {f3 : Int} {f4 : Int} {f5 : Int} {f6 : Int} {f7 : ByteArray} {f8 : ByteArray} {f9 : ByteArray} {f10 : Int} {f11 : Int} {f12 : Int} {f13 : Int} {f14 : ByteArray} {f15 : Bool} {f16 : Int} {f17 : Int} {f18 : Bool} (h : IsS60 w0 W g f0 f1 f2 f3 f4 f5 f6 f7 f8 f9 f10 f11 f12 f13 f14 f15 f16 f17 f18) (o : Obj) : IsS60 w0 (W.alloc o) g f0 f1 f2 f3 f4 f5 f6 f7 f8 f9 f10 f11 f12 f13 f14 f15 f16 f17 f18 := h.below (below_alloc (Below.refl _ _) o)
theorem IsS60.drewN {w0 W : World} {g : Nat} {f0 : List ByteArray} {f1 : ByteArray} {f2 : ByteArray} {f3 : Int} {f4 : Int} {f5 : Int} {f6 : Int} {f7 : ByteArray} {f8 : ByteArray} {f9 : ByteArray} {f10 : Int} {f11 : Int} {f12 : Int} {f13 : Int} {f14 : ByteArray} {f15 : Bool} {f16 : Int} {f17 : Int} {f18 : Bool} (h : IsS60 w0 W g f0 f1 f2 f3 f4 f5 f6 f7 f8 f9 f10 f11 f12 f13 f14 f15 f16 f17 f18) (m : Nat) : IsS60 w0 (W.drewN m) g f0 f1 f2 f3 f4 f5 f6 f7 f8 f9 f10 f11 f12 f13 f14 f15 f16 f17 f18 := h
theorem IsS60.drew {w0 W : World} {g : Nat} {f0 : List ByteArray} {f1 : ByteArray} {f2 : ByteArray} {f3 : Int} {f4 : Int} {f5 : Int} {f6 : Int} {f7 : ByteArray} {f8 : ByteArray} {f9 : ByteArray} {f10 : Int} {f11 : Int} {f12 : Int} {f13 : Int} {f14 : ByteArray} {f15 : Bool} {f16 : Int} {f17 : Int} {f18 : Bool} (h : IsS60 w0 W g f0 f1 f2 f3 f4 f5 f6 f7 f8 f9 f10 f11 f12 f13 f14 f15 f16 f17 f18) : IsS60 w0 W.drew g f0 f1 f2 f3 f4 f5 f6 f7 f8 f9 f10 f11 f12 f13 f14 f15 f16 f17 f18 := h
theorem IsS60.at_ {w0 W : World} {g : Nat} {f0 : List ByteArray} {f1 : ByteArray} {f2 : ByteArray} {f3 : Int} {f4 : Int} {f5 : Int} {f6 : Int} {f7 : ByteArray} {f8 : ByteArray} {f9 : ByteArray} {f10 : Int} {f11 : Int} {f12 : Int} {f13 : Int} {f14 : ByteArray} {f15 : Bool} {f16 : Int} {f17 : Int} {f18 : Bool} {w' : World} {m : Nat} (hq : W.drewN m = w') (h : IsS60 w0 W g f0 f1 f2 f3 f4 f5 f6 f7 f8 f9 f10 f11 f12 f13 f14 f15 f16 f17 f18) : IsS60 w0 w' g f0 f1 f2 f3 f4 f5 f6 f7 f8 f9 f10 f11 f12 f13 f14 f15 f16 f17 f18 := by subst hq; exact IsS60.drewN h m
theorem IsS60.apart {w0 W : World} {g : Nat} {f0 : List ByteArray} {f1 : ByteArray} {f2 : ByteArray} {f3 : Int} {f4 : Int} {f5 : Int} {f6 : Int} {f7 : ByteArray} {f8 : ByteArray} {f9 : ByteArray} {f10 : Int} {f11 : Int} {f12 : Int} {f13 : Int} {f14 : ByteArray} {f15 : Bool} {f16 : Int} {f17 : Int} {f18 : Bool} {α : Type} {d : Kd α} {e : Nat} {base : Nat} {ok : Nat → Prop} {v : Value} {xs : List α} (h : IsS60 w0 W g f0 f1 f2 f3 f4 f5 f6 f7 f8 f9 f10 f11 f12 f13 f14 f15 f16 f17 f18) (ho : d.R e W base ok v xs) (ht : ∀ q, q ∈ e :: d.E → q ≠ 60) : d.R e W base (fun k => ok k ∧ k ≠ g) v xs := by
  obtain ⟨A0, c0, hb, hg, hr0⟩ := h
  exact Kd.R_types ho hb ht
theorem IsS60.own_ne {w0 W : World} {g : Nat} {f0 : List ByteArray} {f1 : ByteArray} {f2 : ByteArray} {f3 : Int} {f4 : Int} {f5 : Int} {f6 : Int} {f7 : ByteArray} {f8 : ByteArray} {f9 : ByteArray} {f10 : Int} {f11 : Int} {f12 : Int} {f13 : Int} {f14 : ByteArray} {f15 : Bool} {f16 : Int} {f17 : Int} {f18 : Bool} {α : Type} {d : Kd α} {e : Nat} {base : Nat} {ok : Nat → Prop} {v : Value} {xs : List α} (h : IsS60 w0 W g f0 f1 f2 f3 f4 f5 f6 f7 f8 f9 f10 f11 f12 f13 f14 f15 f16 f17 f18) (ho : d.R e W base ok v xs) (ht : e ≠ 60) : some g ≠ v.ownBlock := by
  obtain ⟨A0, c0, hb, hg, hr0⟩ := h
  exact Kd.R_ne ho hb ht
theorem IsS60.apartQ {w0 W : World} {g : Nat} {f0 : List ByteArray} {f1 : ByteArray} {f2 : ByteArray} {f3 : Int} {f4 : Int} {f5 : Int} {f6 : Int} {f7 : ByteArray} {f8 : ByteArray} {f9 : ByteArray} {f10 : Int} {f11 : Int} {f12 : Int} {f13 : Int} {f14 : ByteArray} {f15 : Bool} {f16 : Int} {f17 : Int} {f18 : Bool} {α : Type} {d : Kd α} {e : Nat} {base : Nat} {ok : Nat → Prop} {v : Value} {xs : List α} (h : IsS60 w0 W g f0 f1 f2 f3 f4 f5 f6 f7 f8 f9 f10 f11 f12 f13 f14 f15 f16 f17 f18) (ho : d.Q e W base ok v xs) (ht : ∀ q, q ∈ e :: d.E → q ≠ 60) : d.Q e W base (fun k => ok k ∧ k ≠ g) v xs := by
  obtain ⟨A0, c0, hb, hg, hr0⟩ := h
  exact Kd.Q_types ho hb ht
theorem IsS60.own_neQ {w0 W : World} {g : Nat} {f0 : List ByteArray} {f1 : ByteArray} {f2 : ByteArray} {f3 : Int} {f4 : Int} {f5 : Int} {f6 : Int} {f7 : ByteArray} {f8 : ByteArray} {f9 : ByteArray} {f10 : Int} {f11 : Int} {f12 : Int} {f13 : Int} {f14 : ByteArray} {f15 : Bool} {f16 : Int} {f17 : Int} {f18 : Bool} {α : Type} {d : Kd α} {e : Nat} {base : Nat} {ok : Nat → Prop} {v : Value} {xs : List α} (h : IsS60 w0 W g f0 f1 f2 f3 f4 f5 f6 f7 f8 f9 f10 f11 f12 f13 f14 f15 f16 f17 f18) (ho : d.Q e W base ok v xs) (ht : e ≠ 60) : some g ≠ v.ownBlock := by
  obtain ⟨A0, c0, hb, hg, hr0⟩ := h
  exact Kd.Q_ne ho hb ht
theorem IsS60.apartS {w0 W : World} {g : Nat} {f0 : List ByteArray} {f1 : ByteArray} {f2 : ByteArray} {f3 : Int} {f4 : Int} {f5 : Int} {f6 : Int} {f7 : ByteArray} {f8 : ByteArray} {f9 : ByteArray} {f10 : Int} {f11 : Int} {f12 : Int} {f13 : Int} {f14 : ByteArray} {f15 : Bool} {f16 : Int} {f17 : Int} {f18 : Bool} {α : Type} {d : Kd α} {e : Nat} {base : Nat} {ok : Nat → Prop} {v : Value} {xs : List α} (h : IsS60 w0 W g f0 f1 f2 f3 f4 f5 f6 f7 f8 f9 f10 f11 f12 f13 f14 f15 f16 f17 f18) (ho : d.S e W base ok v xs) (ht : ∀ q, q ∈ e :: d.E → q ≠ 60) : d.S e W base (fun k => ok k ∧ k ≠ g) v xs := by
  obtain ⟨A0, c0, hb, hg, hr0⟩ := h
  exact Kd.S_types ho hb ht
theorem IsS60.own_neS {w0 W : World} {g : Nat} {f0 : List ByteArray} {f1 : ByteArray} {f2 : ByteArray} {f3 : Int} {f4 : Int} {f5 : Int} {f6 : Int} {f7 : ByteArray} {f8 : ByteArray} {f9 : ByteArray} {f10 : Int} {f11 : Int} {f12 : Int} {f13 : Int} {f14 : ByteArray} {f15 : Bool} {f16 : Int} {f17 : Int} {f18 : Bool} {α : Type} {d : Kd α} {e : Nat} {base : Nat} {ok : Nat → Prop} {v : Value} {xs : List α} (h : IsS60 w0 W g f0 f1 f2 f3 f4 f5 f6 f7 f8 f9 f10 f11 f12 f13 f14 f15 f16 f17 f18) (ho : d.S e W base ok v xs) (ht : e ≠ 60) : some g ≠ v.ownBlock := by
  obtain ⟨A0, c0, hb, hg, hr0⟩ := h
  exact Kd.S_ne ho hb ht
theorem IsS60.lt {w0 W : World} {g : Nat} {f0 : List ByteArray} {f1 : ByteArray} {f2 : ByteArray} {f3 : Int} {f4 : Int} {f5 : Int} {f6 : Int} {f7 : ByteArray} {f8 : ByteArray} {f9 : ByteArray} {f10 : Int} {f11 : Int} {f12 : Int} {f13 : Int} {f14 : ByteArray} {f15 : Bool} {f16 : Int} {f17 : Int} {f18 : Bool} (h : IsS60 w0 W g f0 f1 f2 f3 f4 f5 f6 f7 f8 f9 f10 f11 f12 f13 f14 f15 f16 f17 f18) : g < W.heap.size := by
  obtain ⟨A0, c0, hb, hg, hr0⟩ := h
  exact blk_lt hb
theorem IsS60.ge {w0 W : World} {g : Nat} {f0 : List ByteArray} {f1 : ByteArray} {f2 : ByteArray} {f3 : Int} {f4 : Int} {f5 : Int} {f6 : Int} {f7 : ByteArray} {f8 : ByteArray} {f9 : ByteArray} {f10 : Int} {f11 : Int} {f12 : Int} {f13 : Int} {f14 : ByteArray} {f15 : Bool} {f16 : Int} {f17 : Int} {f18 : Bool} (h : IsS60 w0 W g f0 f1 f2 f3 f4 f5 f6 f7 f8 f9 f10 f11 f12 f13 f14 f15 f16 f17 f18) : w0.heap.size ≤ g := by
  obtain ⟨A0, c0, hb, hg, hr0⟩ := h
  exact hg
theorem IsS60.ne_blk {w0 W : World} {g : Nat} {f0 : List ByteArray} {f1 : ByteArray} {f2 : ByteArray} {f3 : Int} {f4 : Int} {f5 : Int} {f6 : Int} {f7 : ByteArray} {f8 : ByteArray} {f9 : ByteArray} {f10 : Int} {f11 : Int} {f12 : Int} {f13 : Int} {f14 : ByteArray} {f15 : Bool} {f16 : Int} {f17 : Int} {f18 : Bool} {a : Nat} {cs : Array Value} {t : TypeId} {fr : Nat × Nat} (h : IsS60 w0 W g f0 f1 f2 f3 f4 f5 f6 f7 f8 f9 f10 f11 f12 f13 f14 f15 f16 f17 f18) (hb2 : W.heap[a]? = some (.cells cs t fr)) (ht : t ≠ 60) : g ≠ a := by
  obtain ⟨A0, c0, hb, hg, hr0⟩ := h
  rintro rfl
  rw [hb] at hb2
  injection hb2 with hb2
  injection hb2 with _ ht2
  exact ht ht2.symm
theorem IsS60.far {w0 W : World} {g : Nat} {f0 : List ByteArray} {f1 : ByteArray} {f2 : ByteArray} {f3 : Int} {f4 : Int} {f5 : Int} {f6 : Int} {f7 : ByteArray} {f8 : ByteArray} {f9 : ByteArray} {f10 : Int} {f11 : Int} {f12 : Int} {f13 : Int} {f14 : ByteArray} {f15 : Bool} {f16 : Int} {f17 : Int} {f18 : Bool} {p : Addr} (h : IsS60 w0 W g f0 f1 f2 f3 f4 f5 f6 f7 f8 f9 f10 f11 f12 f13 f14 f15 f16 f17 f18) (hne : g ≠ p.block) (u : Value) : IsS60 w0 (W.setCell p u) g f0 f1 f2 f3 f4 f5 f6 f7 f8 f9 f10 f11 f12 f13 f14 f15 f16 f17 f18 := by
  obtain ⟨A0, c0, hb, hg, hr0⟩ := h
  exact ⟨A0, c0, blk_far hb hne u, hg, hr0⟩
theorem cellS60_0 {W : World} {g : Nat} {A0 : Option Addr} {c0 : Nat} {f0 : List ByteArray} {f1 : ByteArray} {f2 : ByteArray} {f3 : Int} {f4 : Int} {f5 : Int} {f6 : Int} {f7 : ByteArray} {f8 : ByteArray} {f9 : ByteArray} {f10 : Int} {f11 : Int} {f12 : Int} {f13 : Int} {f14 : ByteArray} {f15 : Bool} {f16 : Int} {f17 : Int} {f18 : Bool} (h : W.heap[g]? = some (.cells #[.slice A0 f0.length c0, .string f1, .string f2, .int .i64 f3, .int .i64 f4, .int .i64 f5, .int .i64 f6, .string f7, .string f8, .string f9, .int .i64 f10, .int .i64 f11, .int .i64 f12, .int .i64 f13, .string f14, .bool f15, .int .i64 f16, .int .i64 f17, .bool f18] 60 (0, 0))) : W.cell? ⟨g, 0, none⟩ = some (.slice A0 f0.length c0) := (blk_cell h 0).trans rfl
theorem cellS60_1 {W : World} {g : Nat} {A0 : Option Addr} {c0 : Nat} {f0 : List ByteArray} {f1 : ByteArray} {f2 : ByteArray} {f3 : Int} {f4 : Int} {f5 : Int} {f6 : Int} {f7 : ByteArray} {f8 : ByteArray} {f9 : ByteArray} {f10 : Int} {f11 : Int} {f12 : Int} {f13 : Int} {f14 : ByteArray} {f15 : Bool} {f16 : Int} {f17 : Int} {f18 : Bool} (h : W.heap[g]? = some (.cells #[.slice A0 f0.length c0, .string f1, .string f2, .int .i64 f3, .int .i64 f4, .int .i64 f5, .int .i64 f6, .string f7, .string f8, .string f9, .int .i64 f10, .int .i64 f11, .int .i64 f12, .int .i64 f13, .string f14, .bool f15, .int .i64 f16, .int .i64 f17, .bool f18] 60 (0, 0))) : W.cell? ⟨g, 1, none⟩ = some (.string f1) := (blk_cell h 1).trans rfl
theorem IsS60.set_1 {w0 W : World} {g : Nat} {f0 : List ByteArray} {f1 : ByteArray} {f2 : ByteArray} {f3 : Int} {f4 : Int} {f5 : Int} {f6 : Int} {f7 : ByteArray} {f8 : ByteArray} {f9 : ByteArray} {f10 : Int} {f11 : Int} {f12 : Int} {f13 : Int} {f14 : ByteArray} {f15 : Bool} {f16 : Int} {f17 : Int} {f18 : Bool} (h : IsS60 w0 W g f0 f1 f2 f3 f4 f5 f6 f7 f8 f9 f10 f11 f12 f13 f14 f15 f16 f17 f18) (x : ByteArray) : IsS60 w0 (W.setCell ⟨g, 1, none⟩ (.string x)) g f0 x f2 f3 f4 f5 f6 f7 f8 f9 f10 f11 f12 f13 f14 f15 f16 f17 f18 := by
  obtain ⟨A0, c0, hb, hg, hr0⟩ := h
  exact ⟨A0, c0, by simpa using blk_set hb 1 (.string x), hg, hr0⟩
theorem cellS60_2 {W : World} {g : Nat} {A0 : Option Addr} {c0 : Nat} {f0 : List ByteArray} {f1 : ByteArray} {f2 : ByteArray} {f3 : Int} {f4 : Int} {f5 : Int} {f6 : Int} {f7 : ByteArray} {f8 : ByteArray} {f9 : ByteArray} {f10 : Int} {f11 : Int} {f12 : Int} {f13 : Int} {f14 : ByteArray} {f15 : Bool} {f16 : Int} {f17 : Int} {f18 : Bool} (h : W.heap[g]? = some (.cells #[.slice A0 f0.length c0, .string f1, .string f2, .int .i64 f3, .int .i64 f4, .int .i64 f5, .int .i64 f6, .string f7, .string f8, .string f9, .int .i64 f10, .int .i64 f11, .int .i64 f12, .int .i64 f13, .string f14, .bool f15, .int .i64 f16, .int .i64 f17, .bool f18] 60 (0, 0))) : W.cell? ⟨g, 2, none⟩ = some (.string f2) := (blk_cell h 2).trans rfl
theorem IsS60.set_2 {w0 W : World} {g : Nat} {f0 : List ByteArray} {f1 : ByteArray} {f2 : ByteArray} {f3 : Int} {f4 : Int} {f5 : Int} {f6 : Int} {f7 : ByteArray} {f8 : ByteArray} {f9 : ByteArray} {f10 : Int} {f11 : Int} {f12 : Int} {f13 : Int} {f14 : ByteArray} {f15 : Bool} {f16 : Int} {f17 : Int} {f18 : Bool} (h : IsS60 w0 W g f0 f1 f2 f3 f4 f5 f6 f7 f8 f9 f10 f11 f12 f13 f14 f15 f16 f17 f18) (x : ByteArray) : IsS60 w0 (W.setCell ⟨g, 2, none⟩ (.string x)) g f0 f1 x f3 f4 f5 f6 f7 f8 f9 f10 f11 f12 f13 f14 f15 f16 f17 f18 := by
  obtain ⟨A0, c0, hb, hg, hr0⟩ := h
  exact ⟨A0, c0, by simpa using blk_set hb 2 (.string x), hg, hr0⟩
theorem cellS60_3 {W : World} {g : Nat} {A0 : Option Addr} {c0 : Nat} {f0 : List ByteArray} {f1 : ByteArray} {f2 : ByteArray} {f3 : Int} {f4 : Int} {f5 : Int} {f6 : Int} {f7 : ByteArray} {f8 : ByteArray} {f9 : ByteArray} {f10 : Int} {f11 : Int} {f12 : Int} {f13 : Int} {f14 : ByteArray} {f15 : Bool} {f16 : Int} {f17 : Int} {f18 : Bool} (h : W.heap[g]? = some (.cells #[.slice A0 f0.length c0, .string f1, .string f2, .int .i64 f3, .int .i64 f4, .int .i64 f5, .int .i64 f6, .string f7, .string f8, .string f9, .int .i64 f10, .int .i64 f11, .int .i64 f12, .int .i64 f13, .string f14, .bool f15, .int .i64 f16, .int .i64 f17, .bool f18] 60 (0, 0))) : W.cell? ⟨g, 3, none⟩ = some (.int .i64 f3) := (blk_cell h 3).trans rfl
theorem IsS60.set_3 {w0 W : World} {g : Nat} {f0 : List ByteArray} {f1 : ByteArray} {f2 : ByteArray} {f3 : Int} {f4 : Int} {f5 : Int} {f6 : Int} {f7 : ByteArray} {f8 : ByteArray} {f9 : ByteArray} {f10 : Int} {f11 : Int} {f12 : Int} {f13 : Int} {f14 : ByteArray} {f15 : Bool} {f16 : Int} {f17 : Int} {f18 : Bool} (h : IsS60 w0 W g f0 f1 f2 f3 f4 f5 f6 f7 f8 f9 f10 f11 f12 f13 f14 f15 f16 f17 f18) (x : Int) : IsS60 w0 (W.setCell ⟨g, 3, none⟩ (.int .i64 x)) g f0 f1 f2 x f4 f5 f6 f7 f8 f9 f10 f11 f12 f13 f14 f15 f16 f17 f18 := by
  obtain ⟨A0, c0, hb, hg, hr0⟩ := h
  exact ⟨A0, c0, by simpa using blk_set hb 3 (.int .i64 x), hg, hr0⟩
theorem cellS60_4 {W : World} {g : Nat} {A0 : Option Addr} {c0 : Nat} {f0 : List ByteArray} {f1 : ByteArray} {f2 : ByteArray} {f3 : Int} {f4 : Int} {f5 : Int} {f6 : Int} {f7 : ByteArray} {f8 : ByteArray} {f9 : ByteArray} {f10 : Int} {f11 : Int} {f12 : Int} {f13 : Int} {f14 : ByteArray} {f15 : Bool} {f16 : Int} {f17 : Int} {f18 : Bool} (h : W.heap[g]? = some (.cells #[.slice A0 f0.length c0, .string f1, .string f2, .int .i64 f3, .int .i64 f4, .int .i64 f5, .int .i64 f6, .string f7, .string f8, .string f9, .int .i64 f10, .int .i64 f11, .int .i64 f12, .int .i64 f13, .string f14, .bool f15, .int .i64 f16, .int .i64 f17, .bool f18] 60 (0, 0))) : W.cell? ⟨g, 4, none⟩ = some (.int .i64 f4) := (blk_cell h 4).trans rfl
theorem IsS60.set_4 {w0 W : World} {g : Nat} {f0 : List ByteArray} {f1 : ByteArray} {f2 : ByteArray} {f3 : Int} {f4 : Int} {f5 : Int} {f6 : Int} {f7 : ByteArray} {f8 : ByteArray} {f9 : ByteArray} {f10 : Int} {f11 : Int} {f12 : Int} {f13 : Int} {f14 : ByteArray} {f15 : Bool} {f16 : Int} {f17 : Int} {f18 : Bool} (h : IsS60 w0 W g f0 f1 f2 f3 f4 f5 f6 f7 f8 f9 f10 f11 f12 f13 f14 f15 f16 f17 f18) (x : Int) : IsS60 w0 (W.setCell ⟨g, 4, none⟩ (.int .i64 x)) g f0 f1 f2 f3 x f5 f6 f7 f8 f9 f10 f11 f12 f13 f14 f15 f16 f17 f18 := by
  obtain ⟨A0, c0, hb, hg, hr0⟩ := h
  exact ⟨A0, c0, by simpa using blk_set hb 4 (.int .i64 x), hg, hr0⟩
theorem cellS60_5 {W : World} {g : Nat} {A0 : Option Addr} {c0 : Nat} {f0 : List ByteArray} {f1 : ByteArray} {f2 : ByteArray} {f3 : Int} {f4 : Int} {f5 : Int} {f6 : Int} {f7 : ByteArray} {f8 : ByteArray} {f9 : ByteArray} {f10 : Int} {f11 : Int} {f12 : Int} {f13 : Int} {f14 : ByteArray} {f15 : Bool} {f16 : Int} {f17 : Int} {f18 : Bool} (h : W.heap[g]? = some (.cells #[.slice A0 f0.length c0, .string f1, .string f2, .int .i64 f3, .int .i64 f4, .int .i64 f5, .int .i64 f6, .string f7, .string f8, .string f9, .int .i64 f10, .int .i64 f11, .int .i64 f12, .int .i64 f13, .string f14, .bool f15, .int .i64 f16, .int .i64 f17, .bool f18] 60 (0, 0))) : W.cell? ⟨g, 5, none⟩ = some (.int .i64 f5) := (blk_cell h 5).trans rfl
theorem IsS60.set_5 {w0 W : World} {g : Nat} {f0 : List ByteArray} {f1 : ByteArray} {f2 : ByteArray} {f3 : Int} {f4 : Int} {f5 : Int} {f6 : Int} {f7 : ByteArray} {f8 : ByteArray} {f9 : ByteArray} {f10 : Int} {f11 : Int} {f12 : Int} {f13 : Int} {f14 : ByteArray} {f15 : Bool} {f16 : Int} {f17 : Int} {f18 : Bool} (h : IsS60 w0 W g f0 f1 f2 f3 f4 f5 f6 f7 f8 f9 f10 f11 f12 f13 f14 f15 f16 f17 f18) (x : Int) : IsS60 w0 (W.setCell ⟨g, 5, none⟩ (.int .i64 x)) g f0 f1 f2 f3 f4 x f6 f7 f8 f9 f10 f11 f12 f13 f14 f15 f16 f17 f18 := by
  obtain ⟨A0, c0, hb, hg, hr0⟩ := h
  exact ⟨A0, c0, by simpa using blk_set hb 5 (.int .i64 x), hg, hr0⟩
theorem cellS60_6 {W : World} {g : Nat} {A0 : Option Addr} {c0 : Nat} {f0 : List ByteArray} {f1 : ByteArray} {f2 : ByteArray} {f3 : Int} {f4 : Int} {f5 : Int} {f6 : Int} {f7 : ByteArray} {f8 : ByteArray} {f9 : ByteArray} {f10 : Int} {f11 : Int} {f12 : Int} {f13 : Int} {f14 : ByteArray} {f15 : Bool} {f16 : Int} {f17 : Int} {f18 : Bool} (h : W.heap[g]? = some (.cells #[.slice A0 f0.length c0, .string f1, .string f2, .int .i64 f3, .int .i64 f4, .int .i64 f5, .int .i64 f6, .string f7, .string f8, .string f9, .int .i64 f10, .int .i64 f11, .int .i64 f12, .int .i64 f13, .string f14, .bool f15, .int .i64 f16, .int .i64 f17, .bool f18] 60 (0, 0))) : W.cell? ⟨g, 6, none⟩ = some (.int .i64 f6) := (blk_cell h 6).trans rfl
theorem IsS60.set_6 {w0 W : World} {g : Nat} {f0 : List ByteArray} {f1 : ByteArray} {f2 : ByteArray} {f3 : Int} {f4 : Int} {f5 : Int} {f6 : Int} {f7 : ByteArray} {f8 : ByteArray} {f9 : ByteArray} {f10 : Int} {f11 : Int} {f12 : Int} {f13 : Int} {f14 : ByteArray} {f15 : Bool} {f16 : Int} {f17 : Int} {f18 : Bool} (h : IsS60 w0 W g f0 f1 f2 f3 f4 f5 f6 f7 f8 f9 f10 f11 f12 f13 f14 f15 f16 f17 f18) (x : Int) : IsS60 w0 (W.setCell ⟨g, 6, none⟩ (.int .i64 x)) g f0 f1 f2 f3 f4 f5 x f7 f8 f9 f10 f11 f12 f13 f14 f15 f16 f17 f18 := by
  obtain ⟨A0, c0, hb, hg, hr0⟩ := h
  exact ⟨A0, c0, by simpa using blk_set hb 6 (.int .i64 x), hg, hr0⟩
theorem cellS60_7 {W : World} {g : Nat} {A0 : Option Addr} {c0 : Nat} {f0 : List ByteArray} {f1 : ByteArray} {f2 : ByteArray} {f3 : Int} {f4 : Int} {f5 : Int} {f6 : Int} {f7 : ByteArray} {f8 : ByteArray} {f9 : ByteArray} {f10 : Int} {f11 : Int} {f12 : Int} {f13 : Int} {f14 : ByteArray} {f15 : Bool} {f16 : Int} {f17 : Int} {f18 : Bool} (h : W.heap[g]? = some (.cells #[.slice A0 f0.length c0, .string f1, .string f2, .int .i64 f3, .int .i64 f4, .int .i64 f5, .int .i64 f6, .string f7, .string f8, .string f9, .int .i64 f10, .int .i64 f11, .int .i64 f12, .int .i64 f13, .string f14, .bool f15, .int .i64 f16, .int .i64 f17, .bool f18] 60 (0, 0))) : W.cell? ⟨g, 7, none⟩ = some (.string f7) := (blk_cell h 7).trans rfl
theorem IsS60.set_7 {w0 W : World} {g : Nat} {f0 : List ByteArray} {f1 : ByteArray} {f2 : ByteArray} {f3 : Int} {f4 : Int} {f5 : Int} {f6 : Int} {f7 : ByteArray} {f8 : ByteArray} {f9 : ByteArray} {f10 : Int} {f11 : Int} {f12 : Int} {f13 : Int} {f14 : ByteArray} {f15 : Bool} {f16 : Int} {f17 : Int} {f18 : Bool} (h : IsS60 w0 W g f0 f1 f2 f3 f4 f5 f6 f7 f8 f9 f10 f11 f12 f13 f14 f15 f16 f17 f18) (x : ByteArray) : IsS60 w0 (W.setCell ⟨g, 7, none⟩ (.string x)) g f0 f1 f2 f3 f4 f5 f6 x f8 f9 f10 f11 f12 f13 f14 f15 f16 f17 f18 := by
  obtain ⟨A0, c0, hb, hg, hr0⟩ := h
  exact ⟨A0, c0, by simpa using blk_set hb 7 (.string x), hg, hr0⟩
theorem cellS60_8 {W : World} {g : Nat} {A0 : Option Addr} {c0 : Nat} {f0 : List ByteArray} {f1 : ByteArray} {f2 : ByteArray} {f3 : Int} {f4 : Int} {f5 : Int} {f6 : Int} {f7 : ByteArray} {f8 : ByteArray} {f9 : ByteArray} {f10 : Int} {f11 : Int} {f12 : Int} {f13 : Int} {f14 : ByteArray} {f15 : Bool} {f16 : Int} {f17 : Int} {f18 : Bool} (h : W.heap[g]? = some (.cells #[.slice A0 f0.length c0, .string f1, .string f2, .int .i64 f3, .int .i64 f4, .int .i64 f5, .int .i64 f6, .string f7, .string f8, .string f9, .int .i64 f10, .int .i64 f11, .int .i64 f12, .int .i64 f13, .string f14, .bool f15, .int .i64 f16, .int .i64 f17, .bool f18] 60 (0, 0))) : W.cell? ⟨g, 8, none⟩ = some (.string f8) := (blk_cell h 8).trans rfl
theorem IsS60.set_8 {w0 W : World} {g : Nat} {f0 : List ByteArray} {f1 : ByteArray} {f2 : ByteArray} {f3 : Int} {f4 : Int} {f5 : Int} {f6 : Int} {f7 : ByteArray} {f8 : ByteArray} {f9 : ByteArray} {f10 : Int} {f11 : Int} {f12 : Int} {f13 : Int} {f14 : ByteArray} {f15 : Bool} {f16 : Int} {f17 : Int} {f18 : Bool} (h : IsS60 w0 W g f0 f1 f2 f3 f4 f5 f6 f7 f8 f9 f10 f11 f12 f13 f14 f15 f16 f17 f18) (x : ByteArray) : IsS60 w0 (W.setCell ⟨g, 8, none⟩ (.string x)) g f0 f1 f2 f3 f4 f5 f6 f7 x f9 f10 f11 f12 f13 f14 f15 f16 f17 f18 := by
  obtain ⟨A0, c0, hb, hg, hr0⟩ := h
  exact ⟨A0, c0, by simpa using blk_set hb 8 (.string x), hg, hr0⟩
theorem cellS60_9 {W : World} {g : Nat} {A0 : Option Addr} {c0 : Nat} {f0 : List ByteArray} {f1 : ByteArray} {f2 : ByteArray} {f3 : Int} {f4 : Int} {f5 : Int} {f6 : Int} {f7 : ByteArray} {f8 : ByteArray} {f9 : ByteArray} {f10 : Int} {f11 : Int} {f12 : Int} {f13 : Int} {f14 : ByteArray} {f15 : Bool} {f16 : Int} {f17 : Int} {f18 : Bool} (h : W.heap[g]? = some (.cells #[.slice A0 f0.length c0, .string f1, .string f2, .int .i64 f3, .int .i64 f4, .int .i64 f5, .int .i64 f6, .string f7, .string f8, .string f9, .int .i64 f10, .int .i64 f11, .int .i64 f12, .int .i64 f13, .string f14, .bool f15, .int .i64 f16, .int .i64 f17, .bool f18] 60 (0, 0))) : W.cell? ⟨g, 9, none⟩ = some (.string f9) := (blk_cell h 9).trans rfl
theorem IsS60.set_9 {w0 W : World} {g : Nat} {f0 : List ByteArray} {f1 : ByteArray} {f2 : ByteArray} {f3 : Int} {f4 : Int} {f5 : Int} {f6 : Int} {f7 : ByteArray} {f8 : ByteArray} {f9 : ByteArray} {f10 : Int} {f11 : Int} {f12 : Int} {f13 : Int} {f14 : ByteArray} {f15 : Bool} {f16 : Int} {f17 : Int} {f18 : Bool} (h : IsS60 w0 W g f0 f1 f2 f3 f4 f5 f6 f7 f8 f9 f10 f11 f12 f13 f14 f15 f16 f17 f18) (x : ByteArray) : IsS60 w0 (W.setCell ⟨g, 9, none⟩ (.string x)) g f0 f1 f2 f3 f4 f5 f6 f7 f8 x f10 f11 f12 f13 f14 f15 f16 f17 f18 := by
  obtain ⟨A0, c0, hb, hg, hr0⟩ := h
  exact ⟨A0, c0, by simpa using blk_set hb 9 (.string x), hg, hr0⟩
theorem cellS60_10 {W : World} {g : Nat} {A0 : Option Addr} {c0 : Nat} {f0 : List ByteArray} {f1 : ByteArray} {f2 : ByteArray} {f3 : Int} {f4 : Int} {f5 : Int} {f6 : Int} {f7 : ByteArray} {f8 : ByteArray} {f9 : ByteArray} {f10 : Int} {f11 : Int} {f12 : Int} {f13 : Int} {f14 : ByteArray} {f15 : Bool} {f16 : Int} {f17 : Int} {f18 : Bool} (h : W.heap[g]? = some (.cells #[.slice A0 f0.length c0, .string f1, .string f2, .int .i64 f3, .int .i64 f4, .int .i64 f5, .int .i64 f6, .string f7, .string f8, .string f9, .int .i64 f10, .int .i64 f11, .int .i64 f12, .int .i64 f13, .string f14, .bool f15, .int .i64 f16, .int .i64 f17, .bool f18] 60 (0, 0))) : W.cell? ⟨g, 10, none⟩ = some (.int .i64 f10) := (blk_cell h 10).trans rfl
theorem IsS60.set_10 {w0 W : World} {g : Nat} {f0 : List ByteArray} {f1 : ByteArray} {f2 : ByteArray} {f3 : Int} {f4 : Int} {f5 : Int} {f6 : Int} {f7 : ByteArray} {f8 : ByteArray} {f9 : ByteArray} {f10 : Int} {f11 : Int} {f12 : Int} {f13 : Int} {f14 : ByteArray} {f15 : Bool} {f16 : Int} {f17 : Int} {f18 : Bool} (h : IsS60 w0 W g f0 f1 f2 f3 f4 f5 f6 f7 f8 f9 f10 f11 f12 f13 f14 f15 f16 f17 f18) (x : Int) : IsS60 w0 (W.setCell ⟨g, 10, none⟩ (.int .i64 x)) g f0 f1 f2 f3 f4 f5 f6 f7 f8 f9 x f11 f12 f13 f14 f15 f16 f17 f18 := by
  obtain ⟨A0, c0, hb, hg, hr0⟩ := h
  exact ⟨A0, c0, by simpa using blk_set hb 10 (.int .i64 x), hg, hr0⟩
theorem cellS60_11 {W : World} {g : Nat} {A0 : Option Addr} {c0 : Nat} {f0 : List ByteArray} {f1 : ByteArray} {f2 : ByteArray} {f3 : Int} {f4 : Int} {f5 : Int} {f6 : Int} {f7 : ByteArray} {f8 : ByteArray} {f9 : ByteArray} {f10 : Int} {f11 : Int} {f12 : Int} {f13 : Int} {f14 : ByteArray} {f15 : Bool} {f16 : Int} {f17 : Int} {f18 : Bool} (h : W.heap[g]? = some (.cells #[.slice A0 f0.length c0, .string f1, .string f2, .int .i64 f3, .int .i64 f4, .int .i64 f5, .int .i64 f6, .string f7, .string f8, .string f9, .int .i64 f10, .int .i64 f11, .int .i64 f12, .int .i64 f13, .string f14, .bool f15, .int .i64 f16, .int .i64 f17, .bool f18] 60 (0, 0))) : W.cell? ⟨g, 11, none⟩ = some (.int .i64 f11) := (blk_cell h 11).trans rfl
theorem IsS60.set_11 {w0 W : World} {g : Nat} {f0 : List ByteArray} {f1 : ByteArray} {f2 : ByteArray} {f3 : Int} {f4 : Int} {f5 : Int} {f6 : Int} {f7 : ByteArray} {f8 : ByteArray} {f9 : ByteArray} {f10 : Int} {f11 : Int} {f12 : Int} {f13 : Int} {f14 : ByteArray} {f15 : Bool} {f16 : Int} {f17 : Int} {f18 : Bool} (h : IsS60 w0 W g f0 f1 f2 f3 f4 f5 f6 f7 f8 f9 f10 f11 f12 f13 f14 f15 f16 f17 f18) (x : Int) : IsS60 w0 (W.setCell ⟨g, 11, none⟩ (.int .i64 x)) g f0 f1 f2 f3 f4 f5 f6 f7 f8 f9 f10 x f12 f13 f14 f15 f16 f17 f18 := by
  obtain ⟨A0, c0, hb, hg, hr0⟩ := h
  exact ⟨A0, c0, by simpa using blk_set hb 11 (.int .i64 x), hg, hr0⟩
theorem cellS60_12 {W : World} {g : Nat} {A0 : Option Addr} {c0 : Nat} {f0 : List ByteArray} {f1 : ByteArray} {f2 : ByteArray} {f3 : Int} {f4 : Int} {f5 : Int} {f6 : Int} {f7 : ByteArray} {f8 : ByteArray} {f9 : ByteArray} {f10 : Int} {f11 : Int} {f12 : Int} {f13 : Int} {f14 : ByteArray} {f15 : Bool} {f16 : Int} {f17 : Int} {f18 : Bool} (h : W.heap[g]? = some (.cells #[.slice A0 f0.length c0, .string f1, .string f2, .int .i64 f3, .int .i64 f4, .int .i64 f5, .int .i64 f6, .string f7, .string f8, .string f9, .int .i64 f10, .int .i64 f11, .int .i64 f12, .int .i64 f13, .string f14, .bool f15, .int .i64 f16, .int .i64 f17, .bool f18] 60 (0, 0))) : W.cell? ⟨g, 12, none⟩ = some (.int .i64 f12) := (blk_cell h 12).trans rfl
theorem IsS60.set_12 {w0 W : World} {g : Nat} {f0 : List ByteArray} {f1 : ByteArray} {f2 : ByteArray} {f3 : Int} {f4 : Int} {f5 : Int} {f6 : Int} {f7 : ByteArray} {f8 : ByteArray} {f9 : ByteArray} {f10 : Int} {f11 : Int} {f12 : Int} {f13 : Int} {f14 : ByteArray} {f15 : Bool} {f16 : Int} {f17 : Int} {f18 : Bool} (h : IsS60 w0 W g f0 f1 f2 f3 f4 f5 f6 f7 f8 f9 f10 f11 f12 f13 f14 f15 f16 f17 f18) (x : Int) : IsS60 w0 (W.setCell ⟨g, 12, none⟩ (.int .i64 x)) g f0 f1 f2 f3 f4 f5 f6 f7 f8 f9 f10 f11 x f13 f14 f15 f16 f17 f18 := by
  obtain ⟨A0, c0, hb, hg, hr0⟩ := h
  exact ⟨A0, c0, by simpa using blk_set hb 12 (.int .i64 x), hg, hr0⟩
theorem cellS60_13 {W : World} {g : Nat} {A0 : Option Addr} {c0 : Nat} {f0 : List ByteArray} {f1 : ByteArray} {f2 : ByteArray} {f3 : Int} {f4 : Int} {f5 : Int} {f6 : Int} {f7 : ByteArray} {f8 : ByteArray} {f9 : ByteArray} {f10 : Int} {f11 : Int} {f12 : Int} {f13 : Int} {f14 : ByteArray} {f15 : Bool} {f16 : Int} {f17 : Int} {f18 : Bool} (h : W.heap[g]? = some (.cells #[.slice A0 f0.length c0, .string f1, .string f2, .int .i64 f3, .int .i64 f4, .int .i64 f5, .int .i64 f6, .string f7, .string f8, .string f9, .int .i64 f10, .int .i64 f11, .int .i64 f12, .int .i64 f13, .string f14, .bool f15, .int .i64 f16, .int .i64 f17, .bool f18] 60 (0, 0))) : W.cell? ⟨g, 13, none⟩ = some (.int .i64 f13) := (blk_cell h 13).trans rfl
theorem IsS60.set_13 {w0 W : World} {g : Nat} {f0 : List ByteArray} {f1 : ByteArray} {f2 : ByteArray} {f3 : Int} {f4 : Int} {f5 : Int} {f6 : Int} {f7 : ByteArray} {f8 : ByteArray} {f9 : ByteArray} {f10 : Int} {f11 : Int} {f12 : Int} {f13 : Int} {f14 : ByteArray} {f15 : Bool} {f16 : Int} {f17 : Int} {f18 : Bool} (h : IsS60 w0 W g f0 f1 f2 f3 f4 f5 f6 f7 f8 f9 f10 f11 f12 f13 f14 f15 f16 f17 f18) (x : Int) : IsS60 w0 (W.setCell ⟨g, 13, none⟩ (.int .i64 x)) g f0 f1 f2 f3 f4 f5 f6 f7 f8 f9 f10 f11 f12 x f14 f15 f16 f17 f18 := by
  obtain ⟨A0, c0, hb, hg, hr0⟩ := h
  exact ⟨A0, c0, by simpa using blk_set hb 13 (.int .i64 x), hg, hr0⟩
theorem cellS60_14 {W : World} {g : Nat} {A0 : Option Addr} {c0 : Nat} {f0 : List ByteArray} {f1 : ByteArray} {f2 : ByteArray} {f3 : Int} {f4 : Int} {f5 : Int} {f6 : Int} {f7 : ByteArray} {f8 : ByteArray} {f9 : ByteArray} {f10 : Int} {f11 : Int} {f12 : Int} {f13 : Int} {f14 : ByteArray} {f15 : Bool} {f16 : Int} {f17 : Int} {f18 : Bool} (h : W.heap[g]? = some (.cells #[.slice A0 f0.length c0, .string f1, .string f2, .int .i64 f3, .int .i64 f4, .int .i64 f5, .int .i64 f6, .string f7, .string f8, .string f9, .int .i64 f10, .int .i64 f11, .int .i64 f12, .int .i64 f13, .string f14, .bool f15, .int .i64 f16, .int .i64 f17, .bool f18] 60 (0, 0))) : W.cell? ⟨g, 14, none⟩ = some (.string f14) := (blk_cell h 14).trans rfl
theorem IsS60.set_14 {w0 W : World} {g : Nat} {f0 : List ByteArray} {f1 : ByteArray} {f2 : ByteArray} {f3 : Int} {f4 : Int} {f5 : Int} {f6 : Int} {f7 : ByteArray} {f8 : ByteArray} {f9 : ByteArray} {f10 : Int} {f11 : Int} {f12 : Int} {f13 : Int} {f14 : ByteArray} {f15 : Bool} {f16 : Int} {f17 : Int} {f18 : Bool} (h : IsS60 w0 W g f0 f1 f2 f3 f4 f5 f6 f7 f8 f9 f10 f11 f12 f13 f14 f15 f16 f17 f18) (x : ByteArray) : IsS60 w0 (W.setCell ⟨g, 14, none⟩ (.string x)) g f0 f1 f2 f3 f4 f5 f6 f7 f8 f9 f10 f11 f12 f13 x f15 f16 f17 f18 := by
  obtain ⟨A0, c0, hb, hg, hr0⟩ := h
  exact ⟨A0, c0, by simpa using blk_set hb 14 (.string x), hg, hr0⟩
theorem cellS60_15 {W : World} {g : Nat} {A0 : Option Addr} {c0 : Nat} {f0 : List ByteArray} {f1 : ByteArray} {f2 : ByteArray} {f3 : Int} {f4 : Int} {f5 : Int} {f6 : Int} {f7 : ByteArray} {f8 : ByteArray} {f9 : ByteArray} {f10 : Int} {f11 : Int} {f12 : Int} {f13 : Int} {f14 : ByteArray} {f15 : Bool} {f16 : Int} {f17 : Int} {f18 : Bool} (h : W.heap[g]? = some (.cells #[.slice A0 f0.length c0, .string f1, .string f2, .int .i64 f3, .int .i64 f4, .int .i64 f5, .int .i64 f6, .string f7, .string f8, .string f9, .int .i64 f10, .int .i64 f11, .int .i64 f12, .int .i64 f13, .string f14, .bool f15, .int .i64 f16, .int .i64 f17, .bool f18] 60 (0, 0))) : W.cell? ⟨g, 15, none⟩ = some (.bool f15) := (blk_cell h 15).trans rfl
theorem IsS60.set_15 {w0 W : World} {g : Nat} {f0 : List ByteArray} {f1 : ByteArray} {f2 : ByteArray} {f3 : Int} {f4 : Int} {f5 : Int} {f6 : Int} {f7 : ByteArray} {f8 : ByteArray} {f9 : ByteArray} {f10 : Int} {f11 : Int} {f12 : Int} {f13 : Int} {f14 : ByteArray} {f15 : Bool} {f16 : Int} {f17 : Int} {f18 : Bool} (h : IsS60 w0 W g f0 f1 f2 f3 f4 f5 f6 f7 f8 f9 f10 f11 f12 f13 f14 f15 f16 f17 f18) (x : Bool) : IsS60 w0 (W.setCell ⟨g, 15, none⟩ (.bool x)) g f0 f1 f2 f3 f4 f5 f6 f7 f8 f9 f10 f11 f12 f13 f14 x f16 f17 f18 := by
  obtain ⟨A0, c0, hb, hg, hr0⟩ := h
  exact ⟨A0, c0, by simpa using blk_set hb 15 (.bool x), hg, hr0⟩
theorem cellS60_16 {W : World} {g : Nat} {A0 : Option Addr} {c0 : Nat} {f0 : List ByteArray} {f1 : ByteArray} {f2 : ByteArray} {f3 : Int} {f4 : Int} {f5 : Int} {f6 : Int} {f7 : ByteArray} {f8 : ByteArray} {f9 : ByteArray} {f10 : Int} {f11 : Int} {f12 : Int} {f13 : Int} {f14 : ByteArray} {f15 : Bool} {f16 : Int} {f17 : Int} {f18 : Bool} (h : W.heap[g]? = some (.cells #[.slice A0 f0.length c0, .string f1, .string f2, .int .i64 f3, .int .i64 f4, .int .i64 f5, .int .i64 f6, .string f7, .string f8, .string f9, .int .i64 f10, .int .i64 f11, .int .i64 f12, .int .i64 f13, .string f14, .bool f15, .int .i64 f16, .int .i64 f17, .bool f18] 60 (0, 0))) : W.cell? ⟨g, 16, none⟩ = some (.int .i64 f16) := (blk_cell h 16).trans rfl
theorem IsS60.set_16 {w0 W : World} {g : Nat} {f0 : List ByteArray} {f1 : ByteArray} {f2 : ByteArray} {f3 : Int} {f4 : Int} {f5 : Int} {f6 : Int} {f7 : ByteArray} {f8 : ByteArray} {f9 : ByteArray} {f10 : Int} {f11 : Int} {f12 : Int} {f13 : Int} {f14 : ByteArray} {f15 : Bool} {f16 : Int} {f17 : Int} {f18 : Bool} (h : IsS60 w0 W g f0 f1 f2 f3 f4 f5 f6 f7 f8 f9 f10 f11 f12 f13 f14 f15 f16 f17 f18) (x : Int) : IsS60 w0 (W.setCell ⟨g, 16, none⟩ (.int .i64 x)) g f0 f1 f2 f3 f4 f5 f6 f7 f8 f9 f10 f11 f12 f13 f14 f15 x f17 f18 := by
  obtain ⟨A0, c0, hb, hg, hr0⟩ := h
  exact ⟨A0, c0, by simpa using blk_set hb 16 (.int .i64 x), hg, hr0⟩
theorem cellS60_17 {W : World} {g : Nat} {A0 : Option Addr} {c0 : Nat} {f0 : List ByteArray} {f1 : ByteArray} {f2 : ByteArray} {f3 : Int} {f4 : Int} {f5 : Int} {f6 : Int} {f7 : ByteArray} {f8 : ByteArray} {f9 : ByteArray} {f10 : Int} {f11 : Int} {f12 : Int} {f13 : Int} {f14 : ByteArray} {f15 : Bool} {f16 : Int} {f17 : Int} {f18 : Bool} (h : W.heap[g]? = some (.cells #[.slice A0 f0.length c0, .string f1, .string f2, .int .i64 f3, .int .i64 f4, .int .i64 f5, .int .i64 f6, .string f7, .string f8, .string f9, .int .i64 f10, .int .i64 f11, .int .i64 f12, .int .i64 f13, .string f14, .bool f15, .int .i64 f16, .int .i64 f17, .bool f18] 60 (0, 0))) : W.cell? ⟨g, 17, none⟩ = some (.int .i64 f17) := (blk_cell h 17).trans rfl
theorem IsS60.set_17 {w0 W : World} {g : Nat} {f0 : List ByteArray} {f1 : ByteArray} {f2 : ByteArray} {f3 : Int} {f4 : Int} {f5 : Int} {f6 : Int} {f7 : ByteArray} {f8 : ByteArray} {f9 : ByteArray} {f10 : Int} {f11 : Int} {f12 : Int} {f13 : Int} {f14 : ByteArray} {f15 : Bool} {f16 : Int} {f17 : Int} {f18 : Bool} (h : IsS60 w0 W g f0 f1 f2 f3 f4 f5 f6 f7 f8 f9 f10 f11 f12 f13 f14 f15 f16 f17 f18) (x : Int) : IsS60 w0 (W.setCell ⟨g, 17, none⟩ (.int .i64 x)) g f0 f1 f2 f3 f4 f5 f6 f7 f8 f9 f10 f11 f12 f13 f14 f15 f16 x f18 := by
  obtain ⟨A0, c0, hb, hg, hr0⟩ := h
  exact ⟨A0, c0, by simpa using blk_set hb 17 (.int .i64 x), hg, hr0⟩
theorem cellS60_18 {W : World} {g : Nat} {A0 : Option Addr} {c0 : Nat} {f0 : List ByteArray} {f1 : ByteArray} {f2 : ByteArray} {f3 : Int} {f4 : Int} {f5 : Int} {f6 : Int} {f7 : ByteArray} {f8 : ByteArray} {f9 : ByteArray} {f10 : Int} {f11 : Int} {f12 : Int} {f13 : Int} {f14 : ByteArray} {f15 : Bool} {f16 : Int} {f17 : Int} {f18 : Bool} (h : W.heap[g]? = some (.cells #[.slice A0 f0.length c0, .string f1, .string f2, .int .i64 f3, .int .i64 f4, .int .i64 f5, .int .i64 f6, .string f7, .string f8, .string f9, .int .i64 f10, .int .i64 f11, .int .i64 f12, .int .i64 f13, .string f14, .bool f15, .int .i64 f16, .int .i64 f17, .bool f18] 60 (0, 0))) : W.cell? ⟨g, 18, none⟩ = some (.bool f18) := (blk_cell h 18).trans rfl
theorem IsS60.set_18 {w0 W : World} {g : Nat} {f0 : List ByteArray} {f1 : ByteArray} {f2 : ByteArray} {f3 : Int} {f4 : Int} {f5 : Int} {f6 : Int} {f7 : ByteArray} {f8 : ByteArray} {f9 : ByteArray} {f10 : Int} {f11 : Int} {f12 : Int} {f13 : Int} {f14 : ByteArray} {f15 : Bool} {f16 : Int} {f17 : Int} {f18 : Bool} (h : IsS60 w0 W g f0 f1 f2 f3 f4 f5 f6 f7 f8 f9 f10 f11 f12 f13 f14 f15 f16 f17 f18) (x : Bool) : IsS60 w0 (W.setCell ⟨g, 18, none⟩ (.bool x)) g f0 f1 f2 f3 f4 f5 f6 f7 f8 f9 f10 f11 f12 f13 f14 f15 f16 f17 x := by
  obtain ⟨A0, c0, hb, hg, hr0⟩ := h
  exact ⟨A0, c0, by simpa using blk_set hb 18 (.bool x), hg, hr0⟩
theorem IsS60.new (w0 W : World) (A0 : Option Addr) (c0 : Nat) (f0 : List ByteArray) (f1 : ByteArray) (f2 : ByteArray) (f3 : Int) (f4 : Int) (f5 : Int) (f6 : Int) (f7 : ByteArray) (f8 : ByteArray) (f9 : ByteArray) (f10 : Int) (f11 : Int) (f12 : Int) (f13 : Int) (f14 : ByteArray) (f15 : Bool) (f16 : Int) (f17 : Int) (f18 : Bool) (hB : Below w0.heap.size w0 W) (hr0 : Kd.C Kd.string w0 A0 f0.length f0) : IsS60 w0 (W.alloc (.cells #[.slice A0 f0.length c0, .string f1, .string f2, .int .i64 f3, .int .i64 f4, .int .i64 f5, .int .i64 f6, .string f7, .string f8, .string f9, .int .i64 f10, .int .i64 f11, .int .i64 f12, .int .i64 f13, .string f14, .bool f15, .int .i64 f16, .int .i64 f17, .bool f18] 60)) W.heap.size f0 f1 f2 f3 f4 f5 f6 f7 f8 f9 f10 f11 f12 f13 f14 f15 f16 f17 f18 := ⟨A0, c0, by simpa using heap_alloc_new W _, hB.size, hr0⟩

/-! ### filter_Sieve_Done: function 23 -/
def filter_Sieve_Done.f (s0_0 : List ByteArray) (s0_1 : ByteArray) (s0_2 : ByteArray) (s0_3 : Int) (s0_4 : Int) (s0_5 : Int) (s0_6 : Int) (s0_7 : ByteArray) (s0_8 : ByteArray) (s0_9 : ByteArray) (s0_10 : Int) (s0_11 : Int) (s0_12 : Int) (s0_13 : Int) (s0_14 : ByteArray) (s0_15 : Bool) (s0_16 : Int) (s0_17 : Int) (s0_18 : Bool) : Option (Bool × ByteArray × ByteArray × Int × Int × Int × Int × ByteArray × ByteArray × ByteArray × Int × Int × Int × Int × ByteArray × Bool × Int × Int × Bool) := if s0_6 = 0 then (some (false, s0_1, s0_2, s0_3, s0_4, s0_5, s0_6, s0_7, s0_8, s0_9, s0_10, s0_11, s0_12, s0_13, s0_14, s0_15, s0_16, s0_17, s0_18)) else (some (decide (s0_17 ≥ s0_6), s0_1, s0_2, s0_3, s0_4, s0_5, s0_6, s0_7, s0_8, s0_9, s0_10, s0_11, s0_12, s0_13, s0_14, s0_15, s0_16, s0_17, s0_18))
set_option maxHeartbeats 8000000 in
set_option maxRecDepth 100000 in
theorem filter_Sieve_Done.calls (g : Nat) (s0_0 : List ByteArray) (s0_1 : ByteArray) (s0_2 : ByteArray) (s0_3 : Int) (s0_4 : Int) (s0_5 : Int) (s0_6 : Int) (s0_7 : ByteArray) (s0_8 : ByteArray) (s0_9 : ByteArray) (s0_10 : Int) (s0_11 : Int) (s0_12 : Int) (s0_13 : Int) (s0_14 : ByteArray) (s0_15 : Bool) (s0_16 : Int) (s0_17 : Int) (s0_18 : Bool) (r1 : Bool) (r2 : ByteArray) (r3 : ByteArray) (r4 : Int) (r5 : Int) (r6 : Int) (r7 : Int) (r8 : ByteArray) (r9 : ByteArray) (r10 : ByteArray) (r11 : Int) (r12 : Int) (r13 : Int) (r14 : Int) (r15 : ByteArray) (r16 : Bool) (r17 : Int) (r18 : Int) (r19 : Bool) (w0 w : World) (hI : IsS60 w0 w g s0_0 s0_1 s0_2 s0_3 s0_4 s0_5 s0_6 s0_7 s0_8 s0_9 s0_10 s0_11 s0_12 s0_13 s0_14 s0_15 s0_16 s0_17 s0_18) (hB : Below w0.heap.size w0 w) (h : filter_Sieve_Done.f s0_0 s0_1 s0_2 s0_3 s0_4 s0_5 s0_6 s0_7 s0_8 s0_9 s0_10 s0_11 s0_12 s0_13 s0_14 s0_15 s0_16 s0_17 s0_18 = some (r1, r2, r3, r4, r5, r6, r7, r8, r9, r10, r11, r12, r13, r14, r15, r16, r17, r18, r19)) :
    Calls Try.prog 23 #[.pointer (some ⟨g, 0, none⟩)] w fun e w' => e = .returned (.bool r1) ∧ IsS60 w0 w' g s0_0 r2 r3 r4 r5 r6 r7 r8 r9 r10 r11 r12 r13 r14 r15 r16 r17 r18 r19 ∧ Below w0.heap.size w0 w' ∧ KeepBut w w' g none := by
  have HI0 := Aside0.mk hI
  have HK := Aside0.mk (KeepBut.refl w g none)
  have HL := Aside0.mk hB.size
  clear hI
  have HW0 := Aside0.mk hB.size
  have HB := Aside0.mk hB
  clear hB
  have H : (if s0_6 = 0 then (some (false, s0_1, s0_2, s0_3, s0_4, s0_5, s0_6, s0_7, s0_8, s0_9, s0_10, s0_11, s0_12, s0_13, s0_14, s0_15, s0_16, s0_17, s0_18)) else (some (decide (s0_17 ≥ s0_6), s0_1, s0_2, s0_3, s0_4, s0_5, s0_6, s0_7, s0_8, s0_9, s0_10, s0_11, s0_12, s0_13, s0_14, s0_15, s0_16, s0_17, s0_18))) = some (r1, r2, r3, r4, r5, r6, r7, r8, r9, r10, r11, r12, r13, r14, r15, r16, r17, r18, r19) := h
  clear h
  by_cases c2 : s0_6 = 0
  · rw [if_pos c2] at H
    have c2b0 : (s0_6 == 0) = true := beq_iff_eq.mpr c2
    have c2b1 : (s0_6 != 0) = false := bne_eq_false_iff_eq.mpr c2
    clear c2
    simp only [Option.some.injEq, Prod.mk.injEq] at H
    obtain ⟨rfl, rfl, rfl, rfl, rfl, rfl, rfl, rfl, rfl, rfl, rfl, rfl, rfl, rfl, rfl, rfl, rfl, rfl, rfl⟩ := H
    obtain ⟨ASz3_0, cSz3_0, HGz3, hgz3, HSz3_0⟩ := HI0.out
    have hcz3_0 := cellS60_0 HGz3
    have hcz3_1 := cellS60_1 HGz3
    have hcz3_2 := cellS60_2 HGz3
    have hcz3_3 := cellS60_3 HGz3
    have hcz3_4 := cellS60_4 HGz3
    have hcz3_5 := cellS60_5 HGz3
    have hcz3_6 := cellS60_6 HGz3
    have hcz3_7 := cellS60_7 HGz3
    have hcz3_8 := cellS60_8 HGz3
    have hcz3_9 := cellS60_9 HGz3
    have hcz3_10 := cellS60_10 HGz3
    have hcz3_11 := cellS60_11 HGz3
    have hcz3_12 := cellS60_12 HGz3
    have hcz3_13 := cellS60_13 HGz3
    have hcz3_14 := cellS60_14 HGz3
    have hcz3_15 := cellS60_15 HGz3
    have hcz3_16 := cellS60_16 HGz3
    have hcz3_17 := cellS60_17 HGz3
    have hcz3_18 := cellS60_18 HGz3
    have hfz3_1 := blk_frozen HGz3 1
    have hfz3_2 := blk_frozen HGz3 2
    have hfz3_3 := blk_frozen HGz3 3
    have hfz3_4 := blk_frozen HGz3 4
    have hfz3_5 := blk_frozen HGz3 5
    have hfz3_6 := blk_frozen HGz3 6
    have hfz3_7 := blk_frozen HGz3 7
    have hfz3_8 := blk_frozen HGz3 8
    have hfz3_9 := blk_frozen HGz3 9
    have hfz3_10 := blk_frozen HGz3 10
    have hfz3_11 := blk_frozen HGz3 11
    have hfz3_12 := blk_frozen HGz3 12
    have hfz3_13 := blk_frozen HGz3 13
    have hfz3_14 := blk_frozen HGz3 14
    have hfz3_15 := blk_frozen HGz3 15
    have hfz3_16 := blk_frozen HGz3 16
    have hfz3_17 := blk_frozen HGz3 17
    have hfz3_18 := blk_frozen HGz3 18
    clear HGz3 hgz3
    go_enter Try.func23, Try.ntmps23
    go_wp2
    repeat (go_quiet (fail); try go_wp2)
    go_ret
    exact ⟨by first | rfl | (simp [errW_none, errW_some] <;> rfl) | (simp [*, errW_none, errW_some] <;> rfl), by repeat (first | (with_reducible first | exact HI0.out | apply IsS60.alloc | apply IsS60.drewN | apply IsS60.drew | apply IsS60.set_1 | apply IsS60.set_2 | apply IsS60.set_3 | apply IsS60.set_4 | apply IsS60.set_5 | apply IsS60.set_6 | apply IsS60.set_7 | apply IsS60.set_8 | apply IsS60.set_9 | apply IsS60.set_10 | apply IsS60.set_11 | apply IsS60.set_12 | apply IsS60.set_13 | apply IsS60.set_14 | apply IsS60.set_15 | apply IsS60.set_16 | apply IsS60.set_17 | apply IsS60.set_18) | exact HI0.out), by repeat (first | (with_reducible first | exact HB.out | apply below_alloc | apply pw_below_drewN | apply below_drew1 | refine below_set ?_ (IsS60.ge HI0.out)) | exact HB.out), by repeat (first | (with_reducible first | exact HK.out | apply KeepBut.set_ | apply keep_drewN | apply keep_drew | apply keep_alloc) | exact HK.out)⟩
  · rw [if_neg c2] at H
    have c2b0 : (s0_6 == 0) = false := beq_eq_false_iff_ne.mpr c2
    have c2b1 : (s0_6 != 0) = true := bne_iff_ne.mpr c2
    simp only [Option.some.injEq, Prod.mk.injEq] at H
    obtain ⟨rfl, rfl, rfl, rfl, rfl, rfl, rfl, rfl, rfl, rfl, rfl, rfl, rfl, rfl, rfl, rfl, rfl, rfl, rfl⟩ := H
    obtain ⟨ASz4_0, cSz4_0, HGz4, hgz4, HSz4_0⟩ := HI0.out
    have hcz4_0 := cellS60_0 HGz4
    have hcz4_1 := cellS60_1 HGz4
    have hcz4_2 := cellS60_2 HGz4
    have hcz4_3 := cellS60_3 HGz4
    have hcz4_4 := cellS60_4 HGz4
    have hcz4_5 := cellS60_5 HGz4
    have hcz4_6 := cellS60_6 HGz4
    have hcz4_7 := cellS60_7 HGz4
    have hcz4_8 := cellS60_8 HGz4
    have hcz4_9 := cellS60_9 HGz4
    have hcz4_10 := cellS60_10 HGz4
    have hcz4_11 := cellS60_11 HGz4
    have hcz4_12 := cellS60_12 HGz4
    have hcz4_13 := cellS60_13 HGz4
    have hcz4_14 := cellS60_14 HGz4
    have hcz4_15 := cellS60_15 HGz4
    have hcz4_16 := cellS60_16 HGz4
    have hcz4_17 := cellS60_17 HGz4
    have hcz4_18 := cellS60_18 HGz4
    have hfz4_1 := blk_frozen HGz4 1
    have hfz4_2 := blk_frozen HGz4 2
    have hfz4_3 := blk_frozen HGz4 3
    have hfz4_4 := blk_frozen HGz4 4
    have hfz4_5 := blk_frozen HGz4 5
    have hfz4_6 := blk_frozen HGz4 6
    have hfz4_7 := blk_frozen HGz4 7
    have hfz4_8 := blk_frozen HGz4 8
    have hfz4_9 := blk_frozen HGz4 9
    have hfz4_10 := blk_frozen HGz4 10
    have hfz4_11 := blk_frozen HGz4 11
    have hfz4_12 := blk_frozen HGz4 12
    have hfz4_13 := blk_frozen HGz4 13
    have hfz4_14 := blk_frozen HGz4 14
    have hfz4_15 := blk_frozen HGz4 15
    have hfz4_16 := blk_frozen HGz4 16
    have hfz4_17 := blk_frozen HGz4 17
    have hfz4_18 := blk_frozen HGz4 18
    clear HGz4 hgz4
    go_enter Try.func23, Try.ntmps23
    go_wp2
    repeat (go_quiet (fail); try go_wp2)
    go_ret
    exact ⟨by first | rfl | (simp [errW_none, errW_some] <;> rfl) | (simp [*, errW_none, errW_some] <;> rfl), by repeat (first | (with_reducible first | exact HI0.out | apply IsS60.alloc | apply IsS60.drewN | apply IsS60.drew | apply IsS60.set_1 | apply IsS60.set_2 | apply IsS60.set_3 | apply IsS60.set_4 | apply IsS60.set_5 | apply IsS60.set_6 | apply IsS60.set_7 | apply IsS60.set_8 | apply IsS60.set_9 | apply IsS60.set_10 | apply IsS60.set_11 | apply IsS60.set_12 | apply IsS60.set_13 | apply IsS60.set_14 | apply IsS60.set_15 | apply IsS60.set_16 | apply IsS60.set_17 | apply IsS60.set_18) | exact HI0.out), by repeat (first | (with_reducible first | exact HB.out | apply below_alloc | apply pw_below_drewN | apply below_drew1 | refine below_set ?_ (IsS60.ge HI0.out)) | exact HB.out), by repeat (first | (with_reducible first | exact HK.out | apply KeepBut.set_ | apply keep_drewN | apply keep_drew | apply keep_alloc) | exact HK.out)⟩

end Go.Proofs.Ythbgjaboghnpjaa.Q
