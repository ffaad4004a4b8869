/- The document's sieve in memory: its shape while it takes. -/
import Derived.Test.YthbgjaboghnpjaaR7
import Derived.Laws.OwnMore
namespace Go.Proofs.Ythbgjaboghnpjaa.R
open Go.RowKit Go.Proofs.Ythbgjaboghnpjaa.Q Go.Proofs.Ythbgjaboghnpjaa.Pure Go.Proofs.YthbgjaboghnpjaaW.PrintWords Go.Proofs.YthbgjaboghnpjaaW.PrintLast Go.Proofs.YthbgjaboghnpjaaW.PrintMore
set_option linter.unusedVariables false
set_option linter.unusedSimpArgs false
def xcells (x : S29) : Array Value := #[.string x.f0, .string x.f1, .string x.f2, .int .i64 x.f3, .int .i64 x.f4, .int .i64 x.f5.f0, .int .i64 x.f5.f1, .string x.f5.f2]
def bools (T : List Bool) : List Value := T.map Value.bool
theorem row_eq {w w' : World} {base e size n : Nat} {v : Value} {xs : List Value} (h : w.ownsRow base e size v n xs) (he : ∀ k, v.ownBlock = some k → w'.heap[k]? = w.heap[k]?) : w'.ownsRow base e size v n xs := own_move h he
/-- The document's sieve while it takes a cell: va and vb lie in its box, v7 and v8 are its rows. -/
structure Md (w0 w W : World) (R : Nat) (A : Option Addr) (c : Nat) (f0 : List ByteArray) (f1 f2 : ByteArray) (f3 f4 f5 f6 : Int) (va vb v7 v8 : Value) (L : List S29) (T : List Bool) (X : Nat) (x : S29) : Prop where
  box : W.heap[R]? = some (.cells #[.slice A f0.length c, .string f1, .string f2, .int .i64 f3, .int .i64 f4, .int .i64 f5, .int .i64 f6, va, vb] 45 (0, 0))
  r7 : Kd.R k29 29 W w0.heap.size (fun _ => True) v7 L
  r8 : W.ownsRow w0.heap.size 4 1 v8 T.length (bools T)
  ge : w0.heap.size ≤ R
  bel : Below w0.heap.size w0 W
  xb : W.heap[X]? = some (.cells (xcells x) 29 (0, 0))
  n7 : ∀ k, v7.ownBlock = some k → k ≠ X
  k60 : ∀ (k : Nat) (cs : Array Value), w.heap[k]? = some (.cells cs 60 (0, 0)) → W.heap[k]? = w.heap[k]?
  gx : w0.heap.size ≤ X
section
variable {w0 w W W' : World} {R : Nat} {A : Option Addr} {c : Nat} {f0 : List ByteArray} {f1 f2 : ByteArray} {f3 f4 f5 f6 : Int} {va vb v7 v8 v7' v8' : Value} {L L' : List S29} {T T' : List Bool} {X : Nat} {x : S29}
theorem typ_ne {W : World} {a b : Nat} {cs ds : Array Value} {s t : Nat} (h1 : W.heap[a]? = some (.cells cs s (0, 0))) (h2 : W.heap[b]? = some (.cells ds t (0, 0))) (h : s ≠ t) : a ≠ b := by
  rintro rfl
  rw [h1] at h2
  injection h2 with h2
  injection h2 with _ h3
  exact h h3
theorem Md.below (h : Md w0 w W R A c f0 f1 f2 f3 f4 f5 f6 va vb v7 v8 L T X x) (hb : Below W.heap.size W W') : Md w0 w W' R A c f0 f1 f2 f3 f4 f5 f6 va vb v7 v8 L T X x :=
  ⟨(hb.block _ (lt_of_block h.box)).trans h.box, Kd.R_below h.r7 hb, row_eq h.r8 (fun k hk => hb.block k (World.ownsRow.lt h.r8 k hk).2), h.ge, h.bel.trans (hb.mono h.bel.size), (hb.block _ (lt_of_block h.xb)).trans h.xb, h.n7,
   fun k cs hk => by
     have e := h.k60 k cs hk
     rw [hk] at e
     rw [hb.block k (lt_of_block e), e, hk], h.gx⟩
theorem Md.alloc (h : Md w0 w W R A c f0 f1 f2 f3 f4 f5 f6 va vb v7 v8 L T X x) (o : Obj) : Md w0 w (W.alloc o) R A c f0 f1 f2 f3 f4 f5 f6 va vb v7 v8 L T X x := h.below ((Below.refl _ _).alloc (Nat.le_refl _) o)
theorem own_type {base e size n : Nat} {v : Value} {xs : List Value} (h : W.ownsRow base e size v n xs) (k : Nat) (hk : v.ownBlock = some k) : ∃ cs, W.heap[k]? = some (.cells cs e (0, 0)) := own_typed h k hk
theorem Md.t7 (h : Md w0 w W R A c f0 f1 f2 f3 f4 f5 f6 va vb v7 v8 L T X x) : ∀ k, v7.ownBlock = some k → ∃ cs, W.heap[k]? = some (.cells cs 29 (0, 0)) := by
  obtain ⟨inner, ho⟩ := Kd.R_own h.r7
  exact own_type ho
theorem Md.t8 (h : Md w0 w W R A c f0 f1 f2 f3 f4 f5 f6 va vb v7 v8 L T X x) : ∀ k, v8.ownBlock = some k → ∃ cs, W.heap[k]? = some (.cells cs 4 (0, 0)) := own_type h.r8
/-- A cell is appended. -/
theorem Md.app7 (h : Md w0 w W R A c f0 f1 f2 f3 f4 f5 f6 va vb v7 v8 L T X x) (hr : Kd.R k29 29 W' w0.heap.size (fun _ => True) v7' L') (hb : Below w0.heap.size w0 W') (hg : W.grownBy W' v7.ownBlock) (hat : v7'.ownBlock = v7.ownBlock ∨ ∃ b, v7'.ownBlock = some b ∧ W.heap.size ≤ b) : Md w0 w W' R A c f0 f1 f2 f3 f4 f5 f6 va vb v7' v8 L' T X x := by
  have hne : ∀ (k : Nat) (cs : Array Value) (t : Nat), W.heap[k]? = some (.cells cs t (0, 0)) → t ≠ 29 → some k ≠ v7.ownBlock := fun k cs t hk ht e => by
    obtain ⟨ds, hd⟩ := h.t7 k e.symm
    exact typ_ne hk hd ht rfl
  refine ⟨(hg.block R (lt_of_block h.box) (hne _ _ _ h.box (by decide))).trans h.box, hr, ?_, h.ge, hb, ?_, ?_, ?_, h.gx⟩
  · refine row_eq h.r8 (fun k hk => ?_)
    obtain ⟨cs, hc⟩ := h.t8 k hk
    exact hg.block k (lt_of_block hc) (hne k cs 4 hc (by decide))
  · exact (hg.block X (lt_of_block h.xb) (fun e => h.n7 X e.symm rfl)).trans h.xb
  · intro k hk
    rcases hat with e | ⟨b, e, hle⟩
    · exact h.n7 k (e ▸ hk)
    · rw [hk] at e
      injection e with e
      have := lt_of_block h.xb
      omega
  · intro k cs hk
    have e := h.k60 k cs hk
    rw [hk] at e
    rw [hg.block k (lt_of_block e) (hne k cs 60 e (by decide)), e, hk]
/-- A mark is appended. -/
theorem Md.app8 (h : Md w0 w W R A c f0 f1 f2 f3 f4 f5 f6 va vb v7 v8 L T X x) (hr : W'.ownsRow w0.heap.size 4 1 v8' T'.length (bools T')) (hg : W.grownBy W' v8.ownBlock) : Md w0 w W' R A c f0 f1 f2 f3 f4 f5 f6 va vb v7 v8' L T' X x := by
  have hne : ∀ (k : Nat) (cs : Array Value) (t : Nat), W.heap[k]? = some (.cells cs t (0, 0)) → t ≠ 4 → some k ≠ v8.ownBlock := fun k cs t hk ht e => by
    obtain ⟨ds, hd⟩ := h.t8 k e.symm
    exact typ_ne hk hd ht rfl
  refine ⟨(hg.block R (lt_of_block h.box) (hne _ _ _ h.box (by decide))).trans h.box, ?_, hr, h.ge, ?_, ?_, h.n7, ?_, h.gx⟩
  · refine Kd.R_mono (Kd.R_step (Kd.R_bound h.r7) (fun k hk hlt => ?_)) (fun _ _ => trivial)
    obtain ⟨_, _, _, q, hq, cs, hc⟩ := hk
    exact hg.block k hlt (hne k cs q hc (by rintro rfl; revert hq; decide))
  · exact ⟨hg.os.trans h.bel.os, hg.tape.trans h.bel.tape, hg.output.trans h.bel.output, Nat.le_trans h.bel.size hg.size, fun k hk => (hg.block k (Nat.lt_of_lt_of_le hk h.bel.size) (fun e => by have := (World.ownsRow.lt h.r8 k e.symm).1; omega)).trans (h.bel.block k hk)⟩
  · exact (hg.block X (lt_of_block h.xb) (hne _ _ _ h.xb (by decide))).trans h.xb
  · intro k cs hk
    have e := h.k60 k cs hk
    rw [hk] at e
    rw [hg.block k (lt_of_block e) (hne k cs 60 e (by decide)), e, hk]
/-- A store into the box. -/
theorem Md.set (h : Md w0 w W R A c f0 f1 f2 f3 f4 f5 f6 va vb v7 v8 L T X x) (i : Nat) (u va' vb' : Value) (hs : (#[.slice A f0.length c, .string f1, .string f2, .int .i64 f3, .int .i64 f4, .int .i64 f5, .int .i64 f6, va, vb] : Array Value).setIfInBounds i u = #[.slice A f0.length c, .string f1, .string f2, .int .i64 f3, .int .i64 f4, .int .i64 f5, .int .i64 f6, va', vb']) : Md w0 w (W.setCell ⟨R, i, none⟩ u) R A c f0 f1 f2 f3 f4 f5 f6 va' vb' v7 v8 L T X x := by
  have hne : ∀ (k : Nat) (cs : Array Value) (t : Nat), W.heap[k]? = some (.cells cs t (0, 0)) → t ≠ 45 → k ≠ R := fun k cs t hk ht => typ_ne hk h.box ht
  have hst : ∀ (k : Nat) (cs : Array Value) (t : Nat), W.heap[k]? = some (.cells cs t (0, 0)) → t ≠ 45 → (W.setCell ⟨R, i, none⟩ u).heap[k]? = W.heap[k]? := fun k cs t hk ht => Below.heap_setCell _ _ _ _ (hne k cs t hk ht)
  refine ⟨?_, ?_, ?_, h.ge, ?_, (hst _ _ _ h.xb (by decide)).trans h.xb, h.n7, ?_, h.gx⟩
  · rw [← hs]
    exact blk_set h.box i u
  · refine Kd.R_mono (Kd.R_step (Kd.R_bound h.r7) (fun k hk hlt => ?_)) (fun _ _ => trivial)
    obtain ⟨_, _, _, q, hq, cs, hc⟩ := hk
    exact hst k cs q hc (by rintro rfl; revert hq; decide)
  · refine row_eq h.r8 (fun k hk => ?_)
    obtain ⟨cs, hc⟩ := h.t8 k hk
    exact hst k cs 4 hc (by decide)
  · exact h.bel.setCell h.ge _
  · intro k cs hk
    have e := h.k60 k cs hk
    rw [hk] at e
    rw [hst k cs 60 e (by decide), e, hk]
/-- A mark is set. -/
theorem Md.put {g n q : Nat} (h : Md w0 w W R A c f0 f1 f2 f3 f4 f5 f6 va vb v7 (.slice (some ⟨g, 0, none⟩) n q) L T X x) (i : Nat) (b : Bool) (hn : n = T.length) : Md w0 w (W.setCell ⟨g, i, none⟩ (.bool b)) R A c f0 f1 f2 f3 f4 f5 f6 va vb v7 (.slice (some ⟨g, 0, none⟩) n q) L (T.set i b) X x := by
  subst hn
  obtain ⟨ho, hg⟩ := h.r8.stored i (.bool b)
  refine h.app8 ?_ hg
  rw [List.length_set]
  unfold bools at ho ⊢
  rw [List.map_set]
  exact ho
end
end Go.Proofs.Ythbgjaboghnpjaa.R
