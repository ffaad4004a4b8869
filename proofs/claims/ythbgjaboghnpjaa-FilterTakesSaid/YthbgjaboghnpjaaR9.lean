/- The document's sieve in memory: between two calls. -/
import Derived.Test.YthbgjaboghnpjaaR8
namespace Go.Proofs.Ythbgjaboghnpjaa.R
open Go.RowKit Go.Proofs.Ythbgjaboghnpjaa.Q Go.Proofs.Ythbgjaboghnpjaa.Pure Go.Proofs.YthbgjaboghnpjaaW.PrintWords Go.Proofs.YthbgjaboghnpjaaW.PrintLast Go.Proofs.YthbgjaboghnpjaaW.PrintMore
set_option linter.unusedVariables false
set_option linter.unusedSimpArgs false
/-- The document's sieve between two calls. -/
structure Ks (w0 W : World) (R : Nat) (A : Option Addr) (c : Nat) (f0 : List ByteArray) (f1 f2 : ByteArray) (f3 f4 f5 f6 : Int) (v7 v8 : Value) (L : List S29) (T : List Bool) : Prop where
  box : W.heap[R]? = some (.cells #[.slice A f0.length c, .string f1, .string f2, .int .i64 f3, .int .i64 f4, .int .i64 f5, .int .i64 f6, v7, v8] 45 (0, 0))
  r7 : Kd.R k29 29 W w0.heap.size (fun _ => True) v7 L
  r8 : W.ownsRow w0.heap.size 4 1 v8 T.length (bools T)
  ge : w0.heap.size ≤ R
  bel : Below w0.heap.size w0 W
  len : T.length = L.length
section
variable {w0 w W W' : World} {R : Nat} {A : Option Addr} {c : Nat} {f0 : List ByteArray} {f1 f2 : ByteArray} {f3 f4 f5 f6 : Int} {va vb v7 v8 v7' v8' : Value} {L L' : List S29} {T T' : List Bool} {X : Nat} {x : S29}
theorem Ks.md (h : Ks w0 w R A c f0 f1 f2 f3 f4 f5 f6 v7 v8 L T) : Md w0 w (w.alloc (.cells (xcells x) 29)) R A c f0 f1 f2 f3 f4 f5 f6 v7 v8 v7 v8 L T w.heap.size x := by
  have hb : Below w.heap.size w (w.alloc (.cells (xcells x) 29)) := (Below.refl _ _).alloc (Nat.le_refl _) _
  refine ⟨(hb.block _ (lt_of_block h.box)).trans h.box, Kd.R_below h.r7 hb, row_eq h.r8 (fun k hk => hb.block k (World.ownsRow.lt h.r8 k hk).2), h.ge, h.bel.trans (hb.mono h.bel.size), heap_alloc_new _ _, fun k hk => ?_, fun k cs hk => hb.block k (lt_of_block hk), h.bel.size⟩
  have := Kd.R_lt h.r7 k hk
  omega
theorem Md.ks (h : Md w0 w W R A c f0 f1 f2 f3 f4 f5 f6 v7 v8 v7 v8 L T X x) (hl : T.length = L.length) : Ks w0 W R A c f0 f1 f2 f3 f4 f5 f6 v7 v8 L T := ⟨h.box, h.r7, h.r8, h.ge, h.bel, hl⟩
theorem own_sl {w : World} {base e size n : Nat} {v : Value} {xs : List Value} (h : w.ownsRow base e size v n xs) : ∃ A c, v = .slice A n c := by
  rcases h.2 with ⟨rfl, rfl⟩ | ⟨g, cap, cur, rfl, _⟩
  · exact ⟨none, 0, rfl⟩
  · exact ⟨_, cap, rfl⟩
theorem Md.kr {A7 A8 : Option Addr} {n7 n8 c7 c8 : Nat} (h : Md w0 w W R A c f0 f1 f2 f3 f4 f5 f6 (.slice A7 n7 c7) (.slice A8 n8 c8) (.slice A7 n7 c7) (.slice A8 n8 c8) L T X x) (hn7 : n7 = L.length) (hn8 : n8 = T.length) (hl : T.length = L.length) : Kr W R A c f0 f1 f2 f3 f4 f5 f6 A7 c7 A8 c8 L T := by
  subst hn7 hn8
  refine ⟨h.box, (Kd.R_reads' h.r7).2.2, fun i hi => ?_, hl⟩
  have h8 := h.r8
  rcases h8.2 with ⟨e, e'⟩ | ⟨g, cap, cur, e, _⟩
  · injection e with _ e _
    omega
  · injection e with e1 e2 e3
    subst e1
    refine ⟨_, rfl, h8.cells (g := g) rfl i _ ?_⟩
    unfold bools
    rw [List.getElem?_map, List.getD_eq_getElem?_getD, List.getElem?_eq_getElem hi]
    rfl
/-- What an append of a cell leaves. -/
theorem app_end {W1 w2 : World} {inner : List Value} (h : Md w0 w W1 R A c f0 f1 f2 f3 f4 f5 f6 va vb v7 v8 L T X x) (hW : Below W1.heap.size W1 W) (hr : Reps (k29.M W1 w0.heap.size (fun k => True ∧ some k ≠ v7.ownBlock)) 8 L inner) (ho : w2.ownsRow w0.heap.size 29 8 v7' (L.length + 1) (inner ++ (xcells x).toList)) (hg : W.grownBy w2 v7.ownBlock) (hat : v7'.ownBlock = v7.ownBlock ∨ ∃ b, v7'.ownBlock = some b ∧ W.heap.size ≤ b) : Md w0 w w2 R A c f0 f1 f2 f3 f4 f5 f6 va vb v7' v8 (L ++ [x]) T X x := by
  have hM := h.below hW
  refine hM.app7 (Kd.R_appended (okp := fun _ => False) (fun _ _ => trivial) (hr.imp_ (fun _ _ hp => Kd.M_below hp hW)) (k29_mkM W w0.heap.size _ x) (fun _ h => h.elim) (fun _ _ => trivial) ho hg hat) ?_ hg hat
  exact ⟨hg.os.trans hM.bel.os, hg.tape.trans hM.bel.tape, hg.output.trans hM.bel.output, Nat.le_trans hM.bel.size hg.size, fun k hk => (hg.block k (Nat.lt_of_lt_of_le hk hM.bel.size) (fun e => by have := Kd.R_base hM.r7 k e.symm; omega)).trans (hM.bel.block k hk)⟩
end
def RTPost (w0 w : World) (R : Nat) (A : Option Addr) (c : Nat) (f0 : List ByteArray) (f1 f2 : ByteArray) (f3 f4 f5 f6 : Int) (L : List S29) (T : List Bool) (x : S29) (ok : Bool) (e : Ending) (w' : World) : Prop :=
  ∃ v7' v8', e = .returned (.bool ok) ∧ Ks w0 w' R A c f0 f1 f2 f3 f4 f5 f6 v7' v8' (L ++ [x]) (T ++ [ok]) ∧ ∀ (k : Nat) (cs : Array Value), w.heap[k]? = some (.cells cs 60 (0, 0)) → w'.heap[k]? = w.heap[k]?
theorem info4 : (Try.prog.info? 4).map (fun i => (i.zero, i.size, i.bytes)) = some (some (.bool false), 1, 1) := by kernel_rfl
end Go.Proofs.Ythbgjaboghnpjaa.R
