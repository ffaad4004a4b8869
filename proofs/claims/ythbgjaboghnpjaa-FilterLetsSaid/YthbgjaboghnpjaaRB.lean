/- Both sieves side by side. -/
import Derived.Test.YthbgjaboghnpjaaRA
namespace Go.Proofs.Ythbgjaboghnpjaa.R
open Go.RowKit Go.Proofs.Ythbgjaboghnpjaa.Q Go.Proofs.Ythbgjaboghnpjaa.Pure Go.Proofs.YthbgjaboghnpjaaW.PrintWords Go.Proofs.YthbgjaboghnpjaaW.PrintLast Go.Proofs.YthbgjaboghnpjaaW.PrintMore
set_option linter.unusedVariables false
set_option linter.unusedSimpArgs false
/-- The program's sieve and the document's. -/
structure Ft (w0 W : World) (g R : Nat) (A : Option Addr) (c : Nat) (f0 : List ByteArray) (f1 f2 : ByteArray) (f3 f4 f5 f6 : Int) (v7 v8 : Value) (s : Sv) (L : List S29) (T : List Bool) : Prop where
  sv : IsSv w0 W g f0 f1 f2 f3 f4 f5 f6 s
  ks : Ks w0 W R A c f0 f1 f2 f3 f4 f5 f6 v7 v8 L T
section
variable {w0 w W W' : World} {g R : Nat} {A : Option Addr} {c : Nat} {f0 : List ByteArray} {f1 f2 : ByteArray} {f3 f4 f5 f6 : Int} {v7 v8 : Value} {s : Sv} {L : List S29} {T : List Bool} {x : S29}
theorem Ks.below (h : Ks w0 W R A c f0 f1 f2 f3 f4 f5 f6 v7 v8 L T) (hb : Below W.heap.size W W') : Ks w0 W' R A c f0 f1 f2 f3 f4 f5 f6 v7 v8 L T :=
  ⟨(hb.block _ (lt_of_block h.box)).trans h.box, Kd.R_below h.r7 hb, row_eq h.r8 (fun k hk => hb.block k (World.ownsRow.lt h.r8 k hk).2), h.ge, h.bel.trans (hb.mono h.bel.size), h.len⟩
theorem Ft.below (h : Ft w0 W g R A c f0 f1 f2 f3 f4 f5 f6 v7 v8 s L T) (hb : Below W.heap.size W W') : Ft w0 W' g R A c f0 f1 f2 f3 f4 f5 f6 v7 v8 s L T := ⟨IsS60.below h.sv hb, h.ks.below hb⟩
theorem Ft.blk (h : Ft w0 W g R A c f0 f1 f2 f3 f4 f5 f6 v7 v8 s L T) : ∃ cs, W.heap[g]? = some (.cells cs 60 (0, 0)) := by
  obtain ⟨A0, c0, hb, _⟩ := h.sv
  exact ⟨_, hb⟩
theorem Ks.kr (h : Ks w0 W R A c f0 f1 f2 f3 f4 f5 f6 v7 v8 L T) : ∃ A7 c7 A8 c8, Kr W R A c f0 f1 f2 f3 f4 f5 f6 A7 c7 A8 c8 L T := by
  obtain ⟨A7, c7, rfl⟩ := Kd.R_slice h.r7
  obtain ⟨A8, c8, rfl⟩ := own_sl h.r8
  exact ⟨A7, c7, A8, c8, ⟨h.box, (Kd.R_reads' h.r7).2.2, fun i hi => by
    have h8 := h.r8
    rcases h8.2 with ⟨e, e'⟩ | ⟨g, cap, cur, e, _⟩
    · injection e with _ e _
      omega
    · injection e with e1 e2 e3
      subst e1
      refine ⟨_, rfl, h8.cells (g := g) rfl i _ ?_⟩
      unfold bools
      rw [List.getElem?_map, List.getD_eq_getElem?_getD, List.getElem?_eq_getElem hi]
      rfl, h.len⟩⟩
end
end Go.Proofs.Ythbgjaboghnpjaa.R
