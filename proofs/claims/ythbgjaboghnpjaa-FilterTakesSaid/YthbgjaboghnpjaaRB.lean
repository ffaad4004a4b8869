/- Both sieves side by side. -/
import Derived.Test.YthbgjaboghnpjaaRA
namespace Go.Proofs.Ythbgjaboghnpjaa.R
open Go.RowKit Go.Proofs.Ythbgjaboghnpjaa.Q Go.Proofs.Ythbgjaboghnpjaa.Pure Go.Proofs.YthbgjaboghnpjaaW.PrintWords Go.Proofs.YthbgjaboghnpjaaW.PrintLast Go.Proofs.YthbgjaboghnpjaaW.PrintMore
set_option linter.unusedVariables false
set_option linter.unusedSimpArgs false
/-- The program's sieve and the document's. -/
structure Ft (w0 W : World) (g R : Nat) (A : Option Addr) (c : Nat) (f0 : List ByteArray) (f1 f2 : ByteArray) (f3 f4 f5 f6 : Int) (v7 v8 : Value) (s : Sv) (L : List S29) (T : List Bool) : Prop where
  sv : IsSv w0 W g f0 f1 f2 f3 f4 f5 f6 s
  ks : Ks w0 W R A c f0 f1 f2 f3 f4 f5 f6 v7 v8 L T
section
variable {w0 w W W' : World} {g R : Nat} {A : Option Addr} {c : Nat} {f0 : List ByteArray} {f1 f2 : ByteArray} {f3 f4 f5 f6 : Int} {v7 v8 : Value} {s : Sv} {L : List S29} {T : List Bool} {x : S29}
theorem Ks.below (h : Ks w0 W R A c f0 f1 f2 f3 f4 f5 f6 v7 v8 L T) (hb : Below W.heap.size W W') : Ks w0 W' R A c f0 f1 f2 f3 f4 f5 f6 v7 v8 L T :=
  ⟨(hb.block _ (lt_of_block h.box)).trans h.box, Kd.R_below h.r7 hb, row_eq h.r8 (fun k hk => hb.block k (World.ownsRow.lt h.r8 k hk).2), h.ge, h.bel.trans (hb.mono h.bel.size), h.len⟩
theorem Ft.below (h : Ft w0 W g R A c f0 f1 f2 f3 f4 f5 f6 v7 v8 s L T) (hb : Below W.heap.size W W') : Ft w0 W' g R A c f0 f1 f2 f3 f4 f5 f6 v7 v8 s L T := ⟨IsS60.below h.sv hb, h.ks.below hb⟩
theorem Ks.keep (h : Ks w0 W R A c f0 f1 f2 f3 f4 f5 f6 v7 v8 L T) {cs : Array Value} (hg : W.heap[g]? = some (.cells cs 60 (0, 0))) (hk : KeepBut W W' g none) (hb : Below w0.heap.size w0 W') : Ks w0 W' R A c f0 f1 f2 f3 f4 f5 f6 v7 v8 L T := by
  refine ⟨(hk.2 R (lt_of_block h.box) (typ_ne h.box hg (by decide)) (by simp)).trans h.box, ?_, ?_, h.ge, hb, h.len⟩
  · exact Kd.R_mono (Kd.R_keep (Kd.R_types h.r7 hg (by decide)) hk (fun k hk => hk.2)) (fun _ _ => trivial)
  · refine row_eq h.r8 (fun k hk' => ?_)
    obtain ⟨ds, hd⟩ := own_type h.r8 k hk'
    exact hk.2 k (lt_of_block hd) (typ_ne hd hg (by decide)) (by simp)
theorem Ft.blk (h : Ft w0 W g R A c f0 f1 f2 f3 f4 f5 f6 v7 v8 s L T) : ∃ cs, W.heap[g]? = some (.cells cs 60 (0, 0)) := by
  obtain ⟨A0, c0, hb, _⟩ := h.sv
  exact ⟨_, hb⟩
theorem Ks.kr (h : Ks w0 W R A c f0 f1 f2 f3 f4 f5 f6 v7 v8 L T) : ∃ A7 c7 A8 c8, Kr W R A c f0 f1 f2 f3 f4 f5 f6 A7 c7 A8 c8 L T := by
  obtain ⟨A7, c7, rfl⟩ := Kd.R_slice h.r7
  obtain ⟨A8, c8, rfl⟩ := own_sl h.r8
  exact ⟨A7, c7, A8, c8, (h.md (x := z29)).kr rfl rfl h.len |> fun k => ⟨h.box, (Kd.R_reads' h.r7).2.2, fun i hi => by
    have h8 := h.r8
    rcases h8.2 with ⟨e, e'⟩ | ⟨g, cap, cur, e, _⟩
    · injection e with _ e _
      omega
    · injection e with e1 e2 e3
      subst e1
      refine ⟨_, rfl, h8.cells (g := g) rfl i _ ?_⟩
      unfold bools
      rw [List.getElem?_map, List.getD_eq_getElem?_getD, List.getElem?_eq_getElem hi]
      rfl, h.len⟩⟩
theorem ft_take (h : Ft w0 W g R A c f0 f1 f2 f3 f4 f5 f6 v7 v8 s L T) (x : S29) (r : Bool) (hr : svTake f0 f1 f2 f3 f4 f5 f6 s x = r) :
    Calls Try.prog 21 #[.pointer (some ⟨g, 0, none⟩), .agg (xcells x)] W fun e W' => e = .returned (.bool r) ∧ Ft w0 W' g R A c f0 f1 f2 f3 f4 f5 f6 v7 v8 (svNext f0 f1 f2 f3 f4 f5 f6 s x) L T := by
  obtain ⟨cs, hg⟩ := h.blk
  exact (sv_take g f0 f1 f2 f3 f4 f5 f6 s x w0 W h.sv h.ks.bel).mono fun e W' ⟨he, hs, hb, hk⟩ => ⟨by rw [he, hr], hs, h.ks.keep hg hk hb⟩
theorem ft_rtake (h : Ft w0 W g R A c f0 f1 f2 f3 f4 f5 f6 v7 v8 s L T) (x : S29) (r : Bool) (hl : L.length ≤ 1000) (hf : SmallF f0 f1 f2) (hx : Small x) (fC : Kd.C Kd.string w0 A f0.length f0) (hc : f0.length ≤ c) (hr : okB f0 f1 f2 f3 f4 f5 f6 x (runN x (L ++ [x]) (T ++ [false]) L.length) (rowSt (L ++ [x]) (T ++ [false]) L.length).1 = r) :
    Calls Try.prog 22 #[.pointer (some ⟨R, 0, none⟩), .agg (xcells x)] W fun e W' => ∃ v7' v8', e = .returned (.bool r) ∧ Ft w0 W' g R A c f0 f1 f2 f3 f4 f5 f6 v7' v8' s (L ++ [x]) (T ++ [r]) := by
  rw [← hr]
  refine (rTake w0 W R A c f0 f1 f2 f3 f4 f5 f6 v7 v8 L T x h.ks hl hf hx fC hc).mono fun e W' ⟨v7', v8', he, hk, h60⟩ => ⟨v7', v8', he, ?_, hk⟩
  obtain ⟨A0, c0, hb, hge, hC⟩ := h.sv
  exact ⟨A0, c0, (h60 g _ hb).trans hb, hge, hC⟩
theorem ft_done (h : Ft w0 W g R A c f0 f1 f2 f3 f4 f5 f6 v7 v8 s L T) (d : Bool) (hd : doneB f6 s.rows = d) :
    Calls Try.prog 23 #[.pointer (some ⟨g, 0, none⟩)] W fun e W' => e = .returned (.bool d) ∧ Ft w0 W' g R A c f0 f1 f2 f3 f4 f5 f6 v7 v8 s L T := by
  obtain ⟨cs, hg⟩ := h.blk
  refine (filter_Sieve_Done.calls g f0 f1 f2 f3 f4 f5 f6 s.c.f0 s.c.f1 s.c.f2 s.c.f3 s.c.f4 s.c.f5.f0 s.c.f5.f1 s.c.f5.f2 s.some s.n s.rows s.hit d f1 f2 f3 f4 f5 f6 s.c.f0 s.c.f1 s.c.f2 s.c.f3 s.c.f4 s.c.f5.f0 s.c.f5.f1 s.c.f5.f2 s.some s.n s.rows s.hit w0 W h.sv h.ks.bel ?_).mono fun e W' ⟨he, hs, hb, hk⟩ => ⟨he, hs, h.ks.keep hg hk hb⟩
  rw [← hd]
  unfold filter_Sieve_Done.f doneB
  by_cases h6 : f6 = 0
  · simp [h6]
  · simp [h6]
theorem ft_rdone (h : Ft w0 W g R A c f0 f1 f2 f3 f4 f5 f6 v7 v8 s L T) (m : Nat) (hm : L.length = m + 1) (hl : m ≤ 1000) (d : Bool) (hd : doneB f6 (rowSt L T m).1 = d) :
    Calls Try.prog 24 #[.pointer (some ⟨R, 0, none⟩)] W fun e W' => e = .returned (.bool d) ∧ Ft w0 W' g R A c f0 f1 f2 f3 f4 f5 f6 v7 v8 s L T := by
  obtain ⟨A7, c7, A8, c8, hk⟩ := h.ks.kr
  exact (rDone W R A c f0 f1 f2 f3 f4 f5 f6 A7 c7 A8 c8 L T hk m hm hl).mono fun e W' ⟨he, hb⟩ => ⟨by rw [he, hd], h.below hb.below⟩
end
end Go.Proofs.Ythbgjaboghnpjaa.R
