/- The document's Apply. -/
import Derived.Test.YthbgjaboghnpjaaRB
import Derived.Test.YthbgjaboghnpjaaPureJ
namespace Go.Proofs.Ythbgjaboghnpjaa.R
open Go.RowKit Go.Proofs.Ythbgjaboghnpjaa.Q Go.Proofs.Ythbgjaboghnpjaa.Pure Go.Proofs.YthbgjaboghnpjaaW.PrintWords Go.Proofs.YthbgjaboghnpjaaW.PrintLast Go.Proofs.YthbgjaboghnpjaaW.PrintMore
set_option linter.unusedVariables false
set_option linter.unusedSimpArgs false
theorem c_rright (w : World) (A : Option Addr) (c : Nat) (f0 : List ByteArray) (f1 f2 : ByteArray) (f3 f4 f5 f6 : Int) (b : Bool) (hb : rightB f0 f1 f2 f3 f4 f5 f6 = b) (hf : SmallF f0 f1 f2) (h1 : Kd.C Kd.string w A f0.length f0) (h2 : f0.length ≤ c) :
    Calls Try.prog 13 #[.agg (fcells A c f0 f1 f2 f3 f4 f5 f6)] w fun e w' => e = .returned (.bool b) ∧ Below w.heap.size w w' := by
  obtain ⟨k, hk⟩ := Ev.rounds (g := fun k => joistref13_Right.f k f0 f1 f2 f3 f4 f5 f6) (hb ▸ RightEv f0 f1 f2 f3 f4 f5 f6 hf)
  exact joistref13_Right.calls k A c f0 f1 f2 f3 f4 f5 f6 b w h1 h2 hk
theorem rk_start {w w3 : World} {A : Option Addr} {c : Nat} {f0 : List ByteArray} {f1 f2 : ByteArray} {f3 f4 f5 f6 : Int} (hb : Below w.heap.size w w3) :
    Ks w (w3.alloc (.cells #[.slice A f0.length c, .string f1, .string f2, .int .i64 f3, .int .i64 f4, .int .i64 f5, .int .i64 f6, .slice none 0 0, .slice none 0 0] 45)) w3.heap.size A c f0 f1 f2 f3 f4 f5 f6 (.slice none 0 0) (.slice none 0 0) [] [] :=
  ⟨heap_alloc_new _ _, Kd.R_nil _ _ _ _ _, World.ownsRow_nil _ _ _ _, hb.size, hb.alloc hb.size _, rfl⟩
set_option maxHeartbeats 4000000 in
set_option maxRecDepth 100000 in
theorem rApply_no (w : World) (A : Option Addr) (c : Nat) (f0 : List ByteArray) (f1 f2 : ByteArray) (f3 f4 f5 f6 : Int) (A1 : Option Addr) (c1 : Nat) (l : List S29) (hr : rightB f0 f1 f2 f3 f4 f5 f6 = false) (hsf : SmallF f0 f1 f2) (hf : Kd.C Kd.string w A f0.length f0) (hc : f0.length ≤ c) :
    Calls Try.prog 18 #[.agg (fcells A c f0 f1 f2 f3 f4 f5 f6), .slice A1 l.length c1] w fun e w' => ∃ v, e = .returned v ∧ Row w' v [] ∧ Below w.heap.size w w' := by
  have HF := Lib.hid hf
  have HC := Lib.hid hc
  have HSF := Lib.hid hsf
  have HR := Lib.hid hr
  have hu24 := Try.underlying24
  clear hf hc hsf hr
  unfold fcells
  go_enter Try.func18, Try.ntmps18
  go_wp2_with fail
  have HB : Hid (Below w.heap.size w (((w.alloc (.cells #[.slice A f0.length c, .string f1, .string f2, .int .i64 f3, .int .i64 f4, .int .i64 f5, .int .i64 f6] 24)).alloc (.cells #[] 29)).alloc (.cells #[.slice A f0.length c, .string f1, .string f2, .int .i64 f3, .int .i64 f4, .int .i64 f5, .int .i64 f6, .slice none 0 0, .slice none 0 0] 45))) := (((Below.refl _ _).alloc (Nat.le_refl _) _).alloc (by simp) _).alloc (by simp; omega) _
  have hend : ∀ (W : World) (p : Addr), Row W (.slice (some p) 0 0) [] := fun W p => ⟨some p, 0, rfl, Nat.le_refl _, rfl, by simp, fun h => absurd h (Nat.lt_irrefl 0)⟩
  have HE := Lib.hid hend
  clear hend
  by_cases h0 : 0 < l.length
  · have h1 : (0 : Int) < (l.length : Int) := by omega
    refine wp_loop_rounds 1 ?_
    rw [rounds_succ]
    go_wp2_with (go_at_call 13; refine (c_rright _ A c f0 f1 f2 f3 f4 f5 f6 false HR.out HSF.out (Kd.C_below HF.out HB.out) HC.out).mono ?_; rintro e w5 ⟨rfl, hb5⟩; have HB5 := Lib.hid (HB.out.trans (hb5.mono HB.out.size)); clear hb5)
    go_ret
    exact ⟨_, rfl, HE.out _ _, HB5.out⟩
  · have h1 : ¬ (0 : Int) < (l.length : Int) := by omega
    refine wp_loop_rounds 1 ?_
    rw [rounds_succ]
    go_wp2_with fail
    go_ret
    exact ⟨_, rfl, HE.out _ _, HB.out⟩
/-- What is none of the sieve's. -/
def Rest (R : Nat) (va vb : Value) (q : Nat) : Prop := q ≠ R ∧ some q ≠ va.ownBlock ∧ some q ≠ vb.ownBlock
/-- The document's Apply in its loop. -/
structure Ap (w W : World) (R : Nat) (A : Option Addr) (c : Nat) (f0 : List ByteArray) (f1 f2 : ByteArray) (f3 f4 f5 f6 : Int) (va vb v5 : Value) (s : Sv) (L : List S29) (T : List Bool) (out : List S29) : Prop where
  ks : Ks w W R A c f0 f1 f2 f3 f4 f5 f6 va vb L T
  lk : Lk s L T
  x0 : X0 w W w.heap.size A c f0 f1 f2 f3 f4 f5 f6
  xr : Rest R va vb w.heap.size
  r5 : Kd.R k29 29 W w.heap.size (Rest R va vb) v5 out
theorem ap_take {w W : World} {R : Nat} {A : Option Addr} {c : Nat} {f0 : List ByteArray} {f1 f2 : ByteArray} {f3 f4 f5 f6 : Int} {va vb v5 : Value} {s : Sv} {L : List S29} {T : List Bool} {out : List S29} (h : Ap w W R A c f0 f1 f2 f3 f4 f5 f6 va vb v5 s L T out) (x : S29) (r : Bool) (hr : svTake f0 f1 f2 f3 f4 f5 f6 s x = r) (hl : L.length ≤ 1000) (hf : SmallF f0 f1 f2) (hx : Small x) (fC : Kd.C Kd.string w A f0.length f0) (hc : f0.length ≤ c) :
    Calls Try.prog 22 #[.pointer (some ⟨R, 0, none⟩), .agg (xcells x)] W fun e W' => ∃ va' vb', e = .returned (.bool r) ∧ Ap w W' R A c f0 f1 f2 f3 f4 f5 f6 va' vb' v5 (svNext f0 f1 f2 f3 f4 f5 f6 s x) (L ++ [x]) (T ++ [r]) out := by
  have hr2 := (h.lk.take f0 f1 f2 f3 f4 f5 f6 hl x false).symm.trans hr
  have hnx := h.lk.next f0 f1 f2 f3 f4 f5 f6 hl x
  rw [hr] at hnx
  have hoff : Off W R va vb (fun q => q < W.heap.size ∧ Rest R va vb q) := ⟨fun q hq => ⟨hq.1, hq.2.1⟩, fun q hq => hq.2.2.1, fun q hq => hq.2.2.2⟩
  have hc22 := rTake w W R A c f0 f1 f2 f3 f4 f5 f6 va vb L T x _ h.ks hoff hl hf hx fC hc
  rw [hr2] at hc22
  refine hc22.mono fun e W' ⟨va', vb', he, hk, hkp, ho⟩ => ⟨va', vb', he, hk, hnx, ?_, ?_, ?_⟩
  · exact ⟨(hkp _ ⟨lt_of_block h.x0.xb, h.xr⟩).trans h.x0.xb, hk.bel⟩
  · exact ⟨(ho.p0 _ ⟨lt_of_block h.x0.xb, h.xr⟩).2, ho.p7 _ ⟨lt_of_block h.x0.xb, h.xr⟩, ho.p8 _ ⟨lt_of_block h.x0.xb, h.xr⟩⟩
  · refine Kd.R_mono (Kd.R_step (Kd.R_bound h.r5) (fun k hk hlt => hkp k ⟨hlt, hk.1⟩)) (fun k hk => ?_)
    exact ⟨(ho.p0 k ⟨hk.2.2.1, hk.1⟩).2, ho.p7 k ⟨hk.2.2.1, hk.1⟩, ho.p8 k ⟨hk.2.2.1, hk.1⟩⟩
theorem ap_fresh {w W : World} {R : Nat} {A : Option Addr} {c : Nat} {f0 : List ByteArray} {f1 f2 : ByteArray} {f3 f4 f5 f6 : Int} {va vb v5 : Value} {s : Sv} {L : List S29} {T : List Bool} {out : List S29} (h : Ap w W R A c f0 f1 f2 f3 f4 f5 f6 va vb v5 s L T out) : ∀ k, W.heap.size ≤ k → Rest R va vb k := fun k hk =>
  ⟨by have := lt_of_block h.ks.box; omega, fun e => by have := Kd.R_lt h.ks.r7 k e.symm; omega, fun e => by have := (World.ownsRow.lt h.ks.r8 k e.symm).2; omega⟩
/-- A cell is told. -/
theorem ap_app {w W W' : World} {R : Nat} {A : Option Addr} {c : Nat} {f0 : List ByteArray} {f1 f2 : ByteArray} {f3 f4 f5 f6 : Int} {va vb v5 v5' : Value} {s : Sv} {L : List S29} {T : List Bool} {out out' : List S29} (h : Ap w W R A c f0 f1 f2 f3 f4 f5 f6 va vb v5 s L T out) (hr : Kd.R k29 29 W' w.heap.size (Rest R va vb) v5' out') (hb : Below w.heap.size w W') (hg : W.grownBy W' v5.ownBlock) : Ap w W' R A c f0 f1 f2 f3 f4 f5 f6 va vb v5' s L T out' := by
  have hown := h.r5.1
  have hk : ∀ q, q < W.heap.size → some q ≠ v5.ownBlock → W'.heap[q]? = W.heap[q]? := fun q h1 h2 => hg.block q h1 h2
  have hx := lt_of_block h.x0.xb
  have hX : some w.heap.size ≠ v5.ownBlock := fun e => by
    obtain ⟨inner, ho⟩ := Kd.R_own h.r5
    obtain ⟨ds, hd⟩ := own_type ho _ e.symm
    exact typ_ne h.x0.xb hd (by decide) rfl
  refine ⟨⟨(hk R (lt_of_block h.ks.box) (fun e => (hown R e.symm).1 rfl)).trans h.ks.box, ?_, ?_, h.ks.ge, hb, h.ks.len⟩, h.lk, ⟨(hk _ hx hX).trans h.x0.xb, hb⟩, h.xr, hr⟩
  · obtain ⟨h0, inner, ho, hi⟩ := h.ks.r7
    exact ⟨h0, inner, own_move ho (fun k hk' => hk k (World.ownsRow.lt ho k hk').2 (fun e => (hown k e.symm).2.1 hk'.symm)), hi.imp_ (fun _ _ hp => hp)⟩
  · exact row_eq h.ks.r8 (fun k hk' => hk k (World.ownsRow.lt h.ks.r8 k hk').2 (fun e => (hown k e.symm).2.2 hk'.symm))
end Go.Proofs.Ythbgjaboghnpjaa.R
