/- The document's book of leases: a lease is given. -/
import Derived.Test.YtfadanmfelbfiaaB5
namespace Go.Proofs.Ytfadanmfelbfiaa.L
open Go.RowKit Go.Maps Go.Proofs.YtfadanmfelbfiaaW.PrintWords Go.Proofs.YtfadanmfelbfiaaW.PrintLast Go.Proofs.YtfadanmfelbfiaaW.PrintMore
set_option linter.unusedVariables false
set_option linter.unusedSimpArgs false
def RGivePost (R gv gu : Nat) (v3 v4 : Value) (gr gs : Gs) (n v u : Int) (w : World) (e : Ending) (w' : World) : Prop := ∃ r gr' gs' v3' v4', e = .returned (.bool r) ∧ Gv gr gs n v u r gr' gs' ∧ RBk w' R gv gu v3' v4' gr' gs' ∧ But (RF R gv gu v3 v4) w w' ∧ ∀ k, RF R gv gu v3' v4' k → RF R gv gu v3 v4 k ∨ w.heap.size ≤ k
theorem rGivePost_no {R gv gu : Nat} {v3 v4 : Value} {gr gs : Gs} {n v u : Int} {w w' : World} (h : RBk w R gv gu v3 v4 gr gs) (hn : ¬ GiveOk gr n v u) (hd : Below w.heap.size w w') : RGivePost R gv gu v3 v4 gr gs n v u w (.returned (.bool false)) w' :=
  ⟨false, gr, gs, v3, v4, rfl, Or.inr ⟨hn, rfl, rfl, rfl⟩, h.below hd, But.below hd, fun k hk => Or.inl hk⟩
theorem own_sl {w : World} {base e size n : Nat} {v : Value} {xs : List Value} (h : w.ownsRow base e size v n xs) : ∃ A c, v = .slice A n c := by
  rcases h.2 with ⟨rfl, rfl⟩ | ⟨g, cap, cur, rfl, _⟩
  · exact ⟨none, 0, rfl⟩
  · exact ⟨_, cap, rfl⟩
theorem rgive_end {w w2 w3 : World} {R gv gu k : Nat} {v3 v4 v3' v4' : Value} {gr gs : Gs} {v u : Int} {o1 o2 : Obj} (h : RBk w R gv gu v3 v4 gr gs) (hk : k < gr.length) (hok : GiveOk gr k v u)
    (hgrow2 : (((w.setCell ⟨gv, k, none⟩ (.int .i64 v)).setCell ⟨gu, k, none⟩ (.int .i64 u)).alloc o1).grownBy w2 v3.ownBlock) (hown2 : w2.ownsRow 0 3 1 v3' (gs.length + 1) ((gs.map (·.1)).map (.int .i64) ++ [.int .i64 v]))
    (hloc2 : v3'.ownBlock = v3.ownBlock ∨ v3'.ownBlock = some (((w.setCell ⟨gv, k, none⟩ (.int .i64 v)).setCell ⟨gu, k, none⟩ (.int .i64 u)).alloc o1).heap.size)
    (hgrow3 : ((w2.setCell ⟨R, 2, none⟩ v3').alloc o2).grownBy w3 v4.ownBlock) (hown3 : w3.ownsRow 0 3 1 v4' (gs.length + 1) ((gs.map (·.2)).map (.int .i64) ++ [.int .i64 u]))
    (hloc3 : v4'.ownBlock = v4.ownBlock ∨ v4'.ownBlock = some ((w2.setCell ⟨R, 2, none⟩ v3').alloc o2).heap.size) : RGivePost R gv gu v3 v4 gr gs k v u w (.returned (.bool true)) (w3.setCell ⟨R, 3, none⟩ v4') := by
  have n1 := h.n1
  have n2 := h.n2
  have n3 := h.n3
  have hlt := h.lt
  have ltR := hlt R (Or.inl rfl)
  have ltv := hlt gv (Or.inr (Or.inl rfl))
  have ltu := hlt gu (Or.inr (Or.inr (Or.inl rfl)))
  have s1 : (((w.setCell ⟨gv, k, none⟩ (.int .i64 v)).setCell ⟨gu, k, none⟩ (.int .i64 u)).alloc o1).heap.size = w.heap.size + 1 := by simp [World.setCell]
  have s2 := hgrow2.size
  have s3 : ((w2.setCell ⟨R, 2, none⟩ v3').alloc o2).heap.size = w2.heap.size + 1 := by simp [World.setCell]
  have s4 := hgrow3.size
  rw [s1] at s2 hloc2
  rw [s3] at s4 hloc3
  -- a block that was there, but for the book's own
  have e1 : ∀ q, q < w.heap.size → q ≠ gv → q ≠ gu → (((w.setCell ⟨gv, k, none⟩ (.int .i64 v)).setCell ⟨gu, k, none⟩ (.int .i64 u)).alloc o1).heap[q]? = w.heap[q]? := fun q h3 h1 h2 => by
    rw [heap_alloc_old _ _ (by simpa [World.setCell] using h3), Below.heap_setCell _ _ _ _ h2, Below.heap_setCell _ _ _ _ h1]
  have e2 : ∀ q, q < w.heap.size + 1 → v3.ownBlock ≠ some q → w2.heap[q]? = (((w.setCell ⟨gv, k, none⟩ (.int .i64 v)).setCell ⟨gu, k, none⟩ (.int .i64 u)).alloc o1).heap[q]? := fun q hq hne => hgrow2.block q (by rw [s1]; exact hq) (Ne.symm hne)
  have e3 : ∀ q, q < w2.heap.size → q ≠ R → ((w2.setCell ⟨R, 2, none⟩ v3').alloc o2).heap[q]? = w2.heap[q]? := fun q hq hne => by
    rw [heap_alloc_old _ _ (by simpa [World.setCell] using hq), Below.heap_setCell _ _ _ _ hne]
  have e4 : ∀ q, q < w2.heap.size + 1 → v4.ownBlock ≠ some q → w3.heap[q]? = ((w2.setCell ⟨R, 2, none⟩ v3').alloc o2).heap[q]? := fun q hq hne => hgrow3.block q (by rw [s3]; exact hq) (Ne.symm hne)
  have e5 : ∀ q, q ≠ R → (w3.setCell ⟨R, 3, none⟩ v4').heap[q]? = w3.heap[q]? := fun q hq => Below.heap_setCell _ _ _ _ hq
  have nv3 : ∀ q, q = R ∨ q = gv ∨ q = gu → v3.ownBlock ≠ some q := fun q hq e => by have := h.d3 q e; omega
  have nv4 : ∀ q, q = R ∨ q = gv ∨ q = gu → v4.ownBlock ≠ some q := fun q hq e => by have := h.d4 q e; omega
  -- the two rows
  have hrv1 : HasInts (((w.setCell ⟨gv, k, none⟩ (.int .i64 v)).setCell ⟨gu, k, none⟩ (.int .i64 u)).alloc o1) gv ((gr.set k (v, u)).map (·.1)) := by
    rw [List.map_set]
    exact ((h.rv.set k v).of_eq (Below.heap_setCell _ _ _ _ (Ne.symm n3))).of_eq (heap_alloc_old _ _ (by simpa [World.setCell] using ltv))
  have hru1 : HasInts (((w.setCell ⟨gv, k, none⟩ (.int .i64 v)).setCell ⟨gu, k, none⟩ (.int .i64 u)).alloc o1) gu ((gr.set k (v, u)).map (·.2)) := by
    rw [List.map_set]
    exact (HasInts.set (h.ru.of_eq (Below.heap_setCell _ _ _ _ n3)) k u).of_eq (heap_alloc_old _ _ (by simpa [World.setCell] using ltu))
  have hbR : (w3.setCell ⟨R, 3, none⟩ v4').heap[R]? = some (.cells #[.slice (some ⟨gv, 0, none⟩) gr.length gr.length, .slice (some ⟨gu, 0, none⟩) gr.length gr.length, v3', v4'] 69 (0, 0)) := by
    have a2 : w2.heap[R]? = some (.cells #[.slice (some ⟨gv, 0, none⟩) gr.length gr.length, .slice (some ⟨gu, 0, none⟩) gr.length gr.length, v3, v4] 69 (0, 0)) := by
      rw [e2 R (by omega) (nv3 R (Or.inl rfl)), e1 R ltR (Ne.symm n1) (Ne.symm n2)]; exact h.box
    have a3 : ((w2.setCell ⟨R, 2, none⟩ v3').alloc o2).heap[R]? = some (.cells #[.slice (some ⟨gv, 0, none⟩) gr.length gr.length, .slice (some ⟨gu, 0, none⟩) gr.length gr.length, v3', v4] 69 (0, 0)) := by
      rw [heap_alloc_old _ _ (by simp [World.setCell]; omega)]
      exact cells_setCell a2
    have a4 : w3.heap[R]? = some (.cells #[.slice (some ⟨gv, 0, none⟩) gr.length gr.length, .slice (some ⟨gu, 0, none⟩) gr.length gr.length, v3', v4] 69 (0, 0)) := by
      rw [e4 R (by omega) (nv4 R (Or.inl rfl))]; exact a3
    exact cells_setCell a4
  have d3' : ∀ q, v3'.ownBlock = some q → (v3.ownBlock = some q ∨ q = w.heap.size + 1) := fun q hq => by
    rcases hloc2 with e | e
    · exact Or.inl (e ▸ hq)
    · rw [hq] at e; exact Or.inr (by injection e)
  have d4' : ∀ q, v4'.ownBlock = some q → (v4.ownBlock = some q ∨ q = w2.heap.size + 1) := fun q hq => by
    rcases hloc3 with e | e
    · exact Or.inl (e ▸ hq)
    · rw [hq] at e; exact Or.inr (by injection e)
  have lt3' : ∀ q, v3'.ownBlock = some q → q < w2.heap.size := fun q hq => (hown2.lt q hq).2
  have b3 : ∀ q, v3.ownBlock = some q → q < w.heap.size := fun q hq => hlt q (Or.inr (Or.inr (Or.inr (Or.inl hq))))
  have b4 : ∀ q, v4.ownBlock = some q → q < w.heap.size := fun q hq => hlt q (Or.inr (Or.inr (Or.inr (Or.inr hq))))
  refine ⟨true, _, _, v3', v4', rfl, Or.inl ⟨hok, rfl, rfl, rfl⟩, ?_, ?_, ?_⟩
  · rw [Int.toNat_natCast]
    refine ⟨by simpa using hbR, ?_, ?_, ?_, ?_, n1, n2, n3, ?_, ?_, ?_⟩
    · refine hrv1.of_eq ?_
      rw [e5 gv n1, e4 gv (by omega) (nv4 gv (by simp)), e3 gv (by omega) n1, e2 gv (by omega) (nv3 gv (by simp))]
    · refine hru1.of_eq ?_
      rw [e5 gu n2, e4 gu (by omega) (nv4 gu (by simp)), e3 gu (by omega) n2, e2 gu (by omega) (nv3 gu (by simp))]
    · have : w2.ownsRow 0 3 1 v3' ((gs ++ [(v, u)]).map (·.1)).length (((gs ++ [(v, u)]).map (·.1)).map (.int .i64)) := by simpa using hown2
      refine row_eq this (fun q hq => ?_)
      have hlq := lt3' q hq
      have hqR : q ≠ R := by
        rcases d3' q hq with e | e
        · exact (h.d3 q e).1
        · omega
      have hq4 : v4.ownBlock ≠ some q := by
        rcases d3' q hq with e | e
        · exact h.d34 q e
        · intro e'; have := b4 q e'; omega
      rw [e5 q hqR, e4 q (by omega) hq4, e3 q hlq hqR]
    · have : w3.ownsRow 0 3 1 v4' ((gs ++ [(v, u)]).map (·.2)).length (((gs ++ [(v, u)]).map (·.2)).map (.int .i64)) := by simpa using hown3
      refine row_eq this (fun q hq => ?_)
      refine e5 q ?_
      rcases d4' q hq with e | e
      · exact (h.d4 q e).1
      · omega
    · intro q hq
      rcases d3' q hq with e | e
      · exact h.d3 q e
      · omega
    · intro q hq
      rcases d4' q hq with e | e
      · exact h.d4 q e
      · omega
    · intro q hq hq'
      have := lt3' q hq
      rcases d4' q hq' with e | e
      · rcases d3' q hq with e' | e'
        · exact h.d34 q e' e
        · have := b4 q e; omega
      · omega
  · refine ⟨?_, ?_, ?_, ?_, fun q hq hn => ?_⟩
    · exact hgrow3.os.trans hgrow2.os
    · exact hgrow3.tape.trans hgrow2.tape
    · exact hgrow3.output.trans hgrow2.output
    · have : (w3.setCell ⟨R, 3, none⟩ v4').heap.size = w3.heap.size := by simp [World.setCell]
      omega
    · have q1 : q ≠ R := fun e => hn (Or.inl e)
      have q2 : q ≠ gv := fun e => hn (Or.inr (Or.inl e))
      have q3 : q ≠ gu := fun e => hn (Or.inr (Or.inr (Or.inl e)))
      have q4 : v3.ownBlock ≠ some q := fun e => hn (Or.inr (Or.inr (Or.inr (Or.inl e))))
      have q5 : v4.ownBlock ≠ some q := fun e => hn (Or.inr (Or.inr (Or.inr (Or.inr e))))
      rw [e5 q q1, e4 q (by omega) q5, e3 q (by omega) q1, e2 q (by omega) q4, e1 q hq q2 q3]
  · rintro q (e | e | e | e | e)
    · exact Or.inl (Or.inl e)
    · exact Or.inl (Or.inr (Or.inl e))
    · exact Or.inl (Or.inr (Or.inr (Or.inl e)))
    · rcases d3' q e with e | e
      · exact Or.inl (Or.inr (Or.inr (Or.inr (Or.inl e))))
      · exact Or.inr (by omega)
    · rcases d4' q e with e | e
      · exact Or.inl (Or.inr (Or.inr (Or.inr (Or.inr e))))
      · exact Or.inr (by omega)
set_option maxHeartbeats 4000000 in
theorem rGive_in (w : World) (R gv gu : Nat) (v3 v4 : Value) (gr gs : Gs) (k : Nat) (v u : Int) (h : RBk w R gv gu v3 v4 gr gs) (hr : RB gr) (hs : gs.length < 1000000) (hk : k < gr.length) (hv0 : 1 ≤ v) (hv1 : v ≤ 1099511627776) (hu : u ≤ 1099511627776) (ho1 : (gr.getD k (0, 0)).1 ≤ v) (ho2 : (gr.getD k (0, 0)).2 < u) :
    Calls Try.prog 20 #[.pointer (some ⟨R, 0, none⟩), .int .i64 k, .int .i64 v, .int .i64 u] w (RGivePost R gv gu v3 v4 gr gs k v u w) := by
  have hc0 := h.c0
  have hc1 := h.c1
  have hc2 := h.c2
  have hc3 := h.c3
  have hlen := hr.hi
  have hlo := hr.lo
  have hvk := hr.val k
  have HBK := Lib.hid h
  obtain ⟨hv, huu⟩ := h.cell k hk
  have hfv := h.rv.free k
  have hfu := h.ru.free k
  have hfR2 := h.f 2
  have hfR3 := h.f 3
  have HOK : Hid (GiveOk gr k v u) := ⟨by omega, by omega, hv0, hv1, hu, by rw [Int.toNat_natCast]; exact ho1, by rw [Int.toNat_natCast]; exact ho2⟩
  generalize gr.getD k (0, 0) = p at hv huu ho1 ho2 hvk
  obtain ⟨a, b⟩ := p
  simp only at hv huu ho1 ho2 hvk
  obtain ⟨i0, hi0, hz0, hz1, hz2⟩ := info_parts info3
  have n1 := h.n1
  have n2 := h.n2
  have n3 := h.n3
  clear h
  have hltF := HBK.out.lt
  have hb3 : (gs.length + 1) * 8 ≤ 140737488355328 := by omega
  have hm3 : gs.length + 1 ≤ maxLen := by unfold maxLen; omega
  have hothW : ∀ q, q ≠ gv → q ≠ gu → q < w.heap.size → ∀ o, (((w.setCell ⟨gv, k, none⟩ (.int .i64 v)).setCell ⟨gu, k, none⟩ (.int .i64 u)).alloc o).heap[q]? = w.heap[q]? := fun q h1 h2 h3 o => by
    rw [heap_alloc_old _ _ (by simpa [World.setCell] using h3), Below.heap_setCell _ _ _ _ h2, Below.heap_setCell _ _ _ _ h1]
  have K3 : Hid (∀ o, (((w.setCell ⟨gv, k, none⟩ (.int .i64 v)).setCell ⟨gu, k, none⟩ (.int .i64 u)).alloc o).ownsRow 0 3 1 v3 gs.length ((gs.map (·.1)).map (.int .i64))) := fun o => by
    have := HBK.out.o3
    unfold OwnI at this
    rw [List.length_map] at this
    exact row_eq this (fun q hq => hothW q (HBK.out.d3 q hq).2.1 (HBK.out.d3 q hq).2.2 (hltF q (Or.inr (Or.inr (Or.inr (Or.inl hq))))) o)
  have HOTH := Lib.hid hothW
  have HLT := Lib.hid hltF
  have ltR := hltF R (Or.inl rfl)
  clear hothW hltF
  go_enter Try.func20, Try.ntmps20
  go_wp2_with (first
    | (at_builtin; refine wpList_append_own_at _ rfl (.tmp 72) (.tmp 74) 55 rfl 0 3 i0 (.int .i64 0) 1 8 Try.underlying55 hi0 hz0 hz1 hz2 rfl (by decide) v3 gs.length _ rfl (K3.out _) ⟨w.heap.size, 0, none⟩ 1 1 [.int .i64 v] rfl rfl ?c1 ?c2 ?c3 ?c4 ?c5 ?_; (case c1 => exact one_new _ _ (by simp [World.setCell]) _ _); (case c2 => simp [Value.oneCell']); (case c3 => exact hm3); (case c4 => exact hb3); (case c5 => exact Nat.zero_le _); intro v3' w2 hown2 hgrow2 hnil2 hloc2; clear hnil2; obtain ⟨A3', c3', rfl⟩ := own_sl hown2;
        have hRb : w2.heap[R]? = some (.cells #[.slice (some ⟨gv, 0, none⟩) gr.length gr.length, .slice (some ⟨gu, 0, none⟩) gr.length gr.length, v3, v4] 69 (0, 0)) := (hgrow2.block R (by simp [World.setCell]; omega) (fun e => (HBK.out.d3 R e.symm).1 rfl)).trans ((HOTH.out R (Ne.symm n1) (Ne.symm n2) ltR _).trans HBK.out.box);
        have k2 : w2.cell? ⟨R, 2, none⟩ = some v3 := (by simp [World.cell?, hRb]);
        have k3 : w2.cell? ⟨R, 3, none⟩ = some v4 := (by simp [World.cell?, hRb]);
        have k4 : w2.frozen? ⟨R, 2, none⟩ = false := (by simp [World.frozen?, hRb]);
        have k5 : w2.frozen? ⟨R, 3, none⟩ = false := (by simp [World.frozen?, hRb]);
        have K4 : Hid (∀ o, ((w2.setCell ⟨R, 2, none⟩ (.slice A3' (gs.length + 1) c3')).alloc o).ownsRow 0 3 1 v4 gs.length ((gs.map (·.2)).map (.int .i64))) := (fun o => by
          have := HBK.out.o4
          unfold OwnI at this
          rw [List.length_map] at this
          have hsz := hgrow2.size
          simp [World.setCell] at hsz
          refine row_eq this (fun q hq => ?_)
          have hq1 := HBK.out.d4 q hq
          have hq2 := HLT.out q (Or.inr (Or.inr (Or.inr (Or.inr hq))))
          rw [heap_alloc_old _ _ (by simp [World.setCell]; omega), Below.heap_setCell _ _ _ _ hq1.1, hgrow2.block q (by simp [World.setCell]; omega) (fun e => HBK.out.d34 q e.symm hq), HOTH.out q hq1.2.1 hq1.2.2 hq2]);
        have HRB := Lib.hid hRb;
        have HO2 := Lib.hid hown2;
        have HG2 := Lib.hid hgrow2;
        have HL2 := Lib.hid hloc2;
        clear hRb hown2 hgrow2 hloc2)
    | (at_builtin; refine wpList_append_own_at _ rfl (.tmp 82) (.tmp 84) 55 rfl 0 3 i0 (.int .i64 0) 1 8 Try.underlying55 hi0 hz0 hz1 hz2 rfl (by decide) v4 gs.length _ rfl (K4.out _) ⟨w2.heap.size, 0, none⟩ 1 1 [.int .i64 u] rfl rfl ?c1 ?c2 ?c3 ?c4 ?c5 ?_; (case c1 => exact one_new _ _ (by simp [World.setCell]) _ _); (case c2 => simp [Value.oneCell']); (case c3 => exact hm3); (case c4 => exact hb3); (case c5 => exact Nat.zero_le _); intro v4' w3 hown3 hgrow3 hnil3 hloc3; clear hnil3; obtain ⟨A4', c4', rfl⟩ := own_sl hown3;
        have hRb3 : w3.heap[R]? = some (.cells #[.slice (some ⟨gv, 0, none⟩) gr.length gr.length, .slice (some ⟨gu, 0, none⟩) gr.length gr.length, .slice A3' (gs.length + 1) c3', v4] 69 (0, 0)) := (hgrow3.block R (by simp [World.setCell]; have := lt_of_block HRB.out; omega) (fun e => (HBK.out.d4 R e.symm).1 rfl)).trans ((heap_alloc_old _ _ (by simp [World.setCell]; have := lt_of_block HRB.out; omega)).trans (cells_setCell HRB.out));
        have k6 : w3.cell? ⟨R, 3, none⟩ = some v4 := (by simp [World.cell?, hRb3]);
        have k7 : w3.frozen? ⟨R, 3, none⟩ = false := (by simp [World.frozen?, hRb3]);
        have HO3 := Lib.hid hown3;
        have HG3 := Lib.hid hgrow3;
        have HL3 := Lib.hid hloc3;
        clear hRb3 hown3 hgrow3 hloc3)
    | fail)
  go_ret
  exact rgive_end HBK.out hk HOK.out HG2.out HO2.out HL2.out HG3.out HO3.out HL3.out
set_option maxHeartbeats 2000000 in
theorem rGive (w : World) (R gv gu : Nat) (v3 v4 : Value) (gr gs : Gs) (n v u : Int) (h : RBk w R gv gu v3 v4 gr gs) (hr : RB gr) (hs : gs.length < 1000000) :
    Calls Try.prog 20 #[.pointer (some ⟨R, 0, none⟩), .int .i64 n, .int .i64 v, .int .i64 u] w (RGivePost R gv gu v3 v4 gr gs n v u w) := by
  have hc0 := h.c0
  have hc1 := h.c1
  have hlen := hr.hi
  have hlo := hr.lo
  have HBK := Lib.hid h
  by_cases hn : 0 ≤ n ∧ n < gr.length
  · obtain ⟨k, rfl⟩ := Int.eq_ofNat_of_zero_le hn.1
    have hk : k < gr.length := by omega
    by_cases hv : 1 ≤ v ∧ v ≤ 1099511627776
    · obtain ⟨hv0, hv1⟩ := hv
      by_cases ho1 : (gr.getD k (0, 0)).1 ≤ v
      · by_cases ho2 : (gr.getD k (0, 0)).2 < u
        · by_cases hu : u ≤ 1099511627776
          · exact rGive_in w R gv gu v3 v4 gr gs k v u h hr hs hk hv0 hv1 hu ho1 ho2
          · obtain ⟨hv', huu⟩ := h.cell k hk
            have HN : Hid (¬ GiveOk gr k v u) := fun hok => hu hok.2.2.2.2.1
            have hu' : 1099511627776 < u := by omega
            generalize gr.getD k (0, 0) = p at hv' huu ho1 ho2
            obtain ⟨a, b⟩ := p
            simp only at hv' huu ho1 ho2
            clear hu hn
            clear h
            go_enter Try.func20, Try.ntmps20
            go_wp2
            go_ret
            exact rGivePost_no HBK.out HN.out (Below.refl _ _)
        · obtain ⟨hv', huu⟩ := h.cell k hk
          have HN : Hid (¬ GiveOk gr k v u) := fun hok => by have := hok.2.2.2.2.2.2; rw [Int.toNat_natCast] at this; omega
          generalize gr.getD k (0, 0) = p at hv' huu ho1 ho2
          obtain ⟨a, b⟩ := p
          simp only at hv' huu ho1 ho2
          clear hn
          clear h
          go_enter Try.func20, Try.ntmps20
          go_wp2
          go_ret
          exact rGivePost_no HBK.out HN.out (Below.refl _ _)
      · obtain ⟨hv', huu⟩ := h.cell k hk
        have HN : Hid (¬ GiveOk gr k v u) := fun hok => by have := hok.2.2.2.2.2.1; rw [Int.toNat_natCast] at this; omega
        generalize gr.getD k (0, 0) = p at hv' huu ho1
        obtain ⟨a, b⟩ := p
        simp only at hv' huu ho1
        clear hn
        clear h
        go_enter Try.func20, Try.ntmps20
        go_wp2
        go_ret
        exact rGivePost_no HBK.out HN.out (Below.refl _ _)
    · have HN : Hid (¬ GiveOk gr k v u) := fun hok => hv ⟨hok.2.2.1, hok.2.2.2.1⟩
      rcases (by omega : v < 1 ∨ 1099511627776 < v) with hx | hx
      · clear hv hn
        clear h
        go_enter Try.func20, Try.ntmps20
        go_wp2
        go_ret
        exact rGivePost_no HBK.out HN.out (Below.refl _ _)
      · clear hv hn
        have hx1 : 1 ≤ v := by omega
        clear h
        go_enter Try.func20, Try.ntmps20
        go_wp2
        go_ret
        exact rGivePost_no HBK.out HN.out (Below.refl _ _)
  · have HN : Hid (¬ GiveOk gr n v u) := fun hok => hn ⟨hok.1, hok.2.1⟩
    rcases (by omega : n < 0 ∨ (gr.length : Int) ≤ n) with hx | hx
    · clear hn
      clear h
      go_enter Try.func20, Try.ntmps20
      go_wp2
      go_ret
      exact rGivePost_no HBK.out HN.out (Below.refl _ _)
    · clear hn
      have hx0 : 0 ≤ n := by omega
      clear h
      go_enter Try.func20, Try.ntmps20
      go_wp2
      go_ret
      exact rGivePost_no HBK.out HN.out (Below.refl _ _)
end Go.Proofs.Ytfadanmfelbfiaa.L
