/- Script: changes well formed, as ddl asks it. -/
import Derived.Test.YtkogcobcjoojnaaGreatDoorPI
namespace Go.Proofs.YtkogcobcjoojnaaGreatDoor.Fl
open Go.RowKit Go.Maps
set_option linter.unusedVariables false
set_option linter.unusedSimpArgs false
/-- What of a change its kind names. -/
def tdC (c : ChgE) : ChgE := ⟨c.kind, c.fam, if c.kind = 3 ∨ c.kind = 4 then c.qual else noB, if c.kind = 3 then c.typ else 0, if c.kind = 1 ∨ c.kind = 5 then c.group else 0, if c.kind = 1 then c.versions else 0, if c.kind = 1 then c.life else 0⟩
abbrev zC : Array Value := #[.int .i64 0, .string ⟨#[]⟩, .string ⟨#[]⟩, .int .i64 0, .int .i64 0, .int .i64 0, .int .i64 0]
/-- The three boxes of 'told'. -/
structure T3b (w : World) (A B C : Array Value) (T : TypeId) (W : World) : Prop where
  bel : Below w.heap.size w W
  a : Bk w.heap.size A T W
  b : Bk (w.heap.size + 1) B T W
  c : Bk (w.heap.size + 1 + 1) C T W
theorem T3b.next {w : World} {A B C : Array Value} {T : TypeId} {W W' : World} (h : T3b w A B C T W) (hb : Below W.heap.size W W') : T3b w A B C T W' := ⟨h.bel.trans (hb.mono h.bel.size), h.a.next hb, h.b.next hb, h.c.next hb⟩
theorem T3b.setC {w : World} {A B C C' : Array Value} {T : TypeId} {W : World} (h : T3b w A B C T W) : T3b w A B C' T (W.setRow (w.heap.size + 1 + 1) C') := ⟨below_row h.bel (by omega) _, h.a.off (by omega) _, h.b.off (by omega) _, h.c.row _⟩
theorem T3b.setB {w : World} {A B C B' : Array Value} {T : TypeId} {W : World} (h : T3b w A B C T W) : T3b w A B' C T (W.setRow (w.heap.size + 1) B') := ⟨below_row h.bel (by omega) _, h.a.off (by omega) _, h.b.row _, h.c.off (by omega) _⟩
theorem T3b.cell {w : World} {A B C : Array Value} {T : TypeId} {W : World} (h : T3b w A B C T W) (j : Nat) (v : Value) : T3b w A B (C.setIfInBounds j v) T (W.setCell ⟨w.heap.size + 1 + 1, j, none⟩ v) := by
  rw [h.c.set j v]
  exact h.setC
theorem T3b.start (w : World) (A B C : Array Value) (T : TypeId) : T3b w A B C T (((w.alloc (.cells A T)).alloc (.cells B T)).alloc (.cells C T)) := by
  have hs1 : (w.alloc (.cells A T)).heap.size = w.heap.size + 1 := by show (w.heap.push _).size = _; simp
  have hs2 : ((w.alloc (.cells A T)).alloc (.cells B T)).heap.size = w.heap.size + 1 + 1 := by show ((w.alloc (.cells A T)).heap.push _).size = _; simp [hs1]
  have hb1 := below_box (w := w) A T
  have hb2 := below_box (w := w.alloc (.cells A T)) B T
  have hb3 := below_box (w := (w.alloc (.cells A T)).alloc (.cells B T)) C T
  have k1 : Bk w.heap.size A T (w.alloc (.cells A T)) := Bk.new _ _ _
  have k2 : Bk (w.heap.size + 1) B T ((w.alloc (.cells A T)).alloc (.cells B T)) := by rw [← hs1]; exact Bk.new _ _ _
  have k3 : Bk (w.heap.size + 1 + 1) C T (((w.alloc (.cells A T)).alloc (.cells B T)).alloc (.cells C T)) := by rw [← hs2]; exact Bk.new _ _ _
  have l2 := hb1.trans (hb2.mono hb1.size)
  exact ⟨l2.trans (hb3.mono l2.size), (k1.next hb2).next hb3, k2.next hb3, k3⟩
set_option maxRecDepth 100000 in
set_option maxHeartbeats 4000000 in
theorem c_dtold1 (fam qual : ByteArray) (typ group versions life : Int) (w : World) :
    Calls Tryz.prog 56 #[.agg (ccells ⟨1, fam, qual, typ, group, versions, life⟩)] w fun e w' => e = .returned (.agg (ccells ⟨1, fam, noB, 0, group, versions, life⟩)) ∧ Below w.heap.size w w' := by
  have szC := szC
  obtain ⟨W1, hW1⟩ : ∃ W, w.alloc (.cells (ccells ⟨1, fam, qual, typ, group, versions, life⟩) 37) = W := ⟨_, rfl⟩
  obtain ⟨W2, hW2⟩ : ∃ W, W1.alloc (.cells zC 37) = W := ⟨_, rfl⟩
  obtain ⟨W3, hW3⟩ : ∃ W, W2.alloc (.cells zC 37) = W := ⟨_, rfl⟩
  have HT0 := Lib.hid (show T3b w (ccells ⟨1, fam, qual, typ, group, versions, life⟩) zC zC 37 W3 by rw [← hW3, ← hW2, ← hW1]; exact T3b.start _ _ _ _ _)
  have hk2 : Bk w.heap.size (ccells ⟨1, fam, qual, typ, group, versions, life⟩) 37 W2 := by
    have hk1 : Bk w.heap.size (ccells ⟨1, fam, qual, typ, group, versions, life⟩) 37 W1 := hW1 ▸ Bk.new _ _ _
    exact hk1.next (hW2 ▸ below_box (w := W1) zC 37 : Below W1.heap.size W1 W2)
  have hs1 : W1.heap.size = w.heap.size + 1 := by rw [← hW1]; show (w.heap.push _).size = _; simp
  have hs2 : W2.heap.size = w.heap.size + 1 + 1 := by rw [← hW2]; show (W1.heap.push _).size = _; simp [hs1]
  have x0 := hk2.cell 0 (.int .i64 1) rfl
  have x1 := hk2.cell 1 (.string fam) rfl
  clear hk2
  go_enter Tryz.func56, Tryz.ntmps56
  go_wp2_with (with_reducible show wpList _ _ _ ({ dst := _, op := Op.store 37 _ _, type := _, pos := _, after := _, guard := _ } :: _) _ _; refine wpList_store_all rfl 37 _ _ rfl (w.heap.size + 1 + 1) (ccells ⟨1, fam, noB, 0, 0, 0, 0⟩) rfl rfl 37 _ HT0.out.c 7 szC rfl rfl (ccells_one _) ?_; have HT1 := Lib.hid (HT0.out.setC (C' := (ccells ⟨1, fam, noB, 0, 0, 0, 0⟩))); generalize World.setRow _ (w.heap.size + 1 + 1) _ = W4 at HT1 ⊢; clear x0 x1 hW1 hW2 hW3 hs1 hs2 HT0; have x0 := HT1.out.a.cell 0 (.int .i64 1) rfl)
  have HT2 := Lib.hid (show T3b w (ccells ⟨1, fam, qual, typ, group, versions, life⟩) zC (ccells ⟨1, fam, noB, 0, 0, 0, 0⟩) 37 W4.drew from HT1.out.next (Below.refl _ _).drew)
  generalize hG : W4.drew = X4 at HT2
  refine wp_region_held_drew (S := fun X => ∃ C', T3b w (ccells ⟨1, fam, qual, typ, group, versions, life⟩) zC C' 37 X) (by kernel_rfl) (by rw [hG]; exact ⟨_, HT2.out⟩) (fun hHeld => ?_)
  rw [hG] at hHeld ⊢
  refine tk 0 (v := ?v_101) ?y101 ?_; (case y101 => (refine Or.inl ⟨by rfl, ?_⟩; intro w hSw; obtain ⟨_, hT⟩ := hSw; have y0 := hT.a.cell 4 (.int .i64 group) rfl; have y1 := hT.a.cell 5 (.int .i64 versions) rfl; have y2 := hT.a.cell 6 (.int .i64 life) rfl; go_simp; first | done | with_reducible rfl)); (try simp only [Act.put, List.setIfInBounds_toArray, List.set_cons_zero, List.set_cons_succ])
  refine tk 1 (v := ?v_102) ?y102 ?_; (case y102 => (refine Or.inl ⟨by rfl, ?_⟩; intro w hSw; obtain ⟨_, hT⟩ := hSw; have y0 := hT.a.cell 4 (.int .i64 group) rfl; have y1 := hT.a.cell 5 (.int .i64 versions) rfl; have y2 := hT.a.cell 6 (.int .i64 life) rfl; go_simp; first | done | with_reducible rfl)); (try simp only [Act.put, List.setIfInBounds_toArray, List.set_cons_zero, List.set_cons_succ])
  refine tk 2 (v := ?v_103) ?y103 ?_; (case y103 => (refine Or.inl ⟨by rfl, ?_⟩; intro w hSw; obtain ⟨_, hT⟩ := hSw; have y0 := hT.a.cell 4 (.int .i64 group) rfl; have y1 := hT.a.cell 5 (.int .i64 versions) rfl; have y2 := hT.a.cell 6 (.int .i64 life) rfl; go_simp; first | done | with_reducible rfl)); (try simp only [Act.put, List.setIfInBounds_toArray, List.set_cons_zero, List.set_cons_succ])
  refine tk 3 (v := ?v_104) ?y104 ?_; (case y104 => (refine Or.inl ⟨by rfl, ?_⟩; intro w hSw; obtain ⟨_, hT⟩ := hSw; have y0 := hT.a.cell 4 (.int .i64 group) rfl; have y1 := hT.a.cell 5 (.int .i64 versions) rfl; have y2 := hT.a.cell 6 (.int .i64 life) rfl; go_simp; first | done | with_reducible rfl)); (try simp only [Act.put, List.setIfInBounds_toArray, List.set_cons_zero, List.set_cons_succ])
  refine tk 4 (v := ?v_105) ?y105 ?_; (case y105 => (refine Or.inl ⟨by rfl, ?_⟩; intro w hSw; obtain ⟨_, hT⟩ := hSw; have y0 := hT.a.cell 4 (.int .i64 group) rfl; have y1 := hT.a.cell 5 (.int .i64 versions) rfl; have y2 := hT.a.cell 6 (.int .i64 life) rfl; go_simp; first | done | with_reducible rfl)); (try simp only [Act.put, List.setIfInBounds_toArray, List.set_cons_zero, List.set_cons_succ])
  refine tk 5 (v := ?v_106) ?y106 ?_; (case y106 => (refine Or.inl ⟨by rfl, ?_⟩; intro w hSw; obtain ⟨_, hT⟩ := hSw; have y0 := hT.a.cell 4 (.int .i64 group) rfl; have y1 := hT.a.cell 5 (.int .i64 versions) rfl; have y2 := hT.a.cell 6 (.int .i64 life) rfl; go_simp; first | done | with_reducible rfl)); (try simp only [Act.put, List.setIfInBounds_toArray, List.set_cons_zero, List.set_cons_succ])
  refine tk 6 (v := ?v_107) ?y107 ?_; (case y107 => (refine Or.inl ⟨by rfl, ?_⟩; intro w hSw; obtain ⟨_, hT⟩ := hSw; have y0 := hT.a.cell 4 (.int .i64 group) rfl; have y1 := hT.a.cell 5 (.int .i64 versions) rfl; have y2 := hT.a.cell 6 (.int .i64 life) rfl; go_simp; first | done | with_reducible rfl)); (try simp only [Act.put, List.setIfInBounds_toArray, List.set_cons_zero, List.set_cons_succ])
  refine wpAnyH_ready (rs := [7]) (by kernel_rfl) (by simp) ?_; refine AllReadyH.cons (o := ?o_108) ?hi_108 (fun K hK => ?_) AllReadyH.nil; (case hi_108 => (simp only [List.getElem?_toArray, List.getElem?_cons_zero, List.getElem?_cons_succ]; rfl)); have z0 := HT2.out.c.cell 4 (.int .i64 0) rfl; have f0 := HT2.out.c.frozen 4; have HT3 := Lib.hid (show T3b w (ccells ⟨1, fam, qual, typ, group, versions, life⟩) zC (ccells ⟨1, fam, noB, 0, group, 0, 0⟩) 37 (X4.setCell ⟨w.heap.size + 1 + 1, 4, none⟩ (.int .i64 group)) from HT2.out.cell 4 (.int .i64 group)); go_simp; skip; refine hK.out _ _ ?_ (fun hHeld => ?_); (· exact ⟨_, HT3.out⟩); clear hK K; (try simp only [Act.put, List.setIfInBounds_toArray, List.set_cons_zero, List.set_cons_succ])
  refine tk 8 (v := ?v_109) ?y109 ?_; (case y109 => (refine Or.inl ⟨by rfl, ?_⟩; intro w hSw; obtain ⟨_, hT⟩ := hSw; have y0 := hT.a.cell 4 (.int .i64 group) rfl; have y1 := hT.a.cell 5 (.int .i64 versions) rfl; have y2 := hT.a.cell 6 (.int .i64 life) rfl; go_simp; first | done | with_reducible rfl)); (try simp only [Act.put, List.setIfInBounds_toArray, List.set_cons_zero, List.set_cons_succ])
  refine wpAnyH_ready (rs := [9]) (by kernel_rfl) (by simp) ?_; refine AllReadyH.cons (o := ?o_110) ?hi_110 (fun K hK => ?_) AllReadyH.nil; (case hi_110 => (simp only [List.getElem?_toArray, List.getElem?_cons_zero, List.getElem?_cons_succ]; rfl)); have z1 := HT3.out.c.cell 5 (.int .i64 0) rfl; have f1 := HT3.out.c.frozen 5; have HT4 := Lib.hid (show T3b w (ccells ⟨1, fam, qual, typ, group, versions, life⟩) zC (ccells ⟨1, fam, noB, 0, group, versions, 0⟩) 37 ((X4.setCell ⟨w.heap.size + 1 + 1, 4, none⟩ (.int .i64 group)).setCell ⟨w.heap.size + 1 + 1, 5, none⟩ (.int .i64 versions)) from HT3.out.cell 5 (.int .i64 versions)); go_simp; skip; refine hK.out _ _ ?_ (fun hHeld => ?_); (· exact ⟨_, HT4.out⟩); clear hK K; (try simp only [Act.put, List.setIfInBounds_toArray, List.set_cons_zero, List.set_cons_succ])
  refine tk 10 (v := ?v_111) ?y111 ?_; (case y111 => (refine Or.inl ⟨by rfl, ?_⟩; intro w hSw; obtain ⟨_, hT⟩ := hSw; have y0 := hT.a.cell 4 (.int .i64 group) rfl; have y1 := hT.a.cell 5 (.int .i64 versions) rfl; have y2 := hT.a.cell 6 (.int .i64 life) rfl; go_simp; first | done | with_reducible rfl)); (try simp only [Act.put, List.setIfInBounds_toArray, List.set_cons_zero, List.set_cons_succ])
  refine wpAnyH_ready (rs := [11]) (by kernel_rfl) (by simp) ?_; refine AllReadyH.cons (o := ?o_112) ?hi_112 (fun K hK => ?_) AllReadyH.nil; (case hi_112 => (simp only [List.getElem?_toArray, List.getElem?_cons_zero, List.getElem?_cons_succ]; rfl)); have z2 := HT4.out.c.cell 6 (.int .i64 0) rfl; have f2 := HT4.out.c.frozen 6; have HT5 := Lib.hid (show T3b w (ccells ⟨1, fam, qual, typ, group, versions, life⟩) zC (ccells ⟨1, fam, noB, 0, group, versions, life⟩) 37 (((X4.setCell ⟨w.heap.size + 1 + 1, 4, none⟩ (.int .i64 group)).setCell ⟨w.heap.size + 1 + 1, 5, none⟩ (.int .i64 versions)).setCell ⟨w.heap.size + 1 + 1, 6, none⟩ (.int .i64 life)) from HT4.out.cell 6 (.int .i64 life)); go_simp; skip; refine hK.out _ _ ?_ (fun hHeld => ?_); (· exact ⟨_, HT5.out⟩); clear hK K; (try simp only [Act.put, List.setIfInBounds_toArray, List.set_cons_zero, List.set_cons_succ])
  refine wpAnyH_done (by kernel_rfl) ?_ _
  go_wp2_with (first | (with_reducible show wpList _ _ _ ({ dst := _, op := Op.load 37 _, type := _, pos := _, after := _, guard := _ } :: _) _ _; refine wpList_load_all rfl 37 _ rfl (w.heap.size + 1 + 1) rfl 37 (ccells ⟨1, fam, noB, 0, group, versions, life⟩) HT5.out.c 7 szC (nC _) ruC ?_) | (with_reducible show wpList _ _ _ ({ dst := _, op := Op.store 37 _ _, type := _, pos := _, after := _, guard := _ } :: _) _ _; refine wpList_store_all rfl 37 _ _ rfl (w.heap.size + 1) (ccells ⟨1, fam, noB, 0, group, versions, life⟩) rfl rfl 37 _ HT5.out.b 7 szC (nC _) rfl (ccells_one _) ?_; have HTf := Lib.hid (HT5.out.setB (B' := (ccells ⟨1, fam, noB, 0, group, versions, life⟩))); generalize World.setRow _ (w.heap.size + 1) _ = Wf at HTf ⊢))
  exact bodyPost_ret (results_cell_row rfl _ _ (w.heap.size + 1) _ _ (0, 0) _ rfl HTf.out.b Tryz.underlying37 rfl szC) rfl ⟨rfl, HTf.out.bel⟩
set_option maxRecDepth 100000 in
set_option maxHeartbeats 4000000 in
theorem c_dtold2 (fam qual : ByteArray) (typ group versions life : Int) (w : World) :
    Calls Tryz.prog 56 #[.agg (ccells ⟨2, fam, qual, typ, group, versions, life⟩)] w fun e w' => e = .returned (.agg (ccells ⟨2, fam, noB, 0, 0, 0, 0⟩)) ∧ Below w.heap.size w w' := by
  have szC := szC
  obtain ⟨W1, hW1⟩ : ∃ W, w.alloc (.cells (ccells ⟨2, fam, qual, typ, group, versions, life⟩) 37) = W := ⟨_, rfl⟩
  obtain ⟨W2, hW2⟩ : ∃ W, W1.alloc (.cells zC 37) = W := ⟨_, rfl⟩
  obtain ⟨W3, hW3⟩ : ∃ W, W2.alloc (.cells zC 37) = W := ⟨_, rfl⟩
  have HT0 := Lib.hid (show T3b w (ccells ⟨2, fam, qual, typ, group, versions, life⟩) zC zC 37 W3 by rw [← hW3, ← hW2, ← hW1]; exact T3b.start _ _ _ _ _)
  have hk2 : Bk w.heap.size (ccells ⟨2, fam, qual, typ, group, versions, life⟩) 37 W2 := by
    have hk1 : Bk w.heap.size (ccells ⟨2, fam, qual, typ, group, versions, life⟩) 37 W1 := hW1 ▸ Bk.new _ _ _
    exact hk1.next (hW2 ▸ below_box (w := W1) zC 37 : Below W1.heap.size W1 W2)
  have hs1 : W1.heap.size = w.heap.size + 1 := by rw [← hW1]; show (w.heap.push _).size = _; simp
  have hs2 : W2.heap.size = w.heap.size + 1 + 1 := by rw [← hW2]; show (W1.heap.push _).size = _; simp [hs1]
  have x0 := hk2.cell 0 (.int .i64 2) rfl
  have x1 := hk2.cell 1 (.string fam) rfl
  clear hk2
  go_enter Tryz.func56, Tryz.ntmps56
  go_wp2_with (first | (with_reducible show wpList _ _ _ ({ dst := _, op := Op.store 37 _ _, type := _, pos := _, after := _, guard := _ } :: _) _ _; refine wpList_store_all rfl 37 _ _ rfl (w.heap.size + 1 + 1) (ccells ⟨2, fam, noB, 0, 0, 0, 0⟩) rfl rfl 37 _ HT0.out.c 7 szC rfl rfl (ccells_one _) ?_; have HT1 := Lib.hid (HT0.out.setC (C' := (ccells ⟨2, fam, noB, 0, 0, 0, 0⟩))); generalize World.setRow _ (w.heap.size + 1 + 1) _ = W4 at HT1 ⊢; clear x0 x1 hW1 hW2 hW3 hs1 hs2 HT0; have x0 := HT1.out.a.cell 0 (.int .i64 2) rfl) | (with_reducible show wpList _ _ _ ({ dst := _, op := Op.load 37 _, type := _, pos := _, after := _, guard := _ } :: _) _ _; refine wpList_load_all rfl 37 _ rfl (w.heap.size + 1 + 1) rfl 37 (ccells ⟨2, fam, noB, 0, 0, 0, 0⟩) HT1.out.c 7 szC (nC _) ruC ?_) | (with_reducible show wpList _ _ _ ({ dst := _, op := Op.store 37 _ _, type := _, pos := _, after := _, guard := _ } :: _) _ _; refine wpList_store_all rfl 37 _ _ rfl (w.heap.size + 1) (ccells ⟨2, fam, noB, 0, 0, 0, 0⟩) rfl rfl 37 _ HT1.out.b 7 szC (nC _) rfl (ccells_one _) ?_; have HTf := Lib.hid (HT1.out.setB (B' := (ccells ⟨2, fam, noB, 0, 0, 0, 0⟩))); generalize World.setRow _ (w.heap.size + 1) _ = Wf at HTf ⊢))
  exact bodyPost_ret (results_cell_row rfl _ _ (w.heap.size + 1) _ _ (0, 0) _ rfl HTf.out.b Tryz.underlying37 rfl szC) rfl ⟨rfl, HTf.out.bel⟩
set_option maxRecDepth 100000 in
set_option maxHeartbeats 4000000 in
theorem c_dtold3 (fam qual : ByteArray) (typ group versions life : Int) (w : World) :
    Calls Tryz.prog 56 #[.agg (ccells ⟨3, fam, qual, typ, group, versions, life⟩)] w fun e w' => e = .returned (.agg (ccells ⟨3, fam, qual, typ, 0, 0, 0⟩)) ∧ Below w.heap.size w w' := by
  have szC := szC
  obtain ⟨W1, hW1⟩ : ∃ W, w.alloc (.cells (ccells ⟨3, fam, qual, typ, group, versions, life⟩) 37) = W := ⟨_, rfl⟩
  obtain ⟨W2, hW2⟩ : ∃ W, W1.alloc (.cells zC 37) = W := ⟨_, rfl⟩
  obtain ⟨W3, hW3⟩ : ∃ W, W2.alloc (.cells zC 37) = W := ⟨_, rfl⟩
  have HT0 := Lib.hid (show T3b w (ccells ⟨3, fam, qual, typ, group, versions, life⟩) zC zC 37 W3 by rw [← hW3, ← hW2, ← hW1]; exact T3b.start _ _ _ _ _)
  have hk2 : Bk w.heap.size (ccells ⟨3, fam, qual, typ, group, versions, life⟩) 37 W2 := by
    have hk1 : Bk w.heap.size (ccells ⟨3, fam, qual, typ, group, versions, life⟩) 37 W1 := hW1 ▸ Bk.new _ _ _
    exact hk1.next (hW2 ▸ below_box (w := W1) zC 37 : Below W1.heap.size W1 W2)
  have hs1 : W1.heap.size = w.heap.size + 1 := by rw [← hW1]; show (w.heap.push _).size = _; simp
  have hs2 : W2.heap.size = w.heap.size + 1 + 1 := by rw [← hW2]; show (W1.heap.push _).size = _; simp [hs1]
  have x0 := hk2.cell 0 (.int .i64 3) rfl
  have x1 := hk2.cell 1 (.string fam) rfl
  clear hk2
  go_enter Tryz.func56, Tryz.ntmps56
  go_wp2_with (with_reducible show wpList _ _ _ ({ dst := _, op := Op.store 37 _ _, type := _, pos := _, after := _, guard := _ } :: _) _ _; refine wpList_store_all rfl 37 _ _ rfl (w.heap.size + 1 + 1) (ccells ⟨3, fam, noB, 0, 0, 0, 0⟩) rfl rfl 37 _ HT0.out.c 7 szC rfl rfl (ccells_one _) ?_; have HT1 := Lib.hid (HT0.out.setC (C' := (ccells ⟨3, fam, noB, 0, 0, 0, 0⟩))); generalize World.setRow _ (w.heap.size + 1 + 1) _ = W4 at HT1 ⊢; clear x0 x1 hW1 hW2 hW3 hs1 hs2 HT0; have x0 := HT1.out.a.cell 0 (.int .i64 3) rfl)
  have HT2 := Lib.hid (show T3b w (ccells ⟨3, fam, qual, typ, group, versions, life⟩) zC (ccells ⟨3, fam, noB, 0, 0, 0, 0⟩) 37 W4.drew from HT1.out.next (Below.refl _ _).drew)
  generalize hG : W4.drew = X4 at HT2
  refine wp_region_held_drew (S := fun X => ∃ C', T3b w (ccells ⟨3, fam, qual, typ, group, versions, life⟩) zC C' 37 X) (by kernel_rfl) (by rw [hG]; exact ⟨_, HT2.out⟩) (fun hHeld => ?_)
  rw [hG] at hHeld ⊢
  refine tk 0 (v := ?v_301) ?y301 ?_; (case y301 => (refine Or.inl ⟨by rfl, ?_⟩; intro w hSw; obtain ⟨_, hT⟩ := hSw; have y0 := hT.a.cell 2 (.string qual) rfl; have y1 := hT.a.cell 3 (.int .i64 typ) rfl; go_simp; first | done | with_reducible rfl)); (try simp only [Act.put, List.setIfInBounds_toArray, List.set_cons_zero, List.set_cons_succ])
  refine tk 1 (v := ?v_302) ?y302 ?_; (case y302 => (refine Or.inl ⟨by rfl, ?_⟩; intro w hSw; obtain ⟨_, hT⟩ := hSw; have y0 := hT.a.cell 2 (.string qual) rfl; have y1 := hT.a.cell 3 (.int .i64 typ) rfl; go_simp; first | done | with_reducible rfl)); (try simp only [Act.put, List.setIfInBounds_toArray, List.set_cons_zero, List.set_cons_succ])
  refine tk 2 (v := ?v_303) ?y303 ?_; (case y303 => (refine Or.inl ⟨by rfl, ?_⟩; intro w hSw; obtain ⟨_, hT⟩ := hSw; have y0 := hT.a.cell 2 (.string qual) rfl; have y1 := hT.a.cell 3 (.int .i64 typ) rfl; go_simp; first | done | with_reducible rfl)); (try simp only [Act.put, List.setIfInBounds_toArray, List.set_cons_zero, List.set_cons_succ])
  refine tk 3 (v := ?v_304) ?y304 ?_; (case y304 => (refine Or.inl ⟨by rfl, ?_⟩; intro w hSw; obtain ⟨_, hT⟩ := hSw; have y0 := hT.a.cell 2 (.string qual) rfl; have y1 := hT.a.cell 3 (.int .i64 typ) rfl; go_simp; first | done | with_reducible rfl)); (try simp only [Act.put, List.setIfInBounds_toArray, List.set_cons_zero, List.set_cons_succ])
  refine tk 4 (v := ?v_305) ?y305 ?_; (case y305 => (refine Or.inl ⟨by rfl, ?_⟩; intro w hSw; obtain ⟨_, hT⟩ := hSw; have y0 := hT.a.cell 2 (.string qual) rfl; have y1 := hT.a.cell 3 (.int .i64 typ) rfl; go_simp; first | done | with_reducible rfl)); (try simp only [Act.put, List.setIfInBounds_toArray, List.set_cons_zero, List.set_cons_succ])
  refine wpAnyH_ready (rs := [5]) (by kernel_rfl) (by simp) ?_; refine AllReadyH.cons (o := ?o_306) ?hi_306 (fun K hK => ?_) AllReadyH.nil; (case hi_306 => (simp only [List.getElem?_toArray, List.getElem?_cons_zero, List.getElem?_cons_succ]; rfl)); have z0 := HT2.out.c.cell 2 (.string noB) rfl; have f0 := HT2.out.c.frozen 2; have HT3 := Lib.hid (show T3b w (ccells ⟨3, fam, qual, typ, group, versions, life⟩) zC (ccells ⟨3, fam, qual, 0, 0, 0, 0⟩) 37 (X4.setCell ⟨w.heap.size + 1 + 1, 2, none⟩ (.string qual)) from HT2.out.cell 2 (.string qual)); go_simp; skip; refine hK.out _ _ ?_ (fun hHeld => ?_); (· exact ⟨_, HT3.out⟩); clear hK K; (try simp only [Act.put, List.setIfInBounds_toArray, List.set_cons_zero, List.set_cons_succ])
  refine tk 6 (v := ?v_307) ?y307 ?_; (case y307 => (refine Or.inl ⟨by rfl, ?_⟩; intro w hSw; obtain ⟨_, hT⟩ := hSw; have y0 := hT.a.cell 2 (.string qual) rfl; have y1 := hT.a.cell 3 (.int .i64 typ) rfl; go_simp; first | done | with_reducible rfl)); (try simp only [Act.put, List.setIfInBounds_toArray, List.set_cons_zero, List.set_cons_succ])
  refine wpAnyH_ready (rs := [7]) (by kernel_rfl) (by simp) ?_; refine AllReadyH.cons (o := ?o_308) ?hi_308 (fun K hK => ?_) AllReadyH.nil; (case hi_308 => (simp only [List.getElem?_toArray, List.getElem?_cons_zero, List.getElem?_cons_succ]; rfl)); have z1 := HT3.out.c.cell 3 (.int .i64 0) rfl; have f1 := HT3.out.c.frozen 3; have HT4 := Lib.hid (show T3b w (ccells ⟨3, fam, qual, typ, group, versions, life⟩) zC (ccells ⟨3, fam, qual, typ, 0, 0, 0⟩) 37 ((X4.setCell ⟨w.heap.size + 1 + 1, 2, none⟩ (.string qual)).setCell ⟨w.heap.size + 1 + 1, 3, none⟩ (.int .i64 typ)) from HT3.out.cell 3 (.int .i64 typ)); go_simp; skip; refine hK.out _ _ ?_ (fun hHeld => ?_); (· exact ⟨_, HT4.out⟩); clear hK K; (try simp only [Act.put, List.setIfInBounds_toArray, List.set_cons_zero, List.set_cons_succ])
  refine wpAnyH_done (by kernel_rfl) ?_ _
  go_wp2_with (first | (with_reducible show wpList _ _ _ ({ dst := _, op := Op.load 37 _, type := _, pos := _, after := _, guard := _ } :: _) _ _; refine wpList_load_all rfl 37 _ rfl (w.heap.size + 1 + 1) rfl 37 (ccells ⟨3, fam, qual, typ, 0, 0, 0⟩) HT4.out.c 7 szC (nC _) ruC ?_) | (with_reducible show wpList _ _ _ ({ dst := _, op := Op.store 37 _ _, type := _, pos := _, after := _, guard := _ } :: _) _ _; refine wpList_store_all rfl 37 _ _ rfl (w.heap.size + 1) (ccells ⟨3, fam, qual, typ, 0, 0, 0⟩) rfl rfl 37 _ HT4.out.b 7 szC (nC _) rfl (ccells_one _) ?_; have HTf := Lib.hid (HT4.out.setB (B' := (ccells ⟨3, fam, qual, typ, 0, 0, 0⟩))); generalize World.setRow _ (w.heap.size + 1) _ = Wf at HTf ⊢))
  exact bodyPost_ret (results_cell_row rfl _ _ (w.heap.size + 1) _ _ (0, 0) _ rfl HTf.out.b Tryz.underlying37 rfl szC) rfl ⟨rfl, HTf.out.bel⟩
set_option maxRecDepth 100000 in
set_option maxHeartbeats 4000000 in
theorem c_dtold4 (fam qual : ByteArray) (typ group versions life : Int) (w : World) :
    Calls Tryz.prog 56 #[.agg (ccells ⟨4, fam, qual, typ, group, versions, life⟩)] w fun e w' => e = .returned (.agg (ccells ⟨4, fam, qual, 0, 0, 0, 0⟩)) ∧ Below w.heap.size w w' := by
  have szC := szC
  obtain ⟨W1, hW1⟩ : ∃ W, w.alloc (.cells (ccells ⟨4, fam, qual, typ, group, versions, life⟩) 37) = W := ⟨_, rfl⟩
  obtain ⟨W2, hW2⟩ : ∃ W, W1.alloc (.cells zC 37) = W := ⟨_, rfl⟩
  obtain ⟨W3, hW3⟩ : ∃ W, W2.alloc (.cells zC 37) = W := ⟨_, rfl⟩
  have HT0 := Lib.hid (show T3b w (ccells ⟨4, fam, qual, typ, group, versions, life⟩) zC zC 37 W3 by rw [← hW3, ← hW2, ← hW1]; exact T3b.start _ _ _ _ _)
  have hk2 : Bk w.heap.size (ccells ⟨4, fam, qual, typ, group, versions, life⟩) 37 W2 := by
    have hk1 : Bk w.heap.size (ccells ⟨4, fam, qual, typ, group, versions, life⟩) 37 W1 := hW1 ▸ Bk.new _ _ _
    exact hk1.next (hW2 ▸ below_box (w := W1) zC 37 : Below W1.heap.size W1 W2)
  have hs1 : W1.heap.size = w.heap.size + 1 := by rw [← hW1]; show (w.heap.push _).size = _; simp
  have hs2 : W2.heap.size = w.heap.size + 1 + 1 := by rw [← hW2]; show (W1.heap.push _).size = _; simp [hs1]
  have x0 := hk2.cell 0 (.int .i64 4) rfl
  have x1 := hk2.cell 1 (.string fam) rfl
  clear hk2
  go_enter Tryz.func56, Tryz.ntmps56
  go_upto_region 8 with (with_reducible show wpList _ _ _ ({ dst := _, op := Op.store 37 _ _, type := _, pos := _, after := _, guard := _ } :: _) _ _; refine wpList_store_all rfl 37 _ _ rfl (w.heap.size + 1 + 1) (ccells ⟨4, fam, noB, 0, 0, 0, 0⟩) rfl rfl 37 _ HT0.out.c 7 szC rfl rfl (ccells_one _) ?_; have HT1 := Lib.hid (HT0.out.setC (C' := (ccells ⟨4, fam, noB, 0, 0, 0, 0⟩))); generalize World.setRow _ (w.heap.size + 1 + 1) _ = W4 at HT1 ⊢; clear x0 x1 hW1 hW2 hW3 hs1 hs2 HT0; have x0 := HT1.out.a.cell 0 (.int .i64 4) rfl)
  have y0 := HT1.out.a.cell 2 (.string qual) rfl
  have z0 := HT1.out.c.cell 2 (.string noB) rfl
  have f0 := HT1.out.c.frozen 2
  have HT2 := Lib.hid (show T3b w (ccells ⟨4, fam, qual, typ, group, versions, life⟩) zC (ccells ⟨4, fam, qual, 0, 0, 0, 0⟩) 37 (W4.setCell ⟨w.heap.size + 1 + 1, 2, none⟩ (.string qual)) from HT1.out.cell 2 (.string qual))
  go_wp2_with (first | (with_reducible show wpList _ _ _ ({ dst := _, op := Op.load 37 _, type := _, pos := _, after := _, guard := _ } :: _) _ _; refine wpList_load_all rfl 37 _ rfl (w.heap.size + 1 + 1) rfl 37 (ccells ⟨4, fam, qual, 0, 0, 0, 0⟩) HT2.out.c 7 szC (nC _) ruC ?_) | (with_reducible show wpList _ _ _ ({ dst := _, op := Op.store 37 _ _, type := _, pos := _, after := _, guard := _ } :: _) _ _; refine wpList_store_all rfl 37 _ _ rfl (w.heap.size + 1) (ccells ⟨4, fam, qual, 0, 0, 0, 0⟩) rfl rfl 37 _ HT2.out.b 7 szC (nC _) rfl (ccells_one _) ?_; have HTf := Lib.hid (HT2.out.setB (B' := (ccells ⟨4, fam, qual, 0, 0, 0, 0⟩))); generalize World.setRow _ (w.heap.size + 1) _ = Wf at HTf ⊢))
  exact bodyPost_ret (results_cell_row rfl _ _ (w.heap.size + 1) _ _ (0, 0) _ rfl HTf.out.b Tryz.underlying37 rfl szC) rfl ⟨rfl, HTf.out.bel⟩
set_option maxRecDepth 100000 in
set_option maxHeartbeats 4000000 in
theorem c_dtold5 (fam qual : ByteArray) (typ group versions life : Int) (w : World) :
    Calls Tryz.prog 56 #[.agg (ccells ⟨5, fam, qual, typ, group, versions, life⟩)] w fun e w' => e = .returned (.agg (ccells ⟨5, fam, noB, 0, group, 0, 0⟩)) ∧ Below w.heap.size w w' := by
  have szC := szC
  obtain ⟨W1, hW1⟩ : ∃ W, w.alloc (.cells (ccells ⟨5, fam, qual, typ, group, versions, life⟩) 37) = W := ⟨_, rfl⟩
  obtain ⟨W2, hW2⟩ : ∃ W, W1.alloc (.cells zC 37) = W := ⟨_, rfl⟩
  obtain ⟨W3, hW3⟩ : ∃ W, W2.alloc (.cells zC 37) = W := ⟨_, rfl⟩
  have HT0 := Lib.hid (show T3b w (ccells ⟨5, fam, qual, typ, group, versions, life⟩) zC zC 37 W3 by rw [← hW3, ← hW2, ← hW1]; exact T3b.start _ _ _ _ _)
  have hk2 : Bk w.heap.size (ccells ⟨5, fam, qual, typ, group, versions, life⟩) 37 W2 := by
    have hk1 : Bk w.heap.size (ccells ⟨5, fam, qual, typ, group, versions, life⟩) 37 W1 := hW1 ▸ Bk.new _ _ _
    exact hk1.next (hW2 ▸ below_box (w := W1) zC 37 : Below W1.heap.size W1 W2)
  have hs1 : W1.heap.size = w.heap.size + 1 := by rw [← hW1]; show (w.heap.push _).size = _; simp
  have hs2 : W2.heap.size = w.heap.size + 1 + 1 := by rw [← hW2]; show (W1.heap.push _).size = _; simp [hs1]
  have x0 := hk2.cell 0 (.int .i64 5) rfl
  have x1 := hk2.cell 1 (.string fam) rfl
  clear hk2
  go_enter Tryz.func56, Tryz.ntmps56
  go_upto_region 10 with (with_reducible show wpList _ _ _ ({ dst := _, op := Op.store 37 _ _, type := _, pos := _, after := _, guard := _ } :: _) _ _; refine wpList_store_all rfl 37 _ _ rfl (w.heap.size + 1 + 1) (ccells ⟨5, fam, noB, 0, 0, 0, 0⟩) rfl rfl 37 _ HT0.out.c 7 szC rfl rfl (ccells_one _) ?_; have HT1 := Lib.hid (HT0.out.setC (C' := (ccells ⟨5, fam, noB, 0, 0, 0, 0⟩))); generalize World.setRow _ (w.heap.size + 1 + 1) _ = W4 at HT1 ⊢; clear x0 x1 hW1 hW2 hW3 hs1 hs2 HT0; have x0 := HT1.out.a.cell 0 (.int .i64 5) rfl)
  have y0 := HT1.out.a.cell 4 (.int .i64 group) rfl
  have z0 := HT1.out.c.cell 4 (.int .i64 0) rfl
  have f0 := HT1.out.c.frozen 4
  have HT2 := Lib.hid (show T3b w (ccells ⟨5, fam, qual, typ, group, versions, life⟩) zC (ccells ⟨5, fam, noB, 0, group, 0, 0⟩) 37 (W4.setCell ⟨w.heap.size + 1 + 1, 4, none⟩ (.int .i64 group)) from HT1.out.cell 4 (.int .i64 group))
  go_wp2_with (first | (with_reducible show wpList _ _ _ ({ dst := _, op := Op.load 37 _, type := _, pos := _, after := _, guard := _ } :: _) _ _; refine wpList_load_all rfl 37 _ rfl (w.heap.size + 1 + 1) rfl 37 (ccells ⟨5, fam, noB, 0, group, 0, 0⟩) HT2.out.c 7 szC (nC _) ruC ?_) | (with_reducible show wpList _ _ _ ({ dst := _, op := Op.store 37 _ _, type := _, pos := _, after := _, guard := _ } :: _) _ _; refine wpList_store_all rfl 37 _ _ rfl (w.heap.size + 1) (ccells ⟨5, fam, noB, 0, group, 0, 0⟩) rfl rfl 37 _ HT2.out.b 7 szC (nC _) rfl (ccells_one _) ?_; have HTf := Lib.hid (HT2.out.setB (B' := (ccells ⟨5, fam, noB, 0, group, 0, 0⟩))); generalize World.setRow _ (w.heap.size + 1) _ = Wf at HTf ⊢))
  exact bodyPost_ret (results_cell_row rfl _ _ (w.heap.size + 1) _ _ (0, 0) _ rfl HTf.out.b Tryz.underlying37 rfl szC) rfl ⟨rfl, HTf.out.bel⟩
end Go.Proofs.YtkogcobcjoojnaaGreatDoor.Fl

namespace Go.Proofs.YtkogcobcjoojnaaGreatDoor.Fl
open Go.RowKit Go.Maps
set_option linter.unusedVariables false
set_option linter.unusedSimpArgs false
theorem c_dtold (c : ChgE) (hk : 1 ≤ c.kind ∧ c.kind ≤ 5) (w : World) : Calls Tryz.prog 56 #[.agg (ccells c)] w fun e w' => e = .returned (.agg (ccells (tdC c))) ∧ Below w.heap.size w w' := by
  obtain ⟨k, fam, qual, typ, group, versions, life⟩ := c
  simp only at hk
  have : k = 1 ∨ k = 2 ∨ k = 3 ∨ k = 4 ∨ k = 5 := by omega
  rcases this with rfl | rfl | rfl | rfl | rfl
  · exact c_dtold1 fam qual typ group versions life w
  · exact c_dtold2 fam qual typ group versions life w
  · exact c_dtold3 fam qual typ group versions life w
  · exact c_dtold4 fam qual typ group versions life w
  · exact c_dtold5 fam qual typ group versions life w
def restOk (c : ChgE) : Bool := if c.kind = 1 then within c.group 0 2 && (within c.versions 1 8 && within c.life 0 1099511627776) else if c.kind = 3 then within c.typ 1 5 else if c.kind = 5 then within c.group 0 2 else true
theorem chgOk_iff (c : ChgE) : chgOk c = true ↔ (1 ≤ c.kind ∧ c.kind ≤ 5) ∧ nameOk c.fam = true ∧ c.qual.size ≤ 12 ∧ tdC c = c ∧ restOk c = true := by
  obtain ⟨k, fam, qual, typ, group, versions, life⟩ := c
  have nz : noB.size = 0 := rfl
  unfold chgOk tdC restOk within
  simp only [ChgE.mk.injEq]
  by_cases hk : 1 ≤ k ∧ k ≤ 5
  · have : k = 1 ∨ k = 2 ∨ k = 3 ∨ k = 4 ∨ k = 5 := by omega
    clear hk
    have hq : noB = qual → qual.size ≤ 12 := fun e => by rw [← e, nz]; omega
    rcases this with rfl | rfl | rfl | rfl | rfl <;>
    · simp [eq_comm (a := (0 : Int)), eq_comm (a := noB)]
      try intro hn
      constructor <;> intro h <;> simp_all
  · have h1 : ¬ k = 1 := by omega
    have h2 : ¬ k = 2 := by omega
    have h3 : ¬ k = 3 := by omega
    have h4 : ¬ k = 4 := by omega
    have h5 : ¬ k = 5 := by omega
    simp [h1, h2, h3, h4, h5, hk]
theorem chg_ext {a b : ChgE} : a = b ↔ a.kind = b.kind ∧ a.fam = b.fam ∧ a.qual = b.qual ∧ a.typ = b.typ ∧ a.group = b.group ∧ a.versions = b.versions ∧ a.life = b.life := by
  obtain ⟨a1, a2, a3, a4, a5, a6, a7⟩ := a
  obtain ⟨b1, b2, b3, b4, b5, b6, b7⟩ := b
  simp
theorem neq_chg (a b : ChgE) : ∃ q : Bool, (∀ w : World, (binOp .neq 37 (.agg (ccells a)) (.agg (ccells b))).run Tryz.prog w = .ok (.bool q) w) ∧ (q = true ↔ ¬ a = b) := by
  obtain ⟨q, h1, h2⟩ := eq_chg a b
  refine ⟨!q, fun w => ?_, ?_⟩
  · have := h1 w
    rw [run_eql_struct] at this
    rw [run_neq_struct]
    generalize (Op.equalIn 10000 37 (.agg (ccells a)) (.agg (ccells b))).run Tryz.prog w = r at this ⊢
    cases r with
    | ok x w2 =>
      have h : Value.bool x = Value.bool q ∧ w2 = w := by simpa [Result.andThen] using this
      obtain ⟨hx, rfl⟩ := h
      injection hx with hx
      subst hx
      rfl
    | halt x w2 => cases this
  · rw [chg_ext]
    cases q <;> simp_all
set_option maxRecDepth 100000 in
set_option maxHeartbeats 8000000 in
theorem c_dformed (c : ChgE) (w : World) : Calls Tryz.prog 26 #[.agg (ccells c)] w fun e w' => e = .returned (.bool (chgOk c)) ∧ Below w.heap.size w w' := by
  have HI := Lib.hid (chgOk_iff c)
  generalize chgOk c = r at HI ⊢
  have HX0 := Lib.hid ((Bx.start w (ccells c) 37).next (Below.refl _ _).drew)
  have szC := szC
  have hSA : ∀ X, Bx w (ccells c) 37 X → Bk w.heap.size (ccells c) 37 X := fun X h => h.box
  by_cases hk : 1 ≤ c.kind ∧ c.kind ≤ 5
  case neg =>
    have CW := Lib.hid (show ∀ W, Calls Tryz.prog 54 #[.int .i64 c.kind, .int .i64 1, .int .i64 5] W fun e w' => e = .returned (.bool false) ∧ Below W.heap.size W w' from fun W => (c_dwithin c.kind 1 5 W).mono fun _ _ h => ⟨by rw [h.1, show within c.kind 1 5 = false by unfold within; simpa using hk], h.2⟩)
    go_enter Tryz.func26, Tryz.ntmps26
    go_wp2_with fail
    refine wp_region_held_drew (S := fun X => Bx w (ccells c) 37 X) (by kernel_rfl) HX0.out (fun hHeld => ?_)
    refine tk 0 (v := ?v_1001) ?y1001 ?_; (case y1001 => (refine Or.inl ⟨by rfl, ?_⟩; intro w hSw; have x0 := hSw.cell 0 (.int .i64 c.kind) rfl; have x1 := hSw.cell 1 (.string c.fam) rfl; have x2 := hSw.cell 2 (.string c.qual) rfl; go_simp; first | done | with_reducible rfl)); (try simp only [Act.put, List.setIfInBounds_toArray, List.set_cons_zero, List.set_cons_succ])
    refine tk 1 (v := ?v_1002) ?y1002 ?_; (case y1002 => (refine Or.inl ⟨by rfl, ?_⟩; intro w hSw; have x0 := hSw.cell 0 (.int .i64 c.kind) rfl; have x1 := hSw.cell 1 (.string c.fam) rfl; have x2 := hSw.cell 2 (.string c.qual) rfl; go_simp; first | done | with_reducible rfl)); (try simp only [Act.put, List.setIfInBounds_toArray, List.set_cons_zero, List.set_cons_succ])
    refine wpAnyH_ready (rs := [2]) (by kernel_rfl) (by simp) ?_; refine AllReadyH.cons (o := ?o_1003) ?hi_1003 (fun K hK => ?_) AllReadyH.nil; (case hi_1003 => (simp only [List.getElem?_toArray, List.getElem?_cons_zero, List.getElem?_cons_succ]; rfl)); go_simp; (go_at_call 54; (refine (CW.out _).mono ?_; rintro e w1 ⟨rfl, hb⟩; have HX1 := Lib.hid (HX0.out.next hb); clear hb)); refine hK.out _ _ ?_ (fun hHeld => ?_); (· exact HX1.out); clear hK K; (try simp only [Act.put, List.setIfInBounds_toArray, List.set_cons_zero, List.set_cons_succ])
    refine tk 3 (v := ?v_1004) ?y1004 ?_; (case y1004 => (refine Or.inl ⟨by rfl, ?_⟩; intro w hSw; go_simp; first | done | with_reducible rfl)); (try simp only [Act.put, List.setIfInBounds_toArray, List.set_cons_zero, List.set_cons_succ])
    refine tk 4 (v := ?v_1005) ?y1005 ?_; (case y1005 => (refine Or.inl ⟨by rfl, ?_⟩; intro w hSw; go_simp; first | done | with_reducible rfl)); (try simp only [Act.put, List.setIfInBounds_toArray, List.set_cons_zero, List.set_cons_succ])
    refine tk 5 (v := undef) ?y1006 ?_; (case y1006 => exact Or.inr ⟨by rfl, rfl⟩); (try simp only [Act.put, List.setIfInBounds_toArray, List.set_cons_zero, List.set_cons_succ])
    refine tk 6 (v := undef) ?y1007 ?_; (case y1007 => exact Or.inr ⟨by rfl, rfl⟩); (try simp only [Act.put, List.setIfInBounds_toArray, List.set_cons_zero, List.set_cons_succ])
    refine tk 7 (v := undef) ?y1008 ?_; (case y1008 => exact Or.inr ⟨by rfl, rfl⟩); (try simp only [Act.put, List.setIfInBounds_toArray, List.set_cons_zero, List.set_cons_succ])
    refine tk 8 (v := undef) ?y1009 ?_; (case y1009 => exact Or.inr ⟨by rfl, rfl⟩); (try simp only [Act.put, List.setIfInBounds_toArray, List.set_cons_zero, List.set_cons_succ])
    refine tk 9 (v := ?v_1010) ?y1010 ?_; (case y1010 => (refine Or.inl ⟨by rfl, ?_⟩; intro w hSw; go_simp; first | done | with_reducible rfl)); (try simp only [Act.put, List.setIfInBounds_toArray, List.set_cons_zero, List.set_cons_succ])
    refine tk 10 (v := ?v_1011) ?y1011 ?_; (case y1011 => (refine Or.inl ⟨by rfl, ?_⟩; intro w hSw; go_simp; first | done | with_reducible rfl)); (try simp only [Act.put, List.setIfInBounds_toArray, List.set_cons_zero, List.set_cons_succ])
    refine tk 11 (v := undef) ?y1012 ?_; (case y1012 => exact Or.inr ⟨by rfl, rfl⟩); (try simp only [Act.put, List.setIfInBounds_toArray, List.set_cons_zero, List.set_cons_succ])
    refine tk 12 (v := undef) ?y1013 ?_; (case y1013 => exact Or.inr ⟨by rfl, rfl⟩); (try simp only [Act.put, List.setIfInBounds_toArray, List.set_cons_zero, List.set_cons_succ])
    refine tk 13 (v := undef) ?y1014 ?_; (case y1014 => exact Or.inr ⟨by rfl, rfl⟩); (try simp only [Act.put, List.setIfInBounds_toArray, List.set_cons_zero, List.set_cons_succ])
    refine tk 14 (v := undef) ?y1015 ?_; (case y1015 => exact Or.inr ⟨by rfl, rfl⟩); (try simp only [Act.put, List.setIfInBounds_toArray, List.set_cons_zero, List.set_cons_succ])
    refine tk 15 (v := ?v_1016) ?y1016 ?_; (case y1016 => (refine Or.inl ⟨by rfl, ?_⟩; intro w hSw; go_simp; first | done | with_reducible rfl)); (try simp only [Act.put, List.setIfInBounds_toArray, List.set_cons_zero, List.set_cons_succ])
    refine tk 16 (v := ?v_1017) ?y1017 ?_; (case y1017 => (refine Or.inl ⟨by rfl, ?_⟩; intro w hSw; go_simp; first | done | with_reducible rfl)); (try simp only [Act.put, List.setIfInBounds_toArray, List.set_cons_zero, List.set_cons_succ])
    refine tk 17 (v := undef) ?y1018 ?_; (case y1018 => exact Or.inr ⟨by rfl, rfl⟩); (try simp only [Act.put, List.setIfInBounds_toArray, List.set_cons_zero, List.set_cons_succ])
    refine tk 18 (v := undef) ?y1019 ?_; (case y1019 => exact Or.inr ⟨by rfl, rfl⟩); (try simp only [Act.put, List.setIfInBounds_toArray, List.set_cons_zero, List.set_cons_succ])
    refine tk 19 (v := undef) ?y1020 ?_; (case y1020 => exact Or.inr ⟨by rfl, rfl⟩); (try simp only [Act.put, List.setIfInBounds_toArray, List.set_cons_zero, List.set_cons_succ])
    refine tk 20 (v := undef) ?y1021 ?_; (case y1021 => exact Or.inr ⟨by rfl, rfl⟩); (try simp only [Act.put, List.setIfInBounds_toArray, List.set_cons_zero, List.set_cons_succ])
    refine tk 21 (v := ?v_1022) ?y1022 ?_; (case y1022 => (refine Or.inl ⟨by rfl, ?_⟩; intro w hSw; go_simp; first | done | with_reducible rfl)); (try simp only [Act.put, List.setIfInBounds_toArray, List.set_cons_zero, List.set_cons_succ])
    refine wpAnyH_done (by kernel_rfl) ?_ _
    go_wp2
    go_ret
    exact ⟨by rw [show r = false from Bool.eq_false_iff.2 (fun h => hk (HI.out.1 h).1)]; first | done | rfl, HX1.out.bel⟩
  have CW := Lib.hid (show ∀ W, Calls Tryz.prog 54 #[.int .i64 c.kind, .int .i64 1, .int .i64 5] W fun e w' => e = .returned (.bool true) ∧ Below W.heap.size W w' from fun W => (c_dwithin c.kind 1 5 W).mono fun _ _ h => ⟨by rw [h.1, show within c.kind 1 5 = true by unfold within; simpa using hk], h.2⟩)
  have CN := Lib.hid (fun W => c_name_ddl c.fam W)
  obtain ⟨nm, hnm⟩ : ∃ x, nameOk c.fam = x := ⟨_, rfl⟩
  rw [hnm] at CN
  have HN := Lib.hid hnm
  clear hnm
  cases nm
  case false =>
    go_enter Tryz.func26, Tryz.ntmps26
    go_wp2_with fail
    refine wp_region_held_drew (S := fun X => Bx w (ccells c) 37 X) (by kernel_rfl) HX0.out (fun hHeld => ?_)
    refine tk 0 (v := ?v_2023) ?y2023 ?_; (case y2023 => (refine Or.inl ⟨by rfl, ?_⟩; intro w hSw; have x0 := hSw.cell 0 (.int .i64 c.kind) rfl; have x1 := hSw.cell 1 (.string c.fam) rfl; have x2 := hSw.cell 2 (.string c.qual) rfl; go_simp; first | done | with_reducible rfl)); (try simp only [Act.put, List.setIfInBounds_toArray, List.set_cons_zero, List.set_cons_succ])
    refine tk 1 (v := ?v_2024) ?y2024 ?_; (case y2024 => (refine Or.inl ⟨by rfl, ?_⟩; intro w hSw; have x0 := hSw.cell 0 (.int .i64 c.kind) rfl; have x1 := hSw.cell 1 (.string c.fam) rfl; have x2 := hSw.cell 2 (.string c.qual) rfl; go_simp; first | done | with_reducible rfl)); (try simp only [Act.put, List.setIfInBounds_toArray, List.set_cons_zero, List.set_cons_succ])
    refine wpAnyH_ready (rs := [2]) (by kernel_rfl) (by simp) ?_; refine AllReadyH.cons (o := ?o_2025) ?hi_2025 (fun K hK => ?_) AllReadyH.nil; (case hi_2025 => (simp only [List.getElem?_toArray, List.getElem?_cons_zero, List.getElem?_cons_succ]; rfl)); go_simp; (go_at_call 54; (refine (CW.out _).mono ?_; rintro e w1 ⟨rfl, hb⟩; have HX1 := Lib.hid (HX0.out.next hb); clear hb)); refine hK.out _ _ ?_ (fun hHeld => ?_); (· exact HX1.out); clear hK K; (try simp only [Act.put, List.setIfInBounds_toArray, List.set_cons_zero, List.set_cons_succ])
    refine tk 3 (v := ?v_2026) ?y2026 ?_; (case y2026 => (refine Or.inl ⟨by rfl, ?_⟩; intro w hSw; go_simp; first | done | with_reducible rfl)); (try simp only [Act.put, List.setIfInBounds_toArray, List.set_cons_zero, List.set_cons_succ])
    refine tk 4 (v := ?v_2027) ?y2027 ?_; (case y2027 => (refine Or.inl ⟨by rfl, ?_⟩; intro w hSw; go_simp; first | done | with_reducible rfl)); (try simp only [Act.put, List.setIfInBounds_toArray, List.set_cons_zero, List.set_cons_succ])
    refine tk 5 (v := ?v_2028) ?y2028 ?_; (case y2028 => (refine Or.inl ⟨by rfl, ?_⟩; intro w hSw; have x0 := hSw.cell 0 (.int .i64 c.kind) rfl; have x1 := hSw.cell 1 (.string c.fam) rfl; have x2 := hSw.cell 2 (.string c.qual) rfl; go_simp; first | done | with_reducible rfl)); (try simp only [Act.put, List.setIfInBounds_toArray, List.set_cons_zero, List.set_cons_succ])
    refine tk 6 (v := ?v_2029) ?y2029 ?_; (case y2029 => (refine Or.inl ⟨by rfl, ?_⟩; intro w hSw; have x0 := hSw.cell 0 (.int .i64 c.kind) rfl; have x1 := hSw.cell 1 (.string c.fam) rfl; have x2 := hSw.cell 2 (.string c.qual) rfl; go_simp; first | done | with_reducible rfl)); (try simp only [Act.put, List.setIfInBounds_toArray, List.set_cons_zero, List.set_cons_succ])
    refine wpAnyH_ready (rs := [7]) (by kernel_rfl) (by simp) ?_; refine AllReadyH.cons (o := ?o_2030) ?hi_2030 (fun K hK => ?_) AllReadyH.nil; (case hi_2030 => (simp only [List.getElem?_toArray, List.getElem?_cons_zero, List.getElem?_cons_succ]; rfl)); go_simp; (go_at_call 55; (refine (CN.out _).mono ?_; rintro e w2 ⟨rfl, hb⟩; have HX2 := Lib.hid (HX1.out.next hb); clear hb)); refine hK.out _ _ ?_ (fun hHeld => ?_); (· exact HX2.out); clear hK K; (try simp only [Act.put, List.setIfInBounds_toArray, List.set_cons_zero, List.set_cons_succ])
    refine tk 8 (v := ?v_2031) ?y2031 ?_; (case y2031 => (refine Or.inl ⟨by rfl, ?_⟩; intro w hSw; go_simp; first | done | with_reducible rfl)); (try simp only [Act.put, List.setIfInBounds_toArray, List.set_cons_zero, List.set_cons_succ])
    refine tk 9 (v := ?v_2032) ?y2032 ?_; (case y2032 => (refine Or.inl ⟨by rfl, ?_⟩; intro w hSw; go_simp; first | done | with_reducible rfl)); (try simp only [Act.put, List.setIfInBounds_toArray, List.set_cons_zero, List.set_cons_succ])
    refine tk 10 (v := ?v_2033) ?y2033 ?_; (case y2033 => (refine Or.inl ⟨by rfl, ?_⟩; intro w hSw; go_simp; first | done | with_reducible rfl)); (try simp only [Act.put, List.setIfInBounds_toArray, List.set_cons_zero, List.set_cons_succ])
    refine tk 11 (v := undef) ?y2034 ?_; (case y2034 => exact Or.inr ⟨by rfl, rfl⟩); (try simp only [Act.put, List.setIfInBounds_toArray, List.set_cons_zero, List.set_cons_succ])
    refine tk 12 (v := undef) ?y2035 ?_; (case y2035 => exact Or.inr ⟨by rfl, rfl⟩); (try simp only [Act.put, List.setIfInBounds_toArray, List.set_cons_zero, List.set_cons_succ])
    refine tk 13 (v := undef) ?y2036 ?_; (case y2036 => exact Or.inr ⟨by rfl, rfl⟩); (try simp only [Act.put, List.setIfInBounds_toArray, List.set_cons_zero, List.set_cons_succ])
    refine tk 14 (v := undef) ?y2037 ?_; (case y2037 => exact Or.inr ⟨by rfl, rfl⟩); (try simp only [Act.put, List.setIfInBounds_toArray, List.set_cons_zero, List.set_cons_succ])
    refine tk 15 (v := ?v_2038) ?y2038 ?_; (case y2038 => (refine Or.inl ⟨by rfl, ?_⟩; intro w hSw; go_simp; first | done | with_reducible rfl)); (try simp only [Act.put, List.setIfInBounds_toArray, List.set_cons_zero, List.set_cons_succ])
    refine tk 16 (v := ?v_2039) ?y2039 ?_; (case y2039 => (refine Or.inl ⟨by rfl, ?_⟩; intro w hSw; go_simp; first | done | with_reducible rfl)); (try simp only [Act.put, List.setIfInBounds_toArray, List.set_cons_zero, List.set_cons_succ])
    refine tk 17 (v := undef) ?y2040 ?_; (case y2040 => exact Or.inr ⟨by rfl, rfl⟩); (try simp only [Act.put, List.setIfInBounds_toArray, List.set_cons_zero, List.set_cons_succ])
    refine tk 18 (v := undef) ?y2041 ?_; (case y2041 => exact Or.inr ⟨by rfl, rfl⟩); (try simp only [Act.put, List.setIfInBounds_toArray, List.set_cons_zero, List.set_cons_succ])
    refine tk 19 (v := undef) ?y2042 ?_; (case y2042 => exact Or.inr ⟨by rfl, rfl⟩); (try simp only [Act.put, List.setIfInBounds_toArray, List.set_cons_zero, List.set_cons_succ])
    refine tk 20 (v := undef) ?y2043 ?_; (case y2043 => exact Or.inr ⟨by rfl, rfl⟩); (try simp only [Act.put, List.setIfInBounds_toArray, List.set_cons_zero, List.set_cons_succ])
    refine tk 21 (v := ?v_2044) ?y2044 ?_; (case y2044 => (refine Or.inl ⟨by rfl, ?_⟩; intro w hSw; go_simp; first | done | with_reducible rfl)); (try simp only [Act.put, List.setIfInBounds_toArray, List.set_cons_zero, List.set_cons_succ])
    refine wpAnyH_done (by kernel_rfl) ?_ _
    go_wp2
    go_ret
    exact ⟨by rw [show r = false from Bool.eq_false_iff.2 (fun h => by have := (HI.out.1 h).2.1; rw [HN.out] at this; cases this)]; first | done | rfl, HX2.out.bel⟩
  by_cases hl : c.qual.size ≤ 12
  case neg =>
    have hl2 : (c.qual.size : Int) > 12 := by omega
    go_enter Tryz.func26, Tryz.ntmps26
    go_wp2_with fail
    refine wp_region_held_drew (S := fun X => Bx w (ccells c) 37 X) (by kernel_rfl) HX0.out (fun hHeld => ?_)
    refine tk 0 (v := ?v_3045) ?y3045 ?_; (case y3045 => (refine Or.inl ⟨by rfl, ?_⟩; intro w hSw; have x0 := hSw.cell 0 (.int .i64 c.kind) rfl; have x1 := hSw.cell 1 (.string c.fam) rfl; have x2 := hSw.cell 2 (.string c.qual) rfl; go_simp; first | done | with_reducible rfl)); (try simp only [Act.put, List.setIfInBounds_toArray, List.set_cons_zero, List.set_cons_succ])
    refine tk 1 (v := ?v_3046) ?y3046 ?_; (case y3046 => (refine Or.inl ⟨by rfl, ?_⟩; intro w hSw; have x0 := hSw.cell 0 (.int .i64 c.kind) rfl; have x1 := hSw.cell 1 (.string c.fam) rfl; have x2 := hSw.cell 2 (.string c.qual) rfl; go_simp; first | done | with_reducible rfl)); (try simp only [Act.put, List.setIfInBounds_toArray, List.set_cons_zero, List.set_cons_succ])
    refine wpAnyH_ready (rs := [2]) (by kernel_rfl) (by simp) ?_; refine AllReadyH.cons (o := ?o_3047) ?hi_3047 (fun K hK => ?_) AllReadyH.nil; (case hi_3047 => (simp only [List.getElem?_toArray, List.getElem?_cons_zero, List.getElem?_cons_succ]; rfl)); go_simp; (go_at_call 54; (refine (CW.out _).mono ?_; rintro e w1 ⟨rfl, hb⟩; have HX1 := Lib.hid (HX0.out.next hb); clear hb)); refine hK.out _ _ ?_ (fun hHeld => ?_); (· exact HX1.out); clear hK K; (try simp only [Act.put, List.setIfInBounds_toArray, List.set_cons_zero, List.set_cons_succ])
    refine tk 3 (v := ?v_3048) ?y3048 ?_; (case y3048 => (refine Or.inl ⟨by rfl, ?_⟩; intro w hSw; go_simp; first | done | with_reducible rfl)); (try simp only [Act.put, List.setIfInBounds_toArray, List.set_cons_zero, List.set_cons_succ])
    refine tk 4 (v := ?v_3049) ?y3049 ?_; (case y3049 => (refine Or.inl ⟨by rfl, ?_⟩; intro w hSw; go_simp; first | done | with_reducible rfl)); (try simp only [Act.put, List.setIfInBounds_toArray, List.set_cons_zero, List.set_cons_succ])
    refine tk 5 (v := ?v_3050) ?y3050 ?_; (case y3050 => (refine Or.inl ⟨by rfl, ?_⟩; intro w hSw; have x0 := hSw.cell 0 (.int .i64 c.kind) rfl; have x1 := hSw.cell 1 (.string c.fam) rfl; have x2 := hSw.cell 2 (.string c.qual) rfl; go_simp; first | done | with_reducible rfl)); (try simp only [Act.put, List.setIfInBounds_toArray, List.set_cons_zero, List.set_cons_succ])
    refine tk 6 (v := ?v_3051) ?y3051 ?_; (case y3051 => (refine Or.inl ⟨by rfl, ?_⟩; intro w hSw; have x0 := hSw.cell 0 (.int .i64 c.kind) rfl; have x1 := hSw.cell 1 (.string c.fam) rfl; have x2 := hSw.cell 2 (.string c.qual) rfl; go_simp; first | done | with_reducible rfl)); (try simp only [Act.put, List.setIfInBounds_toArray, List.set_cons_zero, List.set_cons_succ])
    refine wpAnyH_ready (rs := [7]) (by kernel_rfl) (by simp) ?_; refine AllReadyH.cons (o := ?o_3052) ?hi_3052 (fun K hK => ?_) AllReadyH.nil; (case hi_3052 => (simp only [List.getElem?_toArray, List.getElem?_cons_zero, List.getElem?_cons_succ]; rfl)); go_simp; (go_at_call 55; (refine (CN.out _).mono ?_; rintro e w2 ⟨rfl, hb⟩; have HX2 := Lib.hid (HX1.out.next hb); clear hb)); refine hK.out _ _ ?_ (fun hHeld => ?_); (· exact HX2.out); clear hK K; (try simp only [Act.put, List.setIfInBounds_toArray, List.set_cons_zero, List.set_cons_succ])
    refine tk 8 (v := ?v_3053) ?y3053 ?_; (case y3053 => (refine Or.inl ⟨by rfl, ?_⟩; intro w hSw; go_simp; first | done | with_reducible rfl)); (try simp only [Act.put, List.setIfInBounds_toArray, List.set_cons_zero, List.set_cons_succ])
    refine tk 9 (v := ?v_3054) ?y3054 ?_; (case y3054 => (refine Or.inl ⟨by rfl, ?_⟩; intro w hSw; go_simp; first | done | with_reducible rfl)); (try simp only [Act.put, List.setIfInBounds_toArray, List.set_cons_zero, List.set_cons_succ])
    refine tk 10 (v := ?v_3055) ?y3055 ?_; (case y3055 => (refine Or.inl ⟨by rfl, ?_⟩; intro w hSw; go_simp; first | done | with_reducible rfl)); (try simp only [Act.put, List.setIfInBounds_toArray, List.set_cons_zero, List.set_cons_succ])
    refine tk 11 (v := ?v_3056) ?y3056 ?_; (case y3056 => (refine Or.inl ⟨by rfl, ?_⟩; intro w hSw; have x0 := hSw.cell 0 (.int .i64 c.kind) rfl; have x1 := hSw.cell 1 (.string c.fam) rfl; have x2 := hSw.cell 2 (.string c.qual) rfl; go_simp; first | done | with_reducible rfl)); (try simp only [Act.put, List.setIfInBounds_toArray, List.set_cons_zero, List.set_cons_succ])
    refine tk 12 (v := ?v_3057) ?y3057 ?_; (case y3057 => (refine Or.inl ⟨by rfl, ?_⟩; intro w hSw; have x0 := hSw.cell 0 (.int .i64 c.kind) rfl; have x1 := hSw.cell 1 (.string c.fam) rfl; have x2 := hSw.cell 2 (.string c.qual) rfl; go_simp; first | done | with_reducible rfl)); (try simp only [Act.put, List.setIfInBounds_toArray, List.set_cons_zero, List.set_cons_succ])
    refine tk 13 (v := ?v_3058) ?y3058 ?_; (case y3058 => (refine Or.inl ⟨by rfl, ?_⟩; intro w hSw; have x0 := hSw.cell 0 (.int .i64 c.kind) rfl; have x1 := hSw.cell 1 (.string c.fam) rfl; have x2 := hSw.cell 2 (.string c.qual) rfl; go_simp; first | done | with_reducible rfl)); (try simp only [Act.put, List.setIfInBounds_toArray, List.set_cons_zero, List.set_cons_succ])
    refine tk 14 (v := ?v_3059) ?y3059 ?_; (case y3059 => (refine Or.inl ⟨by rfl, ?_⟩; intro w hSw; have x0 := hSw.cell 0 (.int .i64 c.kind) rfl; have x1 := hSw.cell 1 (.string c.fam) rfl; have x2 := hSw.cell 2 (.string c.qual) rfl; go_simp; first | done | with_reducible rfl)); (try simp only [Act.put, List.setIfInBounds_toArray, List.set_cons_zero, List.set_cons_succ])
    refine tk 15 (v := ?v_3060) ?y3060 ?_; (case y3060 => (refine Or.inl ⟨by rfl, ?_⟩; intro w hSw; go_simp; first | done | with_reducible rfl)); (try simp only [Act.put, List.setIfInBounds_toArray, List.set_cons_zero, List.set_cons_succ])
    refine tk 16 (v := ?v_3061) ?y3061 ?_; (case y3061 => (refine Or.inl ⟨by rfl, ?_⟩; intro w hSw; go_simp; first | done | with_reducible rfl)); (try simp only [Act.put, List.setIfInBounds_toArray, List.set_cons_zero, List.set_cons_succ])
    refine tk 17 (v := undef) ?y3062 ?_; (case y3062 => exact Or.inr ⟨by rfl, rfl⟩); (try simp only [Act.put, List.setIfInBounds_toArray, List.set_cons_zero, List.set_cons_succ])
    refine tk 18 (v := undef) ?y3063 ?_; (case y3063 => exact Or.inr ⟨by rfl, rfl⟩); (try simp only [Act.put, List.setIfInBounds_toArray, List.set_cons_zero, List.set_cons_succ])
    refine tk 19 (v := undef) ?y3064 ?_; (case y3064 => exact Or.inr ⟨by rfl, rfl⟩); (try simp only [Act.put, List.setIfInBounds_toArray, List.set_cons_zero, List.set_cons_succ])
    refine tk 20 (v := undef) ?y3065 ?_; (case y3065 => exact Or.inr ⟨by rfl, rfl⟩); (try simp only [Act.put, List.setIfInBounds_toArray, List.set_cons_zero, List.set_cons_succ])
    refine tk 21 (v := ?v_3066) ?y3066 ?_; (case y3066 => (refine Or.inl ⟨by rfl, ?_⟩; intro w hSw; go_simp; first | done | with_reducible rfl)); (try simp only [Act.put, List.setIfInBounds_toArray, List.set_cons_zero, List.set_cons_succ])
    refine wpAnyH_done (by kernel_rfl) ?_ _
    go_wp2
    go_ret
    exact ⟨by rw [show r = false from Bool.eq_false_iff.2 (fun h => hl (HI.out.1 h).2.2.1)]; first | done | rfl, HX2.out.bel⟩
  have hl2 : ¬ (c.qual.size : Int) > 12 := by omega
  have hl3 : decide (12 < (c.qual.size : Int)) = false := decide_eq_false (by omega)
  have hl4 : decide ((c.qual.size : Int) > 12) = false := decide_eq_false (by omega)
  have hlx := Lib.hid hl
  clear hl
  have CT := Lib.hid (fun W => c_dtold c hk W)
  have HKD := Lib.hid hk
  clear hk
  obtain ⟨qd, hq, hqe⟩ := neq_chg (tdC c) c
  by_cases hd : tdC c = c
  case neg =>
    obtain rfl : qd = true := hqe.2 hd
    have HD := Lib.hid hd
    clear hd hqe
    go_enter Tryz.func26, Tryz.ntmps26
    go_wp2_with fail
    refine wp_region_held_drew (S := fun X => Bx w (ccells c) 37 X) (by kernel_rfl) HX0.out (fun hHeld => ?_)
    refine tk 0 (v := ?v_4067) ?y4067 ?_; (case y4067 => (refine Or.inl ⟨by rfl, ?_⟩; intro w hSw; have x0 := hSw.cell 0 (.int .i64 c.kind) rfl; have x1 := hSw.cell 1 (.string c.fam) rfl; have x2 := hSw.cell 2 (.string c.qual) rfl; go_simp; first | done | with_reducible rfl)); (try simp only [Act.put, List.setIfInBounds_toArray, List.set_cons_zero, List.set_cons_succ])
    refine tk 1 (v := ?v_4068) ?y4068 ?_; (case y4068 => (refine Or.inl ⟨by rfl, ?_⟩; intro w hSw; have x0 := hSw.cell 0 (.int .i64 c.kind) rfl; have x1 := hSw.cell 1 (.string c.fam) rfl; have x2 := hSw.cell 2 (.string c.qual) rfl; go_simp; first | done | with_reducible rfl)); (try simp only [Act.put, List.setIfInBounds_toArray, List.set_cons_zero, List.set_cons_succ])
    refine wpAnyH_ready (rs := [2]) (by kernel_rfl) (by simp) ?_; refine AllReadyH.cons (o := ?o_4069) ?hi_4069 (fun K hK => ?_) AllReadyH.nil; (case hi_4069 => (simp only [List.getElem?_toArray, List.getElem?_cons_zero, List.getElem?_cons_succ]; rfl)); go_simp; (go_at_call 54; (refine (CW.out _).mono ?_; rintro e w1 ⟨rfl, hb⟩; have HX1 := Lib.hid (HX0.out.next hb); clear hb)); refine hK.out _ _ ?_ (fun hHeld => ?_); (· exact HX1.out); clear hK K; (try simp only [Act.put, List.setIfInBounds_toArray, List.set_cons_zero, List.set_cons_succ])
    refine tk 3 (v := ?v_4070) ?y4070 ?_; (case y4070 => (refine Or.inl ⟨by rfl, ?_⟩; intro w hSw; go_simp; first | done | with_reducible rfl)); (try simp only [Act.put, List.setIfInBounds_toArray, List.set_cons_zero, List.set_cons_succ])
    refine tk 4 (v := ?v_4071) ?y4071 ?_; (case y4071 => (refine Or.inl ⟨by rfl, ?_⟩; intro w hSw; go_simp; first | done | with_reducible rfl)); (try simp only [Act.put, List.setIfInBounds_toArray, List.set_cons_zero, List.set_cons_succ])
    refine tk 5 (v := ?v_4072) ?y4072 ?_; (case y4072 => (refine Or.inl ⟨by rfl, ?_⟩; intro w hSw; have x0 := hSw.cell 0 (.int .i64 c.kind) rfl; have x1 := hSw.cell 1 (.string c.fam) rfl; have x2 := hSw.cell 2 (.string c.qual) rfl; go_simp; first | done | with_reducible rfl)); (try simp only [Act.put, List.setIfInBounds_toArray, List.set_cons_zero, List.set_cons_succ])
    refine tk 6 (v := ?v_4073) ?y4073 ?_; (case y4073 => (refine Or.inl ⟨by rfl, ?_⟩; intro w hSw; have x0 := hSw.cell 0 (.int .i64 c.kind) rfl; have x1 := hSw.cell 1 (.string c.fam) rfl; have x2 := hSw.cell 2 (.string c.qual) rfl; go_simp; first | done | with_reducible rfl)); (try simp only [Act.put, List.setIfInBounds_toArray, List.set_cons_zero, List.set_cons_succ])
    refine wpAnyH_ready (rs := [7]) (by kernel_rfl) (by simp) ?_; refine AllReadyH.cons (o := ?o_4074) ?hi_4074 (fun K hK => ?_) AllReadyH.nil; (case hi_4074 => (simp only [List.getElem?_toArray, List.getElem?_cons_zero, List.getElem?_cons_succ]; rfl)); go_simp; (go_at_call 55; (refine (CN.out _).mono ?_; rintro e w2 ⟨rfl, hb⟩; have HX2 := Lib.hid (HX1.out.next hb); clear hb)); refine hK.out _ _ ?_ (fun hHeld => ?_); (· exact HX2.out); clear hK K; (try simp only [Act.put, List.setIfInBounds_toArray, List.set_cons_zero, List.set_cons_succ])
    refine tk 8 (v := ?v_4075) ?y4075 ?_; (case y4075 => (refine Or.inl ⟨by rfl, ?_⟩; intro w hSw; go_simp; first | done | with_reducible rfl)); (try simp only [Act.put, List.setIfInBounds_toArray, List.set_cons_zero, List.set_cons_succ])
    refine tk 9 (v := ?v_4076) ?y4076 ?_; (case y4076 => (refine Or.inl ⟨by rfl, ?_⟩; intro w hSw; go_simp; first | done | with_reducible rfl)); (try simp only [Act.put, List.setIfInBounds_toArray, List.set_cons_zero, List.set_cons_succ])
    refine tk 10 (v := ?v_4077) ?y4077 ?_; (case y4077 => (refine Or.inl ⟨by rfl, ?_⟩; intro w hSw; go_simp; first | done | with_reducible rfl)); (try simp only [Act.put, List.setIfInBounds_toArray, List.set_cons_zero, List.set_cons_succ])
    refine tk 11 (v := ?v_4078) ?y4078 ?_; (case y4078 => (refine Or.inl ⟨by rfl, ?_⟩; intro w hSw; have x0 := hSw.cell 0 (.int .i64 c.kind) rfl; have x1 := hSw.cell 1 (.string c.fam) rfl; have x2 := hSw.cell 2 (.string c.qual) rfl; go_simp; first | done | with_reducible rfl)); (try simp only [Act.put, List.setIfInBounds_toArray, List.set_cons_zero, List.set_cons_succ])
    refine tk 12 (v := ?v_4079) ?y4079 ?_; (case y4079 => (refine Or.inl ⟨by rfl, ?_⟩; intro w hSw; have x0 := hSw.cell 0 (.int .i64 c.kind) rfl; have x1 := hSw.cell 1 (.string c.fam) rfl; have x2 := hSw.cell 2 (.string c.qual) rfl; go_simp; first | done | with_reducible rfl)); (try simp only [Act.put, List.setIfInBounds_toArray, List.set_cons_zero, List.set_cons_succ])
    refine tk 13 (v := ?v_4080) ?y4080 ?_; (case y4080 => (refine Or.inl ⟨by rfl, ?_⟩; intro w hSw; have x0 := hSw.cell 0 (.int .i64 c.kind) rfl; have x1 := hSw.cell 1 (.string c.fam) rfl; have x2 := hSw.cell 2 (.string c.qual) rfl; go_simp; first | done | with_reducible rfl)); (try simp only [Act.put, List.setIfInBounds_toArray, List.set_cons_zero, List.set_cons_succ])
    refine tk 14 (v := ?v_4081) ?y4081 ?_; (case y4081 => (refine Or.inl ⟨by rfl, ?_⟩; intro w hSw; have x0 := hSw.cell 0 (.int .i64 c.kind) rfl; have x1 := hSw.cell 1 (.string c.fam) rfl; have x2 := hSw.cell 2 (.string c.qual) rfl; go_simp; first | done | with_reducible rfl)); (try simp only [Act.put, List.setIfInBounds_toArray, List.set_cons_zero, List.set_cons_succ])
    refine tk 15 (v := ?v_4082) ?y4082 ?_; (case y4082 => (refine Or.inl ⟨by rfl, ?_⟩; intro w hSw; go_simp; first | done | with_reducible rfl)); (try simp only [Act.put, List.setIfInBounds_toArray, List.set_cons_zero, List.set_cons_succ])
    refine tk 16 (v := ?v_4083) ?y4083 ?_; (case y4083 => (refine Or.inl ⟨by rfl, ?_⟩; intro w hSw; go_simp; first | done | with_reducible rfl)); (try simp only [Act.put, List.setIfInBounds_toArray, List.set_cons_zero, List.set_cons_succ])
    refine tk 17 (v := .agg (ccells c)) ?y4084 ?_; (case y4084 => exact yl_all (by rfl) 37 _ rfl w.heap.size rfl 37 (ccells c) hSA 7 szC (nC _) ruC); (try simp only [Act.put, List.setIfInBounds_toArray, List.set_cons_zero, List.set_cons_succ])
    refine tk 19 (v := .agg (ccells c)) ?y4085 ?_; (case y4085 => exact yl_all (by rfl) 37 _ rfl w.heap.size rfl 37 (ccells c) hSA 7 szC (nC _) ruC); (try simp only [Act.put, List.setIfInBounds_toArray, List.set_cons_zero, List.set_cons_succ])
    refine wpAnyH_ready (rs := [18]) (by kernel_rfl) (by simp) ?_; refine AllReadyH.cons (o := ?o_4086) ?hi_4086 (fun K hK => ?_) AllReadyH.nil; (case hi_4086 => (simp only [List.getElem?_toArray, List.getElem?_cons_zero, List.getElem?_cons_succ]; rfl)); go_simp; (go_at_call 56; (refine (CT.out _).mono ?_; rintro e w3 ⟨rfl, hb⟩; have HX3 := Lib.hid (HX2.out.next hb); clear hb)); refine hK.out _ _ ?_ (fun hHeld => ?_); (· exact HX3.out); clear hK K; (try simp only [Act.put, List.setIfInBounds_toArray, List.set_cons_zero, List.set_cons_succ])
    refine tk 20 (v := ?v_4087) ?y4087 ?_; (case y4087 => (refine Or.inl ⟨by rfl, ?_⟩; intro w hSw; go_simp; first | done | with_reducible rfl)); (try simp only [Act.put, List.setIfInBounds_toArray, List.set_cons_zero, List.set_cons_succ])
    refine tk 21 (v := ?v_4088) ?y4088 ?_; (case y4088 => (refine Or.inl ⟨by rfl, ?_⟩; intro w hSw; go_simp; first | done | with_reducible rfl)); (try simp only [Act.put, List.setIfInBounds_toArray, List.set_cons_zero, List.set_cons_succ])
    refine wpAnyH_done (by kernel_rfl) ?_ _
    go_wp2
    go_ret
    exact ⟨by rw [show r = false from Bool.eq_false_iff.2 (fun h => HD.out (HI.out.1 h).2.2.2.1)]; first | done | rfl, HX3.out.bel⟩
  obtain rfl : qd = false := Bool.eq_false_iff.2 (fun h => hqe.1 h hd)
  have HD := Lib.hid hd
  clear hd hqe
  go_enter Tryz.func26, Tryz.ntmps26
  go_wp2_with fail
  refine wp_region_held_drew (S := fun X => Bx w (ccells c) 37 X) (by kernel_rfl) HX0.out (fun hHeld => ?_)
  refine tk 0 (v := ?v_5089) ?y5089 ?_; (case y5089 => (refine Or.inl ⟨by rfl, ?_⟩; intro w hSw; have x0 := hSw.cell 0 (.int .i64 c.kind) rfl; have x1 := hSw.cell 1 (.string c.fam) rfl; have x2 := hSw.cell 2 (.string c.qual) rfl; go_simp; first | done | with_reducible rfl)); (try simp only [Act.put, List.setIfInBounds_toArray, List.set_cons_zero, List.set_cons_succ])
  refine tk 1 (v := ?v_5090) ?y5090 ?_; (case y5090 => (refine Or.inl ⟨by rfl, ?_⟩; intro w hSw; have x0 := hSw.cell 0 (.int .i64 c.kind) rfl; have x1 := hSw.cell 1 (.string c.fam) rfl; have x2 := hSw.cell 2 (.string c.qual) rfl; go_simp; first | done | with_reducible rfl)); (try simp only [Act.put, List.setIfInBounds_toArray, List.set_cons_zero, List.set_cons_succ])
  refine wpAnyH_ready (rs := [2]) (by kernel_rfl) (by simp) ?_; refine AllReadyH.cons (o := ?o_5091) ?hi_5091 (fun K hK => ?_) AllReadyH.nil; (case hi_5091 => (simp only [List.getElem?_toArray, List.getElem?_cons_zero, List.getElem?_cons_succ]; rfl)); go_simp; (go_at_call 54; (refine (CW.out _).mono ?_; rintro e w1 ⟨rfl, hb⟩; have HX1 := Lib.hid (HX0.out.next hb); clear hb)); refine hK.out _ _ ?_ (fun hHeld => ?_); (· exact HX1.out); clear hK K; (try simp only [Act.put, List.setIfInBounds_toArray, List.set_cons_zero, List.set_cons_succ])
  refine tk 3 (v := ?v_5092) ?y5092 ?_; (case y5092 => (refine Or.inl ⟨by rfl, ?_⟩; intro w hSw; go_simp; first | done | with_reducible rfl)); (try simp only [Act.put, List.setIfInBounds_toArray, List.set_cons_zero, List.set_cons_succ])
  refine tk 4 (v := ?v_5093) ?y5093 ?_; (case y5093 => (refine Or.inl ⟨by rfl, ?_⟩; intro w hSw; go_simp; first | done | with_reducible rfl)); (try simp only [Act.put, List.setIfInBounds_toArray, List.set_cons_zero, List.set_cons_succ])
  refine tk 5 (v := ?v_5094) ?y5094 ?_; (case y5094 => (refine Or.inl ⟨by rfl, ?_⟩; intro w hSw; have x0 := hSw.cell 0 (.int .i64 c.kind) rfl; have x1 := hSw.cell 1 (.string c.fam) rfl; have x2 := hSw.cell 2 (.string c.qual) rfl; go_simp; first | done | with_reducible rfl)); (try simp only [Act.put, List.setIfInBounds_toArray, List.set_cons_zero, List.set_cons_succ])
  refine tk 6 (v := ?v_5095) ?y5095 ?_; (case y5095 => (refine Or.inl ⟨by rfl, ?_⟩; intro w hSw; have x0 := hSw.cell 0 (.int .i64 c.kind) rfl; have x1 := hSw.cell 1 (.string c.fam) rfl; have x2 := hSw.cell 2 (.string c.qual) rfl; go_simp; first | done | with_reducible rfl)); (try simp only [Act.put, List.setIfInBounds_toArray, List.set_cons_zero, List.set_cons_succ])
  refine wpAnyH_ready (rs := [7]) (by kernel_rfl) (by simp) ?_; refine AllReadyH.cons (o := ?o_5096) ?hi_5096 (fun K hK => ?_) AllReadyH.nil; (case hi_5096 => (simp only [List.getElem?_toArray, List.getElem?_cons_zero, List.getElem?_cons_succ]; rfl)); go_simp; (go_at_call 55; (refine (CN.out _).mono ?_; rintro e w2 ⟨rfl, hb⟩; have HX2 := Lib.hid (HX1.out.next hb); clear hb)); refine hK.out _ _ ?_ (fun hHeld => ?_); (· exact HX2.out); clear hK K; (try simp only [Act.put, List.setIfInBounds_toArray, List.set_cons_zero, List.set_cons_succ])
  refine tk 8 (v := ?v_5097) ?y5097 ?_; (case y5097 => (refine Or.inl ⟨by rfl, ?_⟩; intro w hSw; go_simp; first | done | with_reducible rfl)); (try simp only [Act.put, List.setIfInBounds_toArray, List.set_cons_zero, List.set_cons_succ])
  refine tk 9 (v := ?v_5098) ?y5098 ?_; (case y5098 => (refine Or.inl ⟨by rfl, ?_⟩; intro w hSw; go_simp; first | done | with_reducible rfl)); (try simp only [Act.put, List.setIfInBounds_toArray, List.set_cons_zero, List.set_cons_succ])
  refine tk 10 (v := ?v_5099) ?y5099 ?_; (case y5099 => (refine Or.inl ⟨by rfl, ?_⟩; intro w hSw; go_simp; first | done | with_reducible rfl)); (try simp only [Act.put, List.setIfInBounds_toArray, List.set_cons_zero, List.set_cons_succ])
  refine tk 11 (v := ?v_5100) ?y5100 ?_; (case y5100 => (refine Or.inl ⟨by rfl, ?_⟩; intro w hSw; have x0 := hSw.cell 0 (.int .i64 c.kind) rfl; have x1 := hSw.cell 1 (.string c.fam) rfl; have x2 := hSw.cell 2 (.string c.qual) rfl; go_simp; first | done | with_reducible rfl)); (try simp only [Act.put, List.setIfInBounds_toArray, List.set_cons_zero, List.set_cons_succ])
  refine tk 12 (v := ?v_5101) ?y5101 ?_; (case y5101 => (refine Or.inl ⟨by rfl, ?_⟩; intro w hSw; have x0 := hSw.cell 0 (.int .i64 c.kind) rfl; have x1 := hSw.cell 1 (.string c.fam) rfl; have x2 := hSw.cell 2 (.string c.qual) rfl; go_simp; first | done | with_reducible rfl)); (try simp only [Act.put, List.setIfInBounds_toArray, List.set_cons_zero, List.set_cons_succ])
  refine tk 13 (v := ?v_5102) ?y5102 ?_; (case y5102 => (refine Or.inl ⟨by rfl, ?_⟩; intro w hSw; have x0 := hSw.cell 0 (.int .i64 c.kind) rfl; have x1 := hSw.cell 1 (.string c.fam) rfl; have x2 := hSw.cell 2 (.string c.qual) rfl; go_simp; first | done | with_reducible rfl)); (try simp only [Act.put, List.setIfInBounds_toArray, List.set_cons_zero, List.set_cons_succ])
  refine tk 14 (v := ?v_5103) ?y5103 ?_; (case y5103 => (refine Or.inl ⟨by rfl, ?_⟩; intro w hSw; have x0 := hSw.cell 0 (.int .i64 c.kind) rfl; have x1 := hSw.cell 1 (.string c.fam) rfl; have x2 := hSw.cell 2 (.string c.qual) rfl; go_simp; first | done | with_reducible rfl)); (try simp only [Act.put, List.setIfInBounds_toArray, List.set_cons_zero, List.set_cons_succ])
  refine tk 15 (v := ?v_5104) ?y5104 ?_; (case y5104 => (refine Or.inl ⟨by rfl, ?_⟩; intro w hSw; go_simp; first | done | with_reducible rfl)); (try simp only [Act.put, List.setIfInBounds_toArray, List.set_cons_zero, List.set_cons_succ])
  refine tk 16 (v := ?v_5105) ?y5105 ?_; (case y5105 => (refine Or.inl ⟨by rfl, ?_⟩; intro w hSw; go_simp; first | done | with_reducible rfl)); (try simp only [Act.put, List.setIfInBounds_toArray, List.set_cons_zero, List.set_cons_succ])
  refine tk 17 (v := .agg (ccells c)) ?y5106 ?_; (case y5106 => exact yl_all (by rfl) 37 _ rfl w.heap.size rfl 37 (ccells c) hSA 7 szC (nC _) ruC); (try simp only [Act.put, List.setIfInBounds_toArray, List.set_cons_zero, List.set_cons_succ])
  refine tk 19 (v := .agg (ccells c)) ?y5107 ?_; (case y5107 => exact yl_all (by rfl) 37 _ rfl w.heap.size rfl 37 (ccells c) hSA 7 szC (nC _) ruC); (try simp only [Act.put, List.setIfInBounds_toArray, List.set_cons_zero, List.set_cons_succ])
  refine wpAnyH_ready (rs := [18]) (by kernel_rfl) (by simp) ?_; refine AllReadyH.cons (o := ?o_5108) ?hi_5108 (fun K hK => ?_) AllReadyH.nil; (case hi_5108 => (simp only [List.getElem?_toArray, List.getElem?_cons_zero, List.getElem?_cons_succ]; rfl)); go_simp; (go_at_call 56; (refine (CT.out _).mono ?_; rintro e w3 ⟨rfl, hb⟩; have HX3 := Lib.hid (HX2.out.next hb); clear hb)); refine hK.out _ _ ?_ (fun hHeld => ?_); (· exact HX3.out); clear hK K; (try simp only [Act.put, List.setIfInBounds_toArray, List.set_cons_zero, List.set_cons_succ])
  refine tk 20 (v := ?v_5109) ?y5109 ?_; (case y5109 => (refine Or.inl ⟨by rfl, ?_⟩; intro w hSw; go_simp; first | done | with_reducible rfl)); (try simp only [Act.put, List.setIfInBounds_toArray, List.set_cons_zero, List.set_cons_succ])
  refine tk 21 (v := ?v_5110) ?y5110 ?_; (case y5110 => (refine Or.inl ⟨by rfl, ?_⟩; intro w hSw; go_simp; first | done | with_reducible rfl)); (try simp only [Act.put, List.setIfInBounds_toArray, List.set_cons_zero, List.set_cons_succ])
  refine wpAnyH_done (by kernel_rfl) ?_ _
  have HR := Lib.hid (show r = restOk c from Bool.eq_iff_iff.2 ⟨fun h => (HI.out.1 h).2.2.2.2, fun h => HI.out.2 ⟨HKD.out, HN.out, hlx.out, HD.out, h⟩⟩)
  by_cases hk1 : c.kind = 1
  case pos =>
    have HRk := Lib.hid (show r = (within c.group 0 2 && (within c.versions 1 8 && within c.life 0 1099511627776)) by rw [HR.out]; unfold restOk; rw [if_pos hk1])
    have x0 := HX3.out.cell 0 (.int .i64 1) (by rw [← hk1]; rfl)
    have x1 := HX3.out.cell 1 (.string c.fam) rfl
    have x2 := HX3.out.cell 2 (.string c.qual) rfl
    have x3 := HX3.out.cell 3 (.int .i64 c.typ) rfl
    have x4 := HX3.out.cell 4 (.int .i64 c.group) rfl
    have x5 := HX3.out.cell 5 (.int .i64 c.versions) rfl
    have x6 := HX3.out.cell 6 (.int .i64 c.life) rfl
    have Cc0 := Lib.hid (fun W => c_dwithin c.group 0 2 W)
    generalize hb0 : within c.group 0 2 = b0 at Cc0 HRk
    have Cc1 := Lib.hid (fun W => c_dwithin c.versions 1 8 W)
    generalize hb1 : within c.versions 1 8 = b1 at Cc1 HRk
    have Cc2 := Lib.hid (fun W => c_dwithin c.life 0 1099511627776 W)
    generalize hb2 : within c.life 0 1099511627776 = b2 at Cc2 HRk
    cases b0
    case false =>
      go_wp2_with fail
      refine (Cc0.out _).mono ?_
      rintro e v4 ⟨rfl, hb⟩
      have HX4 := Lib.hid (HX3.out.next hb)
      clear hb x0 x1 x2 x3 x4 x5 x6
      obtain ⟨x0, x1, x2, x3, x4, x5, x6⟩ := HX4.out.c7
      go_wp2
      go_ret
      exact ⟨by rw [HRk.out]; first | done | rfl, HX4.out.bel⟩
    cases b1
    case false =>
      go_wp2_with fail
      refine (Cc0.out _).mono ?_
      rintro e v4 ⟨rfl, hb⟩
      have HX4 := Lib.hid (HX3.out.next hb)
      clear hb x0 x1 x2 x3 x4 x5 x6
      obtain ⟨x0, x1, x2, x3, x4, x5, x6⟩ := HX4.out.c7
      go_wp2_with fail
      refine (Cc1.out _).mono ?_
      rintro e v5 ⟨rfl, hb⟩
      have HX5 := Lib.hid (HX4.out.next hb)
      clear hb x0 x1 x2 x3 x4 x5 x6
      obtain ⟨x0, x1, x2, x3, x4, x5, x6⟩ := HX5.out.c7
      go_wp2
      go_ret
      exact ⟨by rw [HRk.out]; first | done | rfl, HX5.out.bel⟩
    go_wp2_with fail
    refine (Cc0.out _).mono ?_
    rintro e v4 ⟨rfl, hb⟩
    have HX4 := Lib.hid (HX3.out.next hb)
    clear hb x0 x1 x2 x3 x4 x5 x6
    obtain ⟨x0, x1, x2, x3, x4, x5, x6⟩ := HX4.out.c7
    go_wp2_with fail
    refine (Cc1.out _).mono ?_
    rintro e v5 ⟨rfl, hb⟩
    have HX5 := Lib.hid (HX4.out.next hb)
    clear hb x0 x1 x2 x3 x4 x5 x6
    obtain ⟨x0, x1, x2, x3, x4, x5, x6⟩ := HX5.out.c7
    go_wp2_with fail
    refine (Cc2.out _).mono ?_
    rintro e v6 ⟨rfl, hb⟩
    have HX6 := Lib.hid (HX5.out.next hb)
    clear hb x0 x1 x2 x3 x4 x5 x6
    obtain ⟨x0, x1, x2, x3, x4, x5, x6⟩ := HX6.out.c7
    go_wp2
    go_ret
    exact ⟨by rw [HRk.out]; first | done | rfl, HX6.out.bel⟩
  by_cases hk3 : c.kind = 3
  case pos =>
    have HRk := Lib.hid (show r = within c.typ 1 5 by rw [HR.out]; unfold restOk; rw [if_neg hk1, if_pos hk3])
    have x0 := HX3.out.cell 0 (.int .i64 3) (by rw [← hk3]; rfl)
    have x1 := HX3.out.cell 1 (.string c.fam) rfl
    have x2 := HX3.out.cell 2 (.string c.qual) rfl
    have x3 := HX3.out.cell 3 (.int .i64 c.typ) rfl
    have x4 := HX3.out.cell 4 (.int .i64 c.group) rfl
    have x5 := HX3.out.cell 5 (.int .i64 c.versions) rfl
    have x6 := HX3.out.cell 6 (.int .i64 c.life) rfl
    have Cc0 := Lib.hid (fun W => c_dwithin c.typ 1 5 W)
    generalize hb0 : within c.typ 1 5 = b0 at Cc0 HRk
    go_wp2_with fail
    refine (Cc0.out _).mono ?_
    rintro e v4 ⟨rfl, hb⟩
    have HX4 := Lib.hid (HX3.out.next hb)
    clear hb x0 x1 x2 x3 x4 x5 x6
    obtain ⟨x0, x1, x2, x3, x4, x5, x6⟩ := HX4.out.c7
    go_wp2
    go_ret
    exact ⟨by rw [HRk.out]; first | done | rfl, HX4.out.bel⟩
  by_cases hk5 : c.kind = 5
  case pos =>
    have HRk := Lib.hid (show r = within c.group 0 2 by rw [HR.out]; unfold restOk; rw [if_neg hk1, if_neg hk3, if_pos hk5])
    have x0 := HX3.out.cell 0 (.int .i64 5) (by rw [← hk5]; rfl)
    have x1 := HX3.out.cell 1 (.string c.fam) rfl
    have x2 := HX3.out.cell 2 (.string c.qual) rfl
    have x3 := HX3.out.cell 3 (.int .i64 c.typ) rfl
    have x4 := HX3.out.cell 4 (.int .i64 c.group) rfl
    have x5 := HX3.out.cell 5 (.int .i64 c.versions) rfl
    have x6 := HX3.out.cell 6 (.int .i64 c.life) rfl
    have Cc0 := Lib.hid (fun W => c_dwithin c.group 0 2 W)
    generalize hb0 : within c.group 0 2 = b0 at Cc0 HRk
    go_wp2_with fail
    refine (Cc0.out _).mono ?_
    rintro e v4 ⟨rfl, hb⟩
    have HX4 := Lib.hid (HX3.out.next hb)
    clear hb x0 x1 x2 x3 x4 x5 x6
    obtain ⟨x0, x1, x2, x3, x4, x5, x6⟩ := HX4.out.c7
    go_wp2
    go_ret
    exact ⟨by rw [HRk.out]; first | done | rfl, HX4.out.bel⟩
  have HRk := Lib.hid (show r = true by rw [HR.out]; unfold restOk; rw [if_neg hk1, if_neg hk3, if_neg hk5])
  obtain ⟨x0, x1, x2, x3, x4, x5, x6⟩ := HX3.out.c7
  go_wp2
  go_ret
  exact ⟨by rw [HRk.out]; first | done | rfl, HX3.out.bel⟩
end Go.Proofs.YtkogcobcjoojnaaGreatDoor.Fl

namespace Go.Proofs.YtkogcobcjoojnaaGreatDoor.Fl
open Go.RowKit Go.Maps
set_option linter.unusedVariables false
set_option linter.unusedSimpArgs false
theorem hasM_nil (w : World) : HasM w (.slice none 0 0) [] := ⟨none, 0, rfl, fun j m h => by simp at h⟩
theorem hasS_nil (w : World) : HasS w (.slice none 0 0) [] := ⟨none, 0, rfl, fun j h => by simp at h⟩
set_option maxRecDepth 100000 in
set_option maxHeartbeats 8000000 in
theorem c_Told {w : World} (hg : Gv w) (a : Option Addr) (c : Nat) (fa : Option Addr) (fc : Nat) (ev : EvE) (h : QW w a c fa fc ev.req) :
    Calls Tryz.prog 10 #[.agg (ecells (.slice a ev.req.muts.length c) (.slice fa ev.req.fil.fams.length fc) ev)] w fun e w' => e = .returned (.bool (told ev)) ∧ Below w.heap.size w w' := by
  have HI := Lib.hid (told_iff ev)
  generalize told ev = r at HI ⊢
  have HX0 := Lib.hid ((Bx.start w (ecells (.slice a ev.req.muts.length c) (.slice fa ev.req.fil.fams.length fc) ev) 39).next (Below.refl _ _).drew)
  have szE := szE
  have HQW := Lib.hid h
  have HG := Lib.hid hg
  have hSA : ∀ X, Bx w (ecells (.slice a ev.req.muts.length c) (.slice fa ev.req.fil.fams.length fc) ev) 39 X → Bk w.heap.size (ecells (.slice a ev.req.muts.length c) (.slice fa ev.req.fil.fams.length fc) ev) 39 X := fun X h => h.box
  clear h hg
  by_cases hk1 : ev.kind < 1
  case pos =>
    go_enter Tryz.func10, Tryz.ntmps10
    go_wp2_with fail
    refine wp_region_held_drew (S := fun X => Bx w (ecells (.slice a ev.req.muts.length c) (.slice fa ev.req.fil.fams.length fc) ev) 39 X) (by kernel_rfl) HX0.out (fun hHeld => ?_)
    refine tk 0 (v := ?v_1001) ?y1001 ?_; (case y1001 => (refine Or.inl ⟨by rfl, ?_⟩; intro w hSw; have x0 := hSw.cell 0 (.int .i64 ev.kind) rfl; go_simp; first | done | with_reducible rfl)); (try simp only [Act.put, List.setIfInBounds_toArray, List.set_cons_zero, List.set_cons_succ])
    refine tk 1 (v := ?v_1002) ?y1002 ?_; (case y1002 => (refine Or.inl ⟨by rfl, ?_⟩; intro w hSw; have x0 := hSw.cell 0 (.int .i64 ev.kind) rfl; go_simp; first | done | with_reducible rfl)); (try simp only [Act.put, List.setIfInBounds_toArray, List.set_cons_zero, List.set_cons_succ])
    refine tk 2 (v := ?v_1003) ?y1003 ?_; (case y1003 => (refine Or.inl ⟨by rfl, ?_⟩; intro w hSw; go_simp; first | done | with_reducible rfl)); (try simp only [Act.put, List.setIfInBounds_toArray, List.set_cons_zero, List.set_cons_succ])
    refine tk 3 (v := ?v_1004) ?y1004 ?_; (case y1004 => (refine Or.inl ⟨by rfl, ?_⟩; intro w hSw; go_simp; first | done | with_reducible rfl)); (try simp only [Act.put, List.setIfInBounds_toArray, List.set_cons_zero, List.set_cons_succ])
    refine tk 4 (v := undef) ?y1005 ?_; (case y1005 => exact Or.inr ⟨by rfl, rfl⟩); (try simp only [Act.put, List.setIfInBounds_toArray, List.set_cons_zero, List.set_cons_succ])
    refine tk 5 (v := undef) ?y1006 ?_; (case y1006 => exact Or.inr ⟨by rfl, rfl⟩); (try simp only [Act.put, List.setIfInBounds_toArray, List.set_cons_zero, List.set_cons_succ])
    refine tk 6 (v := undef) ?y1007 ?_; (case y1007 => exact Or.inr ⟨by rfl, rfl⟩); (try simp only [Act.put, List.setIfInBounds_toArray, List.set_cons_zero, List.set_cons_succ])
    refine tk 7 (v := ?v_1008) ?y1008 ?_; (case y1008 => (refine Or.inl ⟨by rfl, ?_⟩; intro w hSw; go_simp; first | done | with_reducible rfl)); (try simp only [Act.put, List.setIfInBounds_toArray, List.set_cons_zero, List.set_cons_succ])
    refine tk 8 (v := ?v_1009) ?y1009 ?_; (case y1009 => (refine Or.inl ⟨by rfl, ?_⟩; intro w hSw; go_simp; first | done | with_reducible rfl)); (try simp only [Act.put, List.setIfInBounds_toArray, List.set_cons_zero, List.set_cons_succ])
    refine tk 9 (v := undef) ?y1010 ?_; (case y1010 => exact Or.inr ⟨by rfl, rfl⟩); (try simp only [Act.put, List.setIfInBounds_toArray, List.set_cons_zero, List.set_cons_succ])
    refine tk 10 (v := undef) ?y1011 ?_; (case y1011 => exact Or.inr ⟨by rfl, rfl⟩); (try simp only [Act.put, List.setIfInBounds_toArray, List.set_cons_zero, List.set_cons_succ])
    refine tk 11 (v := undef) ?y1012 ?_; (case y1012 => exact Or.inr ⟨by rfl, rfl⟩); (try simp only [Act.put, List.setIfInBounds_toArray, List.set_cons_zero, List.set_cons_succ])
    refine tk 12 (v := undef) ?y1013 ?_; (case y1013 => exact Or.inr ⟨by rfl, rfl⟩); (try simp only [Act.put, List.setIfInBounds_toArray, List.set_cons_zero, List.set_cons_succ])
    refine tk 13 (v := undef) ?y1014 ?_; (case y1014 => exact Or.inr ⟨by rfl, rfl⟩); (try simp only [Act.put, List.setIfInBounds_toArray, List.set_cons_zero, List.set_cons_succ])
    refine tk 14 (v := ?v_1015) ?y1015 ?_; (case y1015 => (refine Or.inl ⟨by rfl, ?_⟩; intro w hSw; go_simp; first | done | with_reducible rfl)); (try simp only [Act.put, List.setIfInBounds_toArray, List.set_cons_zero, List.set_cons_succ])
    refine wpAnyH_done (by kernel_rfl) ?_ _
    go_wp2
    go_ret
    exact ⟨by rw [show r = false from Bool.eq_false_iff.2 (fun h => absurd (HI.out.1 h).1.1 (by have := hk1; omega))]; first | done | rfl, HX0.out.bel⟩
  have d1 : decide (ev.kind < 1) = false := decide_eq_false hk1
  by_cases hk2 : ev.kind > 13
  case pos =>
    go_enter Tryz.func10, Tryz.ntmps10
    go_wp2_with fail
    refine wp_region_held_drew (S := fun X => Bx w (ecells (.slice a ev.req.muts.length c) (.slice fa ev.req.fil.fams.length fc) ev) 39 X) (by kernel_rfl) HX0.out (fun hHeld => ?_)
    refine tk 0 (v := ?v_2016) ?y2016 ?_; (case y2016 => (refine Or.inl ⟨by rfl, ?_⟩; intro w hSw; have x0 := hSw.cell 0 (.int .i64 ev.kind) rfl; go_simp; first | done | with_reducible rfl)); (try simp only [Act.put, List.setIfInBounds_toArray, List.set_cons_zero, List.set_cons_succ])
    refine tk 1 (v := ?v_2017) ?y2017 ?_; (case y2017 => (refine Or.inl ⟨by rfl, ?_⟩; intro w hSw; have x0 := hSw.cell 0 (.int .i64 ev.kind) rfl; go_simp; first | done | with_reducible rfl)); (try simp only [Act.put, List.setIfInBounds_toArray, List.set_cons_zero, List.set_cons_succ])
    refine tk 2 (v := ?v_2018) ?y2018 ?_; (case y2018 => (refine Or.inl ⟨by rfl, ?_⟩; intro w hSw; go_simp; first | done | with_reducible rfl)); (try simp only [Act.put, List.setIfInBounds_toArray, List.set_cons_zero, List.set_cons_succ])
    refine tk 3 (v := ?v_2019) ?y2019 ?_; (case y2019 => (refine Or.inl ⟨by rfl, ?_⟩; intro w hSw; go_simp; first | done | with_reducible rfl)); (try simp only [Act.put, List.setIfInBounds_toArray, List.set_cons_zero, List.set_cons_succ])
    refine tk 4 (v := ?v_2020) ?y2020 ?_; (case y2020 => (refine Or.inl ⟨by rfl, ?_⟩; intro w hSw; have x0 := hSw.cell 0 (.int .i64 ev.kind) rfl; go_simp; first | done | with_reducible rfl)); (try simp only [Act.put, List.setIfInBounds_toArray, List.set_cons_zero, List.set_cons_succ])
    refine tk 5 (v := ?v_2021) ?y2021 ?_; (case y2021 => (refine Or.inl ⟨by rfl, ?_⟩; intro w hSw; have x0 := hSw.cell 0 (.int .i64 ev.kind) rfl; go_simp; first | done | with_reducible rfl)); (try simp only [Act.put, List.setIfInBounds_toArray, List.set_cons_zero, List.set_cons_succ])
    refine tk 6 (v := ?v_2022) ?y2022 ?_; (case y2022 => (refine Or.inl ⟨by rfl, ?_⟩; intro w hSw; go_simp; first | done | with_reducible rfl)); (try simp only [Act.put, List.setIfInBounds_toArray, List.set_cons_zero, List.set_cons_succ])
    refine tk 7 (v := ?v_2023) ?y2023 ?_; (case y2023 => (refine Or.inl ⟨by rfl, ?_⟩; intro w hSw; go_simp; first | done | with_reducible rfl)); (try simp only [Act.put, List.setIfInBounds_toArray, List.set_cons_zero, List.set_cons_succ])
    refine tk 8 (v := ?v_2024) ?y2024 ?_; (case y2024 => (refine Or.inl ⟨by rfl, ?_⟩; intro w hSw; go_simp; first | done | with_reducible rfl)); (try simp only [Act.put, List.setIfInBounds_toArray, List.set_cons_zero, List.set_cons_succ])
    refine tk 9 (v := undef) ?y2025 ?_; (case y2025 => exact Or.inr ⟨by rfl, rfl⟩); (try simp only [Act.put, List.setIfInBounds_toArray, List.set_cons_zero, List.set_cons_succ])
    refine tk 10 (v := undef) ?y2026 ?_; (case y2026 => exact Or.inr ⟨by rfl, rfl⟩); (try simp only [Act.put, List.setIfInBounds_toArray, List.set_cons_zero, List.set_cons_succ])
    refine tk 11 (v := undef) ?y2027 ?_; (case y2027 => exact Or.inr ⟨by rfl, rfl⟩); (try simp only [Act.put, List.setIfInBounds_toArray, List.set_cons_zero, List.set_cons_succ])
    refine tk 12 (v := undef) ?y2028 ?_; (case y2028 => exact Or.inr ⟨by rfl, rfl⟩); (try simp only [Act.put, List.setIfInBounds_toArray, List.set_cons_zero, List.set_cons_succ])
    refine tk 13 (v := undef) ?y2029 ?_; (case y2029 => exact Or.inr ⟨by rfl, rfl⟩); (try simp only [Act.put, List.setIfInBounds_toArray, List.set_cons_zero, List.set_cons_succ])
    refine tk 14 (v := ?v_2030) ?y2030 ?_; (case y2030 => (refine Or.inl ⟨by rfl, ?_⟩; intro w hSw; go_simp; first | done | with_reducible rfl)); (try simp only [Act.put, List.setIfInBounds_toArray, List.set_cons_zero, List.set_cons_succ])
    refine wpAnyH_done (by kernel_rfl) ?_ _
    go_wp2
    go_ret
    exact ⟨by rw [show r = false from Bool.eq_false_iff.2 (fun h => absurd (HI.out.1 h).1.2 (by have := hk2; omega))]; first | done | rfl, HX0.out.bel⟩
  have d2 : decide (13 < ev.kind) = false := decide_eq_false hk2
  have HK := Lib.hid (show 1 ≤ ev.kind ∧ ev.kind ≤ 13 by omega)
  obtain ⟨TC, hTC⟩ : ∃ x, ecells (if ev.kind = 1 then (.slice a ev.req.muts.length c) else nilV) (if ev.kind = 1 then (.slice fa ev.req.fil.fams.length fc) else nilV) (toldE ev) = x := ⟨_, rfl⟩
  have CT := Lib.hid (show ∀ W, Calls Tryz.prog 23 #[.agg (ecells (.slice a ev.req.muts.length c) (.slice fa ev.req.fil.fams.length fc) ev)] W fun e w' => e = .returned (.agg TC) ∧ Below W.heap.size W w' from fun W => by rw [← hTC]; exact c_told a ev.req.muts.length c fa ev.req.fil.fams.length fc ev HK.out)
  obtain ⟨q0, hq0⟩ : ∃ q0 : Bool, q0 = true ↔ toldE ev = ev := by
    by_cases h : toldE ev = ev
    · exact ⟨true, by simp [h]⟩
    · exact ⟨false, by simp [h]⟩
  have CS := Lib.hid (show ∀ W, Below w.heap.size w W → Calls Tryz.prog 22 #[.agg TC, .agg (ecells (.slice a ev.req.muts.length c) (.slice fa ev.req.fil.fams.length fc) ev)] W fun e w' => e = .returned (.bool q0) ∧ Below W.heap.size W w' from fun W hW => by
    have hw := HQW.out.keep hW
    rw [← hTC]
    by_cases h1 : ev.kind = 1
    · have hr : (toldE ev).req = ev.req := by unfold toldE; rw [if_pos h1]
      rw [if_pos h1, if_pos h1]
      exact c_esame a ev.req.muts.length c fa ev.req.fil.fams.length fc a ev.req.muts.length c fa ev.req.fil.fams.length fc (toldE ev) ev (by rw [hr]; exact hw.m) hw.m (by rw [hr]; exact hw.f) hw.f (by rw [hr]; exact hw.ml) hw.ml (by rw [hr]; exact hw.fl) hw.fl q0 hq0
    · have hr : (toldE ev).req = noReq := by unfold toldE; rw [if_neg h1]
      rw [if_neg h1, if_neg h1]
      exact c_esame none 0 0 none 0 0 a ev.req.muts.length c fa ev.req.fil.fams.length fc (toldE ev) ev (by rw [hr]; exact hasM_nil W) hw.m (by rw [hr]; exact hasS_nil W) hw.f (by rw [hr]; exact Nat.zero_le _) hw.ml (by rw [hr]; exact Nat.zero_le _) hw.fl q0 hq0)
  clear hTC
  by_cases hd : toldE ev = ev
  case neg =>
    have HD := Lib.hid hd
    obtain rfl : q0 = false := Bool.eq_false_iff.2 (fun h => hd (hq0.1 h))
    clear hd hq0
    go_enter Tryz.func10, Tryz.ntmps10
    go_wp2_with fail
    refine wp_region_held_drew (S := fun X => Bx w (ecells (.slice a ev.req.muts.length c) (.slice fa ev.req.fil.fams.length fc) ev) 39 X) (by kernel_rfl) HX0.out (fun hHeld => ?_)
    refine tk 0 (v := ?v_3031) ?y3031 ?_; (case y3031 => (refine Or.inl ⟨by rfl, ?_⟩; intro w hSw; have x0 := hSw.cell 0 (.int .i64 ev.kind) rfl; go_simp; first | done | with_reducible rfl)); (try simp only [Act.put, List.setIfInBounds_toArray, List.set_cons_zero, List.set_cons_succ])
    refine tk 1 (v := ?v_3032) ?y3032 ?_; (case y3032 => (refine Or.inl ⟨by rfl, ?_⟩; intro w hSw; have x0 := hSw.cell 0 (.int .i64 ev.kind) rfl; go_simp; first | done | with_reducible rfl)); (try simp only [Act.put, List.setIfInBounds_toArray, List.set_cons_zero, List.set_cons_succ])
    refine tk 2 (v := ?v_3033) ?y3033 ?_; (case y3033 => (refine Or.inl ⟨by rfl, ?_⟩; intro w hSw; go_simp; first | done | with_reducible rfl)); (try simp only [Act.put, List.setIfInBounds_toArray, List.set_cons_zero, List.set_cons_succ])
    refine tk 3 (v := ?v_3034) ?y3034 ?_; (case y3034 => (refine Or.inl ⟨by rfl, ?_⟩; intro w hSw; go_simp; first | done | with_reducible rfl)); (try simp only [Act.put, List.setIfInBounds_toArray, List.set_cons_zero, List.set_cons_succ])
    refine tk 4 (v := ?v_3035) ?y3035 ?_; (case y3035 => (refine Or.inl ⟨by rfl, ?_⟩; intro w hSw; have x0 := hSw.cell 0 (.int .i64 ev.kind) rfl; go_simp; first | done | with_reducible rfl)); (try simp only [Act.put, List.setIfInBounds_toArray, List.set_cons_zero, List.set_cons_succ])
    refine tk 5 (v := ?v_3036) ?y3036 ?_; (case y3036 => (refine Or.inl ⟨by rfl, ?_⟩; intro w hSw; have x0 := hSw.cell 0 (.int .i64 ev.kind) rfl; go_simp; first | done | with_reducible rfl)); (try simp only [Act.put, List.setIfInBounds_toArray, List.set_cons_zero, List.set_cons_succ])
    refine tk 6 (v := ?v_3037) ?y3037 ?_; (case y3037 => (refine Or.inl ⟨by rfl, ?_⟩; intro w hSw; go_simp; first | done | with_reducible rfl)); (try simp only [Act.put, List.setIfInBounds_toArray, List.set_cons_zero, List.set_cons_succ])
    refine tk 7 (v := ?v_3038) ?y3038 ?_; (case y3038 => (refine Or.inl ⟨by rfl, ?_⟩; intro w hSw; go_simp; first | done | with_reducible rfl)); (try simp only [Act.put, List.setIfInBounds_toArray, List.set_cons_zero, List.set_cons_succ])
    refine tk 8 (v := ?v_3039) ?y3039 ?_; (case y3039 => (refine Or.inl ⟨by rfl, ?_⟩; intro w hSw; go_simp; first | done | with_reducible rfl)); (try simp only [Act.put, List.setIfInBounds_toArray, List.set_cons_zero, List.set_cons_succ])
    refine tk 9 (v := .agg (ecells (.slice a ev.req.muts.length c) (.slice fa ev.req.fil.fams.length fc) ev)) ?y3040 ?_; (case y3040 => exact yl_all (by rfl) 39 _ rfl w.heap.size rfl 39 (ecells (.slice a ev.req.muts.length c) (.slice fa ev.req.fil.fams.length fc) ev) hSA 33 szE (nE _ _ _) ruE); (try simp only [Act.put, List.setIfInBounds_toArray, List.set_cons_zero, List.set_cons_succ])
    refine tk 11 (v := .agg (ecells (.slice a ev.req.muts.length c) (.slice fa ev.req.fil.fams.length fc) ev)) ?y3041 ?_; (case y3041 => exact yl_all (by rfl) 39 _ rfl w.heap.size rfl 39 (ecells (.slice a ev.req.muts.length c) (.slice fa ev.req.fil.fams.length fc) ev) hSA 33 szE (nE _ _ _) ruE); (try simp only [Act.put, List.setIfInBounds_toArray, List.set_cons_zero, List.set_cons_succ])
    refine wpAnyH_ready (rs := [10]) (by kernel_rfl) (by simp) ?_; refine AllReadyH.cons (o := ?o_3042) ?hi_3042 (fun K hK => ?_) AllReadyH.nil; (case hi_3042 => (simp only [List.getElem?_toArray, List.getElem?_cons_zero, List.getElem?_cons_succ]; rfl)); go_simp; (go_at_call 23; (refine (CT.out _).mono ?_; rintro e w1 ⟨rfl, hb⟩; have HX1 := Lib.hid (HX0.out.next hb); clear hb)); refine hK.out _ _ ?_ (fun hHeld => ?_); (· exact HX1.out); clear hK K; (try simp only [Act.put, List.setIfInBounds_toArray, List.set_cons_zero, List.set_cons_succ])
    refine wpAnyH_ready (rs := [12]) (by kernel_rfl) (by simp) ?_; refine AllReadyH.cons (o := ?o_3043) ?hi_3043 (fun K hK => ?_) AllReadyH.nil; (case hi_3043 => (simp only [List.getElem?_toArray, List.getElem?_cons_zero, List.getElem?_cons_succ]; rfl)); go_simp; (go_at_call 22; (refine (CS.out _ HX1.out.bel).mono ?_; rintro e w2 ⟨rfl, hb⟩; have HX2 := Lib.hid (HX1.out.next hb); clear hb)); refine hK.out _ _ ?_ (fun hHeld => ?_); (· exact HX2.out); clear hK K; (try simp only [Act.put, List.setIfInBounds_toArray, List.set_cons_zero, List.set_cons_succ])
    refine tk 13 (v := ?v_3044) ?y3044 ?_; (case y3044 => (refine Or.inl ⟨by rfl, ?_⟩; intro w hSw; go_simp; first | done | with_reducible rfl)); (try simp only [Act.put, List.setIfInBounds_toArray, List.set_cons_zero, List.set_cons_succ])
    refine tk 14 (v := ?v_3045) ?y3045 ?_; (case y3045 => (refine Or.inl ⟨by rfl, ?_⟩; intro w hSw; go_simp; first | done | with_reducible rfl)); (try simp only [Act.put, List.setIfInBounds_toArray, List.set_cons_zero, List.set_cons_succ])
    refine wpAnyH_done (by kernel_rfl) ?_ _
    go_wp2
    go_ret
    exact ⟨by rw [show r = false from Bool.eq_false_iff.2 (fun h => HD.out (HI.out.1 h).2.1)]; first | done | rfl, HX2.out.bel⟩
  have HD := Lib.hid hd
  obtain rfl : q0 = true := hq0.2 hd
  clear hd hq0
  go_enter Tryz.func10, Tryz.ntmps10
  go_wp2_with fail
  refine wp_region_held_drew (S := fun X => Bx w (ecells (.slice a ev.req.muts.length c) (.slice fa ev.req.fil.fams.length fc) ev) 39 X) (by kernel_rfl) HX0.out (fun hHeld => ?_)
  refine tk 0 (v := ?v_4046) ?y4046 ?_; (case y4046 => (refine Or.inl ⟨by rfl, ?_⟩; intro w hSw; have x0 := hSw.cell 0 (.int .i64 ev.kind) rfl; go_simp; first | done | with_reducible rfl)); (try simp only [Act.put, List.setIfInBounds_toArray, List.set_cons_zero, List.set_cons_succ])
  refine tk 1 (v := ?v_4047) ?y4047 ?_; (case y4047 => (refine Or.inl ⟨by rfl, ?_⟩; intro w hSw; have x0 := hSw.cell 0 (.int .i64 ev.kind) rfl; go_simp; first | done | with_reducible rfl)); (try simp only [Act.put, List.setIfInBounds_toArray, List.set_cons_zero, List.set_cons_succ])
  refine tk 2 (v := ?v_4048) ?y4048 ?_; (case y4048 => (refine Or.inl ⟨by rfl, ?_⟩; intro w hSw; go_simp; first | done | with_reducible rfl)); (try simp only [Act.put, List.setIfInBounds_toArray, List.set_cons_zero, List.set_cons_succ])
  refine tk 3 (v := ?v_4049) ?y4049 ?_; (case y4049 => (refine Or.inl ⟨by rfl, ?_⟩; intro w hSw; go_simp; first | done | with_reducible rfl)); (try simp only [Act.put, List.setIfInBounds_toArray, List.set_cons_zero, List.set_cons_succ])
  refine tk 4 (v := ?v_4050) ?y4050 ?_; (case y4050 => (refine Or.inl ⟨by rfl, ?_⟩; intro w hSw; have x0 := hSw.cell 0 (.int .i64 ev.kind) rfl; go_simp; first | done | with_reducible rfl)); (try simp only [Act.put, List.setIfInBounds_toArray, List.set_cons_zero, List.set_cons_succ])
  refine tk 5 (v := ?v_4051) ?y4051 ?_; (case y4051 => (refine Or.inl ⟨by rfl, ?_⟩; intro w hSw; have x0 := hSw.cell 0 (.int .i64 ev.kind) rfl; go_simp; first | done | with_reducible rfl)); (try simp only [Act.put, List.setIfInBounds_toArray, List.set_cons_zero, List.set_cons_succ])
  refine tk 6 (v := ?v_4052) ?y4052 ?_; (case y4052 => (refine Or.inl ⟨by rfl, ?_⟩; intro w hSw; go_simp; first | done | with_reducible rfl)); (try simp only [Act.put, List.setIfInBounds_toArray, List.set_cons_zero, List.set_cons_succ])
  refine tk 7 (v := ?v_4053) ?y4053 ?_; (case y4053 => (refine Or.inl ⟨by rfl, ?_⟩; intro w hSw; go_simp; first | done | with_reducible rfl)); (try simp only [Act.put, List.setIfInBounds_toArray, List.set_cons_zero, List.set_cons_succ])
  refine tk 8 (v := ?v_4054) ?y4054 ?_; (case y4054 => (refine Or.inl ⟨by rfl, ?_⟩; intro w hSw; go_simp; first | done | with_reducible rfl)); (try simp only [Act.put, List.setIfInBounds_toArray, List.set_cons_zero, List.set_cons_succ])
  refine tk 9 (v := .agg (ecells (.slice a ev.req.muts.length c) (.slice fa ev.req.fil.fams.length fc) ev)) ?y4055 ?_; (case y4055 => exact yl_all (by rfl) 39 _ rfl w.heap.size rfl 39 (ecells (.slice a ev.req.muts.length c) (.slice fa ev.req.fil.fams.length fc) ev) hSA 33 szE (nE _ _ _) ruE); (try simp only [Act.put, List.setIfInBounds_toArray, List.set_cons_zero, List.set_cons_succ])
  refine tk 11 (v := .agg (ecells (.slice a ev.req.muts.length c) (.slice fa ev.req.fil.fams.length fc) ev)) ?y4056 ?_; (case y4056 => exact yl_all (by rfl) 39 _ rfl w.heap.size rfl 39 (ecells (.slice a ev.req.muts.length c) (.slice fa ev.req.fil.fams.length fc) ev) hSA 33 szE (nE _ _ _) ruE); (try simp only [Act.put, List.setIfInBounds_toArray, List.set_cons_zero, List.set_cons_succ])
  refine wpAnyH_ready (rs := [10]) (by kernel_rfl) (by simp) ?_; refine AllReadyH.cons (o := ?o_4057) ?hi_4057 (fun K hK => ?_) AllReadyH.nil; (case hi_4057 => (simp only [List.getElem?_toArray, List.getElem?_cons_zero, List.getElem?_cons_succ]; rfl)); go_simp; (go_at_call 23; (refine (CT.out _).mono ?_; rintro e w1 ⟨rfl, hb⟩; have HX1 := Lib.hid (HX0.out.next hb); clear hb)); refine hK.out _ _ ?_ (fun hHeld => ?_); (· exact HX1.out); clear hK K; (try simp only [Act.put, List.setIfInBounds_toArray, List.set_cons_zero, List.set_cons_succ])
  refine wpAnyH_ready (rs := [12]) (by kernel_rfl) (by simp) ?_; refine AllReadyH.cons (o := ?o_4058) ?hi_4058 (fun K hK => ?_) AllReadyH.nil; (case hi_4058 => (simp only [List.getElem?_toArray, List.getElem?_cons_zero, List.getElem?_cons_succ]; rfl)); go_simp; (go_at_call 22; (refine (CS.out _ HX1.out.bel).mono ?_; rintro e w2 ⟨rfl, hb⟩; have HX2 := Lib.hid (HX1.out.next hb); clear hb)); refine hK.out _ _ ?_ (fun hHeld => ?_); (· exact HX2.out); clear hK K; (try simp only [Act.put, List.setIfInBounds_toArray, List.set_cons_zero, List.set_cons_succ])
  refine tk 13 (v := ?v_4059) ?y4059 ?_; (case y4059 => (refine Or.inl ⟨by rfl, ?_⟩; intro w hSw; go_simp; first | done | with_reducible rfl)); (try simp only [Act.put, List.setIfInBounds_toArray, List.set_cons_zero, List.set_cons_succ])
  refine tk 14 (v := ?v_4060) ?y4060 ?_; (case y4060 => (refine Or.inl ⟨by rfl, ?_⟩; intro w hSw; go_simp; first | done | with_reducible rfl)); (try simp only [Act.put, List.setIfInBounds_toArray, List.set_cons_zero, List.set_cons_succ])
  refine wpAnyH_done (by kernel_rfl) ?_ _
  have x0 := HX2.out.cell 0 (.int .i64 ev.kind) rfl
  go_wp2_with fail
  refine (c_fields _ ev.kind HK.out _ x0).mono ?_
  rintro e w4 ⟨v4, rfl, rfl, hr4, hb4⟩
  have HX4 := Lib.hid (HX2.out.next hb4)
  have hG4 : Bk w2.heap.size _ _ w4 := hr4
  have HG4 := Lib.hid hG4
  clear hr4 hb4 x0 hG4
  generalize w2.heap.size = gb at HG4
  have hL := fields_len ev.kind
  obtain ⟨L, hLd⟩ : ∃ L, (fieldsC ev.kind).length = L := ⟨_, rfl⟩
  rw [hLd] at hL ⊢
  have HLd := Lib.hid hLd
  have HLd2 := Lib.hid (show (fieldsK ev.kind).length = L by rw [← hLd]; unfold fieldsC; rw [List.length_map])
  clear hLd
  go_wp2
  go_loopw [22] (fun v22 W => ∃ i : Nat, i ≤ L ∧ v22 = .int .i64 i ∧ Hid (Bx w (ecells (.slice a ev.req.muts.length c) (.slice fa ev.req.fil.fams.length fc) ev) 39 W) ∧ Hid (Bk gb (ptrs w.heap.size (fieldsC ev.kind)).toArray 70 W) ∧ Hid (((fieldsK ev.kind).take i).all (fun j => within (ev.nums.getD j 0) 0 1099511627776) = true)) (fun v22 _ => L - (intOf v22).toNat)
  case atStart => exact ⟨0, by omega, rfl, HX4, HG4, Lib.hid (by simp)⟩
  case round =>
    obtain ⟨i, hi2, rfl, HX, HGp, HAll⟩ := hrel
    clear HX4 HG4
    by_cases hlt : i < L
    · have t1 : decide ((i : Int) < (L : Int)) = true := decide_eq_true (by omega)
      have hk0 : (0 : Int) ≤ (i : Int) := by omega
      have hk1' : (i : Int) < (L : Int) := by omega
      have hi3 : i < (fieldsC ev.kind).length := by rw [HLd.out]; exact hlt
      have hoi := List.getElem?_eq_getElem hi3
      obtain ⟨jj, hjj, hoj, hj8⟩ := fields_at hoi
      have y0 := HGp.out.cell i (.pointer (some ⟨w.heap.size, jj + 1, none⟩)) (by simp only [ptrs, List.getElem?_toArray, List.getElem?_map, hoi, hoj]; rfl)
      have y1 : wr.cell? ⟨gb, 0 + i, none⟩ = some (.pointer (some ⟨w.heap.size, jj + 1, none⟩)) := by rw [Nat.zero_add]; exact y0
      have x0 := HX.out.cell (jj + 1) _ (nums_cell (.slice a ev.req.muts.length c) (.slice fa ev.req.fil.fams.length fc) ev hj8)
      have HTK := Lib.hid (show ((fieldsK ev.kind).take (i + 1)).all (fun j => within (ev.nums.getD j 0) 0 1099511627776) = (((fieldsK ev.kind).take i).all (fun j => within (ev.nums.getD j 0) 0 1099511627776) && within (ev.nums.getD jj 0) 0 1099511627776) by
        obtain ⟨hli, hle⟩ := List.getElem?_eq_some_iff.1 hjj
        rw [List.take_succ_eq_append_getElem hli, List.all_append, hle]
        simp)
      have HMEM := Lib.hid (List.mem_of_getElem? hjj)
      generalize hn : ev.nums.getD jj 0 = n at x0 HTK
      have HNN := Lib.hid hn
      clear hoi hjj hoj hj8 hn
      by_cases c1 : n < 0
      · have HBAD := Lib.hid (show ¬ rangeOk ev = true from fun h => by
          unfold rangeOk at h
          rw [List.all_eq_true] at h
          have := within_iff (h _ HMEM.out)
          rw [HNN.out] at this
          omega)
        go_wp2
        go_ret
        exact ⟨by rw [show r = false from Bool.eq_false_iff.2 (fun h => HBAD.out (HI.out.1 h).2.2.1)]; first | done | rfl, HX.out.bel⟩
      by_cases c2 : n > 1099511627776
      · have HBAD := Lib.hid (show ¬ rangeOk ev = true from fun h => by
          unfold rangeOk at h
          rw [List.all_eq_true] at h
          have := within_iff (h _ HMEM.out)
          rw [HNN.out] at this
          omega)
        go_wp2
        go_ret
        exact ⟨by rw [show r = false from Bool.eq_false_iff.2 (fun h => HBAD.out (HI.out.1 h).2.2.1)]; first | done | rfl, HX.out.bel⟩
      have HWI := Lib.hid (show within n 0 1099511627776 = true by unfold within; simp; omega)
      go_wp2
      go_roundw
      case rel => exact ⟨i + 1, by omega, by go_num, HX, HGp, Lib.hid (by rw [HTK.out, HAll.out, HWI.out]; rfl)⟩
      case measure => simp [intOf]; omega
    · have t1 : decide ((i : Int) < (L : Int)) = false := decide_eq_false (by omega)
      have HRO := Lib.hid (show rangeOk ev = true by have := HAll.out; rw [List.take_of_length_le (by rw [HLd2.out]; omega)] at this; exact this)
      clear HGp HAll
      have HRR := Lib.hid (show r = true ↔ (if ev.kind = 1 then reqOk ev.req = true else if ev.kind = 2 then chgOk ev.chg = true else True) from ⟨fun h => (HI.out.1 h).2.2.2, fun h => HI.out.2 ⟨HK.out, HD.out, HRO.out, h⟩⟩)
      by_cases h1 : ev.kind = 1
      · have x0 := HX.out.cell 0 (.int .i64 1) (by rw [← h1]; rfl)
        have x10 := HX.out.cell 10 (.int .i64 ev.req.kind) rfl
        have x11 := HX.out.cell 11 (.string ev.req.row) rfl
        have x12 := HX.out.cell 12 (.string ev.req.stop) rfl
        have x13 := HX.out.cell 13 (.slice a ev.req.muts.length c) rfl
        have x14 := HX.out.cell 14 (.string ev.req.fam) rfl
        have x15 := HX.out.cell 15 (.string ev.req.qual) rfl
        have x16 := HX.out.cell 16 (.int .i64 ev.req.vk) rfl
        have x17 := HX.out.cell 17 (.int .i64 ev.req.vn) rfl
        have x18 := HX.out.cell 18 (.string ev.req.vs) rfl
        have x19 := HX.out.cell 19 (.slice fa ev.req.fil.fams.length fc) rfl
        have x20 := HX.out.cell 20 (.string ev.req.fil.lo) rfl
        have x21 := HX.out.cell 21 (.string ev.req.fil.hi) rfl
        have x22 := HX.out.cell 22 (.int .i64 ev.req.fil.since) rfl
        have x23 := HX.out.cell 23 (.int .i64 ev.req.fil.til) rfl
        have x24 := HX.out.cell 24 (.int .i64 ev.req.fil.versions) rfl
        have x25 := HX.out.cell 25 (.int .i64 ev.req.fil.rows) rfl
        have HRk := Lib.hid (show r = reqOk ev.req from Bool.eq_iff_iff.2 (by have := HRR.out; rw [if_pos h1] at this; exact this))
        have CQ := c_formed ev.req a c fa fc _ (HG.out.below HX.out.bel) (HQW.out.keep HX.out.bel)
        unfold qcells at CQ
        have CQ := Lib.hid CQ
        go_wp2_with fail
        refine CQ.out.mono ?_
        rintro e w9 ⟨rfl, hb9⟩
        have HX9 := Lib.hid (HX.out.next hb9)
        clear hb9 CQ x0 x10 x11 x12 x13 x14 x15 x16 x17 x18 x19 x20 x21 x22 x23 x24 x25
        go_wp2
        go_ret
        exact ⟨by rw [HRk.out]; first | done | rfl, HX9.out.bel⟩
      by_cases h2 : ev.kind = 2
      · have x0 := HX.out.cell 0 (.int .i64 2) (by rw [← h2]; rfl)
        have x26 := HX.out.cell 26 (.int .i64 ev.chg.kind) rfl
        have x27 := HX.out.cell 27 (.string ev.chg.fam) rfl
        have x28 := HX.out.cell 28 (.string ev.chg.qual) rfl
        have x29 := HX.out.cell 29 (.int .i64 ev.chg.typ) rfl
        have x30 := HX.out.cell 30 (.int .i64 ev.chg.group) rfl
        have x31 := HX.out.cell 31 (.int .i64 ev.chg.versions) rfl
        have x32 := HX.out.cell 32 (.int .i64 ev.chg.life) rfl
        have HRk := Lib.hid (show r = chgOk ev.chg from Bool.eq_iff_iff.2 (by have := HRR.out; rw [if_neg h1, if_pos h2] at this; exact this))
        have CQ := c_dformed ev.chg wr
        unfold ccells at CQ
        have CQ := Lib.hid CQ
        go_wp2_with fail
        refine CQ.out.mono ?_
        rintro e w9 ⟨rfl, hb9⟩
        have HX9 := Lib.hid (HX.out.next hb9)
        clear hb9 CQ x0 x26 x27 x28 x29 x30 x31 x32
        go_wp2
        go_ret
        exact ⟨by rw [HRk.out]; first | done | rfl, HX9.out.bel⟩
      have x0 := HX.out.cell 0 (.int .i64 ev.kind) rfl
      have HRk := Lib.hid (show r = true from HRR.out.2 (by rw [if_neg h1, if_neg h2]; trivial))
      have g1 : (ev.kind == 1) = false := by simpa using h1
      have g2 : (ev.kind == 2) = false := by simpa using h2
      go_wp2
      go_ret
      exact ⟨by rw [HRk.out]; first | done | rfl, HX.out.bel⟩
end Go.Proofs.YtkogcobcjoojnaaGreatDoor.Fl

namespace Go.Proofs.YtkogcobcjoojnaaGreatDoor.Fl
open Go.RowKit Go.Maps
set_option linter.unusedVariables false
set_option linter.unusedSimpArgs false
set_option maxRecDepth 100000 in
set_option maxHeartbeats 4000000 in
theorem c_Line {w : World} (hg : Gv w) (a : Option Addr) (c : Nat) (fa : Option Addr) (fc : Nat) (ev : EvE) (h : QW w a c fa fc ev.req) :
    Calls Tryz.prog 14 #[.agg (ecells (.slice a ev.req.muts.length c) (.slice fa ev.req.fil.fams.length fc) ev)] w fun e w' => e = .returned (.string (lineE ev)) ∧ Below w.heap.size w w' := by
  have HX0 := Lib.hid (Bx.start w (ecells (.slice a ev.req.muts.length c) (.slice fa ev.req.fil.fams.length fc) ev) 39)
  have szE := szE
  have HB0 := Lib.hid (show Bk w.heap.size (ecells (.slice a ev.req.muts.length c) (.slice fa ev.req.fil.fams.length fc) ev) 39 _ from HX0.out.box)
  have CT := Lib.hid (fun W (hb : Below w.heap.size w W) => c_Told (hg.below hb) a c fa fc ev (h.keep hb))
  cases ht : told ev with
  | false =>
    rw [ht] at CT
    have HL := Lib.hid (show lineE ev = ⟨#[]⟩ from if_neg (by rw [ht]; decide))
    clear ht h hg
    go_enter Tryz.func14, Tryz.ntmps14
    go_wp2_with (with_reducible show wpList _ _ _ ({ dst := _, op := Op.load 39 _, type := _, pos := _, after := _, guard := _ } :: _) _ _; refine wpList_load_all rfl 39 _ rfl w.heap.size rfl 39 (ecells (.slice a ev.req.muts.length c) (.slice fa ev.req.fil.fams.length fc) ev) HB0.out 33 szE (nE _ _ _) ruE ?_)
    refine (CT.out _ HX0.out.bel).mono ?_
    rintro e w1 ⟨rfl, hb⟩
    have HX1 := Lib.hid (HX0.out.next hb)
    clear hb
    go_wp2
    go_ret
    exact ⟨by rw [HL.out]; first | done | rfl, HX1.out.bel⟩
  | true =>
    rw [ht] at CT
    have CL := Lib.hid (fun W (hb : Below w.heap.size w W) => c_line (hg.below hb) (.slice a ev.req.muts.length c) (.slice fa ev.req.fil.fams.length fc) ev ht h.n (h.m.keep hb) (h.f.keep hb))
    generalize lineE ev = s at CL ⊢
    clear ht h hg
    go_enter Tryz.func14, Tryz.ntmps14
    go_wp2_with (with_reducible show wpList _ _ _ ({ dst := _, op := Op.load 39 _, type := _, pos := _, after := _, guard := _ } :: _) _ _; refine wpList_load_all rfl 39 _ rfl w.heap.size rfl 39 (ecells (.slice a ev.req.muts.length c) (.slice fa ev.req.fil.fams.length fc) ev) HB0.out 33 szE (nE _ _ _) ruE ?_)
    refine (CT.out _ HX0.out.bel).mono ?_
    rintro e w1 ⟨rfl, hb⟩
    have HX1 := Lib.hid (HX0.out.next hb)
    have HB1 := Lib.hid (show Bk w.heap.size (ecells (.slice a ev.req.muts.length c) (.slice fa ev.req.fil.fams.length fc) ev) 39 w1 from HX1.out.box)
    clear hb
    go_wp2_with (with_reducible show wpList _ _ _ ({ dst := _, op := Op.load 39 _, type := _, pos := _, after := _, guard := _ } :: _) _ _; refine wpList_load_all rfl 39 _ rfl w.heap.size rfl 39 (ecells (.slice a ev.req.muts.length c) (.slice fa ev.req.fil.fams.length fc) ev) HB1.out 33 szE (nE _ _ _) ruE ?_)
    refine (CL.out _ HX1.out.bel).mono ?_
    rintro e w2 ⟨rfl, hb⟩
    have HX2 := Lib.hid (HX1.out.next hb)
    clear hb
    go_wp2
    go_ret
    exact ⟨rfl, HX2.out.bel⟩
end Go.Proofs.YtkogcobcjoojnaaGreatDoor.Fl
