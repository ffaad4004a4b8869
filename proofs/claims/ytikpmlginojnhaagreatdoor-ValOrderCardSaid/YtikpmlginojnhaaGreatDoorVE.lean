/- Values out of bytes: taken, Decode. -/
import Derived.Test.YtikpmlginojnhaaGreatDoorVD
import Derived.Laws.ResultCell
namespace Go.Proofs.YtikpmlginojnhaaGreatDoor.Fl
open Go.RowKit Go.Maps
set_option linter.unusedVariables false
set_option linter.unusedSimpArgs false
theorem tk_bool_yes {x : Int} (h0 : 0 ≤ x ∧ x < 256) : TkIs 4 [x] x ⟨#[]⟩ (rightV 4 x ⟨#[]⟩) := by
  refine ⟨by unfold Wf; omega, fun h => ⟨h, rfl⟩, fun n' s' h1 h2 h3 => ?_⟩
  have h3 : [n'] = [x] := h3
  obtain rfl : n' = x := by simpa using h3
  rcases right_kinds h2 with ⟨e, b⟩ | ⟨e, b, b2⟩ | ⟨e, b, b2⟩ | ⟨e, e2, b⟩ | ⟨e, e2, b, b2⟩ <;> first | (exfalso; omega) | skip
  obtain rfl := size0 b
  exact ⟨h2, rfl, rfl⟩
theorem tk_bool_no {t : List Int} (h : ¬ t.length = 1) : TkIs 4 t 0 ⟨#[]⟩ false := by
  refine ⟨by unfold Wf; omega, (fun h => by cases h), fun n' s' h1 h2 h3 => ?_⟩
  have h3 : [n'] = t := h3
  rw [← h3] at h
  exact absurd rfl h
theorem ret_cell {fn : Func} {p u : Tmp} (h : fn.results = #[.cell p 23, .tmp u]) (tmps : Array Value) (w : World) (g : Nat) (k n : Int) (s : ByteArray) (b : Bool) (fr : Nat × Nat)
    (hp : tmps.getD p undef = .pointer (some ⟨g, 0, none⟩)) (hu : tmps.getD u undef = .bool b) (hg : w.heap[g]? = some (.cells #[.int .i64 k, .int .i64 n, .string s] 23 fr)) :
    (results fn tmps).run Tryz.prog w = .ok (.tuple #[vv k n s, .bool b]) w := by
  rw [results_cell_tmp h, hp, hu]
  have hl := run_loadVar_row (P := Tryz.prog) w g 23 23 _ fr _ hg Tryz.underlying23 rfl (by kernel_rfl)
  simp only [asAddr, Sem.run_pure, Result.andThen_ok, hl]
  rfl
/-- The two boxes. -/
structure Tk (w W : World) (a0 a1 a2 : Value) (k n : Int) (s : ByteArray) : Prop where
  z : W.heap[w.heap.size]? = some (.cells #[a0, a1, a2] 23 (0, 0))
  v : W.heap[w.heap.size + 1]? = some (.cells #[.int .i64 k, .int .i64 n, .string s] 23 (0, 0))
  bel : Below w.heap.size w W
theorem Tk.below {w W W' : World} {a0 a1 a2 : Value} {k n : Int} {s : ByteArray} (h : Tk w W a0 a1 a2 k n s) (hb : Below W.heap.size W W') : Tk w W' a0 a1 a2 k n s :=
  ⟨(hb.block _ (lt_block h.z)).trans h.z, (hb.block _ (lt_block h.v)).trans h.v, h.bel.trans (hb.mono h.bel.size)⟩
theorem Tk.start (w : World) (a0 a1 a2 : Value) (k n : Int) (s : ByteArray) : Tk w ((w.alloc (.cells #[a0, a1, a2] 23)).alloc (.cells #[.int .i64 k, .int .i64 n, .string s] 23)) a0 a1 a2 k n s :=
  ⟨(box_a w _ _).1, (box_a w _ _).2, ((Below.refl _ _).alloc (Nat.le_refl _) _).alloc (by simp) _⟩
theorem Tk.cells {w W : World} {a0 a1 a2 : Value} {k n : Int} {s : ByteArray} (h : Tk w W a0 a1 a2 k n s) : W.cell? ⟨w.heap.size, 0, none⟩ = some a0 ∧ W.cell? ⟨w.heap.size, 1, none⟩ = some a1 ∧ W.cell? ⟨w.heap.size, 2, none⟩ = some a2 ∧ W.cell? ⟨w.heap.size + 1, 0, none⟩ = some (.int .i64 k) ∧ W.cell? ⟨w.heap.size + 1, 1, none⟩ = some (.int .i64 n) ∧ W.cell? ⟨w.heap.size + 1, 2, none⟩ = some (.string s) := by
  obtain ⟨x0, x1, x2⟩ := cells3 h.z
  obtain ⟨y0, y1, y2⟩ := cells3 h.v
  exact ⟨x0, x1, x2, y0, y1, y2⟩
theorem Tk.frozen {w W : World} {a0 a1 a2 : Value} {k n : Int} {s : ByteArray} (h : Tk w W a0 a1 a2 k n s) : W.frozen? ⟨w.heap.size, 0, none⟩ = false ∧ W.frozen? ⟨w.heap.size, 1, none⟩ = false ∧ W.frozen? ⟨w.heap.size, 2, none⟩ = false := by
  refine ⟨?_, ?_, ?_⟩ <;> simp [World.frozen?, h.z]
theorem Tk.put {w W : World} {a0 a1 a2 : Value} {k n : Int} {s : ByteArray} (h : Tk w W a0 a1 a2 k n s) (v0 v1 v2 : Value) : Tk w (((W.setCell ⟨w.heap.size, 0, none⟩ v0).setCell ⟨w.heap.size, 1, none⟩ v1).setCell ⟨w.heap.size, 2, none⟩ v2) v0 v1 v2 k n s := by
  have e1 := setCell_eq_setRow W w.heap.size 0 #[a0, a1, a2] 23 (0, 0) v0 h.z
  have h1 := setRow_heap W w.heap.size #[a0, a1, a2] (#[a0, a1, a2].setIfInBounds 0 v0) 23 (0, 0) h.z
  have e2 := setCell_eq_setRow _ w.heap.size 1 _ 23 (0, 0) v1 h1
  have h2 := setRow_heap _ w.heap.size _ ((#[a0, a1, a2].setIfInBounds 0 v0).setIfInBounds 1 v1) 23 (0, 0) h1
  have e3 := setCell_eq_setRow _ w.heap.size 2 _ 23 (0, 0) v2 h2
  have h3 := setRow_heap _ w.heap.size _ (((#[a0, a1, a2].setIfInBounds 0 v0).setIfInBounds 1 v1).setIfInBounds 2 v2) 23 (0, 0) h2
  refine ⟨?_, ?_, ?_⟩
  · rw [e1, e2, e3, h3]
    rfl
  · rw [e1, e2, e3, setRow_other _ _ _ _ (by omega), setRow_other _ _ _ _ (by omega), setRow_other _ _ _ _ (by omega)]
    exact h.v
  · exact ((h.bel.setCell (p := ⟨w.heap.size, 0, none⟩) (Nat.le_refl _) v0).setCell (p := ⟨w.heap.size, 1, none⟩) (Nat.le_refl _) v1).setCell (p := ⟨w.heap.size, 2, none⟩) (Nat.le_refl _) v2
theorem Tk.frozenv {w W : World} {a0 a1 a2 : Value} {k n : Int} {s : ByteArray} (h : Tk w W a0 a1 a2 k n s) : W.frozen? ⟨w.heap.size + 1, 0, none⟩ = false ∧ W.frozen? ⟨w.heap.size + 1, 1, none⟩ = false ∧ W.frozen? ⟨w.heap.size + 1, 2, none⟩ = false := by
  refine ⟨?_, ?_, ?_⟩ <;> simp [World.frozen?, h.v]
theorem Tk.setN {w W : World} {a0 a1 a2 : Value} {k n : Int} {s : ByteArray} (h : Tk w W a0 a1 a2 k n s) (m : Int) : Tk w (W.setCell ⟨w.heap.size + 1, 1, none⟩ (.int .i64 m)) a0 a1 a2 k m s := by
  have e1 := setCell_eq_setRow W (w.heap.size + 1) 1 #[.int .i64 k, .int .i64 n, .string s] 23 (0, 0) (.int .i64 m) h.v
  have h1 := setRow_heap W (w.heap.size + 1) #[.int .i64 k, .int .i64 n, .string s] (#[.int .i64 k, .int .i64 n, .string s].setIfInBounds 1 (.int .i64 m)) 23 (0, 0) h.v
  refine ⟨?_, ?_, h.bel.setCell (p := ⟨w.heap.size + 1, 1, none⟩) (Nat.le_succ _) _⟩
  · rw [e1, setRow_other _ _ _ _ (by omega)]
    exact h.z
  · rw [e1, h1]
    rfl
theorem Tk.setS {w W : World} {a0 a1 a2 : Value} {k n : Int} {s : ByteArray} (h : Tk w W a0 a1 a2 k n s) (u : ByteArray) : Tk w (W.setCell ⟨w.heap.size + 1, 2, none⟩ (.string u)) a0 a1 a2 k n u := by
  have e1 := setCell_eq_setRow W (w.heap.size + 1) 2 #[.int .i64 k, .int .i64 n, .string s] 23 (0, 0) (.string u) h.v
  have h1 := setRow_heap W (w.heap.size + 1) #[.int .i64 k, .int .i64 n, .string s] (#[.int .i64 k, .int .i64 n, .string s].setIfInBounds 2 (.string u)) 23 (0, 0) h.v
  refine ⟨?_, ?_, h.bel.setCell (p := ⟨w.heap.size + 1, 2, none⟩) (Nat.le_succ _) _⟩
  · rw [e1, setRow_other _ _ _ _ (by omega)]
    exact h.z
  · rw [e1, h1]
    rfl
theorem right5 (n : Int) : rightV 5 n ⟨#[]⟩ = rightU (U n) := by
  unfold rightV
  rw [if_neg (by decide), if_neg (by decide), if_pos rfl, show (⟨#[]⟩ : ByteArray).toList.isEmpty = true by rw [ByteArray.toList_eq]; rfl, Bool.true_and]
theorem tk_float {t : List Int} (hb : Byts t) {n : Int} {b : Bool} (h : fromF t = (n, b)) : TkIs 5 t n ⟨#[]⟩ b ∧ (b = true → rightV 5 n ⟨#[]⟩ = true) := by
  have hno : b = false → n = 0 := fun e => by
    subst e
    unfold fromF at h
    split at h
    · cases h
    · exact (Prod.mk.inj h).1.symm
  refine ⟨⟨?_, fun e => ?_, fun n' s' h1 h2 h3 => ?_⟩, fun e => ?_⟩
  · cases b with
    | true => exact (bytes_from hb h).2.2
    | false => rw [hno rfl]; unfold Wf; omega
  · subst e
    obtain ⟨a1, a2, a3⟩ := bytes_from hb h
    exact ⟨by rw [right5]; exact a1, a2⟩
  · have h3 : bytesF n' = t := h3
    rcases right_kinds h2 with ⟨e, c⟩ | ⟨e, c, c2⟩ | ⟨e, c, c2⟩ | ⟨e, e2, c⟩ | ⟨e, e2, c, c2⟩ <;> first | (exfalso; omega) | skip
    have h4 := from_bytes n' h1 c2
    rw [h3, h] at h4
    obtain ⟨rfl, rfl⟩ := Prod.mk.inj h4
    exact ⟨rfl, rfl, (size0 c).symm⟩
  · subst e
    rw [right5]
    exact (bytes_from hb h).1
set_option maxHeartbeats 4000000 in
set_option maxRecDepth 100000 in
theorem c_taken4 (ad : Addr) (c : Nat) (t : List Int) (hc : t.length ≤ c) (hb : Byts t) (hm : t.length ≤ 1000000) (w : World) (hk : ∀ k, k < t.length → w.cell? (ad.add k) = some (.int .u8 (t.getD k 0))) (hg : Gv w) :
    Calls Tryz.prog 47 #[.int .i64 4, .slice (some ad) t.length c] w fun e w' => ∃ n s ok, TkIs 4 t n s ok ∧ e = .returned (.tuple #[vv 4 n s, .bool ok]) ∧ Below w.heap.size w w' := by
  have HG := Lib.hid hg
  clear hg
  by_cases h1 : t.length = 1
  · obtain ⟨x, rfl⟩ := List.length_eq_one_iff.1 h1
    have HT := Lib.hid (tk_bool_yes (hb x (by simp)))
    have x0 : w.cell? ad = some (.int .u8 x) := by simpa [Addr.add] using hk 0 (by simp)
    have C1 := Lib.hid (fun W hg => c_vright 4 x ⟨#[]⟩ HT.out.1 (by decide) _ rfl W hg)
    generalize rightV 4 x ⟨#[]⟩ = b at *
    unfold vv at C1 ⊢
    have hl : [x].length = 1 := rfl
    rw [hl] at *
    have hB := ((Below.refl w.heap.size w).alloc (Nat.le_refl _) (.cells #[.int .i64 0, .int .i64 0, .string ⟨#[]⟩] 23)).alloc (by simp) (.cells #[.int .i64 4, .int .i64 0, .string ⟨#[]⟩] 23)
    have y0 := (hB.cell (World.block_lt_of_cell? w _ x0)).trans x0
    have HB := Lib.hid hB
    clear hk h1 hl hB
    go_enter Tryz.func47, Tryz.ntmps47
    go_wp2
    have HTK := Lib.hid (Tk.start w (.int .i64 0) (.int .i64 0) (.string ⟨#[]⟩) 4 x ⟨#[]⟩)
    rw [show wrap64 x = x by have := HT.out.1; unfold Wf at this; unfold wrap64; omega]
    have HGW := Lib.hid (HG.out.below HTK.out.bel)
    generalize (w.alloc (.cells #[.int .i64 0, .int .i64 0, .string ⟨#[]⟩] 23)).alloc (.cells #[.int .i64 4, .int .i64 x, .string ⟨#[]⟩] 23) = W at HTK HGW ⊢
    refine wp_region_held_drew (S := fun X => ∃ b0 b1 b2, Tk w X b0 b1 b2 4 x ⟨#[]⟩) (by kernel_rfl) ⟨_, _, _, HTK.out.below (Below.refl _ _).drew⟩ (fun hHeld => ?_)
    refine wpAnyH_take (i := 0) (oi := ?o_3) (v := ?v_3) ?hi_3 ?hs_3 ?hf_3 ?hr_3 ?hQ_3 ?hy_3 ?hS_3 ?rest_3; (case hi_3 => (simp only [List.getElem?_toArray, List.getElem?_cons_zero, List.getElem?_cons_succ]; rfl)); (case hs_3 => kernel_rfl); (case hf_3 => kernel_rfl); (case hr_3 => kernel_rfl); (case hQ_3 => exact fun _ _ _ h => h); (case hS_3 => assumption); (case hy_3 => (refine Or.inl ⟨by rfl, ?_⟩; intro w hSw; obtain ⟨_, _, _, hT⟩ := hSw; obtain ⟨z0, z1, z2, y0, y1, y2⟩ := hT.cells; go_simp; first | done | with_reducible rfl)); (try simp only [Act.put, List.setIfInBounds_toArray, List.set_cons_zero, List.set_cons_succ])
    refine wpAnyH_take (i := 1) (oi := ?o_4) (v := ?v_4) ?hi_4 ?hs_4 ?hf_4 ?hr_4 ?hQ_4 ?hy_4 ?hS_4 ?rest_4; (case hi_4 => (simp only [List.getElem?_toArray, List.getElem?_cons_zero, List.getElem?_cons_succ]; rfl)); (case hs_4 => kernel_rfl); (case hf_4 => kernel_rfl); (case hr_4 => kernel_rfl); (case hQ_4 => exact fun _ _ _ h => h); (case hS_4 => assumption); (case hy_4 => (refine Or.inl ⟨by rfl, ?_⟩; intro w hSw; go_simp; first | done | with_reducible rfl)); (try simp only [Act.put, List.setIfInBounds_toArray, List.set_cons_zero, List.set_cons_succ])
    refine wpAnyH_take (i := 2) (oi := ?o_5) (v := ?v_5) ?hi_5 ?hs_5 ?hf_5 ?hr_5 ?hQ_5 ?hy_5 ?hS_5 ?rest_5; (case hi_5 => (simp only [List.getElem?_toArray, List.getElem?_cons_zero, List.getElem?_cons_succ]; rfl)); (case hs_5 => kernel_rfl); (case hf_5 => kernel_rfl); (case hr_5 => kernel_rfl); (case hQ_5 => exact fun _ _ _ h => h); (case hS_5 => assumption); (case hy_5 => (refine Or.inl ⟨by rfl, ?_⟩; intro w hSw; go_simp; first | done | with_reducible rfl)); (try simp only [Act.put, List.setIfInBounds_toArray, List.set_cons_zero, List.set_cons_succ])
    refine wpAnyH_take (i := 3) (oi := ?o_6) (v := ?v_6) ?hi_6 ?hs_6 ?hf_6 ?hr_6 ?hQ_6 ?hy_6 ?hS_6 ?rest_6; (case hi_6 => (simp only [List.getElem?_toArray, List.getElem?_cons_zero, List.getElem?_cons_succ]; rfl)); (case hs_6 => kernel_rfl); (case hf_6 => kernel_rfl); (case hr_6 => kernel_rfl); (case hQ_6 => exact fun _ _ _ h => h); (case hS_6 => assumption); (case hy_6 => (refine Or.inl ⟨by rfl, ?_⟩; intro w hSw; obtain ⟨_, _, _, hT⟩ := hSw; obtain ⟨z0, z1, z2, y0, y1, y2⟩ := hT.cells; go_simp; first | done | with_reducible rfl)); (try simp only [Act.put, List.setIfInBounds_toArray, List.set_cons_zero, List.set_cons_succ])
    refine wpAnyH_ready (rs := [4]) (by kernel_rfl) (by simp) ?_; refine AllReadyH.cons (o := ?o_7) ?hi_7 (fun K hK => ?_) AllReadyH.nil; (case hi_7 => (simp only [List.getElem?_toArray, List.getElem?_cons_zero, List.getElem?_cons_succ]; rfl)); go_simp; (go_at_call 13; ((refine (C1.out _ (HGW.out.below (Below.refl _ _).drew)).mono ?_); rintro e w2 ⟨rfl, hb⟩; have HTK2 := Lib.hid (HTK.out.below ((Below.refl _ _).drew.trans hb)); clear hb)); refine hK.out _ _ ?_ (fun hHeld => ?_); (· exact ⟨_, _, _, HTK2.out⟩); clear hK K; (try simp only [Act.put, List.setIfInBounds_toArray, List.set_cons_zero, List.set_cons_succ])
    refine wpAnyH_take (i := 5) (oi := ?o_8) (v := ?v_8) ?hi_8 ?hs_8 ?hf_8 ?hr_8 ?hQ_8 ?hy_8 ?hS_8 ?rest_8; (case hi_8 => (simp only [List.getElem?_toArray, List.getElem?_cons_zero, List.getElem?_cons_succ]; rfl)); (case hs_8 => kernel_rfl); (case hf_8 => kernel_rfl); (case hr_8 => kernel_rfl); (case hQ_8 => exact fun _ _ _ h => h); (case hS_8 => assumption); (case hy_8 => (refine Or.inl ⟨by rfl, ?_⟩; intro w hSw; go_simp; first | done | with_reducible rfl)); (try simp only [Act.put, List.setIfInBounds_toArray, List.set_cons_zero, List.set_cons_succ])
    obtain ⟨z0, z1, z2, y0, y1, y2⟩ := HTK2.out.cells
    obtain ⟨f0, f1, f2⟩ := HTK2.out.frozen
    refine wpAnyH_ready (rs := [6]) (by kernel_rfl) (by simp) ?_; refine AllReadyH.cons (o := ?o_1) ?hi_1 (fun K hK => ?_) AllReadyH.nil; (case hi_1 => (simp only [List.getElem?_toArray, List.getElem?_cons_zero, List.getElem?_cons_succ]; rfl)); go_simp; skip; refine hK.out _ _ ?_ (fun hHeld => ?_); (· exact ⟨_, _, _, HTK2.out.put (.int .i64 4) (.int .i64 x) (.string ⟨#[]⟩)⟩); clear hK K; (try simp only [Act.put, List.setIfInBounds_toArray, List.set_cons_zero, List.set_cons_succ])
    refine wpAnyH_take (i := 7) (oi := ?o_2) (v := ?v_2) ?hi_2 ?hs_2 ?hf_2 ?hr_2 ?hQ_2 ?hy_2 ?hS_2 ?rest_2; (case hi_2 => (simp only [List.getElem?_toArray, List.getElem?_cons_zero, List.getElem?_cons_succ]; rfl)); (case hs_2 => kernel_rfl); (case hf_2 => kernel_rfl); (case hr_2 => kernel_rfl); (case hQ_2 => exact fun _ _ _ h => h); (case hS_2 => assumption); (case hy_2 => (refine Or.inl ⟨by rfl, ?_⟩; intro w hSw; go_simp; first | done | with_reducible rfl)); (try simp only [Act.put, List.setIfInBounds_toArray, List.set_cons_zero, List.set_cons_succ])
    refine wpAnyH_done (by kernel_rfl) ?_ _
    go_wp2_with fail
    exact bodyPost_ret (ret_cell rfl _ _ w.heap.size 4 x ⟨#[]⟩ b (0, 0) rfl rfl (HTK2.out.put (.int .i64 4) (.int .i64 x) (.string ⟨#[]⟩)).z) rfl ⟨x, ⟨#[]⟩, b, HT.out, rfl, (HTK2.out.put (.int .i64 4) (.int .i64 x) (.string ⟨#[]⟩)).bel⟩
  · have HT := Lib.hid (tk_bool_no h1)
    have t1 : ((t.length : Int) == 1) = false := by simp; omega
    unfold vv
    clear hk h1
    go_enter Tryz.func47, Tryz.ntmps47
    go_wp2
    have HTK := Lib.hid (Tk.start w (.int .i64 0) (.int .i64 0) (.string ⟨#[]⟩) 4 0 ⟨#[]⟩)
    generalize (w.alloc (.cells #[.int .i64 0, .int .i64 0, .string ⟨#[]⟩] 23)).alloc (.cells #[.int .i64 4, .int .i64 0, .string ⟨#[]⟩] 23) = W at HTK ⊢
    refine wp_region_held_drew (S := fun X => ∃ b0 b1 b2, Tk w X b0 b1 b2 4 0 ⟨#[]⟩) (by kernel_rfl) ⟨_, _, _, HTK.out.below (Below.refl _ _).drew⟩ (fun hHeld => ?_)
    refine wpAnyH_take (i := 0) (oi := ?o_103) (v := ?v_103) ?hi_103 ?hs_103 ?hf_103 ?hr_103 ?hQ_103 ?hy_103 ?hS_103 ?rest_103; (case hi_103 => (simp only [List.getElem?_toArray, List.getElem?_cons_zero, List.getElem?_cons_succ]; rfl)); (case hs_103 => kernel_rfl); (case hf_103 => kernel_rfl); (case hr_103 => kernel_rfl); (case hQ_103 => exact fun _ _ _ h => h); (case hS_103 => assumption); (case hy_103 => (refine Or.inl ⟨by rfl, ?_⟩; intro w hSw; obtain ⟨_, _, _, hT⟩ := hSw; obtain ⟨z0, z1, z2, y0, y1, y2⟩ := hT.cells; go_simp; first | done | with_reducible rfl)); (try simp only [Act.put, List.setIfInBounds_toArray, List.set_cons_zero, List.set_cons_succ])
    refine wpAnyH_take (i := 1) (oi := ?o_104) (v := ?v_104) ?hi_104 ?hs_104 ?hf_104 ?hr_104 ?hQ_104 ?hy_104 ?hS_104 ?rest_104; (case hi_104 => (simp only [List.getElem?_toArray, List.getElem?_cons_zero, List.getElem?_cons_succ]; rfl)); (case hs_104 => kernel_rfl); (case hf_104 => kernel_rfl); (case hr_104 => kernel_rfl); (case hQ_104 => exact fun _ _ _ h => h); (case hS_104 => assumption); (case hy_104 => (refine Or.inl ⟨by rfl, ?_⟩; intro w hSw; go_simp; first | done | with_reducible rfl)); (try simp only [Act.put, List.setIfInBounds_toArray, List.set_cons_zero, List.set_cons_succ])
    refine wpAnyH_take (i := 2) (oi := ?o_105) (v := ?v_105) ?hi_105 ?hs_105 ?hf_105 ?hr_105 ?hQ_105 ?hy_105 ?hS_105 ?rest_105; (case hi_105 => (simp only [List.getElem?_toArray, List.getElem?_cons_zero, List.getElem?_cons_succ]; rfl)); (case hs_105 => kernel_rfl); (case hf_105 => kernel_rfl); (case hr_105 => kernel_rfl); (case hQ_105 => exact fun _ _ _ h => h); (case hS_105 => assumption); (case hy_105 => (refine Or.inl ⟨by rfl, ?_⟩; intro w hSw; go_simp; first | done | with_reducible rfl)); (try simp only [Act.put, List.setIfInBounds_toArray, List.set_cons_zero, List.set_cons_succ])
    refine wpAnyH_take (i := 3) (oi := ?o_106) (v := undef) ?hi_106 ?hs_106 ?hf_106 ?hr_106 ?hQ_106 ?hy_106 ?hS_106 ?rest_106; (case hi_106 => (simp only [List.getElem?_toArray, List.getElem?_cons_zero, List.getElem?_cons_succ]; rfl)); (case hs_106 => kernel_rfl); (case hf_106 => kernel_rfl); (case hr_106 => kernel_rfl); (case hQ_106 => exact fun _ _ _ h => h); (case hS_106 => assumption); (case hy_106 => exact Or.inr ⟨by rfl, rfl⟩); (try simp only [Act.put, List.setIfInBounds_toArray, List.set_cons_zero, List.set_cons_succ])
    refine wpAnyH_take (i := 4) (oi := ?o_107) (v := undef) ?hi_107 ?hs_107 ?hf_107 ?hr_107 ?hQ_107 ?hy_107 ?hS_107 ?rest_107; (case hi_107 => (simp only [List.getElem?_toArray, List.getElem?_cons_zero, List.getElem?_cons_succ]; rfl)); (case hs_107 => kernel_rfl); (case hf_107 => kernel_rfl); (case hr_107 => kernel_rfl); (case hQ_107 => exact fun _ _ _ h => h); (case hS_107 => assumption); (case hy_107 => exact Or.inr ⟨by rfl, rfl⟩); (try simp only [Act.put, List.setIfInBounds_toArray, List.set_cons_zero, List.set_cons_succ])
    refine wpAnyH_take (i := 5) (oi := ?o_108) (v := ?v_108) ?hi_108 ?hs_108 ?hf_108 ?hr_108 ?hQ_108 ?hy_108 ?hS_108 ?rest_108; (case hi_108 => (simp only [List.getElem?_toArray, List.getElem?_cons_zero, List.getElem?_cons_succ]; rfl)); (case hs_108 => kernel_rfl); (case hf_108 => kernel_rfl); (case hr_108 => kernel_rfl); (case hQ_108 => exact fun _ _ _ h => h); (case hS_108 => assumption); (case hy_108 => (refine Or.inl ⟨by rfl, ?_⟩; intro w hSw; go_simp; first | done | with_reducible rfl)); (try simp only [Act.put, List.setIfInBounds_toArray, List.set_cons_zero, List.set_cons_succ])
    obtain ⟨z0, z1, z2, y0, y1, y2⟩ := HTK.out.cells
    obtain ⟨f0, f1, f2⟩ := HTK.out.frozen
    refine wpAnyH_ready (rs := [6]) (by kernel_rfl) (by simp) ?_; refine AllReadyH.cons (o := ?o_101) ?hi_101 (fun K hK => ?_) AllReadyH.nil; (case hi_101 => (simp only [List.getElem?_toArray, List.getElem?_cons_zero, List.getElem?_cons_succ]; rfl)); go_simp; skip; refine hK.out _ _ ?_ (fun hHeld => ?_); (· exact ⟨_, _, _, (HTK.out.put (.int .i64 4) (.int .i64 0) (.string ⟨#[]⟩)).below (Below.refl _ _).drew⟩); clear hK K; (try simp only [Act.put, List.setIfInBounds_toArray, List.set_cons_zero, List.set_cons_succ])
    refine wpAnyH_take (i := 7) (oi := ?o_102) (v := ?v_102) ?hi_102 ?hs_102 ?hf_102 ?hr_102 ?hQ_102 ?hy_102 ?hS_102 ?rest_102; (case hi_102 => (simp only [List.getElem?_toArray, List.getElem?_cons_zero, List.getElem?_cons_succ]; rfl)); (case hs_102 => kernel_rfl); (case hf_102 => kernel_rfl); (case hr_102 => kernel_rfl); (case hQ_102 => exact fun _ _ _ h => h); (case hS_102 => assumption); (case hy_102 => (refine Or.inl ⟨by rfl, ?_⟩; intro w hSw; go_simp; first | done | with_reducible rfl)); (try simp only [Act.put, List.setIfInBounds_toArray, List.set_cons_zero, List.set_cons_succ])
    refine wpAnyH_done (by kernel_rfl) ?_ _
    go_wp2_with fail
    exact bodyPost_ret (ret_cell rfl _ _ w.heap.size 4 0 ⟨#[]⟩ false (0, 0) rfl rfl ((HTK.out.put (.int .i64 4) (.int .i64 0) (.string ⟨#[]⟩)).below (Below.refl _ _).drew).z) rfl ⟨0, ⟨#[]⟩, false, HT.out, rfl, ((HTK.out.put (.int .i64 4) (.int .i64 0) (.string ⟨#[]⟩)).below (Below.refl _ _).drew).bel⟩
set_option maxHeartbeats 4000000 in
set_option maxRecDepth 100000 in
theorem c_taken5 (ad : Addr) (c : Nat) (t : List Int) (hc : t.length ≤ c) (hb : Byts t) (hm : t.length ≤ 1000000) (w : World) (hk : ∀ k, k < t.length → w.cell? (ad.add k) = some (.int .u8 (t.getD k 0))) (hg : Gv w) :
    Calls Tryz.prog 47 #[.int .i64 5, .slice (some ad) t.length c] w fun e w' => ∃ n s ok, TkIs 5 t n s ok ∧ e = .returned (.tuple #[vv 5 n s, .bool ok]) ∧ Below w.heap.size w w' := by
  have HG := Lib.hid hg
  have HV := Lib.hid (show HasB w (.slice (some ad) t.length c) t from ⟨some ad, c, rfl, hc, fun k h => ⟨ad, rfl, hk k h⟩⟩)
  obtain ⟨n, b, hf⟩ : ∃ n b, fromF t = (n, b) := ⟨_, _, rfl⟩
  have C0 := Lib.hid (fun W hv => c_from W (.slice (some ad) t.length c) t hv hb hm n b hf)
  obtain ⟨ht, hr⟩ := tk_float hb hf
  have HT := Lib.hid ht
  have HR := Lib.hid hr
  have HTK0 := Lib.hid (Tk.start w (.int .i64 0) (.int .i64 0) (.string ⟨#[]⟩) 5 0 ⟨#[]⟩)
  unfold vv
  clear hg hk hf ht hr
  cases b with
  | true =>
    have C1 := Lib.hid (fun W hg => c_vright 5 n ⟨#[]⟩ HT.out.1 (by decide) true (HR.out rfl) W hg)
    unfold vv at C1
    go_enter Tryz.func47, Tryz.ntmps47
    go_wp2_with (go_at_call 67; ((refine (C0.out _ (HV.out.below HTK0.out.bel)).mono ?_); rintro e w1 ⟨rfl, hb⟩; have HTK1 := Lib.hid (HTK0.out.below hb); obtain ⟨z0, z1, z2, y0, y1, y2⟩ := HTK1.out.cells; obtain ⟨f0, f1, f2⟩ := HTK1.out.frozenv; clear hb))
    have HTK := Lib.hid (HTK1.out.setN n)
    have HGW := Lib.hid (HG.out.below HTK.out.bel)
    generalize w1.setCell ⟨w.heap.size + 1, 1, none⟩ (.int .i64 n) = W at HTK HGW ⊢
    refine wp_region_held_drew (S := fun X => ∃ b0 b1 b2, Tk w X b0 b1 b2 5 n ⟨#[]⟩) (by kernel_rfl) ⟨_, _, _, HTK.out.below (Below.refl _ _).drew⟩ (fun hHeld => ?_)
    refine wpAnyH_take (i := 0) (oi := ?o_203) (v := ?v_203) ?hi_203 ?hs_203 ?hf_203 ?hr_203 ?hQ_203 ?hy_203 ?hS_203 ?rest_203; (case hi_203 => (simp only [List.getElem?_toArray, List.getElem?_cons_zero, List.getElem?_cons_succ]; rfl)); (case hs_203 => kernel_rfl); (case hf_203 => kernel_rfl); (case hr_203 => kernel_rfl); (case hQ_203 => exact fun _ _ _ h => h); (case hS_203 => assumption); (case hy_203 => (refine Or.inl ⟨by rfl, ?_⟩; intro w hSw; obtain ⟨_, _, _, hT⟩ := hSw; obtain ⟨z0, z1, z2, y0, y1, y2⟩ := hT.cells; go_simp; first | done | with_reducible rfl)); (try simp only [Act.put, List.setIfInBounds_toArray, List.set_cons_zero, List.set_cons_succ])
    refine wpAnyH_take (i := 1) (oi := ?o_204) (v := ?v_204) ?hi_204 ?hs_204 ?hf_204 ?hr_204 ?hQ_204 ?hy_204 ?hS_204 ?rest_204; (case hi_204 => (simp only [List.getElem?_toArray, List.getElem?_cons_zero, List.getElem?_cons_succ]; rfl)); (case hs_204 => kernel_rfl); (case hf_204 => kernel_rfl); (case hr_204 => kernel_rfl); (case hQ_204 => exact fun _ _ _ h => h); (case hS_204 => assumption); (case hy_204 => (refine Or.inl ⟨by rfl, ?_⟩; intro w hSw; go_simp; first | done | with_reducible rfl)); (try simp only [Act.put, List.setIfInBounds_toArray, List.set_cons_zero, List.set_cons_succ])
    refine wpAnyH_take (i := 2) (oi := ?o_205) (v := ?v_205) ?hi_205 ?hs_205 ?hf_205 ?hr_205 ?hQ_205 ?hy_205 ?hS_205 ?rest_205; (case hi_205 => (simp only [List.getElem?_toArray, List.getElem?_cons_zero, List.getElem?_cons_succ]; rfl)); (case hs_205 => kernel_rfl); (case hf_205 => kernel_rfl); (case hr_205 => kernel_rfl); (case hQ_205 => exact fun _ _ _ h => h); (case hS_205 => assumption); (case hy_205 => (refine Or.inl ⟨by rfl, ?_⟩; intro w hSw; go_simp; first | done | with_reducible rfl)); (try simp only [Act.put, List.setIfInBounds_toArray, List.set_cons_zero, List.set_cons_succ])
    refine wpAnyH_take (i := 3) (oi := ?o_206) (v := ?v_206) ?hi_206 ?hs_206 ?hf_206 ?hr_206 ?hQ_206 ?hy_206 ?hS_206 ?rest_206; (case hi_206 => (simp only [List.getElem?_toArray, List.getElem?_cons_zero, List.getElem?_cons_succ]; rfl)); (case hs_206 => kernel_rfl); (case hf_206 => kernel_rfl); (case hr_206 => kernel_rfl); (case hQ_206 => exact fun _ _ _ h => h); (case hS_206 => assumption); (case hy_206 => (refine Or.inl ⟨by rfl, ?_⟩; intro w hSw; obtain ⟨_, _, _, hT⟩ := hSw; obtain ⟨z0, z1, z2, y0, y1, y2⟩ := hT.cells; go_simp; first | done | with_reducible rfl)); (try simp only [Act.put, List.setIfInBounds_toArray, List.set_cons_zero, List.set_cons_succ])
    refine wpAnyH_ready (rs := [4]) (by kernel_rfl) (by simp) ?_; refine AllReadyH.cons (o := ?o_207) ?hi_207 (fun K hK => ?_) AllReadyH.nil; (case hi_207 => (simp only [List.getElem?_toArray, List.getElem?_cons_zero, List.getElem?_cons_succ]; rfl)); go_simp; (go_at_call 13; ((refine (C1.out _ (HGW.out.below (Below.refl _ _).drew)).mono ?_); rintro e w2 ⟨rfl, hb⟩; have HTK2 := Lib.hid (HTK.out.below ((Below.refl _ _).drew.trans hb)); clear hb)); refine hK.out _ _ ?_ (fun hHeld => ?_); (· exact ⟨_, _, _, HTK2.out⟩); clear hK K; (try simp only [Act.put, List.setIfInBounds_toArray, List.set_cons_zero, List.set_cons_succ])
    refine wpAnyH_take (i := 5) (oi := ?o_208) (v := ?v_208) ?hi_208 ?hs_208 ?hf_208 ?hr_208 ?hQ_208 ?hy_208 ?hS_208 ?rest_208; (case hi_208 => (simp only [List.getElem?_toArray, List.getElem?_cons_zero, List.getElem?_cons_succ]; rfl)); (case hs_208 => kernel_rfl); (case hf_208 => kernel_rfl); (case hr_208 => kernel_rfl); (case hQ_208 => exact fun _ _ _ h => h); (case hS_208 => assumption); (case hy_208 => (refine Or.inl ⟨by rfl, ?_⟩; intro w hSw; go_simp; first | done | with_reducible rfl)); (try simp only [Act.put, List.setIfInBounds_toArray, List.set_cons_zero, List.set_cons_succ])
    obtain ⟨z0, z1, z2, y0, y1, y2⟩ := HTK2.out.cells
    obtain ⟨f0, f1, f2⟩ := HTK2.out.frozen
    refine wpAnyH_ready (rs := [6]) (by kernel_rfl) (by simp) ?_; refine AllReadyH.cons (o := ?o_201) ?hi_201 (fun K hK => ?_) AllReadyH.nil; (case hi_201 => (simp only [List.getElem?_toArray, List.getElem?_cons_zero, List.getElem?_cons_succ]; rfl)); go_simp; skip; refine hK.out _ _ ?_ (fun hHeld => ?_); (· exact ⟨_, _, _, HTK2.out.put (.int .i64 5) (.int .i64 n) (.string ⟨#[]⟩)⟩); clear hK K; (try simp only [Act.put, List.setIfInBounds_toArray, List.set_cons_zero, List.set_cons_succ])
    refine wpAnyH_take (i := 7) (oi := ?o_202) (v := ?v_202) ?hi_202 ?hs_202 ?hf_202 ?hr_202 ?hQ_202 ?hy_202 ?hS_202 ?rest_202; (case hi_202 => (simp only [List.getElem?_toArray, List.getElem?_cons_zero, List.getElem?_cons_succ]; rfl)); (case hs_202 => kernel_rfl); (case hf_202 => kernel_rfl); (case hr_202 => kernel_rfl); (case hQ_202 => exact fun _ _ _ h => h); (case hS_202 => assumption); (case hy_202 => (refine Or.inl ⟨by rfl, ?_⟩; intro w hSw; go_simp; first | done | with_reducible rfl)); (try simp only [Act.put, List.setIfInBounds_toArray, List.set_cons_zero, List.set_cons_succ])
    refine wpAnyH_done (by kernel_rfl) ?_ _
    go_wp2_with fail
    exact bodyPost_ret (ret_cell rfl _ _ w.heap.size 5 n ⟨#[]⟩ true (0, 0) rfl rfl (HTK2.out.put (.int .i64 5) (.int .i64 n) (.string ⟨#[]⟩)).z) rfl ⟨n, ⟨#[]⟩, true, HT.out, rfl, (HTK2.out.put (.int .i64 5) (.int .i64 n) (.string ⟨#[]⟩)).bel⟩
  | false =>
    go_enter Tryz.func47, Tryz.ntmps47
    go_wp2_with (go_at_call 67; ((refine (C0.out _ (HV.out.below HTK0.out.bel)).mono ?_); rintro e w1 ⟨rfl, hb⟩; have HTK1 := Lib.hid (HTK0.out.below hb); obtain ⟨z0, z1, z2, y0, y1, y2⟩ := HTK1.out.cells; obtain ⟨f0, f1, f2⟩ := HTK1.out.frozenv; clear hb))
    have HTK := Lib.hid (HTK1.out.setN n)
    generalize w1.setCell ⟨w.heap.size + 1, 1, none⟩ (.int .i64 n) = W at HTK ⊢
    refine wp_region_held_drew (S := fun X => ∃ b0 b1 b2, Tk w X b0 b1 b2 5 n ⟨#[]⟩) (by kernel_rfl) ⟨_, _, _, HTK.out.below (Below.refl _ _).drew⟩ (fun hHeld => ?_)
    refine wpAnyH_take (i := 0) (oi := ?o_303) (v := ?v_303) ?hi_303 ?hs_303 ?hf_303 ?hr_303 ?hQ_303 ?hy_303 ?hS_303 ?rest_303; (case hi_303 => (simp only [List.getElem?_toArray, List.getElem?_cons_zero, List.getElem?_cons_succ]; rfl)); (case hs_303 => kernel_rfl); (case hf_303 => kernel_rfl); (case hr_303 => kernel_rfl); (case hQ_303 => exact fun _ _ _ h => h); (case hS_303 => assumption); (case hy_303 => (refine Or.inl ⟨by rfl, ?_⟩; intro w hSw; obtain ⟨_, _, _, hT⟩ := hSw; obtain ⟨z0, z1, z2, y0, y1, y2⟩ := hT.cells; go_simp; first | done | with_reducible rfl)); (try simp only [Act.put, List.setIfInBounds_toArray, List.set_cons_zero, List.set_cons_succ])
    refine wpAnyH_take (i := 1) (oi := ?o_304) (v := ?v_304) ?hi_304 ?hs_304 ?hf_304 ?hr_304 ?hQ_304 ?hy_304 ?hS_304 ?rest_304; (case hi_304 => (simp only [List.getElem?_toArray, List.getElem?_cons_zero, List.getElem?_cons_succ]; rfl)); (case hs_304 => kernel_rfl); (case hf_304 => kernel_rfl); (case hr_304 => kernel_rfl); (case hQ_304 => exact fun _ _ _ h => h); (case hS_304 => assumption); (case hy_304 => (refine Or.inl ⟨by rfl, ?_⟩; intro w hSw; go_simp; first | done | with_reducible rfl)); (try simp only [Act.put, List.setIfInBounds_toArray, List.set_cons_zero, List.set_cons_succ])
    refine wpAnyH_take (i := 2) (oi := ?o_305) (v := ?v_305) ?hi_305 ?hs_305 ?hf_305 ?hr_305 ?hQ_305 ?hy_305 ?hS_305 ?rest_305; (case hi_305 => (simp only [List.getElem?_toArray, List.getElem?_cons_zero, List.getElem?_cons_succ]; rfl)); (case hs_305 => kernel_rfl); (case hf_305 => kernel_rfl); (case hr_305 => kernel_rfl); (case hQ_305 => exact fun _ _ _ h => h); (case hS_305 => assumption); (case hy_305 => (refine Or.inl ⟨by rfl, ?_⟩; intro w hSw; go_simp; first | done | with_reducible rfl)); (try simp only [Act.put, List.setIfInBounds_toArray, List.set_cons_zero, List.set_cons_succ])
    refine wpAnyH_take (i := 3) (oi := ?o_306) (v := undef) ?hi_306 ?hs_306 ?hf_306 ?hr_306 ?hQ_306 ?hy_306 ?hS_306 ?rest_306; (case hi_306 => (simp only [List.getElem?_toArray, List.getElem?_cons_zero, List.getElem?_cons_succ]; rfl)); (case hs_306 => kernel_rfl); (case hf_306 => kernel_rfl); (case hr_306 => kernel_rfl); (case hQ_306 => exact fun _ _ _ h => h); (case hS_306 => assumption); (case hy_306 => exact Or.inr ⟨by rfl, rfl⟩); (try simp only [Act.put, List.setIfInBounds_toArray, List.set_cons_zero, List.set_cons_succ])
    refine wpAnyH_take (i := 4) (oi := ?o_307) (v := undef) ?hi_307 ?hs_307 ?hf_307 ?hr_307 ?hQ_307 ?hy_307 ?hS_307 ?rest_307; (case hi_307 => (simp only [List.getElem?_toArray, List.getElem?_cons_zero, List.getElem?_cons_succ]; rfl)); (case hs_307 => kernel_rfl); (case hf_307 => kernel_rfl); (case hr_307 => kernel_rfl); (case hQ_307 => exact fun _ _ _ h => h); (case hS_307 => assumption); (case hy_307 => exact Or.inr ⟨by rfl, rfl⟩); (try simp only [Act.put, List.setIfInBounds_toArray, List.set_cons_zero, List.set_cons_succ])
    refine wpAnyH_take (i := 5) (oi := ?o_308) (v := ?v_308) ?hi_308 ?hs_308 ?hf_308 ?hr_308 ?hQ_308 ?hy_308 ?hS_308 ?rest_308; (case hi_308 => (simp only [List.getElem?_toArray, List.getElem?_cons_zero, List.getElem?_cons_succ]; rfl)); (case hs_308 => kernel_rfl); (case hf_308 => kernel_rfl); (case hr_308 => kernel_rfl); (case hQ_308 => exact fun _ _ _ h => h); (case hS_308 => assumption); (case hy_308 => (refine Or.inl ⟨by rfl, ?_⟩; intro w hSw; go_simp; first | done | with_reducible rfl)); (try simp only [Act.put, List.setIfInBounds_toArray, List.set_cons_zero, List.set_cons_succ])
    obtain ⟨z0, z1, z2, y0, y1, y2⟩ := HTK.out.cells
    obtain ⟨f0, f1, f2⟩ := HTK.out.frozen
    refine wpAnyH_ready (rs := [6]) (by kernel_rfl) (by simp) ?_; refine AllReadyH.cons (o := ?o_301) ?hi_301 (fun K hK => ?_) AllReadyH.nil; (case hi_301 => (simp only [List.getElem?_toArray, List.getElem?_cons_zero, List.getElem?_cons_succ]; rfl)); go_simp; skip; refine hK.out _ _ ?_ (fun hHeld => ?_); (· exact ⟨_, _, _, (HTK.out.put (.int .i64 5) (.int .i64 n) (.string ⟨#[]⟩)).below (Below.refl _ _).drew⟩); clear hK K; (try simp only [Act.put, List.setIfInBounds_toArray, List.set_cons_zero, List.set_cons_succ])
    refine wpAnyH_take (i := 7) (oi := ?o_302) (v := ?v_302) ?hi_302 ?hs_302 ?hf_302 ?hr_302 ?hQ_302 ?hy_302 ?hS_302 ?rest_302; (case hi_302 => (simp only [List.getElem?_toArray, List.getElem?_cons_zero, List.getElem?_cons_succ]; rfl)); (case hs_302 => kernel_rfl); (case hf_302 => kernel_rfl); (case hr_302 => kernel_rfl); (case hQ_302 => exact fun _ _ _ h => h); (case hS_302 => assumption); (case hy_302 => (refine Or.inl ⟨by rfl, ?_⟩; intro w hSw; go_simp; first | done | with_reducible rfl)); (try simp only [Act.put, List.setIfInBounds_toArray, List.set_cons_zero, List.set_cons_succ])
    refine wpAnyH_done (by kernel_rfl) ?_ _
    go_wp2_with fail
    exact bodyPost_ret (ret_cell rfl _ _ w.heap.size 5 n ⟨#[]⟩ false (0, 0) rfl rfl ((HTK.out.put (.int .i64 5) (.int .i64 n) (.string ⟨#[]⟩)).below (Below.refl _ _).drew).z) rfl ⟨n, ⟨#[]⟩, false, HT.out, rfl, ((HTK.out.put (.int .i64 5) (.int .i64 n) (.string ⟨#[]⟩)).below (Below.refl _ _).drew).bel⟩
theorem zz_mem : ∀ (l : List Int) (x : Int), x ∈ l → x = 0 ∨ x ∈ zz l
  | y :: t, x, h => by
    rw [zz]
    rcases List.mem_cons.1 h with rfl | h
    · by_cases hx : x = 0
      · exact Or.inl hx
      · rw [if_neg hx]; exact Or.inr (by simp)
    · rcases zz_mem t x h with h | h
      · exact Or.inl h
      · right
        split
        · simp [h]
        · simp [h]
theorem uns_byts {t l r : List Int} (hb : Byts t) (h : uns t = some (l, r)) : Byts l := by
  have e := uns_some t l r h
  intro x hx
  rcases zz_mem l x hx with rfl | hz
  · omega
  · exact hb x (by rw [e]; simp [hz])
theorem tk_text {k : Int} {t : List Int} (hb : Byts t) (h1 : ¬ k = 1) (h4 : ¬ k = 4) (h5 : ¬ k = 5) : TkIs k t 0 (unsT t) (unsOk t && rightV k 0 (unsT t)) := by
  have he : ∀ n s, encP k n s = esc (byt s) := fun n s => by unfold encP; rw [if_neg h1, if_neg h5, if_neg h4]
  refine ⟨by unfold Wf; omega, fun h => ?_, fun n' s' a1 a2 a3 => ?_⟩
  · rw [Bool.and_eq_true] at h
    refine ⟨h.2, ?_⟩
    rw [he]
    have h6 := h.1
    unfold unsOk at h6
    cases hu : uns t with
    | none => rw [hu] at h6; cases h6
    | some p =>
      obtain ⟨l, r⟩ := p
      rw [hu] at h6
      have h6 : r.isEmpty = true := h6
      rw [List.isEmpty_iff] at h6
      subst h6
      have ht : unsT t = txt l := by unfold unsT; rw [hu]
      rw [ht, byt_txt l (uns_byts hb hu), uns_some t l [] hu]
      rfl
  · rw [he] at a3
    have hu : uns t = some (byt s', []) := by
      rw [← a3]
      exact uns_esc (byt s') []
    have hn : n' = 0 := by
      rcases right_kinds a2 with ⟨e, c⟩ | ⟨e, c, c2⟩ | ⟨e, c, c2⟩ | ⟨e, e2, c⟩ | ⟨e, e2, c, c2⟩ <;> first | (exfalso; omega) | exact e2
    subst hn
    have ht : unsT t = s' := by
      have : unsT t = txt (byt s') := by unfold unsT; rw [hu]
      rw [this]
      apply byt_inj
      exact byt_txt _ (byt_bd s')
    have ho : unsOk t = true := by unfold unsOk; rw [hu]; rfl
    rw [ht, ho, a2]
    exact ⟨rfl, rfl, rfl⟩
theorem unsT_size (t : List Int) : (unsT t).size ≤ t.length := by
  unfold unsT
  cases hu : uns t with
  | none => exact Nat.zero_le _
  | some p =>
    obtain ⟨l, r⟩ := p
    have h1 := uns_some t l r hu
    have h2 := zz_len l
    have h3 := congrArg List.length h1
    rw [List.length_append] at h3
    show (txt l).size ≤ _
    rw [txt_size]
    omega
set_option maxHeartbeats 4000000 in
set_option maxRecDepth 100000 in
theorem c_takenT (k : Int) (h1 : ¬ k = 1) (h4 : ¬ k = 4) (h5 : ¬ k = 5) (ad : Addr) (c : Nat) (t : List Int) (hc : t.length ≤ c) (hb : Byts t) (hm : t.length ≤ 1000000) (w : World) (hk : ∀ k, k < t.length → w.cell? (ad.add k) = some (.int .u8 (t.getD k 0))) (hg : Gv w) :
    Calls Tryz.prog 47 #[.int .i64 k, .slice (some ad) t.length c] w fun e w' => ∃ n s ok, TkIs k t n s ok ∧ e = .returned (.tuple #[vv k n s, .bool ok]) ∧ Below w.heap.size w w' := by
  have HG := Lib.hid hg
  have HT := Lib.hid (tk_text hb h1 h4 h5)
  have HTK0 := Lib.hid (Tk.start w (.int .i64 0) (.int .i64 0) (.string ⟨#[]⟩) k 0 ⟨#[]⟩)
  have C0 := Lib.hid (fun W hk => c_unesc W ad c t hc hk hb hm)
  have HK := Lib.hid (fun W (hb : Below w.heap.size w W) j (hj : j < t.length) => (hb.cell (World.block_lt_of_cell? w _ (hk j hj))).trans (hk j hj))
  have hsz := unsT_size t
  have C1 := Lib.hid (fun W hg b hb => c_vright k 0 (unsT t) (by unfold Wf; omega) (by omega) b hb W hg)
  have q1 : (k == 1) = false := by simp [h1]
  have q4 : (k == 4) = false := by simp [h4]
  have q5 : (k == 5) = false := by simp [h5]
  obtain ⟨b, hbr⟩ : ∃ b, rightV k 0 (unsT t) = b := ⟨_, rfl⟩
  have C1 := Lib.hid (fun W hg => C1.out W hg b hbr)
  rw [hbr] at HT
  unfold vv at C1 ⊢
  generalize unsT t = u at *
  generalize unsOk t = ok at *
  clear hg hk h1 h4 h5 hb hsz hbr
  cases ok with
  | true =>
    rw [Bool.true_and] at HT
    go_enter Tryz.func47, Tryz.ntmps47
    go_wp2_with (go_at_call 68; ((refine (C0.out _ (HK.out _ HTK0.out.bel)).mono ?_); rintro e w1 ⟨rfl, hb⟩; have HTK1 := Lib.hid (HTK0.out.below hb); obtain ⟨z0, z1, z2, y0, y1, y2⟩ := HTK1.out.cells; obtain ⟨f0, f1, f2⟩ := HTK1.out.frozenv; clear hb))
    have HTK := Lib.hid (HTK1.out.setS u)
    have HGW := Lib.hid (HG.out.below HTK.out.bel)
    generalize w1.setCell ⟨w.heap.size + 1, 2, none⟩ (.string u) = W at HTK HGW ⊢
    refine wp_region_held_drew (S := fun X => ∃ b0 b1 b2, Tk w X b0 b1 b2 k 0 u) (by kernel_rfl) ⟨_, _, _, HTK.out.below (Below.refl _ _).drew⟩ (fun hHeld => ?_)
    refine wpAnyH_take (i := 0) (oi := ?o_403) (v := ?v_403) ?hi_403 ?hs_403 ?hf_403 ?hr_403 ?hQ_403 ?hy_403 ?hS_403 ?rest_403; (case hi_403 => (simp only [List.getElem?_toArray, List.getElem?_cons_zero, List.getElem?_cons_succ]; rfl)); (case hs_403 => kernel_rfl); (case hf_403 => kernel_rfl); (case hr_403 => kernel_rfl); (case hQ_403 => exact fun _ _ _ h => h); (case hS_403 => assumption); (case hy_403 => (refine Or.inl ⟨by rfl, ?_⟩; intro w hSw; obtain ⟨_, _, _, hT⟩ := hSw; obtain ⟨z0, z1, z2, y0, y1, y2⟩ := hT.cells; go_simp; first | done | with_reducible rfl)); (try simp only [Act.put, List.setIfInBounds_toArray, List.set_cons_zero, List.set_cons_succ])
    refine wpAnyH_take (i := 1) (oi := ?o_404) (v := ?v_404) ?hi_404 ?hs_404 ?hf_404 ?hr_404 ?hQ_404 ?hy_404 ?hS_404 ?rest_404; (case hi_404 => (simp only [List.getElem?_toArray, List.getElem?_cons_zero, List.getElem?_cons_succ]; rfl)); (case hs_404 => kernel_rfl); (case hf_404 => kernel_rfl); (case hr_404 => kernel_rfl); (case hQ_404 => exact fun _ _ _ h => h); (case hS_404 => assumption); (case hy_404 => (refine Or.inl ⟨by rfl, ?_⟩; intro w hSw; go_simp; first | done | with_reducible rfl)); (try simp only [Act.put, List.setIfInBounds_toArray, List.set_cons_zero, List.set_cons_succ])
    refine wpAnyH_take (i := 2) (oi := ?o_405) (v := ?v_405) ?hi_405 ?hs_405 ?hf_405 ?hr_405 ?hQ_405 ?hy_405 ?hS_405 ?rest_405; (case hi_405 => (simp only [List.getElem?_toArray, List.getElem?_cons_zero, List.getElem?_cons_succ]; rfl)); (case hs_405 => kernel_rfl); (case hf_405 => kernel_rfl); (case hr_405 => kernel_rfl); (case hQ_405 => exact fun _ _ _ h => h); (case hS_405 => assumption); (case hy_405 => (refine Or.inl ⟨by rfl, ?_⟩; intro w hSw; go_simp; first | done | with_reducible rfl)); (try simp only [Act.put, List.setIfInBounds_toArray, List.set_cons_zero, List.set_cons_succ])
    refine wpAnyH_take (i := 3) (oi := ?o_406) (v := ?v_406) ?hi_406 ?hs_406 ?hf_406 ?hr_406 ?hQ_406 ?hy_406 ?hS_406 ?rest_406; (case hi_406 => (simp only [List.getElem?_toArray, List.getElem?_cons_zero, List.getElem?_cons_succ]; rfl)); (case hs_406 => kernel_rfl); (case hf_406 => kernel_rfl); (case hr_406 => kernel_rfl); (case hQ_406 => exact fun _ _ _ h => h); (case hS_406 => assumption); (case hy_406 => (refine Or.inl ⟨by rfl, ?_⟩; intro w hSw; obtain ⟨_, _, _, hT⟩ := hSw; obtain ⟨z0, z1, z2, y0, y1, y2⟩ := hT.cells; go_simp; first | done | with_reducible rfl)); (try simp only [Act.put, List.setIfInBounds_toArray, List.set_cons_zero, List.set_cons_succ])
    refine wpAnyH_ready (rs := [4]) (by kernel_rfl) (by simp) ?_; refine AllReadyH.cons (o := ?o_407) ?hi_407 (fun K hK => ?_) AllReadyH.nil; (case hi_407 => (simp only [List.getElem?_toArray, List.getElem?_cons_zero, List.getElem?_cons_succ]; rfl)); go_simp; (go_at_call 13; ((refine (C1.out _ (HGW.out.below (Below.refl _ _).drew)).mono ?_); rintro e w2 ⟨rfl, hb⟩; have HTK2 := Lib.hid (HTK.out.below ((Below.refl _ _).drew.trans hb)); clear hb)); refine hK.out _ _ ?_ (fun hHeld => ?_); (· exact ⟨_, _, _, HTK2.out⟩); clear hK K; (try simp only [Act.put, List.setIfInBounds_toArray, List.set_cons_zero, List.set_cons_succ])
    refine wpAnyH_take (i := 5) (oi := ?o_408) (v := ?v_408) ?hi_408 ?hs_408 ?hf_408 ?hr_408 ?hQ_408 ?hy_408 ?hS_408 ?rest_408; (case hi_408 => (simp only [List.getElem?_toArray, List.getElem?_cons_zero, List.getElem?_cons_succ]; rfl)); (case hs_408 => kernel_rfl); (case hf_408 => kernel_rfl); (case hr_408 => kernel_rfl); (case hQ_408 => exact fun _ _ _ h => h); (case hS_408 => assumption); (case hy_408 => (refine Or.inl ⟨by rfl, ?_⟩; intro w hSw; go_simp; first | done | with_reducible rfl)); (try simp only [Act.put, List.setIfInBounds_toArray, List.set_cons_zero, List.set_cons_succ])
    obtain ⟨z0, z1, z2, y0, y1, y2⟩ := HTK2.out.cells
    obtain ⟨f0, f1, f2⟩ := HTK2.out.frozen
    refine wpAnyH_ready (rs := [6]) (by kernel_rfl) (by simp) ?_; refine AllReadyH.cons (o := ?o_401) ?hi_401 (fun K hK => ?_) AllReadyH.nil; (case hi_401 => (simp only [List.getElem?_toArray, List.getElem?_cons_zero, List.getElem?_cons_succ]; rfl)); go_simp; skip; refine hK.out _ _ ?_ (fun hHeld => ?_); (· exact ⟨_, _, _, HTK2.out.put (.int .i64 k) (.int .i64 0) (.string u)⟩); clear hK K; (try simp only [Act.put, List.setIfInBounds_toArray, List.set_cons_zero, List.set_cons_succ])
    refine wpAnyH_take (i := 7) (oi := ?o_402) (v := ?v_402) ?hi_402 ?hs_402 ?hf_402 ?hr_402 ?hQ_402 ?hy_402 ?hS_402 ?rest_402; (case hi_402 => (simp only [List.getElem?_toArray, List.getElem?_cons_zero, List.getElem?_cons_succ]; rfl)); (case hs_402 => kernel_rfl); (case hf_402 => kernel_rfl); (case hr_402 => kernel_rfl); (case hQ_402 => exact fun _ _ _ h => h); (case hS_402 => assumption); (case hy_402 => (refine Or.inl ⟨by rfl, ?_⟩; intro w hSw; go_simp; first | done | with_reducible rfl)); (try simp only [Act.put, List.setIfInBounds_toArray, List.set_cons_zero, List.set_cons_succ])
    refine wpAnyH_done (by kernel_rfl) ?_ _
    go_wp2_with fail
    exact bodyPost_ret (ret_cell rfl _ _ w.heap.size k 0 u b (0, 0) rfl rfl (HTK2.out.put (.int .i64 k) (.int .i64 0) (.string u)).z) rfl ⟨0, u, b, HT.out, rfl, (HTK2.out.put (.int .i64 k) (.int .i64 0) (.string u)).bel⟩
  | false =>
    rw [Bool.false_and] at HT
    go_enter Tryz.func47, Tryz.ntmps47
    go_wp2_with (go_at_call 68; ((refine (C0.out _ (HK.out _ HTK0.out.bel)).mono ?_); rintro e w1 ⟨rfl, hb⟩; have HTK1 := Lib.hid (HTK0.out.below hb); obtain ⟨z0, z1, z2, y0, y1, y2⟩ := HTK1.out.cells; obtain ⟨f0, f1, f2⟩ := HTK1.out.frozenv; clear hb))
    have HTK := Lib.hid (HTK1.out.setS u)
    generalize w1.setCell ⟨w.heap.size + 1, 2, none⟩ (.string u) = W at HTK ⊢
    refine wp_region_held_drew (S := fun X => ∃ b0 b1 b2, Tk w X b0 b1 b2 k 0 u) (by kernel_rfl) ⟨_, _, _, HTK.out.below (Below.refl _ _).drew⟩ (fun hHeld => ?_)
    refine wpAnyH_take (i := 0) (oi := ?o_503) (v := ?v_503) ?hi_503 ?hs_503 ?hf_503 ?hr_503 ?hQ_503 ?hy_503 ?hS_503 ?rest_503; (case hi_503 => (simp only [List.getElem?_toArray, List.getElem?_cons_zero, List.getElem?_cons_succ]; rfl)); (case hs_503 => kernel_rfl); (case hf_503 => kernel_rfl); (case hr_503 => kernel_rfl); (case hQ_503 => exact fun _ _ _ h => h); (case hS_503 => assumption); (case hy_503 => (refine Or.inl ⟨by rfl, ?_⟩; intro w hSw; obtain ⟨_, _, _, hT⟩ := hSw; obtain ⟨z0, z1, z2, y0, y1, y2⟩ := hT.cells; go_simp; first | done | with_reducible rfl)); (try simp only [Act.put, List.setIfInBounds_toArray, List.set_cons_zero, List.set_cons_succ])
    refine wpAnyH_take (i := 1) (oi := ?o_504) (v := ?v_504) ?hi_504 ?hs_504 ?hf_504 ?hr_504 ?hQ_504 ?hy_504 ?hS_504 ?rest_504; (case hi_504 => (simp only [List.getElem?_toArray, List.getElem?_cons_zero, List.getElem?_cons_succ]; rfl)); (case hs_504 => kernel_rfl); (case hf_504 => kernel_rfl); (case hr_504 => kernel_rfl); (case hQ_504 => exact fun _ _ _ h => h); (case hS_504 => assumption); (case hy_504 => (refine Or.inl ⟨by rfl, ?_⟩; intro w hSw; go_simp; first | done | with_reducible rfl)); (try simp only [Act.put, List.setIfInBounds_toArray, List.set_cons_zero, List.set_cons_succ])
    refine wpAnyH_take (i := 2) (oi := ?o_505) (v := ?v_505) ?hi_505 ?hs_505 ?hf_505 ?hr_505 ?hQ_505 ?hy_505 ?hS_505 ?rest_505; (case hi_505 => (simp only [List.getElem?_toArray, List.getElem?_cons_zero, List.getElem?_cons_succ]; rfl)); (case hs_505 => kernel_rfl); (case hf_505 => kernel_rfl); (case hr_505 => kernel_rfl); (case hQ_505 => exact fun _ _ _ h => h); (case hS_505 => assumption); (case hy_505 => (refine Or.inl ⟨by rfl, ?_⟩; intro w hSw; go_simp; first | done | with_reducible rfl)); (try simp only [Act.put, List.setIfInBounds_toArray, List.set_cons_zero, List.set_cons_succ])
    refine wpAnyH_take (i := 3) (oi := ?o_506) (v := undef) ?hi_506 ?hs_506 ?hf_506 ?hr_506 ?hQ_506 ?hy_506 ?hS_506 ?rest_506; (case hi_506 => (simp only [List.getElem?_toArray, List.getElem?_cons_zero, List.getElem?_cons_succ]; rfl)); (case hs_506 => kernel_rfl); (case hf_506 => kernel_rfl); (case hr_506 => kernel_rfl); (case hQ_506 => exact fun _ _ _ h => h); (case hS_506 => assumption); (case hy_506 => exact Or.inr ⟨by rfl, rfl⟩); (try simp only [Act.put, List.setIfInBounds_toArray, List.set_cons_zero, List.set_cons_succ])
    refine wpAnyH_take (i := 4) (oi := ?o_507) (v := undef) ?hi_507 ?hs_507 ?hf_507 ?hr_507 ?hQ_507 ?hy_507 ?hS_507 ?rest_507; (case hi_507 => (simp only [List.getElem?_toArray, List.getElem?_cons_zero, List.getElem?_cons_succ]; rfl)); (case hs_507 => kernel_rfl); (case hf_507 => kernel_rfl); (case hr_507 => kernel_rfl); (case hQ_507 => exact fun _ _ _ h => h); (case hS_507 => assumption); (case hy_507 => exact Or.inr ⟨by rfl, rfl⟩); (try simp only [Act.put, List.setIfInBounds_toArray, List.set_cons_zero, List.set_cons_succ])
    refine wpAnyH_take (i := 5) (oi := ?o_508) (v := ?v_508) ?hi_508 ?hs_508 ?hf_508 ?hr_508 ?hQ_508 ?hy_508 ?hS_508 ?rest_508; (case hi_508 => (simp only [List.getElem?_toArray, List.getElem?_cons_zero, List.getElem?_cons_succ]; rfl)); (case hs_508 => kernel_rfl); (case hf_508 => kernel_rfl); (case hr_508 => kernel_rfl); (case hQ_508 => exact fun _ _ _ h => h); (case hS_508 => assumption); (case hy_508 => (refine Or.inl ⟨by rfl, ?_⟩; intro w hSw; go_simp; first | done | with_reducible rfl)); (try simp only [Act.put, List.setIfInBounds_toArray, List.set_cons_zero, List.set_cons_succ])
    obtain ⟨z0, z1, z2, y0, y1, y2⟩ := HTK.out.cells
    obtain ⟨f0, f1, f2⟩ := HTK.out.frozen
    refine wpAnyH_ready (rs := [6]) (by kernel_rfl) (by simp) ?_; refine AllReadyH.cons (o := ?o_501) ?hi_501 (fun K hK => ?_) AllReadyH.nil; (case hi_501 => (simp only [List.getElem?_toArray, List.getElem?_cons_zero, List.getElem?_cons_succ]; rfl)); go_simp; skip; refine hK.out _ _ ?_ (fun hHeld => ?_); (· exact ⟨_, _, _, (HTK.out.put (.int .i64 k) (.int .i64 0) (.string u)).below (Below.refl _ _).drew⟩); clear hK K; (try simp only [Act.put, List.setIfInBounds_toArray, List.set_cons_zero, List.set_cons_succ])
    refine wpAnyH_take (i := 7) (oi := ?o_502) (v := ?v_502) ?hi_502 ?hs_502 ?hf_502 ?hr_502 ?hQ_502 ?hy_502 ?hS_502 ?rest_502; (case hi_502 => (simp only [List.getElem?_toArray, List.getElem?_cons_zero, List.getElem?_cons_succ]; rfl)); (case hs_502 => kernel_rfl); (case hf_502 => kernel_rfl); (case hr_502 => kernel_rfl); (case hQ_502 => exact fun _ _ _ h => h); (case hS_502 => assumption); (case hy_502 => (refine Or.inl ⟨by rfl, ?_⟩; intro w hSw; go_simp; first | done | with_reducible rfl)); (try simp only [Act.put, List.setIfInBounds_toArray, List.set_cons_zero, List.set_cons_succ])
    refine wpAnyH_done (by kernel_rfl) ?_ _
    go_wp2_with fail
    exact bodyPost_ret (ret_cell rfl _ _ w.heap.size k 0 u false (0, 0) rfl rfl ((HTK.out.put (.int .i64 k) (.int .i64 0) (.string u)).below (Below.refl _ _).drew).z) rfl ⟨0, u, false, HT.out, rfl, ((HTK.out.put (.int .i64 k) (.int .i64 0) (.string u)).below (Below.refl _ _).drew).bel⟩
end Go.Proofs.YtikpmlginojnhaaGreatDoor.Fl
