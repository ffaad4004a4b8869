/- Script: the writer's change. -/
import Derived.Test.YtkogcobcjoojnaaGreatDoorPE
namespace Go.Proofs.YtkogcobcjoojnaaGreatDoor.Fl
open Go.RowKit Go.Maps
set_option linter.unusedVariables false
set_option linter.unusedSimpArgs false
/-- A block that is none of the writer's own. -/
structure Kp (p b : Nat) (cs : Array Value) (T : TypeId) (w : World) : Prop where
  box : w.heap[b]? = some (.cells cs T (0, 0))
  ne : b ≠ p
  nr : NotRow p b w
theorem Kp.next {p b : Nat} {cs : Array Value} {T : TypeId} {w w' : World} (h : Kp p b cs T w) (hf : Fr p w w') : Kp p b cs T w' := by
  obtain ⟨e, r⟩ := hf.keeps b (Array.getElem?_eq_some_iff.1 h.box).1 h.ne h.nr
  exact ⟨e.trans h.box, h.ne, r⟩
theorem Kp.cell {p b : Nat} {cs : Array Value} {T : TypeId} {w : World} (h : Kp p b cs T w) (j : Nat) (v : Value) (hj : cs[j]? = some v) : w.cell? ⟨b, j, none⟩ = some v := by
  simp [World.cell?, h.box, hj]
theorem Kp.new {w0 : World} {p : Nat} {ws : List ByteArray} {w w' : World} (h : Ww w0 p ws w) (hb : Below w.heap.size w w') {cs : Array Value} {T : TypeId} (hx : w'.heap[w.heap.size]? = some (.cells cs T (0, 0))) : Kp p w.heap.size cs T w' := by
  refine ⟨hx, by have := h.lt; omega, fun v hv e => ?_⟩
  obtain ⟨hB, v', hbk, hown, hne⟩ := h.is
  rw [hb.block p h.lt, hbk] at hv
  simp at hv
  subst hv
  have := (hown.lt _ e).2
  omega
def ccells (c : ChgE) : Array Value := #[.int .i64 c.kind, .string c.fam, .string c.qual, .int .i64 c.typ, .int .i64 c.group, .int .i64 c.versions, .int .i64 c.life]
theorem Wb.ccell {w0 : World} {p : Nat} {ws : List ByteArray} {b : Nat} {c : ChgE} {w : World} (h : Wb w0 p ws b (ccells c) 37 w) :
    w.cell? ⟨b, 0, none⟩ = some (.int .i64 c.kind) ∧ w.cell? ⟨b, 1, none⟩ = some (.string c.fam) ∧ w.cell? ⟨b, 2, none⟩ = some (.string c.qual) ∧ w.cell? ⟨b, 3, none⟩ = some (.int .i64 c.typ) ∧ w.cell? ⟨b, 4, none⟩ = some (.int .i64 c.group) ∧ w.cell? ⟨b, 5, none⟩ = some (.int .i64 c.versions) ∧ w.cell? ⟨b, 6, none⟩ = some (.int .i64 c.life) :=
  ⟨h.cell 0 _ rfl, h.cell 1 _ rfl, h.cell 2 _ rfl, h.cell 3 _ rfl, h.cell 4 _ rfl, h.cell 5 _ rfl, h.cell 6 _ rfl⟩
theorem qual_yes {k : Int} (h : k = 3 ∨ k = 4) (w : World) : Calls Tryz.prog 103 #[.int .i64 k] w fun e w' => e = .returned (.bool true) ∧ w = w' :=
  (c_qualified k w).mono fun _ _ ⟨e, h2⟩ => ⟨by rw [e, decide_eq_true h], h2⟩
theorem qual_no {k : Int} (h : ¬ (k = 3 ∨ k = 4)) (w : World) : Calls Tryz.prog 103 #[.int .i64 k] w fun e w' => e = .returned (.bool false) ∧ w = w' :=
  (c_qualified k w).mono fun _ _ ⟨e, h2⟩ => ⟨by rw [e, decide_eq_false h], h2⟩
set_option maxRecDepth 100000 in
set_option maxHeartbeats 4000000 in
theorem c_wchg1 {w0 : World} (hg : Gv w0) {p : Nat} {ws : List ByteArray} (c : ChgE) (hm : c.kind = 1) (hq : c.qual.size ≤ 1000000) (n1 : Wf c.typ) (n2 : Wf c.group) (n3 : Wf c.versions) (n4 : Wf c.life) {w : World} (h : Ww w0 p ws w) (hlen : ws.length < 1099511600000) :
    Calls Tryz.prog 65 #[.pointer (some ⟨p, 0, none⟩), .agg (ccells c)] w fun e w' => e = .returned (.tuple #[]) ∧ Ww w0 p (ws ++ wChg c) w' ∧ Fr p w w' := by
  obtain ⟨k, fam, qual, typ, group, versions, life⟩ := c
  simp only at hm hq n1 n2 n3 n4
  subst hm
  have HA0 := Lib.hid (h.box (ccells ⟨1, fam, qual, typ, group, versions, life⟩) 37)
  have HF0 := Lib.hid (Fr.below h.lt ((Below.refl w.heap.size w).alloc (Nat.le_refl _) (.cells (ccells ⟨1, fam, qual, typ, group, versions, life⟩) 37)))
  simp only [ccells] at HA0 HF0 ⊢
  clear h
  have k3 : IntKind.i64.wrap 0 = 0 := by decide
  go_enter Tryz.func65, Tryz.ntmps65
  go_wp2_with fail
  have HA1 := Lib.hid HA0.out.drew
  have HFD := Lib.hid (HF0.out.trans (Fr.below HA0.out.ww.lt (Below.refl _ _).drew))
  refine wp_region_held_drew (S := fun X => ∃ u, Wb w0 p u w.heap.size (ccells ⟨1, fam, qual, typ, group, versions, life⟩) 37 X) (by kernel_rfl) ⟨_, HA1.out⟩ (fun hHeld => ?_)
  refine tk 0 (v := ?v_101) ?y101 ?_; (case y101 => (refine Or.inl ⟨by rfl, ?_⟩; intro w hSw; obtain ⟨_, hW⟩ := hSw; obtain ⟨x0, x1, x2, x3, x4, x5, x6⟩ := hW.ccell; simp only at x0 x1 x2 x3 x4 x5 x6; have k3 : IntKind.i64.wrap 0 = 0 := (by decide); go_simp; first | done | with_reducible rfl)); (try simp only [Act.put, List.setIfInBounds_toArray, List.set_cons_zero, List.set_cons_succ])
  refine tk 2 (v := ?v_102) ?y102 ?_; (case y102 => (refine Or.inl ⟨by rfl, ?_⟩; intro w hSw; obtain ⟨_, hW⟩ := hSw; obtain ⟨x0, x1, x2, x3, x4, x5, x6⟩ := hW.ccell; simp only at x0 x1 x2 x3 x4 x5 x6; have k3 : IntKind.i64.wrap 0 = 0 := (by decide); go_simp; first | done | with_reducible rfl)); (try simp only [Act.put, List.setIfInBounds_toArray, List.set_cons_zero, List.set_cons_succ])
  refine tk 3 (v := ?v_103) ?y103 ?_; (case y103 => (refine Or.inl ⟨by rfl, ?_⟩; intro w hSw; obtain ⟨_, hW⟩ := hSw; obtain ⟨x0, x1, x2, x3, x4, x5, x6⟩ := hW.ccell; simp only at x0 x1 x2 x3 x4 x5 x6; have k3 : IntKind.i64.wrap 0 = 0 := (by decide); go_simp; first | done | with_reducible rfl)); (try simp only [Act.put, List.setIfInBounds_toArray, List.set_cons_zero, List.set_cons_succ])
  refine tk 4 (v := ?v_104) ?y104 ?_; (case y104 => (refine Or.inl ⟨by rfl, ?_⟩; intro w hSw; obtain ⟨_, hW⟩ := hSw; obtain ⟨x0, x1, x2, x3, x4, x5, x6⟩ := hW.ccell; simp only at x0 x1 x2 x3 x4 x5 x6; have k3 : IntKind.i64.wrap 0 = 0 := (by decide); go_simp; first | done | with_reducible rfl)); (try simp only [Act.put, List.setIfInBounds_toArray, List.set_cons_zero, List.set_cons_succ])
  refine wpAnyH_ready (rs := [1]) (by kernel_rfl) (by simp) ?_; refine AllReadyH.cons (o := ?o_105) ?hi_105 (fun K hK => ?_) AllReadyH.nil; (case hi_105 => (simp only [List.getElem?_toArray, List.getElem?_cons_zero, List.getElem?_cons_succ]; rfl)); go_simp; (go_at_call 102; ((refine (c_changes _).mono ?_); rintro e w2 ⟨rfl, hr2, hb2⟩; have HA2 := Lib.hid (HA1.out.keep hb2); have hr3 : w2.heap[w.heap.size + 1]? = some (.cells (strs chgN).toArray 9 (0, 0)) := (by simpa using hr2); have c3 : w2.cell? ⟨w.heap.size + 1, 0, none⟩ = some (.string (nth chgN 1)) := (by simp [World.cell?, hr3, strs, chgN, nth]); have HF1 := Lib.hid (HFD.out.trans (Fr.below HA1.out.ww.lt hb2)))); refine hK.out _ _ ?_ (fun hHeld => ?_); (· exact ⟨_, HA2.out⟩); clear hK K; (try simp only [Act.put, List.setIfInBounds_toArray, List.set_cons_zero, List.set_cons_succ])
  refine tk 5 (v := ?v_106) ?y106 ?_; (case y106 => (refine Or.inl ⟨by rfl, ?_⟩; intro w hSw; obtain ⟨_, hW⟩ := hSw; obtain ⟨x0, x1, x2, x3, x4, x5, x6⟩ := hW.ccell; simp only at x0 x1 x2 x3 x4 x5 x6; have k3 : IntKind.i64.wrap 0 = 0 := (by decide); go_simp; first | done | with_reducible rfl)); (try simp only [Act.put, List.setIfInBounds_toArray, List.set_cons_zero, List.set_cons_succ])
  refine wpAnyH_ready (rs := [6]) (by kernel_rfl) (by simp) ?_; refine AllReadyH.cons (o := ?o_107) ?hi_107 (fun K hK => ?_) AllReadyH.nil; (case hi_107 => (simp only [List.getElem?_toArray, List.getElem?_cons_zero, List.getElem?_cons_succ]; rfl)); go_simp; skip; refine hK.out _ _ ?_ (fun hHeld => ?_); (· exact ⟨_, HA2.out⟩); clear hK K; (try simp only [Act.put, List.setIfInBounds_toArray, List.set_cons_zero, List.set_cons_succ])
  refine wpAnyH_ready (rs := [7]) (by kernel_rfl) (by simp) ?_; refine AllReadyH.cons (o := ?o_108) ?hi_108 (fun K hK => ?_) AllReadyH.nil; (case hi_108 => (simp only [List.getElem?_toArray, List.getElem?_cons_zero, List.getElem?_cons_succ]; rfl)); go_simp; (go_at_call 61; ((refine (c_wword _ HA2.out.ww (by omega)).mono ?_); rintro e w3 ⟨rfl, h3, hf3⟩; have HA3 := Lib.hid (HA2.out.next h3 hf3); have HF2 := Lib.hid (HF1.out.trans hf3); clear h3 hf3)); refine hK.out _ _ ?_ (fun hHeld => ?_); (· exact ⟨_, HA3.out⟩); clear hK K; (try simp only [Act.put, List.setIfInBounds_toArray, List.set_cons_zero, List.set_cons_succ])
  refine wpAnyH_done (by kernel_rfl) ?_ _
  obtain ⟨x0, x1, x2, x3, x4, x5, x6⟩ := Wb.ccell (c := ⟨1, fam, qual, typ, group, versions, life⟩) HA3.out
  simp only at x0 x1 x2 x3 x4 x5 x6
  go_wp2_with (go_at_call 61; refine (c_wword fam HA3.out.ww (by simp; omega)).mono ?_)
  rintro e w4 ⟨rfl, h3, hf3⟩
  have HA4 := Lib.hid (HA3.out.next h3 hf3)
  have HF3 := Lib.hid (HF2.out.trans hf3)
  clear h3 hf3 x0 x1 x2 x3 x4 x5 x6
  obtain ⟨x0, x1, x2, x3, x4, x5, x6⟩ := Wb.ccell (c := ⟨1, fam, qual, typ, group, versions, life⟩) HA4.out
  simp only at x0 x1 x2 x3 x4 x5 x6
  go_wp2_with (go_at_call 103; refine (qual_no (by omega) _).mono ?_)
  rintro e wq ⟨rfl, rfl⟩
  go_wp2_with (go_at_call 104; refine (c_knobs1 _ _ x0).mono ?_)
  rintro e w9 ⟨v9, rfl, rfl, hr9, hb9⟩
  have HK9 := Lib.hid (Kp.new HA4.out.ww hb9 hr9)
  have HA9 := Lib.hid (HA4.out.keep hb9)
  have HF9 := Lib.hid (HF3.out.trans (Fr.below HA4.out.ww.lt hb9))
  clear hr9 hb9 x0 x1 x2 x3 x4 x5 x6
  generalize hG : w4.heap.size = gb at HK9
  go_wp2
  go_loopw [27] (fun v27 W => ∃ i : Nat, i ≤ 3 ∧ v27 = .int .i64 i ∧ Hid (Wb w0 p (ws ++ [nth chgN 1] ++ [fam] ++ [wNum group, wNum versions, wNum life].take i) w.heap.size #[.int .i64 1, .string fam, .string qual, .int .i64 typ, .int .i64 group, .int .i64 versions, .int .i64 life] 37 W) ∧ Hid (Kp p gb (ptrs w.heap.size (knobsC 1)).toArray 70 W) ∧ Hid (Fr p w W)) (fun v27 _ => 3 - (intOf v27).toNat)
  case atStart => exact ⟨0, by omega, rfl, Lib.hid (by rw [List.take_zero, List.append_nil]; exact HA9.out), HK9, HF9⟩
  case round =>
    obtain ⟨i, hi2, rfl, HA, HK, HF⟩ := hrel
    clear HA9 HF9
    obtain rfl | rfl | rfl | rfl : i = 0 ∨ i = 1 ∨ i = 2 ∨ i = 3 := by omega
    · have x0 := HA.out.cell 4 _ rfl
      have y0 := HK.out.cell 0 (.pointer (some ⟨w.heap.size, 4, none⟩)) rfl
      go_wp2_with (go_at_call 63; refine (c_wnum hg group n2 HA.out.ww (by simp; omega)).mono ?_)
      rintro e w8 ⟨rfl, h3, hf3⟩
      have HA2 := Lib.hid (HA.out.next h3 hf3)
      have HK2 := Lib.hid (HK.out.next hf3)
      have HF2 := Lib.hid (HF.out.trans hf3)
      clear h3 hf3 x0 y0
      go_wp2
      go_roundw
      case rel => exact ⟨1, by omega, by go_num, Lib.hid (by have := HA2.out; rw [List.append_assoc] at this; exact this), HK2, HF2⟩
      case measure => simp [intOf]
    · have x0 := HA.out.cell 5 _ rfl
      have y0 := HK.out.cell 1 (.pointer (some ⟨w.heap.size, 5, none⟩)) rfl
      go_wp2_with (go_at_call 63; refine (c_wnum hg versions n3 HA.out.ww (by simp; omega)).mono ?_)
      rintro e w8 ⟨rfl, h3, hf3⟩
      have HA2 := Lib.hid (HA.out.next h3 hf3)
      have HK2 := Lib.hid (HK.out.next hf3)
      have HF2 := Lib.hid (HF.out.trans hf3)
      clear h3 hf3 x0 y0
      go_wp2
      go_roundw
      case rel => exact ⟨2, by omega, by go_num, Lib.hid (by have := HA2.out; rw [List.append_assoc] at this; exact this), HK2, HF2⟩
      case measure => simp [intOf]
    · have x0 := HA.out.cell 6 _ rfl
      have y0 := HK.out.cell 2 (.pointer (some ⟨w.heap.size, 6, none⟩)) rfl
      go_wp2_with (go_at_call 63; refine (c_wnum hg life n4 HA.out.ww (by simp; omega)).mono ?_)
      rintro e w8 ⟨rfl, h3, hf3⟩
      have HA2 := Lib.hid (HA.out.next h3 hf3)
      have HK2 := Lib.hid (HK.out.next hf3)
      have HF2 := Lib.hid (HF.out.trans hf3)
      clear h3 hf3 x0 y0
      go_wp2
      go_roundw
      case rel => exact ⟨3, by omega, by go_num, Lib.hid (by have := HA2.out; rw [List.append_assoc] at this; exact this), HK2, HF2⟩
      case measure => simp [intOf]
    · go_wp2
      go_end0
      exact ⟨rfl, by have := HA.out.ww; simpa [wChg, knobs] using this, HF.out⟩
set_option maxRecDepth 100000 in
set_option maxHeartbeats 4000000 in
theorem c_wchg2 {w0 : World} (hg : Gv w0) {p : Nat} {ws : List ByteArray} (c : ChgE) (hm : c.kind = 2) (hq : c.qual.size ≤ 1000000) (n1 : Wf c.typ) (n2 : Wf c.group) (n3 : Wf c.versions) (n4 : Wf c.life) {w : World} (h : Ww w0 p ws w) (hlen : ws.length < 1099511600000) :
    Calls Tryz.prog 65 #[.pointer (some ⟨p, 0, none⟩), .agg (ccells c)] w fun e w' => e = .returned (.tuple #[]) ∧ Ww w0 p (ws ++ wChg c) w' ∧ Fr p w w' := by
  obtain ⟨k, fam, qual, typ, group, versions, life⟩ := c
  simp only at hm hq n1 n2 n3 n4
  subst hm
  have HA0 := Lib.hid (h.box (ccells ⟨2, fam, qual, typ, group, versions, life⟩) 37)
  have HF0 := Lib.hid (Fr.below h.lt ((Below.refl w.heap.size w).alloc (Nat.le_refl _) (.cells (ccells ⟨2, fam, qual, typ, group, versions, life⟩) 37)))
  simp only [ccells] at HA0 HF0 ⊢
  clear h
  have k3 : IntKind.i64.wrap 1 = 1 := by decide
  go_enter Tryz.func65, Tryz.ntmps65
  go_wp2_with fail
  have HA1 := Lib.hid HA0.out.drew
  have HFD := Lib.hid (HF0.out.trans (Fr.below HA0.out.ww.lt (Below.refl _ _).drew))
  refine wp_region_held_drew (S := fun X => ∃ u, Wb w0 p u w.heap.size (ccells ⟨2, fam, qual, typ, group, versions, life⟩) 37 X) (by kernel_rfl) ⟨_, HA1.out⟩ (fun hHeld => ?_)
  refine tk 0 (v := ?v_201) ?y201 ?_; (case y201 => (refine Or.inl ⟨by rfl, ?_⟩; intro w hSw; obtain ⟨_, hW⟩ := hSw; obtain ⟨x0, x1, x2, x3, x4, x5, x6⟩ := hW.ccell; simp only at x0 x1 x2 x3 x4 x5 x6; have k3 : IntKind.i64.wrap 1 = 1 := (by decide); go_simp; first | done | with_reducible rfl)); (try simp only [Act.put, List.setIfInBounds_toArray, List.set_cons_zero, List.set_cons_succ])
  refine tk 2 (v := ?v_202) ?y202 ?_; (case y202 => (refine Or.inl ⟨by rfl, ?_⟩; intro w hSw; obtain ⟨_, hW⟩ := hSw; obtain ⟨x0, x1, x2, x3, x4, x5, x6⟩ := hW.ccell; simp only at x0 x1 x2 x3 x4 x5 x6; have k3 : IntKind.i64.wrap 1 = 1 := (by decide); go_simp; first | done | with_reducible rfl)); (try simp only [Act.put, List.setIfInBounds_toArray, List.set_cons_zero, List.set_cons_succ])
  refine tk 3 (v := ?v_203) ?y203 ?_; (case y203 => (refine Or.inl ⟨by rfl, ?_⟩; intro w hSw; obtain ⟨_, hW⟩ := hSw; obtain ⟨x0, x1, x2, x3, x4, x5, x6⟩ := hW.ccell; simp only at x0 x1 x2 x3 x4 x5 x6; have k3 : IntKind.i64.wrap 1 = 1 := (by decide); go_simp; first | done | with_reducible rfl)); (try simp only [Act.put, List.setIfInBounds_toArray, List.set_cons_zero, List.set_cons_succ])
  refine tk 4 (v := ?v_204) ?y204 ?_; (case y204 => (refine Or.inl ⟨by rfl, ?_⟩; intro w hSw; obtain ⟨_, hW⟩ := hSw; obtain ⟨x0, x1, x2, x3, x4, x5, x6⟩ := hW.ccell; simp only at x0 x1 x2 x3 x4 x5 x6; have k3 : IntKind.i64.wrap 1 = 1 := (by decide); go_simp; first | done | with_reducible rfl)); (try simp only [Act.put, List.setIfInBounds_toArray, List.set_cons_zero, List.set_cons_succ])
  refine wpAnyH_ready (rs := [1]) (by kernel_rfl) (by simp) ?_; refine AllReadyH.cons (o := ?o_205) ?hi_205 (fun K hK => ?_) AllReadyH.nil; (case hi_205 => (simp only [List.getElem?_toArray, List.getElem?_cons_zero, List.getElem?_cons_succ]; rfl)); go_simp; (go_at_call 102; ((refine (c_changes _).mono ?_); rintro e w2 ⟨rfl, hr2, hb2⟩; have HA2 := Lib.hid (HA1.out.keep hb2); have hr3 : w2.heap[w.heap.size + 1]? = some (.cells (strs chgN).toArray 9 (0, 0)) := (by simpa using hr2); have c3 : w2.cell? ⟨w.heap.size + 1, 1, none⟩ = some (.string (nth chgN 2)) := (by simp [World.cell?, hr3, strs, chgN, nth]); have HF1 := Lib.hid (HFD.out.trans (Fr.below HA1.out.ww.lt hb2)))); refine hK.out _ _ ?_ (fun hHeld => ?_); (· exact ⟨_, HA2.out⟩); clear hK K; (try simp only [Act.put, List.setIfInBounds_toArray, List.set_cons_zero, List.set_cons_succ])
  refine tk 5 (v := ?v_206) ?y206 ?_; (case y206 => (refine Or.inl ⟨by rfl, ?_⟩; intro w hSw; obtain ⟨_, hW⟩ := hSw; obtain ⟨x0, x1, x2, x3, x4, x5, x6⟩ := hW.ccell; simp only at x0 x1 x2 x3 x4 x5 x6; have k3 : IntKind.i64.wrap 1 = 1 := (by decide); go_simp; first | done | with_reducible rfl)); (try simp only [Act.put, List.setIfInBounds_toArray, List.set_cons_zero, List.set_cons_succ])
  refine wpAnyH_ready (rs := [6]) (by kernel_rfl) (by simp) ?_; refine AllReadyH.cons (o := ?o_207) ?hi_207 (fun K hK => ?_) AllReadyH.nil; (case hi_207 => (simp only [List.getElem?_toArray, List.getElem?_cons_zero, List.getElem?_cons_succ]; rfl)); go_simp; skip; refine hK.out _ _ ?_ (fun hHeld => ?_); (· exact ⟨_, HA2.out⟩); clear hK K; (try simp only [Act.put, List.setIfInBounds_toArray, List.set_cons_zero, List.set_cons_succ])
  refine wpAnyH_ready (rs := [7]) (by kernel_rfl) (by simp) ?_; refine AllReadyH.cons (o := ?o_208) ?hi_208 (fun K hK => ?_) AllReadyH.nil; (case hi_208 => (simp only [List.getElem?_toArray, List.getElem?_cons_zero, List.getElem?_cons_succ]; rfl)); go_simp; (go_at_call 61; ((refine (c_wword _ HA2.out.ww (by omega)).mono ?_); rintro e w3 ⟨rfl, h3, hf3⟩; have HA3 := Lib.hid (HA2.out.next h3 hf3); have HF2 := Lib.hid (HF1.out.trans hf3); clear h3 hf3)); refine hK.out _ _ ?_ (fun hHeld => ?_); (· exact ⟨_, HA3.out⟩); clear hK K; (try simp only [Act.put, List.setIfInBounds_toArray, List.set_cons_zero, List.set_cons_succ])
  refine wpAnyH_done (by kernel_rfl) ?_ _
  obtain ⟨x0, x1, x2, x3, x4, x5, x6⟩ := Wb.ccell (c := ⟨2, fam, qual, typ, group, versions, life⟩) HA3.out
  simp only at x0 x1 x2 x3 x4 x5 x6
  go_wp2_with (go_at_call 61; refine (c_wword fam HA3.out.ww (by simp; omega)).mono ?_)
  rintro e w4 ⟨rfl, h3, hf3⟩
  have HA4 := Lib.hid (HA3.out.next h3 hf3)
  have HF3 := Lib.hid (HF2.out.trans hf3)
  clear h3 hf3 x0 x1 x2 x3 x4 x5 x6
  obtain ⟨x0, x1, x2, x3, x4, x5, x6⟩ := Wb.ccell (c := ⟨2, fam, qual, typ, group, versions, life⟩) HA4.out
  simp only at x0 x1 x2 x3 x4 x5 x6
  go_wp2_with (go_at_call 103; refine (qual_no (by omega) _).mono ?_)
  rintro e wq ⟨rfl, rfl⟩
  go_wp2_with (go_at_call 104; refine (c_knobs2 _ _ x0).mono ?_)
  rintro e w9 ⟨rfl, rfl⟩
  go_wp2
  go_loopw [27] (fun v27 W => v27 = .int .i64 0 ∧ Hid (Ww w0 p (ws ++ [nth chgN 2] ++ [fam]) W) ∧ Hid (Fr p w W)) (fun v27 _ => 0)
  case atStart => exact ⟨rfl, Lib.hid (HA4.out.ww), HF3⟩
  case round =>
    obtain ⟨rfl, HA, HF⟩ := hrel
    go_wp2
    go_end0
    exact ⟨rfl, by have := HA.out; simpa [wChg, knobs] using this, HF.out⟩
set_option maxRecDepth 100000 in
set_option maxHeartbeats 4000000 in
theorem c_wchg3 {w0 : World} (hg : Gv w0) {p : Nat} {ws : List ByteArray} (c : ChgE) (hm : c.kind = 3) (hq : c.qual.size ≤ 1000000) (n1 : Wf c.typ) (n2 : Wf c.group) (n3 : Wf c.versions) (n4 : Wf c.life) {w : World} (h : Ww w0 p ws w) (hlen : ws.length < 1099511600000) :
    Calls Tryz.prog 65 #[.pointer (some ⟨p, 0, none⟩), .agg (ccells c)] w fun e w' => e = .returned (.tuple #[]) ∧ Ww w0 p (ws ++ wChg c) w' ∧ Fr p w w' := by
  obtain ⟨k, fam, qual, typ, group, versions, life⟩ := c
  simp only at hm hq n1 n2 n3 n4
  subst hm
  have HA0 := Lib.hid (h.box (ccells ⟨3, fam, qual, typ, group, versions, life⟩) 37)
  have HF0 := Lib.hid (Fr.below h.lt ((Below.refl w.heap.size w).alloc (Nat.le_refl _) (.cells (ccells ⟨3, fam, qual, typ, group, versions, life⟩) 37)))
  simp only [ccells] at HA0 HF0 ⊢
  clear h
  have k3 : IntKind.i64.wrap 2 = 2 := by decide
  go_enter Tryz.func65, Tryz.ntmps65
  go_wp2_with fail
  have HA1 := Lib.hid HA0.out.drew
  have HFD := Lib.hid (HF0.out.trans (Fr.below HA0.out.ww.lt (Below.refl _ _).drew))
  refine wp_region_held_drew (S := fun X => ∃ u, Wb w0 p u w.heap.size (ccells ⟨3, fam, qual, typ, group, versions, life⟩) 37 X) (by kernel_rfl) ⟨_, HA1.out⟩ (fun hHeld => ?_)
  refine tk 0 (v := ?v_301) ?y301 ?_; (case y301 => (refine Or.inl ⟨by rfl, ?_⟩; intro w hSw; obtain ⟨_, hW⟩ := hSw; obtain ⟨x0, x1, x2, x3, x4, x5, x6⟩ := hW.ccell; simp only at x0 x1 x2 x3 x4 x5 x6; have k3 : IntKind.i64.wrap 2 = 2 := (by decide); go_simp; first | done | with_reducible rfl)); (try simp only [Act.put, List.setIfInBounds_toArray, List.set_cons_zero, List.set_cons_succ])
  refine tk 2 (v := ?v_302) ?y302 ?_; (case y302 => (refine Or.inl ⟨by rfl, ?_⟩; intro w hSw; obtain ⟨_, hW⟩ := hSw; obtain ⟨x0, x1, x2, x3, x4, x5, x6⟩ := hW.ccell; simp only at x0 x1 x2 x3 x4 x5 x6; have k3 : IntKind.i64.wrap 2 = 2 := (by decide); go_simp; first | done | with_reducible rfl)); (try simp only [Act.put, List.setIfInBounds_toArray, List.set_cons_zero, List.set_cons_succ])
  refine tk 3 (v := ?v_303) ?y303 ?_; (case y303 => (refine Or.inl ⟨by rfl, ?_⟩; intro w hSw; obtain ⟨_, hW⟩ := hSw; obtain ⟨x0, x1, x2, x3, x4, x5, x6⟩ := hW.ccell; simp only at x0 x1 x2 x3 x4 x5 x6; have k3 : IntKind.i64.wrap 2 = 2 := (by decide); go_simp; first | done | with_reducible rfl)); (try simp only [Act.put, List.setIfInBounds_toArray, List.set_cons_zero, List.set_cons_succ])
  refine tk 4 (v := ?v_304) ?y304 ?_; (case y304 => (refine Or.inl ⟨by rfl, ?_⟩; intro w hSw; obtain ⟨_, hW⟩ := hSw; obtain ⟨x0, x1, x2, x3, x4, x5, x6⟩ := hW.ccell; simp only at x0 x1 x2 x3 x4 x5 x6; have k3 : IntKind.i64.wrap 2 = 2 := (by decide); go_simp; first | done | with_reducible rfl)); (try simp only [Act.put, List.setIfInBounds_toArray, List.set_cons_zero, List.set_cons_succ])
  refine wpAnyH_ready (rs := [1]) (by kernel_rfl) (by simp) ?_; refine AllReadyH.cons (o := ?o_305) ?hi_305 (fun K hK => ?_) AllReadyH.nil; (case hi_305 => (simp only [List.getElem?_toArray, List.getElem?_cons_zero, List.getElem?_cons_succ]; rfl)); go_simp; (go_at_call 102; ((refine (c_changes _).mono ?_); rintro e w2 ⟨rfl, hr2, hb2⟩; have HA2 := Lib.hid (HA1.out.keep hb2); have hr3 : w2.heap[w.heap.size + 1]? = some (.cells (strs chgN).toArray 9 (0, 0)) := (by simpa using hr2); have c3 : w2.cell? ⟨w.heap.size + 1, 2, none⟩ = some (.string (nth chgN 3)) := (by simp [World.cell?, hr3, strs, chgN, nth]); have HF1 := Lib.hid (HFD.out.trans (Fr.below HA1.out.ww.lt hb2)))); refine hK.out _ _ ?_ (fun hHeld => ?_); (· exact ⟨_, HA2.out⟩); clear hK K; (try simp only [Act.put, List.setIfInBounds_toArray, List.set_cons_zero, List.set_cons_succ])
  refine tk 5 (v := ?v_306) ?y306 ?_; (case y306 => (refine Or.inl ⟨by rfl, ?_⟩; intro w hSw; obtain ⟨_, hW⟩ := hSw; obtain ⟨x0, x1, x2, x3, x4, x5, x6⟩ := hW.ccell; simp only at x0 x1 x2 x3 x4 x5 x6; have k3 : IntKind.i64.wrap 2 = 2 := (by decide); go_simp; first | done | with_reducible rfl)); (try simp only [Act.put, List.setIfInBounds_toArray, List.set_cons_zero, List.set_cons_succ])
  refine wpAnyH_ready (rs := [6]) (by kernel_rfl) (by simp) ?_; refine AllReadyH.cons (o := ?o_307) ?hi_307 (fun K hK => ?_) AllReadyH.nil; (case hi_307 => (simp only [List.getElem?_toArray, List.getElem?_cons_zero, List.getElem?_cons_succ]; rfl)); go_simp; skip; refine hK.out _ _ ?_ (fun hHeld => ?_); (· exact ⟨_, HA2.out⟩); clear hK K; (try simp only [Act.put, List.setIfInBounds_toArray, List.set_cons_zero, List.set_cons_succ])
  refine wpAnyH_ready (rs := [7]) (by kernel_rfl) (by simp) ?_; refine AllReadyH.cons (o := ?o_308) ?hi_308 (fun K hK => ?_) AllReadyH.nil; (case hi_308 => (simp only [List.getElem?_toArray, List.getElem?_cons_zero, List.getElem?_cons_succ]; rfl)); go_simp; (go_at_call 61; ((refine (c_wword _ HA2.out.ww (by omega)).mono ?_); rintro e w3 ⟨rfl, h3, hf3⟩; have HA3 := Lib.hid (HA2.out.next h3 hf3); have HF2 := Lib.hid (HF1.out.trans hf3); clear h3 hf3)); refine hK.out _ _ ?_ (fun hHeld => ?_); (· exact ⟨_, HA3.out⟩); clear hK K; (try simp only [Act.put, List.setIfInBounds_toArray, List.set_cons_zero, List.set_cons_succ])
  refine wpAnyH_done (by kernel_rfl) ?_ _
  obtain ⟨x0, x1, x2, x3, x4, x5, x6⟩ := Wb.ccell (c := ⟨3, fam, qual, typ, group, versions, life⟩) HA3.out
  simp only at x0 x1 x2 x3 x4 x5 x6
  go_wp2_with (go_at_call 61; refine (c_wword fam HA3.out.ww (by simp; omega)).mono ?_)
  rintro e w4 ⟨rfl, h3, hf3⟩
  have HA4 := Lib.hid (HA3.out.next h3 hf3)
  have HF3 := Lib.hid (HF2.out.trans hf3)
  clear h3 hf3 x0 x1 x2 x3 x4 x5 x6
  obtain ⟨x0, x1, x2, x3, x4, x5, x6⟩ := Wb.ccell (c := ⟨3, fam, qual, typ, group, versions, life⟩) HA4.out
  simp only at x0 x1 x2 x3 x4 x5 x6
  go_wp2_with (go_at_call 103; refine (qual_yes (by omega) _).mono ?_)
  rintro e wq ⟨rfl, rfl⟩
  go_wp2_with (go_at_call 98; refine (c_wtext qual hq HA4.out.ww (by simp; omega)).mono ?_)
  rintro e w5 ⟨rfl, h3, hf3⟩
  have HA5 := Lib.hid (HA4.out.next h3 hf3)
  have HF4 := Lib.hid (HF3.out.trans hf3)
  clear h3 hf3 x0 x1 x2 x3 x4 x5 x6
  obtain ⟨x0, x1, x2, x3, x4, x5, x6⟩ := Wb.ccell (c := ⟨3, fam, qual, typ, group, versions, life⟩) HA5.out
  simp only at x0 x1 x2 x3 x4 x5 x6
  go_wp2_with (go_at_call 104; refine (c_knobs3 _ _ x0).mono ?_)
  rintro e w9 ⟨v9, rfl, rfl, hr9, hb9⟩
  have HK9 := Lib.hid (Kp.new HA5.out.ww hb9 hr9)
  have HA9 := Lib.hid (HA5.out.keep hb9)
  have HF9 := Lib.hid (HF4.out.trans (Fr.below HA5.out.ww.lt hb9))
  clear hr9 hb9 x0 x1 x2 x3 x4 x5 x6
  generalize hG : w5.heap.size = gb at HK9
  go_wp2
  go_loopw [27] (fun v27 W => ∃ i : Nat, i ≤ 1 ∧ v27 = .int .i64 i ∧ Hid (Wb w0 p (ws ++ [nth chgN 3] ++ [fam] ++ [wText qual] ++ [wNum typ].take i) w.heap.size #[.int .i64 3, .string fam, .string qual, .int .i64 typ, .int .i64 group, .int .i64 versions, .int .i64 life] 37 W) ∧ Hid (Kp p gb (ptrs w.heap.size (knobsC 3)).toArray 70 W) ∧ Hid (Fr p w W)) (fun v27 _ => 1 - (intOf v27).toNat)
  case atStart => exact ⟨0, by omega, rfl, Lib.hid (by rw [List.take_zero, List.append_nil]; exact HA9.out), HK9, HF9⟩
  case round =>
    obtain ⟨i, hi2, rfl, HA, HK, HF⟩ := hrel
    clear HA9 HF9
    obtain rfl | rfl : i = 0 ∨ i = 1 := by omega
    · have x0 := HA.out.cell 3 _ rfl
      have y0 := HK.out.cell 0 (.pointer (some ⟨w.heap.size, 3, none⟩)) rfl
      go_wp2_with (go_at_call 63; refine (c_wnum hg typ n1 HA.out.ww (by simp; omega)).mono ?_)
      rintro e w8 ⟨rfl, h3, hf3⟩
      have HA2 := Lib.hid (HA.out.next h3 hf3)
      have HK2 := Lib.hid (HK.out.next hf3)
      have HF2 := Lib.hid (HF.out.trans hf3)
      clear h3 hf3 x0 y0
      go_wp2
      go_roundw
      case rel => exact ⟨1, by omega, by go_num, Lib.hid (by have := HA2.out; rw [List.append_assoc] at this; exact this), HK2, HF2⟩
      case measure => simp [intOf]
    · go_wp2
      go_end0
      exact ⟨rfl, by have := HA.out.ww; simpa [wChg, knobs] using this, HF.out⟩
set_option maxRecDepth 100000 in
set_option maxHeartbeats 4000000 in
theorem c_wchg4 {w0 : World} (hg : Gv w0) {p : Nat} {ws : List ByteArray} (c : ChgE) (hm : c.kind = 4) (hq : c.qual.size ≤ 1000000) (n1 : Wf c.typ) (n2 : Wf c.group) (n3 : Wf c.versions) (n4 : Wf c.life) {w : World} (h : Ww w0 p ws w) (hlen : ws.length < 1099511600000) :
    Calls Tryz.prog 65 #[.pointer (some ⟨p, 0, none⟩), .agg (ccells c)] w fun e w' => e = .returned (.tuple #[]) ∧ Ww w0 p (ws ++ wChg c) w' ∧ Fr p w w' := by
  obtain ⟨k, fam, qual, typ, group, versions, life⟩ := c
  simp only at hm hq n1 n2 n3 n4
  subst hm
  have HA0 := Lib.hid (h.box (ccells ⟨4, fam, qual, typ, group, versions, life⟩) 37)
  have HF0 := Lib.hid (Fr.below h.lt ((Below.refl w.heap.size w).alloc (Nat.le_refl _) (.cells (ccells ⟨4, fam, qual, typ, group, versions, life⟩) 37)))
  simp only [ccells] at HA0 HF0 ⊢
  clear h
  have k3 : IntKind.i64.wrap 3 = 3 := by decide
  go_enter Tryz.func65, Tryz.ntmps65
  go_wp2_with fail
  have HA1 := Lib.hid HA0.out.drew
  have HFD := Lib.hid (HF0.out.trans (Fr.below HA0.out.ww.lt (Below.refl _ _).drew))
  refine wp_region_held_drew (S := fun X => ∃ u, Wb w0 p u w.heap.size (ccells ⟨4, fam, qual, typ, group, versions, life⟩) 37 X) (by kernel_rfl) ⟨_, HA1.out⟩ (fun hHeld => ?_)
  refine tk 0 (v := ?v_401) ?y401 ?_; (case y401 => (refine Or.inl ⟨by rfl, ?_⟩; intro w hSw; obtain ⟨_, hW⟩ := hSw; obtain ⟨x0, x1, x2, x3, x4, x5, x6⟩ := hW.ccell; simp only at x0 x1 x2 x3 x4 x5 x6; have k3 : IntKind.i64.wrap 3 = 3 := (by decide); go_simp; first | done | with_reducible rfl)); (try simp only [Act.put, List.setIfInBounds_toArray, List.set_cons_zero, List.set_cons_succ])
  refine tk 2 (v := ?v_402) ?y402 ?_; (case y402 => (refine Or.inl ⟨by rfl, ?_⟩; intro w hSw; obtain ⟨_, hW⟩ := hSw; obtain ⟨x0, x1, x2, x3, x4, x5, x6⟩ := hW.ccell; simp only at x0 x1 x2 x3 x4 x5 x6; have k3 : IntKind.i64.wrap 3 = 3 := (by decide); go_simp; first | done | with_reducible rfl)); (try simp only [Act.put, List.setIfInBounds_toArray, List.set_cons_zero, List.set_cons_succ])
  refine tk 3 (v := ?v_403) ?y403 ?_; (case y403 => (refine Or.inl ⟨by rfl, ?_⟩; intro w hSw; obtain ⟨_, hW⟩ := hSw; obtain ⟨x0, x1, x2, x3, x4, x5, x6⟩ := hW.ccell; simp only at x0 x1 x2 x3 x4 x5 x6; have k3 : IntKind.i64.wrap 3 = 3 := (by decide); go_simp; first | done | with_reducible rfl)); (try simp only [Act.put, List.setIfInBounds_toArray, List.set_cons_zero, List.set_cons_succ])
  refine tk 4 (v := ?v_404) ?y404 ?_; (case y404 => (refine Or.inl ⟨by rfl, ?_⟩; intro w hSw; obtain ⟨_, hW⟩ := hSw; obtain ⟨x0, x1, x2, x3, x4, x5, x6⟩ := hW.ccell; simp only at x0 x1 x2 x3 x4 x5 x6; have k3 : IntKind.i64.wrap 3 = 3 := (by decide); go_simp; first | done | with_reducible rfl)); (try simp only [Act.put, List.setIfInBounds_toArray, List.set_cons_zero, List.set_cons_succ])
  refine wpAnyH_ready (rs := [1]) (by kernel_rfl) (by simp) ?_; refine AllReadyH.cons (o := ?o_405) ?hi_405 (fun K hK => ?_) AllReadyH.nil; (case hi_405 => (simp only [List.getElem?_toArray, List.getElem?_cons_zero, List.getElem?_cons_succ]; rfl)); go_simp; (go_at_call 102; ((refine (c_changes _).mono ?_); rintro e w2 ⟨rfl, hr2, hb2⟩; have HA2 := Lib.hid (HA1.out.keep hb2); have hr3 : w2.heap[w.heap.size + 1]? = some (.cells (strs chgN).toArray 9 (0, 0)) := (by simpa using hr2); have c3 : w2.cell? ⟨w.heap.size + 1, 3, none⟩ = some (.string (nth chgN 4)) := (by simp [World.cell?, hr3, strs, chgN, nth]); have HF1 := Lib.hid (HFD.out.trans (Fr.below HA1.out.ww.lt hb2)))); refine hK.out _ _ ?_ (fun hHeld => ?_); (· exact ⟨_, HA2.out⟩); clear hK K; (try simp only [Act.put, List.setIfInBounds_toArray, List.set_cons_zero, List.set_cons_succ])
  refine tk 5 (v := ?v_406) ?y406 ?_; (case y406 => (refine Or.inl ⟨by rfl, ?_⟩; intro w hSw; obtain ⟨_, hW⟩ := hSw; obtain ⟨x0, x1, x2, x3, x4, x5, x6⟩ := hW.ccell; simp only at x0 x1 x2 x3 x4 x5 x6; have k3 : IntKind.i64.wrap 3 = 3 := (by decide); go_simp; first | done | with_reducible rfl)); (try simp only [Act.put, List.setIfInBounds_toArray, List.set_cons_zero, List.set_cons_succ])
  refine wpAnyH_ready (rs := [6]) (by kernel_rfl) (by simp) ?_; refine AllReadyH.cons (o := ?o_407) ?hi_407 (fun K hK => ?_) AllReadyH.nil; (case hi_407 => (simp only [List.getElem?_toArray, List.getElem?_cons_zero, List.getElem?_cons_succ]; rfl)); go_simp; skip; refine hK.out _ _ ?_ (fun hHeld => ?_); (· exact ⟨_, HA2.out⟩); clear hK K; (try simp only [Act.put, List.setIfInBounds_toArray, List.set_cons_zero, List.set_cons_succ])
  refine wpAnyH_ready (rs := [7]) (by kernel_rfl) (by simp) ?_; refine AllReadyH.cons (o := ?o_408) ?hi_408 (fun K hK => ?_) AllReadyH.nil; (case hi_408 => (simp only [List.getElem?_toArray, List.getElem?_cons_zero, List.getElem?_cons_succ]; rfl)); go_simp; (go_at_call 61; ((refine (c_wword _ HA2.out.ww (by omega)).mono ?_); rintro e w3 ⟨rfl, h3, hf3⟩; have HA3 := Lib.hid (HA2.out.next h3 hf3); have HF2 := Lib.hid (HF1.out.trans hf3); clear h3 hf3)); refine hK.out _ _ ?_ (fun hHeld => ?_); (· exact ⟨_, HA3.out⟩); clear hK K; (try simp only [Act.put, List.setIfInBounds_toArray, List.set_cons_zero, List.set_cons_succ])
  refine wpAnyH_done (by kernel_rfl) ?_ _
  obtain ⟨x0, x1, x2, x3, x4, x5, x6⟩ := Wb.ccell (c := ⟨4, fam, qual, typ, group, versions, life⟩) HA3.out
  simp only at x0 x1 x2 x3 x4 x5 x6
  go_wp2_with (go_at_call 61; refine (c_wword fam HA3.out.ww (by simp; omega)).mono ?_)
  rintro e w4 ⟨rfl, h3, hf3⟩
  have HA4 := Lib.hid (HA3.out.next h3 hf3)
  have HF3 := Lib.hid (HF2.out.trans hf3)
  clear h3 hf3 x0 x1 x2 x3 x4 x5 x6
  obtain ⟨x0, x1, x2, x3, x4, x5, x6⟩ := Wb.ccell (c := ⟨4, fam, qual, typ, group, versions, life⟩) HA4.out
  simp only at x0 x1 x2 x3 x4 x5 x6
  go_wp2_with (go_at_call 103; refine (qual_yes (by omega) _).mono ?_)
  rintro e wq ⟨rfl, rfl⟩
  go_wp2_with (go_at_call 98; refine (c_wtext qual hq HA4.out.ww (by simp; omega)).mono ?_)
  rintro e w5 ⟨rfl, h3, hf3⟩
  have HA5 := Lib.hid (HA4.out.next h3 hf3)
  have HF4 := Lib.hid (HF3.out.trans hf3)
  clear h3 hf3 x0 x1 x2 x3 x4 x5 x6
  obtain ⟨x0, x1, x2, x3, x4, x5, x6⟩ := Wb.ccell (c := ⟨4, fam, qual, typ, group, versions, life⟩) HA5.out
  simp only at x0 x1 x2 x3 x4 x5 x6
  go_wp2_with (go_at_call 104; refine (c_knobs4 _ _ x0).mono ?_)
  rintro e w9 ⟨rfl, rfl⟩
  go_wp2
  go_loopw [27] (fun v27 W => v27 = .int .i64 0 ∧ Hid (Ww w0 p (ws ++ [nth chgN 4] ++ [fam] ++ [wText qual]) W) ∧ Hid (Fr p w W)) (fun v27 _ => 0)
  case atStart => exact ⟨rfl, Lib.hid (HA5.out.ww), HF4⟩
  case round =>
    obtain ⟨rfl, HA, HF⟩ := hrel
    go_wp2
    go_end0
    exact ⟨rfl, by have := HA.out; simpa [wChg, knobs] using this, HF.out⟩
set_option maxRecDepth 100000 in
set_option maxHeartbeats 4000000 in
theorem c_wchg5 {w0 : World} (hg : Gv w0) {p : Nat} {ws : List ByteArray} (c : ChgE) (hm : c.kind = 5) (hq : c.qual.size ≤ 1000000) (n1 : Wf c.typ) (n2 : Wf c.group) (n3 : Wf c.versions) (n4 : Wf c.life) {w : World} (h : Ww w0 p ws w) (hlen : ws.length < 1099511600000) :
    Calls Tryz.prog 65 #[.pointer (some ⟨p, 0, none⟩), .agg (ccells c)] w fun e w' => e = .returned (.tuple #[]) ∧ Ww w0 p (ws ++ wChg c) w' ∧ Fr p w w' := by
  obtain ⟨k, fam, qual, typ, group, versions, life⟩ := c
  simp only at hm hq n1 n2 n3 n4
  subst hm
  have HA0 := Lib.hid (h.box (ccells ⟨5, fam, qual, typ, group, versions, life⟩) 37)
  have HF0 := Lib.hid (Fr.below h.lt ((Below.refl w.heap.size w).alloc (Nat.le_refl _) (.cells (ccells ⟨5, fam, qual, typ, group, versions, life⟩) 37)))
  simp only [ccells] at HA0 HF0 ⊢
  clear h
  have k3 : IntKind.i64.wrap 4 = 4 := by decide
  go_enter Tryz.func65, Tryz.ntmps65
  go_wp2_with fail
  have HA1 := Lib.hid HA0.out.drew
  have HFD := Lib.hid (HF0.out.trans (Fr.below HA0.out.ww.lt (Below.refl _ _).drew))
  refine wp_region_held_drew (S := fun X => ∃ u, Wb w0 p u w.heap.size (ccells ⟨5, fam, qual, typ, group, versions, life⟩) 37 X) (by kernel_rfl) ⟨_, HA1.out⟩ (fun hHeld => ?_)
  refine tk 0 (v := ?v_501) ?y501 ?_; (case y501 => (refine Or.inl ⟨by rfl, ?_⟩; intro w hSw; obtain ⟨_, hW⟩ := hSw; obtain ⟨x0, x1, x2, x3, x4, x5, x6⟩ := hW.ccell; simp only at x0 x1 x2 x3 x4 x5 x6; have k3 : IntKind.i64.wrap 4 = 4 := (by decide); go_simp; first | done | with_reducible rfl)); (try simp only [Act.put, List.setIfInBounds_toArray, List.set_cons_zero, List.set_cons_succ])
  refine tk 2 (v := ?v_502) ?y502 ?_; (case y502 => (refine Or.inl ⟨by rfl, ?_⟩; intro w hSw; obtain ⟨_, hW⟩ := hSw; obtain ⟨x0, x1, x2, x3, x4, x5, x6⟩ := hW.ccell; simp only at x0 x1 x2 x3 x4 x5 x6; have k3 : IntKind.i64.wrap 4 = 4 := (by decide); go_simp; first | done | with_reducible rfl)); (try simp only [Act.put, List.setIfInBounds_toArray, List.set_cons_zero, List.set_cons_succ])
  refine tk 3 (v := ?v_503) ?y503 ?_; (case y503 => (refine Or.inl ⟨by rfl, ?_⟩; intro w hSw; obtain ⟨_, hW⟩ := hSw; obtain ⟨x0, x1, x2, x3, x4, x5, x6⟩ := hW.ccell; simp only at x0 x1 x2 x3 x4 x5 x6; have k3 : IntKind.i64.wrap 4 = 4 := (by decide); go_simp; first | done | with_reducible rfl)); (try simp only [Act.put, List.setIfInBounds_toArray, List.set_cons_zero, List.set_cons_succ])
  refine tk 4 (v := ?v_504) ?y504 ?_; (case y504 => (refine Or.inl ⟨by rfl, ?_⟩; intro w hSw; obtain ⟨_, hW⟩ := hSw; obtain ⟨x0, x1, x2, x3, x4, x5, x6⟩ := hW.ccell; simp only at x0 x1 x2 x3 x4 x5 x6; have k3 : IntKind.i64.wrap 4 = 4 := (by decide); go_simp; first | done | with_reducible rfl)); (try simp only [Act.put, List.setIfInBounds_toArray, List.set_cons_zero, List.set_cons_succ])
  refine wpAnyH_ready (rs := [1]) (by kernel_rfl) (by simp) ?_; refine AllReadyH.cons (o := ?o_505) ?hi_505 (fun K hK => ?_) AllReadyH.nil; (case hi_505 => (simp only [List.getElem?_toArray, List.getElem?_cons_zero, List.getElem?_cons_succ]; rfl)); go_simp; (go_at_call 102; ((refine (c_changes _).mono ?_); rintro e w2 ⟨rfl, hr2, hb2⟩; have HA2 := Lib.hid (HA1.out.keep hb2); have hr3 : w2.heap[w.heap.size + 1]? = some (.cells (strs chgN).toArray 9 (0, 0)) := (by simpa using hr2); have c3 : w2.cell? ⟨w.heap.size + 1, 4, none⟩ = some (.string (nth chgN 5)) := (by simp [World.cell?, hr3, strs, chgN, nth]); have HF1 := Lib.hid (HFD.out.trans (Fr.below HA1.out.ww.lt hb2)))); refine hK.out _ _ ?_ (fun hHeld => ?_); (· exact ⟨_, HA2.out⟩); clear hK K; (try simp only [Act.put, List.setIfInBounds_toArray, List.set_cons_zero, List.set_cons_succ])
  refine tk 5 (v := ?v_506) ?y506 ?_; (case y506 => (refine Or.inl ⟨by rfl, ?_⟩; intro w hSw; obtain ⟨_, hW⟩ := hSw; obtain ⟨x0, x1, x2, x3, x4, x5, x6⟩ := hW.ccell; simp only at x0 x1 x2 x3 x4 x5 x6; have k3 : IntKind.i64.wrap 4 = 4 := (by decide); go_simp; first | done | with_reducible rfl)); (try simp only [Act.put, List.setIfInBounds_toArray, List.set_cons_zero, List.set_cons_succ])
  refine wpAnyH_ready (rs := [6]) (by kernel_rfl) (by simp) ?_; refine AllReadyH.cons (o := ?o_507) ?hi_507 (fun K hK => ?_) AllReadyH.nil; (case hi_507 => (simp only [List.getElem?_toArray, List.getElem?_cons_zero, List.getElem?_cons_succ]; rfl)); go_simp; skip; refine hK.out _ _ ?_ (fun hHeld => ?_); (· exact ⟨_, HA2.out⟩); clear hK K; (try simp only [Act.put, List.setIfInBounds_toArray, List.set_cons_zero, List.set_cons_succ])
  refine wpAnyH_ready (rs := [7]) (by kernel_rfl) (by simp) ?_; refine AllReadyH.cons (o := ?o_508) ?hi_508 (fun K hK => ?_) AllReadyH.nil; (case hi_508 => (simp only [List.getElem?_toArray, List.getElem?_cons_zero, List.getElem?_cons_succ]; rfl)); go_simp; (go_at_call 61; ((refine (c_wword _ HA2.out.ww (by omega)).mono ?_); rintro e w3 ⟨rfl, h3, hf3⟩; have HA3 := Lib.hid (HA2.out.next h3 hf3); have HF2 := Lib.hid (HF1.out.trans hf3); clear h3 hf3)); refine hK.out _ _ ?_ (fun hHeld => ?_); (· exact ⟨_, HA3.out⟩); clear hK K; (try simp only [Act.put, List.setIfInBounds_toArray, List.set_cons_zero, List.set_cons_succ])
  refine wpAnyH_done (by kernel_rfl) ?_ _
  obtain ⟨x0, x1, x2, x3, x4, x5, x6⟩ := Wb.ccell (c := ⟨5, fam, qual, typ, group, versions, life⟩) HA3.out
  simp only at x0 x1 x2 x3 x4 x5 x6
  go_wp2_with (go_at_call 61; refine (c_wword fam HA3.out.ww (by simp; omega)).mono ?_)
  rintro e w4 ⟨rfl, h3, hf3⟩
  have HA4 := Lib.hid (HA3.out.next h3 hf3)
  have HF3 := Lib.hid (HF2.out.trans hf3)
  clear h3 hf3 x0 x1 x2 x3 x4 x5 x6
  obtain ⟨x0, x1, x2, x3, x4, x5, x6⟩ := Wb.ccell (c := ⟨5, fam, qual, typ, group, versions, life⟩) HA4.out
  simp only at x0 x1 x2 x3 x4 x5 x6
  go_wp2_with (go_at_call 103; refine (qual_no (by omega) _).mono ?_)
  rintro e wq ⟨rfl, rfl⟩
  go_wp2_with (go_at_call 104; refine (c_knobs5 _ _ x0).mono ?_)
  rintro e w9 ⟨v9, rfl, rfl, hr9, hb9⟩
  have HK9 := Lib.hid (Kp.new HA4.out.ww hb9 hr9)
  have HA9 := Lib.hid (HA4.out.keep hb9)
  have HF9 := Lib.hid (HF3.out.trans (Fr.below HA4.out.ww.lt hb9))
  clear hr9 hb9 x0 x1 x2 x3 x4 x5 x6
  generalize hG : w4.heap.size = gb at HK9
  go_wp2
  go_loopw [27] (fun v27 W => ∃ i : Nat, i ≤ 1 ∧ v27 = .int .i64 i ∧ Hid (Wb w0 p (ws ++ [nth chgN 5] ++ [fam] ++ [wNum group].take i) w.heap.size #[.int .i64 5, .string fam, .string qual, .int .i64 typ, .int .i64 group, .int .i64 versions, .int .i64 life] 37 W) ∧ Hid (Kp p gb (ptrs w.heap.size (knobsC 5)).toArray 70 W) ∧ Hid (Fr p w W)) (fun v27 _ => 1 - (intOf v27).toNat)
  case atStart => exact ⟨0, by omega, rfl, Lib.hid (by rw [List.take_zero, List.append_nil]; exact HA9.out), HK9, HF9⟩
  case round =>
    obtain ⟨i, hi2, rfl, HA, HK, HF⟩ := hrel
    clear HA9 HF9
    obtain rfl | rfl : i = 0 ∨ i = 1 := by omega
    · have x0 := HA.out.cell 4 _ rfl
      have y0 := HK.out.cell 0 (.pointer (some ⟨w.heap.size, 4, none⟩)) rfl
      go_wp2_with (go_at_call 63; refine (c_wnum hg group n2 HA.out.ww (by simp; omega)).mono ?_)
      rintro e w8 ⟨rfl, h3, hf3⟩
      have HA2 := Lib.hid (HA.out.next h3 hf3)
      have HK2 := Lib.hid (HK.out.next hf3)
      have HF2 := Lib.hid (HF.out.trans hf3)
      clear h3 hf3 x0 y0
      go_wp2
      go_roundw
      case rel => exact ⟨1, by omega, by go_num, Lib.hid (by have := HA2.out; rw [List.append_assoc] at this; exact this), HK2, HF2⟩
      case measure => simp [intOf]
    · go_wp2
      go_end0
      exact ⟨rfl, by have := HA.out.ww; simpa [wChg, knobs] using this, HF.out⟩
theorem c_wchg {w0 : World} (hg : Gv w0) {p : Nat} {ws : List ByteArray} (c : ChgE) (hc : chgOk c = true) {w : World} (h : Ww w0 p ws w) (hlen : ws.length < 1099511600000) :
    Calls Tryz.prog 65 #[.pointer (some ⟨p, 0, none⟩), .agg (ccells c)] w fun e w' => e = .returned (.tuple #[]) ∧ Ww w0 p (ws ++ wChg c) w' ∧ Fr p w w' := by
  unfold chgOk at hc
  simp only [Bool.and_eq_true] at hc
  obtain ⟨_, hc⟩ := hc
  have nz : noB.size = 0 := rfl
  by_cases h1 : c.kind = 1
  · rw [if_pos h1] at hc
    simp only [Bool.and_eq_true, decide_eq_true_eq, beq_iff_eq] at hc
    obtain ⟨⟨⟨⟨a1, a2⟩, a3⟩, a4⟩, a5⟩ := hc
    refine c_wchg1 hg c h1 (by rw [a1, nz]; omega) (by unfold Wf; omega) (wf_within a3 (by omega)) ?_ (wf_within a5 (by omega)) h hlen
    have := within_iff a4
    unfold Wf; omega
  rw [if_neg h1] at hc
  by_cases h2 : c.kind = 2
  · rw [if_pos h2] at hc
    simp only [Bool.and_eq_true, decide_eq_true_eq, beq_iff_eq] at hc
    obtain ⟨⟨⟨⟨a1, a2⟩, a3⟩, a4⟩, a5⟩ := hc
    exact c_wchg2 hg c h2 (by rw [a1, nz]; omega) (by unfold Wf; omega) (by unfold Wf; omega) (by unfold Wf; omega) (by unfold Wf; omega) h hlen
  rw [if_neg h2] at hc
  by_cases h3 : c.kind = 3
  · rw [if_pos h3] at hc
    simp only [Bool.and_eq_true, decide_eq_true_eq, beq_iff_eq] at hc
    obtain ⟨⟨⟨⟨a1, a2⟩, a3⟩, a4⟩, a5⟩ := hc
    have := within_iff a2
    exact c_wchg3 hg c h3 (by omega) (by unfold Wf; omega) (by unfold Wf; omega) (by unfold Wf; omega) (by unfold Wf; omega) h hlen
  rw [if_neg h3] at hc
  by_cases h4 : c.kind = 4
  · rw [if_pos h4] at hc
    simp only [Bool.and_eq_true, decide_eq_true_eq, beq_iff_eq] at hc
    obtain ⟨⟨⟨⟨a1, a2⟩, a3⟩, a4⟩, a5⟩ := hc
    exact c_wchg4 hg c h4 (by omega) (by unfold Wf; omega) (by unfold Wf; omega) (by unfold Wf; omega) (by unfold Wf; omega) h hlen
  rw [if_neg h4] at hc
  by_cases h5 : c.kind = 5
  · rw [if_pos h5] at hc
    simp only [Bool.and_eq_true, decide_eq_true_eq, beq_iff_eq] at hc
    obtain ⟨⟨⟨⟨a1, a2⟩, a3⟩, a4⟩, a5⟩ := hc
    have := within_iff a3
    exact c_wchg5 hg c h5 (by rw [a1, nz]; omega) (by unfold Wf; omega) (by unfold Wf; omega) (by unfold Wf; omega) (by unfold Wf; omega) h hlen
  rw [if_neg h5] at hc
  cases hc
end Go.Proofs.YtkogcobcjoojnaaGreatDoor.Fl

namespace Go.Proofs.YtkogcobcjoojnaaGreatDoor.Fl
open Go.RowKit Go.Maps
set_option linter.unusedVariables false
set_option linter.unusedSimpArgs false
/-- What is gathered, and what is left, of a text between quotes. -/
def Ux (full o u : List Int) : Prop := o ++ uqx u = full
theorem ux_end {full o : List Int} (h : Ux full o []) : o = full := by
  unfold Ux at h
  rw [uqx, List.append_nil] at h
  exact h
theorem ux_plain {full o t : List Int} {x : Int} (h : Ux full o (x :: t)) (hn : ∀ a b u, x = 92 → t = a :: b :: u → 0 ≤ uh a → 0 ≤ uh b → False) : Ux full (o ++ [x]) t := by
  unfold Ux at h ⊢
  rw [uqx_plain hn] at h
  rw [List.append_assoc]
  exact h
theorem ux_esc {full o v : List Int} {a b y : Int} (h : Ux full o (92 :: a :: b :: v)) (ha : 0 ≤ uh a) (hb : 0 ≤ uh b) (hy : y = uh a * 16 + uh b) : Ux full (o ++ [y]) v := by
  unfold Ux at h ⊢
  rw [uqx_esc ha hb, ← hy] at h
  rw [List.append_assoc]
  exact h
set_option maxHeartbeats 4000000 in
set_option maxRecDepth 100000 in
theorem c_rtext {w0 : World} {p q : Nat} {ws : List ByteArray} {w : World} (h : Rr w0 p q ws w) :
    Calls Tryz.prog 112 #[.pointer (some ⟨p, 0, none⟩)] w fun e w' => RdR (fun x v _ => v = .string x) (rText ws) w0 p q w e w' := by
  have C0 := Lib.hid (fun (_ : Unit) => c_rword h)
  have HSZ := Lib.hid h.is.szs
  clear h
  go_enter Tryz.func112, Tryz.ntmps112
  go_wp2_with fail
  refine (C0.out ()).mono ?_
  rintro e w1 ⟨⟨s, rest, v, hx, rfl, rfl, h1⟩ | ⟨hx, rfl, hb⟩, hf⟩
  case inr =>
    exact ⟨rfl, Or.inr ⟨by unfold rText Pr.then; rw [hx], rfl, hb⟩, hf⟩
  have HX := Lib.hid (show rText ws = some (rdText s, rest) by unfold rText Pr.then; rw [hx]; rfl)
  have HSS := Lib.hid (show s.size ≤ 1000000 by
    cases ws with
    | nil => cases hx
    | cons y r =>
      obtain ⟨rfl, rfl⟩ : y = s ∧ r = rest := by simpa [rWord] using hx
      exact HSZ.out y (by simp))
  have H1 := Lib.hid h1
  have HF := Lib.hid hf
  clear hx hf h1 C0 HSZ
  have C1 := Lib.hid (fun W => c_trim s (by have := HSS.out; omega) W)
  have HT := Lib.hid (show txt (uqx (byt (trimQ s))) = rdText s from rfl)
  have HQ0 := Lib.hid (show Ux (uqx (byt (trimQ s))) [] (byt (trimQ s)) from rfl)
  have HT0 : (trimQ s).size ≤ 1000000 := Nat.le_trans (trim_size s) HSS.out
  generalize trimQ s = t0 at C1 HT HQ0 HT0
  generalize uqx (byt t0) = full at HT HQ0
  go_wp2_with (go_at_call 139; ((with_reducible refine (C1.out _).mono ?_); rintro e w2 ⟨rfl, hb⟩; have HB1 := Lib.hid hb; clear hb))
  go_loopw [3, 4, 5, 6] (fun v0 v3 v4 v5 W => ∃ (t : ByteArray) (o : List Int), v0 = .string t ∧ o.length + t.size ≤ 1000000 ∧ Hid (Ux full o (byt t)) ∧ Hid (OwnB W w1.heap.size v3 o) ∧ Hid (Byts o) ∧ Hid (Below w1.heap.size w1 W)) (fun v0 _ _ _ _ => match v0 with | .string t => t.size | _ => 0)
  case atStart => exact ⟨t0, [], rfl, by show 0 + t0.size ≤ 1000000; omega, HQ0, Lib.hid (OwnB.nil _ _), Lib.hid (fun x h => by cases h), HB1⟩
  case round =>
    obtain ⟨t, o, rfl, hot, HQ, HO, HOB, HW⟩ := hrel
    clear HQ0 HB1 HT0 C1
    by_cases h0 : t.size = 0
    · have t1 : decide (0 < (t.size : Int)) = false := decide_eq_false (by omega)
      have kc := conv_has wr _ o HO.out.has HOB.out
      have HE := Lib.hid (show txt o = rdText s by
        have hn : byt t = [] := List.length_eq_zero_iff.1 (by rw [byt_len]; exact h0)
        have h := HQ.out
        rw [hn] at h
        rw [ux_end h]; exact HT.out)
      go_wp2
      go_ret
      exact ⟨Or.inl ⟨rdText s, rest, _, HX.out, rfl, (by rw [HE.out]; rfl), H1.out.keep HW.out⟩, HF.out.trans (FrR.below HW.out)⟩
    · have t1 : decide (0 < (t.size : Int)) = true := decide_eq_true (by omega)
      obtain ⟨x, u, hxu, hlu⟩ := byt_cons h0
      have HXU := Lib.hid hxu
      have hbu : Byts (x :: u) := hxu ▸ byt_bd t
      have hx := hbu x (by simp)
      have x0 : ∀ w, (Instr.index 9 (.string t) (.int .i64 0)).run Tryz.prog w = .ok (.int .u8 x) w := fun w => by
        have := str_at t 0 (by omega) w
        rw [hxu] at this
        exact this
      have HBU := Lib.hid hbu
      have HLU := Lib.hid hlu
      clear hbu hlu
      by_cases h92 : x = 92
      · have t2 : (x == 92) = true := by simp [h92]
        by_cases h2 : 2 < t.size
        · have t3 : decide (2 < (t.size : Int)) = true := decide_eq_true (by omega)
          obtain ⟨a, b, v, huv⟩ : ∃ a b v, u = a :: b :: v := by
            have := HLU.out
            match u, (by omega : 2 ≤ u.length) with
            | a :: b :: v, _ => exact ⟨a, b, v, rfl⟩
          subst huv
          have ha := HBU.out a (by simp)
          have hb := HBU.out b (by simp)
          have x1 : ∀ w, (Instr.index 9 (.string t) (.int .i64 1)).run Tryz.prog w = .ok (.int .u8 a) w := fun w => by have := str_at t 1 (by omega) w; rw [hxu] at this; exact this
          have x2 : ∀ w, (Instr.index 9 (.string t) (.int .i64 2)).run Tryz.prog w = .ok (.int .u8 b) w := fun w => by have := str_at t 2 (by omega) w; rw [hxu] at this; exact this
          have C2 := Lib.hid (fun W => c_idxh a ha.1 ha.2 W)
          have C3 := Lib.hid (fun W => c_idxh b hb.1 hb.2 W)
          have HA := uh_bd a
          have HB := uh_bd b
          have HV := Lib.hid (show 0 ≤ uh a → 0 ≤ uh b → ∀ y, y = uh a * 16 + uh b → Ux full (o ++ [y]) (byt (t.extract 3 t.size)) by intro g1 g2 y hy; rw [cut_k 3 HXU.out]; have h := HQ.out; rw [HXU.out, h92] at h; exact ux_esc h g1 g2 hy)
          have HP := Lib.hid (show (¬ 0 ≤ uh a ∨ ¬ 0 ≤ uh b) → ∀ c d z, x = 92 → a :: b :: v = c :: d :: z → 0 ≤ uh c → 0 ≤ uh d → False by
            intro hc c d z _ he h1 h2
            obtain ⟨e1, he⟩ := List.cons_eq_cons.1 he
            obtain ⟨e2, he⟩ := List.cons_eq_cons.1 he
            rw [← e1] at h1
            rw [← e2] at h2
            rcases hc with hc | hc
            · exact hc h1
            · exact hc h2)
          generalize uh a = ya at *
          generalize uh b = yb at *
          clear ha hb h92 hxu h2
          rcases HA with rfl | HA
          · rcases HB with rfl | HB
            · have HQ2 := Lib.hid (show Ux full (o ++ [x]) (byt (t.extract 1 t.size)) by rw [cut_k 1 HXU.out]; have h := HQ.out; rw [HXU.out] at h; exact ux_plain h (HP.out (Or.inl (by omega))))
              have HOB2 := Lib.hid (byts_snoc HOB.out hx)
              have hsz := Lib.hid (size_cut t 1)
              clear hx
              go_wp2_with fail
              go_quiet (first | (go_at_call 140; exact Calls.quiet_of_same (C2.out _)) | (go_at_call 140; exact Calls.quiet_of_same (C3.out _)))
              have HOq := Lib.hid (HO.out.below (below_drewN wr nq))
              have HWq := Lib.hid (HW.out.trans ((below_drewN wr nq).mono HW.out.size))
              generalize wr.drewN nq = wq at HOq HWq ⊢
              go_wp2_with (at_builtin; refine wp_append_b rfl (.tmp 43) (.tmp 46) rfl w1.heap.size _ _ o [x] rfl rfl ?o1 ?s1 ?l1 ?b1 ?_; (case o1 => exact HOq.out.alloc _); (case s1 => exact SrcB.row _ [x]); (case l1 => simp; omega); (case b1 => have := HWq.out.size; simp; omega); intro v2 w3 ho hb2 hg2; have HO2 := Lib.hid ho; have HW2 := Lib.hid ((HWq.out.alloc HWq.out.size _).trans hb2); clear ho hb2 hg2)
              go_roundw
              case rel => exact ⟨t.extract 1 t.size, o ++ [x], rfl, by rw [hsz.out]; simp; omega, HQ2, HO2, HOB2, HW2⟩
              case measure => show (t.extract 1 t.size).size < t.size; rw [hsz.out]; omega
            · have HQ2 := Lib.hid (show Ux full (o ++ [x]) (byt (t.extract 1 t.size)) by rw [cut_k 1 HXU.out]; have h := HQ.out; rw [HXU.out] at h; exact ux_plain h (HP.out (Or.inl (by omega))))
              have HOB2 := Lib.hid (byts_snoc HOB.out hx)
              have hsz := Lib.hid (size_cut t 1)
              clear hx
              go_wp2_with fail
              go_quiet (first | (go_at_call 140; exact Calls.quiet_of_same (C2.out _)) | (go_at_call 140; exact Calls.quiet_of_same (C3.out _)))
              have HOq := Lib.hid (HO.out.below (below_drewN wr nq))
              have HWq := Lib.hid (HW.out.trans ((below_drewN wr nq).mono HW.out.size))
              generalize wr.drewN nq = wq at HOq HWq ⊢
              go_wp2_with (at_builtin; refine wp_append_b rfl (.tmp 43) (.tmp 46) rfl w1.heap.size _ _ o [x] rfl rfl ?o1 ?s1 ?l1 ?b1 ?_; (case o1 => exact HOq.out.alloc _); (case s1 => exact SrcB.row _ [x]); (case l1 => simp; omega); (case b1 => have := HWq.out.size; simp; omega); intro v2 w3 ho hb2 hg2; have HO2 := Lib.hid ho; have HW2 := Lib.hid ((HWq.out.alloc HWq.out.size _).trans hb2); clear ho hb2 hg2)
              go_roundw
              case rel => exact ⟨t.extract 1 t.size, o ++ [x], rfl, by rw [hsz.out]; simp; omega, HQ2, HO2, HOB2, HW2⟩
              case measure => show (t.extract 1 t.size).size < t.size; rw [hsz.out]; omega
          · rcases HB with rfl | HB
            · have HQ2 := Lib.hid (show Ux full (o ++ [x]) (byt (t.extract 1 t.size)) by rw [cut_k 1 HXU.out]; have h := HQ.out; rw [HXU.out] at h; exact ux_plain h (HP.out (Or.inr (by omega))))
              have HOB2 := Lib.hid (byts_snoc HOB.out hx)
              have hsz := Lib.hid (size_cut t 1)
              clear hx
              go_wp2_with fail
              go_quiet (first | (go_at_call 140; exact Calls.quiet_of_same (C2.out _)) | (go_at_call 140; exact Calls.quiet_of_same (C3.out _)))
              have HOq := Lib.hid (HO.out.below (below_drewN wr nq))
              have HWq := Lib.hid (HW.out.trans ((below_drewN wr nq).mono HW.out.size))
              generalize wr.drewN nq = wq at HOq HWq ⊢
              go_wp2_with (at_builtin; refine wp_append_b rfl (.tmp 43) (.tmp 46) rfl w1.heap.size _ _ o [x] rfl rfl ?o1 ?s1 ?l1 ?b1 ?_; (case o1 => exact HOq.out.alloc _); (case s1 => exact SrcB.row _ [x]); (case l1 => simp; omega); (case b1 => have := HWq.out.size; simp; omega); intro v2 w3 ho hb2 hg2; have HO2 := Lib.hid ho; have HW2 := Lib.hid ((HWq.out.alloc HWq.out.size _).trans hb2); clear ho hb2 hg2)
              go_roundw
              case rel => exact ⟨t.extract 1 t.size, o ++ [x], rfl, by rw [hsz.out]; simp; omega, HQ2, HO2, HOB2, HW2⟩
              case measure => show (t.extract 1 t.size).size < t.size; rw [hsz.out]; omega
            · have HQ2 := Lib.hid (HV.out (by omega) (by omega) (ya * 16 + yb) rfl)
              have HOB2 := Lib.hid (byts_snoc HOB.out (show 0 ≤ ya * 16 + yb ∧ ya * 16 + yb < 256 by omega))
              have hsz := Lib.hid (size_cut t 3)
              have m1 := b_hex HA HB
              have m2 : IntKind.u8.wrap (ya * 16 + yb) = ya * 16 + yb := by unfold IntKind.wrap; simp [IntKind.bits, IntKind.signed]; omega
              have m3 : wrap64 (ya * 16) = ya * 16 := by unfold wrap64; omega
              have hge : 3 ≤ t.size := by have := HLU.out; simp at this; omega
              clear hx
              go_wp2_with fail
              go_quiet (first | (go_at_call 140; exact Calls.quiet_of_same (C2.out _)) | (go_at_call 140; exact Calls.quiet_of_same (C3.out _)))
              have HOq := Lib.hid (HO.out.below (below_drewN wr nq))
              have HWq := Lib.hid (HW.out.trans ((below_drewN wr nq).mono HW.out.size))
              generalize wr.drewN nq = wq at HOq HWq ⊢
              go_wp2_with (at_builtin; refine wp_append_b rfl (.tmp 33) (.tmp 39) rfl w1.heap.size _ _ o [ya * 16 + yb] rfl rfl ?o1 ?s1 ?l1 ?b1 ?_; (case o1 => exact HOq.out.alloc _); (case s1 => exact SrcB.row _ [ya * 16 + yb]); (case l1 => simp; omega); (case b1 => have := HWq.out.size; simp; omega); intro v2 w3 ho hb2 hg2; have HO2 := Lib.hid ho; have HW2 := Lib.hid ((HWq.out.alloc HWq.out.size _).trans hb2); clear ho hb2 hg2)
              go_roundw
              case rel => exact ⟨t.extract 3 t.size, o ++ [ya * 16 + yb], rfl, by rw [hsz.out]; simp; omega, HQ2, HO2, HOB2, HW2⟩
              case measure => show (t.extract 3 t.size).size < t.size; rw [hsz.out]; omega
        · have t3 : decide (2 < (t.size : Int)) = false := decide_eq_false (by omega)
          have HQ2 := Lib.hid (show Ux full (o ++ [x]) (byt (t.extract 1 t.size)) by rw [cut_k 1 HXU.out]; have h := HQ.out; rw [HXU.out] at h; exact ux_plain h (fun a b v _ he _ _ => by subst he; have := HLU.out; simp at this; omega))
          have HOB2 := Lib.hid (byts_snoc HOB.out hx)
          have hsz := Lib.hid (size_cut t 1)
          clear hxu hx h92
          go_wp2_with (at_builtin; refine wp_append_b rfl (.tmp 43) (.tmp 46) rfl w1.heap.size _ _ o [x] rfl rfl ?o1 ?s1 ?l1 ?b1 ?_; (case o1 => exact HO.out.alloc _); (case s1 => exact SrcB.row _ [x]); (case l1 => simp; omega); (case b1 => have := HW.out.size; simp; omega); intro v2 w3 ho hb2 hg2; have HO2 := Lib.hid ho; have HW2 := Lib.hid ((HW.out.alloc HW.out.size _).trans hb2); clear ho hb2 hg2)
          go_roundw
          case rel => exact ⟨t.extract 1 t.size, o ++ [x], rfl, by rw [hsz.out]; simp; omega, HQ2, HO2, HOB2, HW2⟩
          case measure => show (t.extract 1 t.size).size < t.size; rw [hsz.out]; omega
      · have t2 : (x == 92) = false := by simp [h92]
        have HQ2 := Lib.hid (show Ux full (o ++ [x]) (byt (t.extract 1 t.size)) by rw [cut_k 1 HXU.out]; have h := HQ.out; rw [HXU.out] at h; exact ux_plain h (fun a b v h _ _ _ => h92 h))
        have HOB2 := Lib.hid (byts_snoc HOB.out hx)
        have hsz := Lib.hid (size_cut t 1)
        clear hxu hx h92
        go_wp2_with (at_builtin; refine wp_append_b rfl (.tmp 43) (.tmp 46) rfl w1.heap.size _ _ o [x] rfl rfl ?o1 ?s1 ?l1 ?b1 ?_; (case o1 => exact HO.out.alloc _); (case s1 => exact SrcB.row _ [x]); (case l1 => simp; omega); (case b1 => have := HW.out.size; simp; omega); intro v2 w3 ho hb2 hg2; have HO2 := Lib.hid ho; have HW2 := Lib.hid ((HW.out.alloc HW.out.size _).trans hb2); clear ho hb2 hg2)
        go_roundw
        case rel => exact ⟨t.extract 1 t.size, o ++ [x], rfl, by rw [hsz.out]; simp; omega, HQ2, HO2, HOB2, HW2⟩
        case measure => show (t.extract 1 t.size).size < t.size; rw [hsz.out]; omega
end Go.Proofs.YtkogcobcjoojnaaGreatDoor.Fl

namespace Go.Proofs.YtkogcobcjoojnaaGreatDoor.Fl
open Go.RowKit Go.Maps
set_option linter.unusedVariables false
set_option linter.unusedSimpArgs false
def pick (e : EvE) (i : Nat) : Int := if (fieldsK e.kind).contains i then e.nums.getD i 0 else 0
/-- What of an event its kind names. -/
def toldE (e : EvE) : EvE := ⟨e.kind, pick e 0, pick e 1, pick e 2, pick e 3, pick e 4, pick e 5, pick e 6, pick e 7, decide (e.kind = 6) && e.stays, if e.kind = 1 then e.req else noReq, if e.kind = 2 then e.chg else noChg⟩
def rangeOk (e : EvE) : Bool := (fieldsK e.kind).all fun i => within (e.nums.getD i 0) 0 1099511627776
theorem filNo_iff (f : FilE) : filNo f = true ↔ f = noFil := by
  obtain ⟨fams, lo, hi, a, b, c, d⟩ := f
  unfold filNo noFil
  simp [and_assoc]
theorem noVal_iff (k n : Int) (s : ByteArray) : noVal k n s = true ↔ k = 0 ∧ n = 0 ∧ s = noB := by
  unfold noVal
  simp [and_assoc]
theorem reqNo_iff (q : ReqE) : reqNo q = true ↔ q = noReq := by
  obtain ⟨k, row, stop, muts, fam, qual, vk, vn, vs, fil⟩ := q
  unfold reqNo noReq
  simp only [Bool.and_eq_true, decide_eq_true_eq, beq_iff_eq, noVal_iff, filNo_iff, List.isEmpty_iff, ReqE.mk.injEq]
  constructor
  · rintro ⟨⟨⟨⟨⟨⟨⟨a, b⟩, c⟩, d⟩, e⟩, f⟩, g⟩, h⟩
    exact ⟨a, b, c, d, e, f, g.1, g.2.1, g.2.2, h⟩
  · rintro ⟨a, b, c, d, e, f, g1, g2, g3, h⟩
    exact ⟨⟨⟨⟨⟨⟨⟨a, b⟩, c⟩, d⟩, e⟩, f⟩, g1, g2, g3⟩, h⟩
theorem chgNo_iff (c : ChgE) : chgNo c = true ↔ c = noChg := by
  obtain ⟨k, fam, qual, t, g, v, l⟩ := c
  unfold chgNo noChg
  simp [and_assoc]
theorem told_iff (e : EvE) : told e = true ↔ (1 ≤ e.kind ∧ e.kind ≤ 13) ∧ toldE e = e ∧ rangeOk e = true ∧ (if e.kind = 1 then reqOk e.req = true else if e.kind = 2 then chgOk e.chg = true else True) := by
  obtain ⟨k, n0, n1, n2, n3, n4, n5, n6, n7, st, q, c⟩ := e
  by_cases hk : 1 ≤ k ∧ k ≤ 13
  · have : k = 1 ∨ k = 2 ∨ k = 3 ∨ k = 4 ∨ k = 5 ∨ k = 6 ∨ k = 7 ∨ k = 8 ∨ k = 9 ∨ k = 10 ∨ k = 11 ∨ k = 12 ∨ k = 13 := by omega
    clear hk
    rcases this with rfl | rfl | rfl | rfl | rfl | rfl | rfl | rfl | rfl | rfl | rfl | rfl | rfl <;>
    · simp only [told, numsOk, toldE, pick, rangeOk, fieldsK, EvE.nums, show List.range 8 = [0, 1, 2, 3, 4, 5, 6, 7] from rfl, within, EvE.mk.injEq, List.all_cons, List.all_nil]
      simp [reqNo_iff, chgNo_iff]
      cases st <;> simp [eq_comm (a := (0 : Int)), eq_comm (a := noReq), eq_comm (a := noChg)] <;> (try (constructor <;> intro h <;> (try simp_all) <;> (try omega)))
  · have h1 : told ⟨k, n0, n1, n2, n3, n4, n5, n6, n7, st, q, c⟩ = false := by
      unfold told within
      simp only
      rw [show (decide (1 ≤ k) && decide (k ≤ 13)) = false by rw [← Bool.not_eq_true]; simpa using hk]
      rfl
    rw [h1]
    simp [hk]
end Go.Proofs.YtkogcobcjoojnaaGreatDoor.Fl

namespace Go.Proofs.YtkogcobcjoojnaaGreatDoor.Fl
open Go.RowKit Go.Maps
set_option linter.unusedVariables false
set_option linter.unusedSimpArgs false
theorem join_le (b : Nat) : ∀ l : List (List UInt8), (∀ w ∈ l, w.length ≤ b) → (Lib.join l [32]).length ≤ l.length * (b + 1)
  | [], _ => by simp [Lib.join_nil]
  | [x], h => by
    have := h x (by simp)
    rw [Lib.join_one]
    simp
    omega
  | x :: y :: r, h => by
    have h1 := h x (by simp)
    have ih := join_le b (y :: r) (fun w hw => h w (by simp [hw]))
    rw [Sc.join_two, List.length_append, List.length_cons, List.length_cons (a := x), Nat.succ_mul]
    omega
/-- Words of so many bytes, so many of them. -/
def Sz (l : List ByteArray) (n : Nat) : Prop := (∀ w ∈ l, w.size ≤ 1000) ∧ l.length ≤ n
theorem Sz.app {a b : List ByteArray} {n m : Nat} (h : Sz a n) (h2 : Sz b m) : Sz (a ++ b) (n + m) :=
  ⟨fun w hw => (List.mem_append.1 hw).elim (h.1 w) (h2.1 w), by rw [List.length_append]; exact Nat.add_le_add h.2 h2.2⟩
theorem Sz.cons {a : ByteArray} {b : List ByteArray} {m : Nat} (h : a.size ≤ 1000) (h2 : Sz b m) : Sz (a :: b) (m + 1) :=
  ⟨fun w hw => (List.mem_cons.1 hw).elim (fun e => e ▸ h) (h2.1 w), by rw [List.length_cons]; exact Nat.succ_le_succ h2.2⟩
theorem Sz.nil (m : Nat) : Sz [] m := ⟨fun w hw => (by cases hw), Nat.zero_le _⟩
theorem Sz.mono {a : List ByteArray} {n m : Nat} (h : Sz a n) (hm : n ≤ m) : Sz a m := ⟨h.1, Nat.le_trans h.2 hm⟩
theorem sz_num {n : Int} (hn : Wf n) : (wNum n).size ≤ 1000 := by
  have h1 := dec_len 20 n.natAbs (by omega) (by unfold Wf at hn; simp; omega)
  have h2 := dec_len 20 n.toNat (by omega) (by unfold Wf at hn; simp; omega)
  unfold wNum
  rw [Lib.size_mk]
  unfold Lib.itoa
  split
  · rw [List.length_cons]; omega
  · omega
theorem sz_text {s : ByteArray} (h : s.size ≤ 300) : (wText s).size ≤ 1000 := by
  unfold wText
  rw [txt_size]
  unfold quo3
  have := (qq3_len (byt s)).2
  rw [byt_len] at this
  simp
  omega
theorem spc_len : ∀ l : List UInt8, (spc l).length ≤ 3 * l.length
  | [] => by simp [spc]
  | c :: l => by
    have := spc_len l
    rw [spc]
    split
    · simp only [List.length_cons]; omega
    · simp only [List.length_cons]; omega
theorem sz_val {k n : Int} {s : ByteArray} (hn : Wf n) (h : noVal k n s = true ∨ rightV k n s = true) : (wVal k n s).size ≤ 1000 := by
  unfold wVal
  split
  · decide
  · rename_i hk
    rcases h with h | h
    · rw [noVal_iff] at h
      exact absurd h.1 hk
    have hs : s.size ≤ 32 := by rcases right_kinds h with ⟨e, c⟩ | ⟨e, c, c2⟩ | ⟨e, c, c2⟩ | ⟨e, e2, c⟩ | ⟨e, e2, c, c2⟩ <;> omega
    have h1 := showV_size3 k n s hn (by omega)
    have h2 := spc_len (showV k n s).data.toList
    rw [Lib.size_mk]
    have h3 : (showV k n s).data.toList.length = (showV k n s).size := rfl
    omega
theorem sz_nth (l : List ByteArray) (hl : ∀ w ∈ l, w.size ≤ 1000) (k : Int) : (nth l k).size ≤ 1000 := by
  unfold nth
  rw [List.getD]
  cases h : l[(k - 1).toNat]? with
  | none => decide
  | some x => exact hl x (List.mem_of_getElem? h)
theorem sz_mut {m : MutE} (hw : MutW m) (h : mutOk m = true) : Sz (wMut m) 4 := by
  unfold wMut
  have h0 := sz_nth mutN (by decide) m.kind
  rcases mut_kinds h with ⟨hk, h1, h2, h3⟩ | ⟨hk, h1, h2, h3⟩ | ⟨hk, h1, h2, h3⟩ | ⟨hk, h1, h2, h3⟩
  · have := nameSize h1
    rw [if_pos hk]
    exact (Sz.cons h0 (Sz.cons (by omega) (Sz.cons (sz_text (by omega)) (Sz.cons (sz_val hw.n (Or.inr h3)) (Sz.nil 0)))))
  · have := nameSize h1
    rw [if_neg (by omega), if_pos hk]
    exact (Sz.cons h0 (Sz.cons (by omega) (Sz.cons (sz_text (by omega)) (Sz.nil 0)))).mono (by omega)
  · have := nameSize h1
    rw [if_neg (by omega), if_neg (by omega), if_pos hk]
    exact (Sz.cons h0 (Sz.cons (by omega) (Sz.nil 0))).mono (by omega)
  · rw [if_neg (by omega), if_neg (by omega), if_neg (by omega)]
    exact (Sz.cons h0 (Sz.nil 0)).mono (by omega)
theorem sz_muts : ∀ l : List MutE, (∀ m ∈ l, MutW m ∧ mutOk m = true) → Sz (l.flatMap wMut) (4 * l.length)
  | [], _ => Sz.nil _
  | m :: l, h => by
    rw [List.flatMap_cons]
    exact ((sz_mut (h m (by simp)).1 (h m (by simp)).2).app (sz_muts l (fun x hx => h x (by simp [hx])))).mono (by rw [List.length_cons]; omega)
theorem sz_fil {f : FilE} (hw : FilW f) (h : filOk f = true) : Sz (wFil f) 13 := by
  obtain ⟨hl, hn⟩ := filOk_len h
  unfold filOk at h
  simp only [Bool.and_eq_true, decide_eq_true_iff] at h
  obtain ⟨⟨⟨⟨⟨⟨⟨b1, b2⟩, b3⟩, b4⟩, b5⟩, b6⟩, b7⟩, b8⟩ := h
  unfold wFil
  have h6 : Sz f.fams 6 := ⟨fun s hs => by have := nameSize (hn s hs); omega, hl⟩
  exact (Sz.cons (sz_num (by unfold Wf; omega)) (h6.app (Sz.cons (sz_text (by omega)) (Sz.cons (sz_text (by omega)) (Sz.cons (sz_num hw.a) (Sz.cons (sz_num hw.b) (Sz.cons (sz_num hw.c) (Sz.cons (sz_num hw.d) (Sz.nil 0))))))))).mono (by omega)
theorem sz_req {q : ReqE} (hw : ReqW q) (h : reqOk q = true) : Sz (wReq q) 50 := by
  have h0 := sz_nth reqN (by decide) q.kind
  unfold reqOk at h
  unfold wReq
  by_cases h3 : q.kind = 3
  · rw [if_pos h3] at h ⊢
    simp only [Bool.and_eq_true, decide_eq_true_eq] at h
    obtain ⟨⟨⟨⟨⟨⟨⟨a1, a2⟩, a3⟩, a4⟩, a5⟩, a6⟩, a7⟩, a8⟩ := h
    rw [List.isEmpty_iff.1 a4]
    exact (Sz.cons h0 (Sz.cons (sz_text (by omega)) ((Sz.cons (sz_text (by omega)) (sz_fil hw.f a8)).app (Sz.nil 0)))).mono (by omega)
  · rw [if_neg h3] at h ⊢
    by_cases h1 : q.kind = 1
    · rw [if_pos h1] at h
      simp only [Bool.and_eq_true, decide_eq_true_eq] at h
      obtain ⟨r1, r2, r3, r4, r5, r6, r7⟩ := writeParts h.1.1.1
      rw [if_neg (by omega)]
      exact (Sz.cons h0 (Sz.cons (sz_text (by omega)) ((Sz.nil 0).app (sz_muts q.muts (fun m hm => ⟨hw.m m hm, r7 m hm⟩))))).mono (by omega)
    · rw [if_neg h1] at h
      by_cases h2 : q.kind = 2
      · rw [if_pos h2] at h ⊢
        simp only [Bool.and_eq_true, Bool.or_eq_true, decide_eq_true_eq] at h
        obtain ⟨⟨⟨a1, a2⟩, a3⟩, a4⟩ := h
        obtain ⟨r1, r2, r3, r4, r5, r6, r7⟩ := writeParts a1
        have := nameSize a2
        exact (Sz.cons h0 (Sz.cons (sz_text (by omega)) ((Sz.cons (by omega) (Sz.cons (sz_text (by omega)) (Sz.cons (sz_val hw.n a4) (Sz.nil 0)))).app (sz_muts q.muts (fun m hm => ⟨hw.m m hm, r7 m hm⟩))))).mono (by omega)
      · rw [if_neg h2] at h
        cases h
theorem sz_knobs {c : ChgE} (h : chgOk c = true) : Sz ((knobs c).map wNum) 3 := by
  unfold chgOk at h
  simp only [Bool.and_eq_true] at h
  obtain ⟨_, h⟩ := h
  unfold knobs
  split
  · rename_i h1
    rw [if_pos h1] at h
    simp only [Bool.and_eq_true, decide_eq_true_eq, beq_iff_eq] at h
    obtain ⟨⟨⟨⟨a1, a2⟩, a3⟩, a4⟩, a5⟩ := h
    have b4 := within_iff a4
    exact Sz.cons (sz_num (wf_within a3 (by omega))) (Sz.cons (sz_num (by unfold Wf; omega)) (Sz.cons (sz_num (wf_within a5 (by omega))) (Sz.nil 0)))
  · rename_i h1
    rw [if_neg h1] at h
    split
    · rename_i h3
      rw [if_neg (by omega), if_pos h3] at h
      simp only [Bool.and_eq_true, decide_eq_true_eq, beq_iff_eq] at h
      have b4 := within_iff h.1.1.1.2
      exact (Sz.cons (sz_num (by unfold Wf; omega)) (Sz.nil 0)).mono (by omega)
    · rename_i h3
      split
      · rename_i h5
        rw [if_neg (by omega), if_neg h3, if_neg (by omega), if_pos h5] at h
        simp only [Bool.and_eq_true, decide_eq_true_eq, beq_iff_eq] at h
        have b4 := within_iff h.1.1.2
        exact (Sz.cons (sz_num (by unfold Wf; omega)) (Sz.nil 0)).mono (by omega)
      · exact Sz.nil _
theorem chg_qual {c : ChgE} (h : chgOk c = true) : c.qual.size ≤ 12 := by
  have nz : noB.size = 0 := rfl
  unfold chgOk at h
  simp only [Bool.and_eq_true] at h
  obtain ⟨_, h⟩ := h
  repeat' split at h
  all_goals (try simp only [Bool.and_eq_true, decide_eq_true_eq, beq_iff_eq] at h)
  · rw [h.1.1.1.1, nz]; omega
  · rw [h.1.1.1.1, nz]; omega
  · exact h.1.1.1.1
  · exact h.1.1.1.1
  · rw [h.1.1.1.1, nz]; omega
  · cases h
theorem sz_chg {c : ChgE} (h : chgOk c = true) : Sz (wChg c) 6 := by
  have h0 := sz_nth chgN (by decide) c.kind
  have hq := chg_qual h
  have hk := sz_knobs h
  unfold chgOk at h
  simp only [Bool.and_eq_true] at h
  have hf := nameSize h.1
  unfold wChg
  refine (Sz.cons h0 (Sz.cons (by omega) (Sz.app (n := 1) ?_ hk))).mono (by omega)
  split
  · exact Sz.cons (sz_text (by omega)) (Sz.nil 0)
  · exact Sz.nil _
theorem nums_ok {e : EvE} (h : rangeOk e = true) {i : Nat} (hi : i ∈ fieldsK e.kind) : Wf (e.nums.getD i 0) := by
  unfold rangeOk at h
  rw [List.all_eq_true] at h
  exact wf_within (h i hi) (by omega)
theorem sz_ev {e : EvE} (hw : ReqW e.req) (h : told e = true) : Sz (wEv e) 54 := by
  obtain ⟨hk, ht, hr, hf⟩ := (told_iff e).1 h
  have h0 := sz_nth evN (by decide) e.kind
  have h1 : Sz ((fieldsK e.kind).map fun i => wNum (e.nums.getD i 0)) 3 := by
    refine ⟨fun w hw => ?_, ?_⟩
    · obtain ⟨i, hi, rfl⟩ := List.mem_map.1 hw
      exact sz_num (nums_ok hr hi)
    · rw [List.length_map]
      unfold fieldsK
      repeat (first | (split; · simp) | simp)
  unfold wEv
  refine (Sz.cons h0 (h1.app (m := 50) ?_)).mono (by omega)
  split
  · rename_i h2
    rw [if_pos h2] at hf
    exact sz_req hw hf
  · rename_i h2
    rw [if_neg h2] at hf
    split
    · rename_i h3
      rw [if_pos h3] at hf
      exact (sz_chg hf).mono (by omega)
    · split
      · exact (Sz.cons (by decide) (Sz.nil 0)).mono (by omega)
      · exact Sz.nil _
theorem line_len {e : EvE} (hw : ReqW e.req) (h : told e = true) : (Lib.join ((wEv e).map (·.data.toList)) [32]).length ≤ 60000 := by
  have hs := sz_ev hw h
  have := join_le 1000 ((wEv e).map (·.data.toList)) (fun w hw => by
    obtain ⟨x, hx, rfl⟩ := List.mem_map.1 hw
    exact hs.1 x hx)
  rw [List.length_map] at this
  have := hs.2
  omega
theorem lineE_size {e : EvE} (hw : ReqW e.req) : (lineE e).size ≤ 60000 := by
  unfold lineE
  split
  · rename_i h
    rw [Lib.size_mk]
    exact line_len hw h
  · decide
end Go.Proofs.YtkogcobcjoojnaaGreatDoor.Fl

namespace Go.Proofs.YtkogcobcjoojnaaGreatDoor.Fl
open Go.RowKit Go.Maps
set_option linter.unusedVariables false
set_option linter.unusedSimpArgs false
/-- An event's cells. -/
def ecells (ms vs : Value) (e : EvE) : Array Value :=
  #[.int .i64 e.kind, .int .i64 e.node, .int .i64 e.dst, .int .i64 e.log, .int .i64 e.pos, .int .i64 e.by_, .int .i64 e.keep, .int .i64 e.client, .int .i64 e.seq, .bool e.stays,
    .int .i64 e.req.kind, .string e.req.row, .string e.req.stop, ms, .string e.req.fam, .string e.req.qual, .int .i64 e.req.vk, .int .i64 e.req.vn, .string e.req.vs, vs, .string e.req.fil.lo, .string e.req.fil.hi, .int .i64 e.req.fil.since, .int .i64 e.req.fil.til, .int .i64 e.req.fil.versions, .int .i64 e.req.fil.rows,
    .int .i64 e.chg.kind, .string e.chg.fam, .string e.chg.qual, .int .i64 e.chg.typ, .int .i64 e.chg.group, .int .i64 e.chg.versions, .int .i64 e.chg.life]
theorem Ww.start {w W : World} {p : Nat} (hp : w.heap.size ≤ p) (hb : Below w.heap.size w W) (hbox : W.heap[p]? = some (.cells #[.slice none 0 0] 106 (0, 0))) : Ww w p [] W :=
  ⟨⟨hp, .slice none 0 0, hbox, ⟨rfl, Or.inl ⟨rfl, rfl⟩⟩, by intro h; cases h⟩, hb⟩
/-- The writer's row, as strings.Join asks it. -/
theorem IsW.row {B p : Nat} {ws : List ByteArray} {w : World} (h : IsW B p ws w) (hne : ws ≠ []) : ∃ g c, w.cell? ⟨p, 0, none⟩ = some (.slice (some ⟨g, 0, none⟩) ws.length c) ∧ ws.length ≤ c ∧ g < w.heap.size ∧ ∀ (j : Nat) x, ws[j]? = some x → w.cell? ⟨g, 0 + j, none⟩ = some (.string x) := by
  obtain ⟨_, v, hb, hown, _⟩ := h
  have hc : w.cell? ⟨p, 0, none⟩ = some v := by simp [World.cell?, hb]
  have hcl := fun g (hg : v.ownBlock = some g) => hown.cells hg
  rcases hown.2 with ⟨_, h0⟩ | ⟨g, cap, cur, rfl, _, hg, hcap, _⟩
  · exact absurd (List.length_eq_zero_iff.1 h0) hne
  · refine ⟨g, cap, hc, hcap, (Array.getElem?_eq_some_iff.1 hg).1, fun j x hj => ?_⟩
    have := hcl g rfl j (.string x) (by simp [strs, hj])
    have hadd : (⟨g, 0, none⟩ : Addr).add j = ⟨g, j, none⟩ := by unfold Addr.add; split <;> simp_all
    rw [hadd] at this
    rw [Nat.zero_add]
    exact this
theorem fields_at {k : Int} {i o : Nat} (h : (fieldsC k)[i]? = some o) : ∃ j, (fieldsK k)[i]? = some j ∧ o = j + 1 ∧ j < 8 := by
  unfold fieldsC at h
  rw [List.getElem?_map] at h
  cases hj : (fieldsK k)[i]? with
  | none => rw [hj] at h; cases h
  | some j =>
    rw [hj] at h
    have ho : j + 1 = o := by simpa using h
    refine ⟨j, rfl, ho.symm, ?_⟩
    have hm := List.mem_of_getElem? hj
    unfold fieldsK at hm
    split at hm
    · simp at hm; omega
    · split at hm
      · simp at hm; omega
      · split at hm
        · simp at hm; omega
        · split at hm
          · simp at hm; omega
          · split at hm
            · simp at hm; omega
            · split at hm
              · simp at hm; omega
              · split at hm
                · simp at hm; omega
                · split at hm
                  · simp at hm; omega
                  · simp at hm; omega
theorem nums_cell (ms vs : Value) (e : EvE) {j : Nat} (h : j < 8) : (ecells ms vs e)[j + 1]? = some (.int .i64 (e.nums.getD j 0)) := by
  obtain rfl | rfl | rfl | rfl | rfl | rfl | rfl | rfl : j = 0 ∨ j = 1 ∨ j = 2 ∨ j = 3 ∨ j = 4 ∨ j = 5 ∨ j = 6 ∨ j = 7 := by omega
  all_goals rfl
theorem fields_len (k : Int) : (fieldsC k).length ≤ 3 := by
  unfold fieldsC fieldsK
  rw [List.length_map]
  repeat (first | (split; · simp) | simp)
theorem nth_at (k : Int) (hk : 1 ≤ k ∧ k ≤ 13) : ∃ j : Nat, k = (j : Int) + 1 ∧ j < 13 ∧ (strs evN)[j]? = some (.string (nth evN k)) := by
  refine ⟨(k - 1).toNat, by omega, by omega, ?_⟩
  have hl : (k - 1).toNat < evN.length := by show _ < 13; omega
  unfold strs nth
  generalize (k - 1).toNat = i at hl ⊢
  rw [List.getElem?_map, List.getElem?_eq_getElem hl]
  simp [List.getD, hl]
theorem below_box {w : World} (cs : Array Value) (T : TypeId) : Below w.heap.size w (w.alloc (.cells cs T)) := (Below.refl _ _).alloc (Nat.le_refl _) _
theorem c_join (ws : List ByteArray) (g c : Nat) (w : World) (hc : ∀ (j : Nat) x, ws[j]? = some x → w.cell? ⟨g, 0 + j, none⟩ = some (.string x)) (hg : g < w.heap.size) (h1 : ws.length ≤ c) (h2 : ws.length ≤ 1000000) (h3 : (Lib.join (ws.map (·.data.toList)) [32]).length ≤ 1000000) :
    Calls Tryz.prog 66 #[.slice (some ⟨g, 0, none⟩) ws.length c, .string ⟨#[32]⟩] w fun e w' => e = .returned (.string ⟨(Lib.join (ws.map (·.data.toList)) [32]).toArray⟩) ∧ Below w.heap.size w w' :=
  Tryz.strings_Join g 0 c ws ⟨#[32]⟩ w hc hg (by omega) h1 (by show (Lib.join _ [32]).length ≤ _; omega)
set_option maxRecDepth 100000 in
set_option maxHeartbeats 8000000 in
theorem c_line {w : World} (hg : Gv w) (mv_ fv_ : Value) (ev : EvE) (ht : told ev = true) (hw : ReqW ev.req) (hms : HasM w mv_ ev.req.muts) (hfv : HasS w fv_ ev.req.fil.fams) :
    Calls Tryz.prog 32 #[.agg (ecells mv_ fv_ ev)] w fun e w' => e = .returned (.string (lineE ev)) ∧ Below w.heap.size w w' := by
  have HT := Lib.hid ht
  have HLN := Lib.hid (line_len hw ht)
  have HSZ := Lib.hid (sz_ev hw ht).2
  obtain ⟨hk, htold, hrange, hform⟩ := (told_iff ev).1 ht
  have HWR := Lib.hid hw
  have HMS := Lib.hid hms
  have HFV := Lib.hid hfv
  have HG := Lib.hid hg
  have HRG := Lib.hid (fun i (hi : i ∈ fieldsK ev.kind) => nums_ok hrange hi)
  have HFM := Lib.hid hform
  have HK := Lib.hid hk
  obtain ⟨j, hj, hj13, hjs⟩ := nth_at ev.kind hk
  have HJ := Lib.hid hjs
  have hk0 : (ecells mv_ fv_ ev)[0]? = some (.int .i64 ((j : Int) + 1)) := by rw [← hj]; rfl
  have j0 : (0 : Int) ≤ (j : Int) := by omega
  have j1 : (j : Int) < 13 := by omega
  have k3 : IntKind.i64.wrap ((j : Int) + 1 - 1) = (j : Int) := by rw [Int.add_sub_cancel]; unfold IntKind.wrap; simp [IntKind.bits, IntKind.signed]; omega
  have k4 : wrap64 ((j : Int) + 1 - 1) = (j : Int) := by rw [Int.add_sub_cancel]; unfold wrap64; omega
  have k5 : wrap64 (j : Int) = (j : Int) := by unfold wrap64; omega
  have k6 : IntKind.i64.wrap (j : Int) = (j : Int) := by unfold IntKind.wrap; simp [IntKind.bits, IntKind.signed]; omega
  have HA0 := Lib.hid (show Wb w (w.heap.size + 1) [] w.heap.size (ecells mv_ fv_ ev) 39 ((w.alloc (.cells (ecells mv_ fv_ ev) 39)).alloc (.cells #[.slice none 0 0] 106)) by
    have hb1 := below_box (w := w) (ecells mv_ fv_ ev) 39
    have hb2 := below_box (w := w.alloc (.cells (ecells mv_ fv_ ev) 39)) #[.slice none 0 0] 106
    have hs : (w.alloc (.cells (ecells mv_ fv_ ev) 39)).heap.size = w.heap.size + 1 := by show (w.heap.push _).size = _; simp
    have hx := heap_alloc_new (w.alloc (.cells (ecells mv_ fv_ ev) 39)) (.cells #[.slice none 0 0] 106)
    rw [hs] at hx hb2
    refine ⟨Ww.start (by omega) (hb1.trans (hb2.mono (by omega))) hx, ?_, by omega, ?_⟩
    · rw [hb2.block _ (by omega)]
      exact heap_alloc_new _ _
    · intro v hv
      rw [hx] at hv
      simp at hv
      subst hv
      intro e
      cases e)
  clear ht hw hms hfv hg hrange hform hk htold hjs hj
  go_enter Tryz.func32, Tryz.ntmps32
  go_wp2_with fail
  have HA1 := Lib.hid HA0.out.drew
  refine wp_region_held_drew (S := fun X => ∃ u, Wb w (w.heap.size + 1) u w.heap.size (ecells mv_ fv_ ev) 39 X) (by kernel_rfl) ⟨_, HA1.out⟩ (fun hHeld => ?_)
  refine tk 0 (v := ?v_101) ?y101 ?_; (case y101 => (refine Or.inl ⟨by rfl, ?_⟩; intro w hSw; obtain ⟨_, hW⟩ := hSw; have x0 := hW.cell 0 (.int .i64 ((j : Int) + 1)) hk0; have k6 : IntKind.i64.wrap (j : Int) = (j : Int) := (by unfold IntKind.wrap; simp [IntKind.bits, IntKind.signed]; omega); go_simp; first | done | with_reducible rfl)); (try simp only [Act.put, List.setIfInBounds_toArray, List.set_cons_zero, List.set_cons_succ])
  refine tk 2 (v := ?v_102) ?y102 ?_; (case y102 => (refine Or.inl ⟨by rfl, ?_⟩; intro w hSw; obtain ⟨_, hW⟩ := hSw; have x0 := hW.cell 0 (.int .i64 ((j : Int) + 1)) hk0; have k6 : IntKind.i64.wrap (j : Int) = (j : Int) := (by unfold IntKind.wrap; simp [IntKind.bits, IntKind.signed]; omega); go_simp; first | done | with_reducible rfl)); (try simp only [Act.put, List.setIfInBounds_toArray, List.set_cons_zero, List.set_cons_succ])
  refine tk 3 (v := ?v_103) ?y103 ?_; (case y103 => (refine Or.inl ⟨by rfl, ?_⟩; intro w hSw; obtain ⟨_, hW⟩ := hSw; have x0 := hW.cell 0 (.int .i64 ((j : Int) + 1)) hk0; have k6 : IntKind.i64.wrap (j : Int) = (j : Int) := (by unfold IntKind.wrap; simp [IntKind.bits, IntKind.signed]; omega); go_simp; first | done | with_reducible rfl)); (try simp only [Act.put, List.setIfInBounds_toArray, List.set_cons_zero, List.set_cons_succ])
  refine tk 4 (v := ?v_104) ?y104 ?_; (case y104 => (refine Or.inl ⟨by rfl, ?_⟩; intro w hSw; obtain ⟨_, hW⟩ := hSw; have x0 := hW.cell 0 (.int .i64 ((j : Int) + 1)) hk0; have k6 : IntKind.i64.wrap (j : Int) = (j : Int) := (by unfold IntKind.wrap; simp [IntKind.bits, IntKind.signed]; omega); go_simp; first | done | with_reducible rfl)); (try simp only [Act.put, List.setIfInBounds_toArray, List.set_cons_zero, List.set_cons_succ])
  refine wpAnyH_ready (rs := [1]) (by kernel_rfl) (by simp) ?_; refine AllReadyH.cons (o := ?o_105) ?hi_105 (fun K hK => ?_) AllReadyH.nil; (case hi_105 => (simp only [List.getElem?_toArray, List.getElem?_cons_zero, List.getElem?_cons_succ]; rfl)); go_simp; (go_at_call 62; ((refine (c_names _).mono ?_); rintro e w2 ⟨rfl, hr2, hb2⟩; have HA2 := Lib.hid (HA1.out.keep hb2); have hr3 : w2.heap[w.heap.size + 1 + 1]? = some (.cells (strs evN).toArray 9 (0, 0)) := (by simpa using hr2); have c3 : w2.cell? ⟨w.heap.size + 1 + 1, j, none⟩ = some (.string (nth evN ev.kind)) := (by simp [World.cell?, hr3, HJ.out]))); refine hK.out _ _ ?_ (fun hHeld => ?_); (· exact ⟨_, HA2.out⟩); clear hK K; (try simp only [Act.put, List.setIfInBounds_toArray, List.set_cons_zero, List.set_cons_succ])
  refine tk 5 (v := ?v_106) ?y106 ?_; (case y106 => (refine Or.inl ⟨by rfl, ?_⟩; intro w hSw; obtain ⟨_, hW⟩ := hSw; have x0 := hW.cell 0 (.int .i64 ((j : Int) + 1)) hk0; have k6 : IntKind.i64.wrap (j : Int) = (j : Int) := (by unfold IntKind.wrap; simp [IntKind.bits, IntKind.signed]; omega); go_simp; first | done | with_reducible rfl)); (try simp only [Act.put, List.setIfInBounds_toArray, List.set_cons_zero, List.set_cons_succ])
  refine wpAnyH_ready (rs := [6]) (by kernel_rfl) (by simp) ?_; refine AllReadyH.cons (o := ?o_107) ?hi_107 (fun K hK => ?_) AllReadyH.nil; (case hi_107 => (simp only [List.getElem?_toArray, List.getElem?_cons_zero, List.getElem?_cons_succ]; rfl)); go_simp; skip; refine hK.out _ _ ?_ (fun hHeld => ?_); (· exact ⟨_, HA2.out⟩); clear hK K; (try simp only [Act.put, List.setIfInBounds_toArray, List.set_cons_zero, List.set_cons_succ])
  refine wpAnyH_ready (rs := [7]) (by kernel_rfl) (by simp) ?_; refine AllReadyH.cons (o := ?o_108) ?hi_108 (fun K hK => ?_) AllReadyH.nil; (case hi_108 => (simp only [List.getElem?_toArray, List.getElem?_cons_zero, List.getElem?_cons_succ]; rfl)); go_simp; (go_at_call 61; ((refine (c_wword _ HA2.out.ww (by simp)).mono ?_); rintro e w3 ⟨rfl, h3, hf3⟩; have HA3 := Lib.hid (HA2.out.next h3 hf3); clear h3 hf3)); refine hK.out _ _ ?_ (fun hHeld => ?_); (· exact ⟨_, HA3.out⟩); clear hK K; (try simp only [Act.put, List.setIfInBounds_toArray, List.set_cons_zero, List.set_cons_succ])
  refine wpAnyH_done (by kernel_rfl) ?_ _
  have x0 := HA3.out.cell 0 (.int .i64 ev.kind) rfl
  go_wp2_with fail
  refine (c_fields _ ev.kind HK.out _ x0).mono ?_
  rintro e w4 ⟨v4, rfl, rfl, hr4, hb4⟩
  have HK4 := Lib.hid (Kp.new HA3.out.ww hb4 hr4)
  have HA4 := Lib.hid (HA3.out.keep hb4)
  clear hr4 hb4 x0 HA0 HA1 HA2 HA3 hk0 k3 k4 k5 k6
  generalize hG : w3.heap.size = gb at HK4
  have hL := fields_len ev.kind
  obtain ⟨L, hLd⟩ : ∃ L, (fieldsC ev.kind).length = L := ⟨_, rfl⟩
  rw [hLd] at hL ⊢
  have HLd := Lib.hid hLd
  have HLd2 := Lib.hid (show (fieldsK ev.kind).length = L by rw [← hLd]; unfold fieldsC; rw [List.length_map])
  clear hLd
  go_wp2
  go_loopw [18] (fun v18 W => ∃ i : Nat, i ≤ L ∧ v18 = .int .i64 i ∧ Hid (Wb w (w.heap.size + 1) ([nth evN ev.kind] ++ ((fieldsK ev.kind).map fun i => wNum (ev.nums.getD i 0)).take i) w.heap.size (ecells mv_ fv_ ev) 39 W) ∧ Hid (Kp (w.heap.size + 1) gb (ptrs w.heap.size (fieldsC ev.kind)).toArray 70 W)) (fun v18 _ => L - (intOf v18).toNat)
  case atStart => exact ⟨0, by omega, rfl, Lib.hid (by rw [List.take_zero, List.append_nil]; exact HA4.out), HK4⟩
  case round =>
    obtain ⟨i, hi2, rfl, HA, HKp⟩ := hrel
    clear HA4 HK4
    by_cases hlt : i < L
    · have t1 : decide ((i : Int) < (L : Int)) = true := decide_eq_true (by omega)
      have hk0 : (0 : Int) ≤ (i : Int) := by omega
      have hk1 : (i : Int) < (L : Int) := by omega
      have hi3 : i < (fieldsC ev.kind).length := by rw [HLd.out]; exact hlt
      have hoi := List.getElem?_eq_getElem hi3
      obtain ⟨jj, hjj, hoj, hj8⟩ := fields_at hoi
      have y0 := HKp.out.cell i (.pointer (some ⟨w.heap.size, jj + 1, none⟩)) (by simp only [ptrs, List.getElem?_toArray, List.getElem?_map, hoi, hoj]; rfl)
      have y1 : wr.cell? ⟨gb, 0 + i, none⟩ = some (.pointer (some ⟨w.heap.size, jj + 1, none⟩)) := by rw [Nat.zero_add]; exact y0
      have x0 := HA.out.cell (jj + 1) _ (nums_cell mv_ fv_ ev hj8)
      have hwf := HRG.out jj (List.mem_of_getElem? hjj)
      have HTK := Lib.hid (show ((fieldsK ev.kind).map fun i => wNum (ev.nums.getD i 0)).take (i + 1) = ((fieldsK ev.kind).map fun i => wNum (ev.nums.getD i 0)).take i ++ [wNum (ev.nums.getD jj 0)] by
        have hli : i < ((fieldsK ev.kind).map fun i => wNum (ev.nums.getD i 0)).length := by rw [List.length_map, HLd2.out]; exact hlt
        rw [List.take_succ_eq_append_getElem hli, List.getElem_map]
        congr 3
        have := (List.getElem?_eq_some_iff.1 hjj).2
        rw [this])
      have HLT := Lib.hid (show ([nth evN ev.kind] ++ ((fieldsK ev.kind).map fun i => wNum (ev.nums.getD i 0)).take i).length ≤ 4 by simp [List.length_take]; omega)
      generalize ev.nums.getD jj 0 = n at x0 hwf HTK
      clear hoi hjj hoj hj8
      go_wp2_with (go_at_call 63; refine (c_wnum HG.out n hwf HA.out.ww (by have := HLT.out; omega)).mono ?_)
      rintro e w8 ⟨rfl, h3, hf3⟩
      have HA2 := Lib.hid (HA.out.next h3 hf3)
      have HK2 := Lib.hid (HKp.out.next hf3)
      clear h3 hf3 x0 y0 y1
      go_wp2
      go_roundw
      case rel => exact ⟨i + 1, by omega, by go_num, Lib.hid (by rw [HTK.out, ← List.append_assoc]; exact HA2.out), HK2⟩
      case measure => simp [intOf]; omega
    · have t1 : decide ((i : Int) < (L : Int)) = false := decide_eq_false (by omega)
      have HE := Lib.hid (show ((fieldsK ev.kind).map fun i => wNum (ev.nums.getD i 0)).take i = (fieldsK ev.kind).map fun i => wNum (ev.nums.getD i 0) from List.take_of_length_le (by rw [List.length_map, HLd2.out]; omega))
      rw [HE.out] at HA
      clear HE HKp
      have HLT := Lib.hid (show ([nth evN ev.kind] ++ ((fieldsK ev.kind).map fun i => wNum (ev.nums.getD i 0))).length ≤ 4 by simp; have := HLd2.out; omega)
      by_cases h1 : ev.kind = 1
      · have HR := Lib.hid (show reqOk ev.req = true by have := HFM.out; rw [if_pos h1] at this; exact this)
        have x0 := HA.out.cell 0 (.int .i64 1) (by rw [← h1]; rfl)
        have x10 := HA.out.cell 10 (.int .i64 ev.req.kind) rfl
        have x11 := HA.out.cell 11 (.string ev.req.row) rfl
        have x12 := HA.out.cell 12 (.string ev.req.stop) rfl
        have x13 := HA.out.cell 13 mv_ rfl
        have x14 := HA.out.cell 14 (.string ev.req.fam) rfl
        have x15 := HA.out.cell 15 (.string ev.req.qual) rfl
        have x16 := HA.out.cell 16 (.int .i64 ev.req.vk) rfl
        have x17 := HA.out.cell 17 (.int .i64 ev.req.vn) rfl
        have x18 := HA.out.cell 18 (.string ev.req.vs) rfl
        have x19 := HA.out.cell 19 fv_ rfl
        have x20 := HA.out.cell 20 (.string ev.req.fil.lo) rfl
        have x21 := HA.out.cell 21 (.string ev.req.fil.hi) rfl
        have x22 := HA.out.cell 22 (.int .i64 ev.req.fil.since) rfl
        have x23 := HA.out.cell 23 (.int .i64 ev.req.fil.til) rfl
        have x24 := HA.out.cell 24 (.int .i64 ev.req.fil.versions) rfl
        have x25 := HA.out.cell 25 (.int .i64 ev.req.fil.rows) rfl
        have CQ := c_wreq (HG.out) mv_ fv_ ev.req HR.out HWR.out HMS.out HFV.out HA.out.ww (by have := HLT.out; omega)
        unfold qcells at CQ
        have CQ := Lib.hid CQ
        go_wp2_with fail
        refine CQ.out.mono ?_
        rintro e w5 ⟨rfl, h3, hf3⟩
        have HA5 := Lib.hid (HA.out.next h3 hf3)
        clear h3 hf3 x0 x10 x11 x12 x13 x14 x15 x16 x17 x18 x19 x20 x21 x22 x23 x24 x25 CQ
        have HWD := Lib.hid (show ([nth evN ev.kind] ++ ((fieldsK ev.kind).map fun i => wNum (ev.nums.getD i 0))) ++ wReq ev.req = wEv ev by unfold wEv; rw [if_pos h1]; simp)
        rw [HWD.out] at HA5
        obtain ⟨g, c, z0, zc, zg, zj⟩ := HA5.out.ww.is.row (by unfold wEv; simp)
        have CJ := Lib.hid (c_join (wEv ev) g c _ zj zg zc (by have := HSZ.out; omega) (by have := HLN.out; omega))
        clear zj zc zg
        go_wp2_with fail
        refine CJ.out.mono ?_
        rintro e w9 ⟨rfl, hb9⟩
        have HB9 := Lib.hid (HA5.out.ww.bel.trans (hb9.mono HA5.out.ww.bel.size))
        clear hb9
        go_wp2
        go_ret
        exact ⟨by rw [line_told HT.out]; first | done | rfl, HB9.out⟩
      by_cases h2 : ev.kind = 2
      · have HR := Lib.hid (show chgOk ev.chg = true by have := HFM.out; rw [if_neg h1, if_pos h2] at this; exact this)
        have x0 := HA.out.cell 0 (.int .i64 2) (by rw [← h2]; rfl)
        have x26 := HA.out.cell 26 (.int .i64 ev.chg.kind) rfl
        have x27 := HA.out.cell 27 (.string ev.chg.fam) rfl
        have x28 := HA.out.cell 28 (.string ev.chg.qual) rfl
        have x29 := HA.out.cell 29 (.int .i64 ev.chg.typ) rfl
        have x30 := HA.out.cell 30 (.int .i64 ev.chg.group) rfl
        have x31 := HA.out.cell 31 (.int .i64 ev.chg.versions) rfl
        have x32 := HA.out.cell 32 (.int .i64 ev.chg.life) rfl
        have CQ := c_wchg (HG.out) ev.chg HR.out HA.out.ww (by have := HLT.out; omega)
        unfold ccells at CQ
        have CQ := Lib.hid CQ
        go_wp2_with fail
        refine CQ.out.mono ?_
        rintro e w5 ⟨rfl, h3, hf3⟩
        have HA5 := Lib.hid (HA.out.next h3 hf3)
        clear h3 hf3 x0 x26 x27 x28 x29 x30 x31 x32 CQ
        have HWD := Lib.hid (show ([nth evN ev.kind] ++ ((fieldsK ev.kind).map fun i => wNum (ev.nums.getD i 0))) ++ wChg ev.chg = wEv ev by unfold wEv; rw [if_neg h1, if_pos h2]; simp)
        rw [HWD.out] at HA5
        obtain ⟨g, c, z0, zc, zg, zj⟩ := HA5.out.ww.is.row (by unfold wEv; simp)
        have CJ := Lib.hid (c_join (wEv ev) g c _ zj zg zc (by have := HSZ.out; omega) (by have := HLN.out; omega))
        clear zj zc zg
        go_wp2_with fail
        refine CJ.out.mono ?_
        rintro e w9 ⟨rfl, hb9⟩
        have HB9 := Lib.hid (HA5.out.ww.bel.trans (hb9.mono HA5.out.ww.bel.size))
        clear hb9
        go_wp2
        go_ret
        exact ⟨by rw [line_told HT.out]; first | done | rfl, HB9.out⟩
      by_cases h6 : ev.kind = 6
      · have x0 := HA.out.cell 0 (.int .i64 6) (by rw [← h6]; rfl)
        cases hst : ev.stays
        · have x9 := HA.out.cell 9 (.bool false) (by rw [← hst]; rfl)
          have HWD := Lib.hid (show ([nth evN ev.kind] ++ ((fieldsK ev.kind).map fun i => wNum (ev.nums.getD i 0))) = wEv ev by unfold wEv; rw [if_neg h1, if_neg h2, hst]; simp)
          rw [HWD.out] at HA
          obtain ⟨g, c, z0, zc, zg, zj⟩ := HA.out.ww.is.row (by unfold wEv; simp)
          have CJ := Lib.hid (c_join (wEv ev) g c _ zj zg zc (by have := HSZ.out; omega) (by have := HLN.out; omega))
          clear zj zc zg
          go_wp2_with fail
          refine CJ.out.mono ?_
          rintro e w9 ⟨rfl, hb9⟩
          have HB9 := Lib.hid (HA.out.ww.bel.trans (hb9.mono HA.out.ww.bel.size))
          clear hb9
          go_wp2
          go_ret
          exact ⟨by rw [line_told HT.out]; first | done | rfl, HB9.out⟩
        · have x9 := HA.out.cell 9 (.bool true) (by rw [← hst]; rfl)
          go_wp2_with (go_at_call 61; refine (c_wword _ HA.out.ww (by have := HLT.out; omega)).mono ?_)
          rintro e w5 ⟨rfl, h3, hf3⟩
          have HA5 := Lib.hid (HA.out.next h3 hf3)
          clear h3 hf3 x0 x9
          have HWD := Lib.hid (show ([nth evN ev.kind] ++ ((fieldsK ev.kind).map fun i => wNum (ev.nums.getD i 0))) ++ [⟨#[115, 116, 97, 121, 115]⟩] = wEv ev by unfold wEv; rw [if_neg h1, if_neg h2, if_pos ⟨h6, hst⟩]; simp [wStays])
          rw [HWD.out] at HA5
          obtain ⟨g, c, z0, zc, zg, zj⟩ := HA5.out.ww.is.row (by unfold wEv; simp)
          have CJ := Lib.hid (c_join (wEv ev) g c _ zj zg zc (by have := HSZ.out; omega) (by have := HLN.out; omega))
          clear zj zc zg
          go_wp2_with fail
          refine CJ.out.mono ?_
          rintro e w9 ⟨rfl, hb9⟩
          have HB9 := Lib.hid (HA5.out.ww.bel.trans (hb9.mono HA5.out.ww.bel.size))
          clear hb9
          go_wp2
          go_ret
          exact ⟨by rw [line_told HT.out]; first | done | rfl, HB9.out⟩
      have x0 := HA.out.cell 0 (.int .i64 ev.kind) rfl
      have HN := Lib.hid (And.intro h1 (And.intro h2 h6))
      have g1 : (ev.kind == 1) = false := by simpa using h1
      have g2 : (ev.kind == 2) = false := by simpa using h2
      have g6 : (ev.kind == 6) = false := by simpa using h6
      have HWD := Lib.hid (show ([nth evN ev.kind] ++ ((fieldsK ev.kind).map fun i => wNum (ev.nums.getD i 0))) = wEv ev by unfold wEv; rw [if_neg HN.out.1, if_neg HN.out.2.1, if_neg (fun h => HN.out.2.2 h.1)]; simp)
      rw [HWD.out] at HA
      obtain ⟨g, c, z0, zc, zg, zj⟩ := HA.out.ww.is.row (by unfold wEv; simp)
      have CJ := Lib.hid (c_join (wEv ev) g c _ zj zg zc (by have := HSZ.out; omega) (by have := HLN.out; omega))
      clear zj zc zg
      go_wp2_with fail
      refine CJ.out.mono ?_
      rintro e w9 ⟨rfl, hb9⟩
      have HB9 := Lib.hid (HA.out.ww.bel.trans (hb9.mono HA.out.ww.bel.size))
      clear hb9
      go_wp2
      go_ret
      exact ⟨by rw [line_told HT.out]; first | done | rfl, HB9.out⟩
end Go.Proofs.YtkogcobcjoojnaaGreatDoor.Fl

namespace Go.Proofs.YtkogcobcjoojnaaGreatDoor.Fl
open Go.RowKit Go.Maps
set_option linter.unusedVariables false
set_option linter.unusedSimpArgs false
/-- The box of an argument. -/
structure Bx (w : World) (cs : Array Value) (T : TypeId) (W : World) : Prop where
  box : W.heap[w.heap.size]? = some (.cells cs T (0, 0))
  bel : Below w.heap.size w W
theorem Bx.start (w : World) (cs : Array Value) (T : TypeId) : Bx w cs T (w.alloc (.cells cs T)) := ⟨heap_alloc_new _ _, (Below.refl _ _).alloc (Nat.le_refl _) _⟩
theorem Bx.next {w W W' : World} {cs : Array Value} {T : TypeId} (h : Bx w cs T W) (hb : Below W.heap.size W W') : Bx w cs T W' := ⟨(hb.block _ (lt_block h.box)).trans h.box, h.bel.trans (hb.mono h.bel.size)⟩
theorem Bx.cell {w W : World} {cs : Array Value} {T : TypeId} (h : Bx w cs T W) (j : Nat) (v : Value) (hj : cs[j]? = some v) : W.cell? ⟨w.heap.size, j, none⟩ = some v := by
  simp [World.cell?, h.box, hj]
theorem Bx.c3 {w W : World} {T : TypeId} {a0 a1 a2 : Value} (h : Bx w #[a0, a1, a2] T W) : W.cell? ⟨w.heap.size, 0, none⟩ = some a0 ∧ W.cell? ⟨w.heap.size, 1, none⟩ = some a1 ∧ W.cell? ⟨w.heap.size, 2, none⟩ = some a2 := ⟨h.cell 0 _ rfl, h.cell 1 _ rfl, h.cell 2 _ rfl⟩
theorem Bx.c6 {w W : World} {T : TypeId} {a0 a1 a2 a3 a4 a5 : Value} (h : Bx w #[a0, a1, a2, a3, a4, a5] T W) : W.cell? ⟨w.heap.size, 0, none⟩ = some a0 ∧ W.cell? ⟨w.heap.size, 1, none⟩ = some a1 ∧ W.cell? ⟨w.heap.size, 2, none⟩ = some a2 ∧ W.cell? ⟨w.heap.size, 3, none⟩ = some a3 ∧ W.cell? ⟨w.heap.size, 4, none⟩ = some a4 ∧ W.cell? ⟨w.heap.size, 5, none⟩ = some a5 := ⟨h.cell 0 _ rfl, h.cell 1 _ rfl, h.cell 2 _ rfl, h.cell 3 _ rfl, h.cell 4 _ rfl, h.cell 5 _ rfl⟩
theorem Bx.c7 {w W : World} {T : TypeId} {a0 a1 a2 a3 a4 a5 a6 : Value} (h : Bx w #[a0, a1, a2, a3, a4, a5, a6] T W) : W.cell? ⟨w.heap.size, 0, none⟩ = some a0 ∧ W.cell? ⟨w.heap.size, 1, none⟩ = some a1 ∧ W.cell? ⟨w.heap.size, 2, none⟩ = some a2 ∧ W.cell? ⟨w.heap.size, 3, none⟩ = some a3 ∧ W.cell? ⟨w.heap.size, 4, none⟩ = some a4 ∧ W.cell? ⟨w.heap.size, 5, none⟩ = some a5 ∧ W.cell? ⟨w.heap.size, 6, none⟩ = some a6 := ⟨h.cell 0 _ rfl, h.cell 1 _ rfl, h.cell 2 _ rfl, h.cell 3 _ rfl, h.cell 4 _ rfl, h.cell 5 _ rfl, h.cell 6 _ rfl⟩
theorem Bx.c16 {w W : World} {T : TypeId} {a0 a1 a2 a3 a4 a5 a6 a7 a8 a9 a10 a11 a12 a13 a14 a15 : Value} (h : Bx w #[a0, a1, a2, a3, a4, a5, a6, a7, a8, a9, a10, a11, a12, a13, a14, a15] T W) : W.cell? ⟨w.heap.size, 0, none⟩ = some a0 ∧ W.cell? ⟨w.heap.size, 1, none⟩ = some a1 ∧ W.cell? ⟨w.heap.size, 2, none⟩ = some a2 ∧ W.cell? ⟨w.heap.size, 3, none⟩ = some a3 ∧ W.cell? ⟨w.heap.size, 4, none⟩ = some a4 ∧ W.cell? ⟨w.heap.size, 5, none⟩ = some a5 ∧ W.cell? ⟨w.heap.size, 6, none⟩ = some a6 ∧ W.cell? ⟨w.heap.size, 7, none⟩ = some a7 ∧ W.cell? ⟨w.heap.size, 8, none⟩ = some a8 ∧ W.cell? ⟨w.heap.size, 9, none⟩ = some a9 ∧ W.cell? ⟨w.heap.size, 10, none⟩ = some a10 ∧ W.cell? ⟨w.heap.size, 11, none⟩ = some a11 ∧ W.cell? ⟨w.heap.size, 12, none⟩ = some a12 ∧ W.cell? ⟨w.heap.size, 13, none⟩ = some a13 ∧ W.cell? ⟨w.heap.size, 14, none⟩ = some a14 ∧ W.cell? ⟨w.heap.size, 15, none⟩ = some a15 := ⟨h.cell 0 _ rfl, h.cell 1 _ rfl, h.cell 2 _ rfl, h.cell 3 _ rfl, h.cell 4 _ rfl, h.cell 5 _ rfl, h.cell 6 _ rfl, h.cell 7 _ rfl, h.cell 8 _ rfl, h.cell 9 _ rfl, h.cell 10 _ rfl, h.cell 11 _ rfl, h.cell 12 _ rfl, h.cell 13 _ rfl, h.cell 14 _ rfl, h.cell 15 _ rfl⟩
theorem isE (s : ByteArray) : s.toList.isEmpty = decide (s = noB) := by
  rw [show s.toList = s.data.toList from Lib.toList_data s]
  by_cases h : s = noB
  · subst h; rfl
  · rw [decide_eq_false h]
    cases hs : s.data.toList with
    | nil => exact absurd (byt_inj (by unfold byt; rw [hs]; rfl)) h
    | cons x l => rfl
theorem noVal_b (k n : Int) (s : ByteArray) : noVal k n s = (decide (k = 0) && (decide (n = 0) && s.toList.isEmpty)) := by
  rw [isE]
  unfold noVal
  rw [Bool.and_assoc]
  congr 1
set_option maxHeartbeats 4000000 in
set_option maxRecDepth 100000 in
theorem c_pnone0 (k n : Int) (s : ByteArray) (w : World) : Calls Tryz.prog 51 #[.agg #[.int .i64 k, .int .i64 n, .string s]] w fun e w' => e = .returned (.bool ((decide (k = 0) && (decide (n = 0) && s.toList.isEmpty)))) ∧ Below w.heap.size w w' := by
  generalize hE : ((decide (k = 0) && (decide (n = 0) && s.toList.isEmpty))) = E0
  by_cases n0 : k = 0
  case neg =>
    have HE := Lib.hid (show E0 = false by rw [← hE]; simp [n0])
    clear hE
    have HX0 := Lib.hid (Bx.start w #[.int .i64 k, .int .i64 n, .string s] 30)
    go_enter Tryz.func51, Tryz.ntmps51
    obtain ⟨x0, x1, x2⟩ := HX0.out.c3
    go_wp2
    go_ret
    exact ⟨(by rw [HE.out]; first | done | rfl | (show Ending.returned (Value.bool _) = Ending.returned (Value.bool _); simp [n0])), HX0.out.bel⟩
  subst n0
  by_cases n1 : n = 0
  case neg =>
    have HE := Lib.hid (show E0 = false by rw [← hE]; simp [n1])
    clear hE
    have HX0 := Lib.hid (Bx.start w #[.int .i64 (0 : Int), .int .i64 n, .string s] 30)
    go_enter Tryz.func51, Tryz.ntmps51
    obtain ⟨x0, x1, x2⟩ := HX0.out.c3
    go_wp2
    go_ret
    exact ⟨(by rw [HE.out]; first | done | rfl | (show Ending.returned (Value.bool _) = Ending.returned (Value.bool _); simp [n1])), HX0.out.bel⟩
  subst n1
  by_cases n2 : s.toList = []
  case neg =>
    have HE := Lib.hid (show E0 = false by rw [← hE]; simp [n2])
    clear hE
    have HX0 := Lib.hid (Bx.start w #[.int .i64 (0 : Int), .int .i64 (0 : Int), .string s] 30)
    go_enter Tryz.func51, Tryz.ntmps51
    obtain ⟨x0, x1, x2⟩ := HX0.out.c3
    go_wp2
    go_ret
    exact ⟨(by rw [HE.out]; first | done | rfl | (show Ending.returned (Value.bool _) = Ending.returned (Value.bool _); simp [n2])), HX0.out.bel⟩
  have HE := Lib.hid (show E0 = true by rw [← hE]; simp [n2])
  clear hE
  have HX0 := Lib.hid (Bx.start w #[.int .i64 (0 : Int), .int .i64 (0 : Int), .string s] 30)
  go_enter Tryz.func51, Tryz.ntmps51
  obtain ⟨x0, x1, x2⟩ := HX0.out.c3
  go_wp2
  go_ret
  exact ⟨(by rw [HE.out]; first | done | rfl | (show Ending.returned (Value.bool _) = Ending.returned (Value.bool _); simp [n2])), HX0.out.bel⟩
theorem c_pnone (k n : Int) (s : ByteArray) (w : World) : Calls Tryz.prog 51 #[vv k n s] w fun e w' => e = .returned (.bool (noVal k n s)) ∧ Below w.heap.size w w' := by
  rw [noVal_b]
  exact c_pnone0 k n s w
set_option maxHeartbeats 4000000 in
set_option maxRecDepth 100000 in
theorem c_pcolumn (fam qual : ByteArray) (w : World) : Calls Tryz.prog 52 #[.string fam, .string qual] w fun e w' => e = .returned (.bool (nameOk fam && decide ((qual.size : Int) ≤ 12))) ∧ Below w.heap.size w w' := by
  have C := Lib.hid (c_name_plan fam w)
  generalize nameOk fam = b at C ⊢
  cases b <;> by_cases n1 : (qual.size : Int) ≤ 12 <;>
  · go_enter Tryz.func52, Tryz.ntmps52
    go_wp2_with fail
    refine C.out.mono ?_
    rintro e w1 ⟨rfl, hb⟩
    have HB := Lib.hid hb
    clear hb
    go_wp2
    go_ret
    exact ⟨by simp [n1], HB.out⟩
set_option maxHeartbeats 4000000 in
set_option maxRecDepth 100000 in
theorem c_pempty (a : Option Addr) (m c : Nat) (lo up : ByteArray) (since til versions rows : Int) (w : World) : Calls Tryz.prog 85 #[.agg #[.slice a m c, .string lo, .string up, .int .i64 since, .int .i64 til, .int .i64 versions, .int .i64 rows]] w fun e w' => e = .returned (.bool ((decide (m = 0) && (lo.toList.isEmpty && (up.toList.isEmpty && (decide (since = 0) && (decide (til = 0) && (decide (versions = 0) && decide (rows = 0))))))))) ∧ Below w.heap.size w w' := by
  generalize hE : ((decide (m = 0) && (lo.toList.isEmpty && (up.toList.isEmpty && (decide (since = 0) && (decide (til = 0) && (decide (versions = 0) && decide (rows = 0)))))))) = E0
  by_cases n0 : m = 0
  case neg =>
    have HE := Lib.hid (show E0 = false by rw [← hE]; simp [n0])
    clear hE
    have HX0 := Lib.hid (Bx.start w #[.slice a m c, .string lo, .string up, .int .i64 since, .int .i64 til, .int .i64 versions, .int .i64 rows] 33)
    go_enter Tryz.func85, Tryz.ntmps85
    obtain ⟨x0, x1, x2, x3, x4, x5, x6⟩ := HX0.out.c7
    go_wp2
    go_ret
    exact ⟨(by rw [HE.out]; first | done | rfl | (show Ending.returned (Value.bool _) = Ending.returned (Value.bool _); simp [n0])), HX0.out.bel⟩
  subst n0
  by_cases n1 : lo.toList = []
  case neg =>
    have HE := Lib.hid (show E0 = false by rw [← hE]; simp [n1])
    clear hE
    have HX0 := Lib.hid (Bx.start w #[.slice a (0 : Nat) c, .string lo, .string up, .int .i64 since, .int .i64 til, .int .i64 versions, .int .i64 rows] 33)
    go_enter Tryz.func85, Tryz.ntmps85
    obtain ⟨x0, x1, x2, x3, x4, x5, x6⟩ := HX0.out.c7
    go_wp2
    go_ret
    exact ⟨(by rw [HE.out]; first | done | rfl | (show Ending.returned (Value.bool _) = Ending.returned (Value.bool _); simp [n1])), HX0.out.bel⟩
  by_cases n2 : up.toList = []
  case neg =>
    have HE := Lib.hid (show E0 = false by rw [← hE]; simp [n1, n2])
    clear hE
    have HX0 := Lib.hid (Bx.start w #[.slice a (0 : Nat) c, .string lo, .string up, .int .i64 since, .int .i64 til, .int .i64 versions, .int .i64 rows] 33)
    go_enter Tryz.func85, Tryz.ntmps85
    obtain ⟨x0, x1, x2, x3, x4, x5, x6⟩ := HX0.out.c7
    go_wp2
    go_ret
    exact ⟨(by rw [HE.out]; first | done | rfl | (show Ending.returned (Value.bool _) = Ending.returned (Value.bool _); simp [n1, n2])), HX0.out.bel⟩
  by_cases n3 : since = 0
  case neg =>
    have HE := Lib.hid (show E0 = false by rw [← hE]; simp [n1, n2, n3])
    clear hE
    have HX0 := Lib.hid (Bx.start w #[.slice a (0 : Nat) c, .string lo, .string up, .int .i64 since, .int .i64 til, .int .i64 versions, .int .i64 rows] 33)
    go_enter Tryz.func85, Tryz.ntmps85
    obtain ⟨x0, x1, x2, x3, x4, x5, x6⟩ := HX0.out.c7
    go_wp2
    go_ret
    exact ⟨(by rw [HE.out]; first | done | rfl | (show Ending.returned (Value.bool _) = Ending.returned (Value.bool _); simp [n1, n2, n3])), HX0.out.bel⟩
  subst n3
  by_cases n4 : til = 0
  case neg =>
    have HE := Lib.hid (show E0 = false by rw [← hE]; simp [n1, n2, n4])
    clear hE
    have HX0 := Lib.hid (Bx.start w #[.slice a (0 : Nat) c, .string lo, .string up, .int .i64 (0 : Int), .int .i64 til, .int .i64 versions, .int .i64 rows] 33)
    go_enter Tryz.func85, Tryz.ntmps85
    obtain ⟨x0, x1, x2, x3, x4, x5, x6⟩ := HX0.out.c7
    go_wp2
    go_ret
    exact ⟨(by rw [HE.out]; first | done | rfl | (show Ending.returned (Value.bool _) = Ending.returned (Value.bool _); simp [n1, n2, n4])), HX0.out.bel⟩
  subst n4
  by_cases n5 : versions = 0
  case neg =>
    have HE := Lib.hid (show E0 = false by rw [← hE]; simp [n1, n2, n5])
    clear hE
    have HX0 := Lib.hid (Bx.start w #[.slice a (0 : Nat) c, .string lo, .string up, .int .i64 (0 : Int), .int .i64 (0 : Int), .int .i64 versions, .int .i64 rows] 33)
    go_enter Tryz.func85, Tryz.ntmps85
    obtain ⟨x0, x1, x2, x3, x4, x5, x6⟩ := HX0.out.c7
    go_wp2
    go_ret
    exact ⟨(by rw [HE.out]; first | done | rfl | (show Ending.returned (Value.bool _) = Ending.returned (Value.bool _); simp [n1, n2, n5])), HX0.out.bel⟩
  subst n5
  by_cases n6 : rows = 0
  case neg =>
    have HE := Lib.hid (show E0 = false by rw [← hE]; simp [n1, n2, n6])
    clear hE
    have HX0 := Lib.hid (Bx.start w #[.slice a (0 : Nat) c, .string lo, .string up, .int .i64 (0 : Int), .int .i64 (0 : Int), .int .i64 (0 : Int), .int .i64 rows] 33)
    go_enter Tryz.func85, Tryz.ntmps85
    obtain ⟨x0, x1, x2, x3, x4, x5, x6⟩ := HX0.out.c7
    go_wp2
    go_ret
    exact ⟨(by rw [HE.out]; first | done | rfl | (show Ending.returned (Value.bool _) = Ending.returned (Value.bool _); simp [n1, n2, n6])), HX0.out.bel⟩
  subst n6
  have HE := Lib.hid (show E0 = true by rw [← hE]; simp [n1, n2])
  clear hE
  have HX0 := Lib.hid (Bx.start w #[.slice a (0 : Nat) c, .string lo, .string up, .int .i64 (0 : Int), .int .i64 (0 : Int), .int .i64 (0 : Int), .int .i64 (0 : Int)] 33)
  go_enter Tryz.func85, Tryz.ntmps85
  obtain ⟨x0, x1, x2, x3, x4, x5, x6⟩ := HX0.out.c7
  go_wp2
  go_ret
  exact ⟨(by rw [HE.out]; first | done | rfl | (show Ending.returned (Value.bool _) = Ending.returned (Value.bool _); simp [n1, n2])), HX0.out.bel⟩
end Go.Proofs.YtkogcobcjoojnaaGreatDoor.Fl
