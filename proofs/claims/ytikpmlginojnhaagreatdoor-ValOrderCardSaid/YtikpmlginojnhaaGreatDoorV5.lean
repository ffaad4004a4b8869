/- Bytes: appending to what []byte(s) lays; appending to a row of one's own. -/
import Derived.Test.YtikpmlginojnhaaGreatDoorV4
import Derived.Lib.FrozenHead2
import Derived.Laws.IdiomStrings
namespace Go.Proofs.YtikpmlginojnhaaGreatDoor.Fl
open Go.RowKit Go.Maps
set_option linter.unusedVariables false
set_option linter.unusedSimpArgs false
theorem run_storeCells_E (P : Program) (g o : Nat) (t : TypeId) (n : Nat) : ∀ (vs : List Value) (i : Nat) (cur : Array Value) (w : World), w.heap[g]? = some (.cells cur t (n, n + 1)) → cur.size = n → o + i + vs.length ≤ cur.size → (∀ v ∈ vs, v.oneCell' = true) →
    (storeCells ⟨g, o, none⟩ vs i).run P w = .ok () (w.setRow g (cur.toList.take (o + i) ++ vs ++ cur.toList.drop (o + i + vs.length)).toArray)
  | [], i, cur, w, hg, _, _, _ => by
    simp only [storeCells, List.append_nil, List.length_nil, Nat.add_zero, List.take_append_drop, Array.toArray_toList]
    rw [setRow_self w g cur t _ hg]
    rfl
  | v :: rest, i, cur, w, hg, hn, hl, h1 => by
    have hi : o + i < cur.size := by simp at hl; omega
    have hadd : (⟨g, o, none⟩ : Addr).add i = ⟨g, o + i, none⟩ := by unfold Addr.add; split <;> simp_all
    have hcell : w.cell? ⟨g, o + i, none⟩ = some cur[o + i] := by simp [World.cell?, hg, hi]
    have hfro : w.frozen? ⟨g, o + i, none⟩ = false := by
      simp only [World.frozen?, hg, Bool.and_eq_false_iff, decide_eq_false_iff_not]
      left
      omega
    have hst : (store ((⟨g, o, none⟩ : Addr).add i) v).run P w = .ok () (w.setRow g (cur.setIfInBounds (o + i) v)) := by
      rw [hadd, run_store P w _ v _ (h1 v (by simp)), hcell]
      simp [hfro, setCell_eq_setRow w g (o + i) cur t _ v hg]
    have ih := run_storeCells_E P g o t n rest (i + 1) (cur.setIfInBounds (o + i) v) (w.setRow g (cur.setIfInBounds (o + i) v)) (setRow_heap w g cur _ t _ hg) (by simp; exact hn) (by simp at hl ⊢; omega) (fun x hx => h1 x (by simp [hx]))
    simp only [storeCells, Sem.run_bind, hst, Result.andThen_ok, ih, setRow_setRow]
    congr 3
    have e := list_seg_step cur.toList (o + i) v rest (by simp at hl ⊢; omega)
    simpa [Nat.add_assoc, Nat.add_comm, Nat.add_left_comm] using e
/-- A row of bytes of one's own, from block B on. -/
def OwnB (W : World) (B : Nat) (v : Value) (l : List Int) : Prop :=
  W.ownsRow B 5 1 v l.length (l.map (.int .u8)) ∨
  ∃ g cap cur, v = .slice (some ⟨g, 0, none⟩) l.length cap ∧ B ≤ g ∧ W.heap[g]? = some (.cells cur 5 (cap, cap + 1)) ∧ l.length ≤ cap ∧ cap ≤ maxLen ∧ cur.size = cap ∧ cur.toList.take l.length = l.map (.int .u8)
/-- Bytes that are read from somewhere. -/
def SrcB (w : World) (v : Value) (l : List Int) : Prop := ∃ ad c, v = .slice (some ad) l.length c ∧ ∀ k, k < l.length → w.cell? (ad.add k) = some (.int .u8 (l.getD k 0))
theorem OwnB.nil (w : World) (B : Nat) : OwnB w B (.slice none 0 0) [] := Or.inl (World.ownsRow_nil w B _ 1)
theorem map_at {l : List Int} {j : Nat} {u : Value} (h : (l.map (Value.int .u8))[j]? = some u) : j < l.length ∧ u = .int .u8 (l.getD j 0) := by
  rw [List.getElem?_map] at h
  cases e : l[j]? with
  | none => rw [e] at h; cases h
  | some x =>
    rw [e] at h
    have hj := (List.getElem?_eq_some_iff.1 e).1
    refine ⟨hj, ?_⟩
    rw [List.getD_eq_getElem?_getD, e]
    exact (Option.some.inj h).symm
theorem at_map {l : List Int} {j : Nat} (h : j < l.length) : (l.map (Value.int .u8))[j]? = some (.int .u8 (l.getD j 0)) := by
  rw [List.getElem?_map, List.getD_eq_getElem?_getD, List.getElem?_eq_getElem h]
  rfl
theorem OwnB.has {w : World} {B : Nat} {v : Value} {l : List Int} (h : OwnB w B v l) : HasB w v l := by
  rcases h with h | ⟨g, cap, cur, rfl, hb, hg, hn, hm, hs, ht⟩
  · exact HasB.own h
  · refine ⟨_, cap, rfl, hn, fun k hk => ⟨_, rfl, ?_⟩⟩
    have h1 := at_map hk
    rw [← ht, List.getElem?_take_of_lt hk] at h1
    rw [add_plain]
    simp only [World.cell?, hg]
    rw [← Array.getElem?_toList, h1]
    rfl
theorem HasB.src {w : World} {v : Value} {l : List Int} (h : HasB w v l) (hl : 0 < l.length) : SrcB w v l := by
  obtain ⟨A, c, rfl, hc, hk⟩ := h
  obtain ⟨ad, rfl, _⟩ := hk 0 hl
  refine ⟨ad, c, rfl, fun k hlt => ?_⟩
  obtain ⟨ad2, e, h2⟩ := hk k hlt
  obtain rfl := Option.some.inj e
  exact h2
theorem infoB : (Tryz.prog.info? 5).map (fun i => (i.zero, i.size, i.bytes)) = some (some (.int .u8 0), 1, 1) := by kernel_rfl
theorem grown_below {w w' : World} {B : Nat} {v : Value} {l : List Int} (h : OwnB w B v l) (hB : B ≤ w.heap.size) (hg : w.grownBy w' v.ownBlock) : Below B w w' := by
  refine ⟨hg.os, hg.tape, hg.output, hg.size, fun k hk => hg.block k (by omega) (fun e => ?_)⟩
  rcases h with h | ⟨g, cap, cur, rfl, hb, _⟩
  · rcases h.2 with ⟨rfl, _⟩ | ⟨g, cap, cur, rfl, hb, _⟩
    · cases e
    · have : k = g := by simpa [Value.ownBlock] using e
      omega
  · have : k = g := by simpa [Value.ownBlock] using e
    omega
theorem run_append_b (w : World) (B : Nat) (t ty : TypeId) (ht : Tryz.prog.underlying t = some (.slice 5)) (v v2 : Value) (l l2 : List Int) (hown : OwnB w B v l) (hsrc : SrcB w v2 l2) (hlen : l.length + l2.length ≤ 140737488355328) (hB : B ≤ w.heap.size) :
    ∃ v' w', (Builtin.append_ #[t, t] ty #[v, v2]).run Tryz.prog w = .ok v' w' ∧ OwnB w' B v' (l ++ l2) ∧ w.grownBy w' v.ownBlock ∧ (v'.ownBlock = v.ownBlock ∨ v'.ownBlock = some w.heap.size) := by
  obtain ⟨i0, hi, hz0, hz1, hz2⟩ := info_parts infoB
  obtain ⟨ad, c, rfl, hsrc⟩ := hsrc
  have hnews : ∀ j u, (l2.map (Value.int .u8))[j]? = some u → w.cell? (ad.add j) = some u := fun j u hj => by
    obtain ⟨h1, rfl⟩ := map_at hj
    exact hsrc j h1
  have h1 : ∀ u ∈ l2.map (Value.int .u8), u.oneCell' = true := fun u hu => by
    obtain ⟨x, _, rfl⟩ := List.mem_map.1 hu
    rfl
  rcases hown with hown | ⟨g, cap, cur, rfl, hbg, hg, hn, hm, hs, htk⟩
  · obtain ⟨v', w', hr, h2, h3, h4, h5⟩ := run_append_own_at (P := Tryz.prog) w B t ty 5 i0 (.int .u8 0) 1 1 ht hi hz0 hz1 hz2 rfl (by decide) v l.length _ hown ad l2.length c (l2.map (Value.int .u8)) (by simp) hnews h1 (by unfold maxLen; omega) (by omega) hB
    refine ⟨v', w', hr, Or.inl ?_, h3, h5⟩
    rw [List.length_append, List.map_append]
    exact h2
  · by_cases hroom : l.length + l2.length ≤ cap
    · have hf := run_firstCells_some (P := Tryz.prog) w i0.size l2.length ad l2.length c (l2.map (Value.int .u8)) (by rw [hz1]; simp) hnews
      have hst := run_storeCells_E Tryz.prog g l.length 5 cap (l2.map (Value.int .u8)) 0 cur w hg hs (by simp; omega) h1
      simp only [Nat.add_zero] at hst
      refine ⟨.slice (some ⟨g, 0, none⟩) (l.length + l2.length) cap, w.setRow g (cur.toList.take l.length ++ l2.map (Value.int .u8) ++ cur.toList.drop (l.length + (l2.map (Value.int .u8)).length)).toArray, ?_, Or.inr ⟨g, cap, _, by rw [List.length_append], hbg, setRow_heap w g cur _ 5 _ hg, by rw [List.length_append]; exact hroom, hm, ?_, ?_⟩, ⟨rfl, rfl, rfl, by simp, fun k _ hk => setRow_other w g k _ (fun e => hk (by simp [Value.ownBlock, e]))⟩, Or.inl rfl⟩
      · rw [hz1] at hf
        simp [Builtin.append_, run_underlying ht, sizeOf, typeInfo, hi, Builtin.lenOf, hroom, hf, hz1, Addr.add_lit, hst]
      · simp only [List.size_toArray, List.length_append, List.length_take, List.length_drop, Array.length_toList, List.length_map]
        omega
      · rw [htk, List.length_append, List.map_append]
        have e : (l.map (Value.int .u8) ++ l2.map (Value.int .u8)).length = l.length + l2.length := by simp
        rw [← e]
        exact List.take_left
    · have holds : ∀ j u, (l.map (Value.int .u8))[j]? = some u → w.cell? ((⟨g, 0, none⟩ : Addr).add j) = some u := fun j u hj => by
        obtain ⟨hlt, rfl⟩ := map_at hj
        rw [← htk, List.getElem?_take_of_lt hlt] at hj
        rw [add_plain]
        simp only [World.cell?, hg]
        rw [← Array.getElem?_toList, hj]
        rfl
      have hr := run_append_grow (P := Tryz.prog) w t ty 5 i0 (.int .u8 0) ht hi hz0 ⟨g, 0, none⟩ l.length cap (l.map (Value.int .u8)) (by rw [hz1]; simp) holds ad l2.length c (l2.map (Value.int .u8)) (by rw [hz1]; simp) hnews (by omega) (by omega) (growslice_fits (by omega) (by rw [hz2]; omega))
      have hge := grownCap_ge w (l.length + l2.length) cap 5
      have hcm2 : grownCap w (l.length + l2.length) cap 5 ≤ maxLen := grownCap_le_maxLen w (l.length + l2.length) cap 5 (by unfold maxLen; omega)
      refine ⟨_, _, hr, Or.inl ⟨by simp, .inr ⟨w.heap.size, _, _, by rw [List.length_append], hB, heap_alloc_new w.drew _, by rw [List.length_append]; exact hge, hcm2, ?_, ?_⟩⟩, ⟨rfl, rfl, rfl, by simp, fun k hk _ => Below.heap_alloc w.drew _ k hk⟩, Or.inr rfl⟩
      · simp only [Array.size_append, List.size_toArray, size_zeroCells, List.length_map]
        show _ + _ * 1 = _
        omega
      · simp only [Array.toList_append, List.append_assoc, List.map_append]
        rw [← List.append_assoc]
        have e : (l.map (Value.int .u8) ++ l2.map (Value.int .u8)).length = (l ++ l2).length * 1 := by simp
        rw [← e]
        exact List.take_left
/-- append, for the walk. -/
theorem wp_append_b {w : World} {ops : Array Oper} {rest : List Oper} {o : Oper} {a : Act} {Q : Exit → Act → World → Prop} (hgd : o.guard = none) (s x : Operand)
    (ho : o.op = .call { callee := .builtin .append, args := #[s, x], argTypes := #[26, 26] })
    (B : Nat) (v v2 : Value) (l l2 : List Int) (hs : a.eval s = v) (hx : a.eval x = v2) (hown : OwnB w B v l) (hsrc : SrcB w v2 l2) (hlen : l.length + l2.length ≤ 140737488355328) (hB : B ≤ w.heap.size)
    (h : ∀ v' w', OwnB w' B v' (l ++ l2) → Below B w w' → w.grownBy w' v.ownBlock → wpList Tryz.prog ops Q rest (a.put o.dst v') w') :
    wpList Tryz.prog ops Q (o :: rest) a w := by
  refine wpList_plain hgd fun K hK => ?_
  obtain ⟨v', w', hr, h2, h3, _⟩ := run_append_b w B 26 o.type Tryz.underlying26 v v2 l l2 hown hsrc hlen hB
  unfold Oper.wp execOp
  simp only [ho, resolve, invoke, builtin, Sem.run_bind, Sem.run_pure, Result.andThen_ok, List.map_toArray, List.map_cons, List.map_nil, hs, hx, hr]
  exact hK _ _ (h v' w' h2 (grown_below hown hB h3) h3)
theorem wp_append_b4 {w : World} {ops : Array Oper} {rest : List Oper} {o : Oper} {a : Act} {Q : Exit → Act → World → Prop} (hgd : o.guard = none) (s x : Operand)
    (ho : o.op = .call { callee := .builtin .append, args := #[s, x], argTypes := #[26, 26] })
    (B : Nat) (v v2 : Value) (l l2 : List Int) (hs : a.eval s = v) (hx : a.eval x = v2) (hown : OwnB w B v l) (hsrc : SrcB w v2 l2) (hlen : l.length + l2.length ≤ 140737488355328) (hB : B ≤ w.heap.size)
    (h : ∀ v' w', OwnB w' B v' (l ++ l2) → Below B w w' → w.grownBy w' v.ownBlock → (v'.ownBlock = v.ownBlock ∨ v'.ownBlock = some w.heap.size) → wpList Tryz.prog ops Q rest (a.put o.dst v') w') :
    wpList Tryz.prog ops Q (o :: rest) a w := by
  refine wpList_plain hgd fun K hK => ?_
  obtain ⟨v', w', hr, h2, h3, h4⟩ := run_append_b w B 26 o.type Tryz.underlying26 v v2 l l2 hown hsrc hlen hB
  unfold Oper.wp execOp
  simp only [ho, resolve, invoke, builtin, Sem.run_bind, Sem.run_pure, Result.andThen_ok, List.map_toArray, List.map_cons, List.map_nil, hs, hx, hr]
  exact hK _ _ (h v' w' h2 (grown_below hown hB h3) h3 h4)
/-- Bytes as text. -/
theorem conv_has (w : World) (v : Value) (l : List Int) (h : HasB w v l) (hb : Byts l) : (convert 26 9 v).run Tryz.prog w = .ok (.string (txt l)) w := by
  obtain ⟨A, c, rfl, hc, hk⟩ := h
  cases A with
  | none =>
    have hl : l = [] := by
      cases l with
      | nil => rfl
      | cons x t => obtain ⟨ad, e, _⟩ := hk 0 (by simp); cases e
    subst hl
    rw [run_convert_bytes_string w 26 9 5 none ([] : List Int).length c Tryz.underlying26 Tryz.underlying5 Tryz.underlying9]
    rfl
  | some ad =>
    have h1 := run_convert_bytes_back (P := Tryz.prog) w 26 9 5 ad c (l.map fun n => UInt8.ofNat n.toNat) Tryz.underlying26 Tryz.underlying5 Tryz.underlying9 (fun j hj => by
      rw [List.length_map] at hj
      obtain ⟨ad2, e, h2⟩ := hk j hj
      obtain rfl := Option.some.inj e
      rw [h2, List.getElem_map, List.getD_eq_getElem?_getD, List.getElem?_eq_getElem hj]
      have hx := hb l[j] (List.getElem_mem hj)
      show some (Value.int .u8 l[j]) = some (Value.int .u8 ((UInt8.ofNat l[j].toNat).toNat : Int))
      rw [UInt8.toNat_ofNat']
      congr 2
      omega)
    rw [List.length_map] at h1
    exact h1
/-- The bytes that []byte(s) lays are one's own. -/
theorem OwnB.wb (w : World) (s : ByteArray) (hs : s.size ≤ 140737488351232) (B : Nat) (hB : B ≤ w.heap.size) : OwnB (wb w s) B (.slice (some ⟨w.heap.size, 0, none⟩) s.size (grownCap w s.size 0 5)) (byt s) := by
  have hge := grownCap_ge w s.size 0 5
  have hsz : (bytesRow s (grownCap w s.size 0 5)).size = grownCap w s.size 0 5 := by
    unfold bytesRow
    rw [Array.size_append, Array.size_map, Array.size_replicate]
    show s.size + _ = _
    omega
  refine Or.inr ⟨w.heap.size, _, bytesRow s (grownCap w s.size 0 5), by rw [byt_len], hB, ?_, by rw [byt_len]; exact hge, grownCap_le_maxLen w s.size 0 5 (by unfold maxLen; omega), hsz, ?_⟩
  · have := heap_alloc_new w.drew (.cells (bytesRow s (grownCap w s.size 0 5)) 5 ((bytesRow s (grownCap w s.size 0 5)).size, (bytesRow s (grownCap w s.size 0 5)).size + 1))
    rw [hsz] at this
    unfold Fl.wb
    rw [hsz]
    exact this
  · rw [byt_len]
    unfold bytesRow byt
    rw [Array.toList_append, Array.toList_map, List.map_map]
    have e : s.size = (s.data.toList.map (fun b => Value.int .u8 b.toNat)).length := by rw [List.length_map, Array.length_toList]; rfl
    rw [e, List.take_left]
    rfl
/-- A row that was written out is one's own. -/
theorem OwnB.row (w : World) (l : List Int) (B : Nat) (hB : B ≤ w.heap.size) (hl : l.length ≤ 140737488351232) : OwnB (w.alloc (.cells (l.map (Value.int .u8)).toArray 5)) B (.slice (some ⟨w.heap.size, 0, none⟩) l.length l.length) l := by
  refine Or.inl ⟨by simp, .inr ⟨w.heap.size, l.length, _, rfl, hB, heap_alloc_new w _, Nat.le_refl _, by unfold maxLen; omega, by simp, ?_⟩⟩
  rw [Nat.mul_one]
  exact List.take_of_length_le (by simp)
theorem OwnB.alloc {w : World} {B : Nat} {v : Value} {l : List Int} (h : OwnB w B v l) (o : Obj) : OwnB (w.alloc o) B v l := by
  rcases h with h | ⟨g, cap, cur, rfl, hb, hg, hr⟩
  · exact Or.inl (h.alloc o)
  · exact Or.inr ⟨g, cap, cur, rfl, hb, (Below.heap_alloc w o g (lt_block hg)).trans hg, hr⟩
theorem OwnB.drew {w : World} {B : Nat} {v : Value} {l : List Int} (h : OwnB w B v l) : OwnB w.drew B v l := by
  rcases h with h | h
  · exact Or.inl h
  · exact Or.inr h
theorem OwnB.below {w w' : World} {B : Nat} {v : Value} {l : List Int} (h : OwnB w B v l) (hb : Below w.heap.size w w') : OwnB w' B v l := by
  rcases h with ⟨h1, h2⟩ | ⟨g, cap, cur, rfl, hbg, hg, hr⟩
  · refine Or.inl ⟨h1, h2.imp id ?_⟩
    rintro ⟨g, cap, cur, rfl, hbg, hg, hr⟩
    exact ⟨g, cap, cur, rfl, hbg, (hb.block g (lt_block hg)).trans hg, hr⟩
  · exact Or.inr ⟨g, cap, cur, rfl, hbg, (hb.block g (lt_block hg)).trans hg, hr⟩
theorem SrcB.row (w : World) (l : List Int) : SrcB (w.alloc (.cells (l.map (Value.int .u8)).toArray 5)) (.slice (some ⟨w.heap.size, 0, none⟩) l.length l.length) l := by
  refine ⟨⟨w.heap.size, 0, none⟩, l.length, rfl, fun k hk => ?_⟩
  rw [add_plain]
  simp only [World.cell?, heap_alloc_new]
  rw [List.getElem?_toArray, at_map hk]
  rfl
end Go.Proofs.YtikpmlginojnhaaGreatDoor.Fl
