/- Script: the writer's filter. -/
import Derived.Test.YtkogcobcjoojnaaGreatDoorPD
import Derived.Laws.RangeAny
import Derived.Lib.OthersKept
namespace Go.Proofs.YtkogcobcjoojnaaGreatDoor.Fl
open Go.RowKit Go.Maps
set_option linter.unusedVariables false
set_option linter.unusedSimpArgs false
/-- A row of texts, as a value holds it. -/
def HasS (w : World) (v : Value) (xs : List ByteArray) : Prop := ∃ a c, v = .slice a xs.length c ∧ ∀ j, j < xs.length → ∃ ad, a = some ad ∧ w.cell? (ad.add j) = some (.string (xs.getD j noB))
theorem HasS.keep {w w' : World} {v : Value} {xs : List ByteArray} (h : HasS w v xs) (hb : Below w.heap.size w w') : HasS w' v xs := by
  obtain ⟨a, c, hv, hk⟩ := h
  refine ⟨a, c, hv, fun j hj => ?_⟩
  obtain ⟨ad, ha, hc⟩ := hk j hj
  exact ⟨ad, ha, (hb.cell (World.block_lt_of_cell? w _ hc)).trans hc⟩
theorem takeS (l : List ByteArray) (i : Nat) (h : i < l.length) : l.take (i + 1) = l.take i ++ [l.getD i noB] := by
  rw [List.take_succ_eq_append_getElem h]
  simp [List.getD, h]
def fv (v : Value) (f : FilE) : Value := .agg #[v, .string f.lo, .string f.hi, .int .i64 f.since, .int .i64 f.til, .int .i64 f.versions, .int .i64 f.rows]
def fcells (v : Value) (f : FilE) : Array Value := #[v, .string f.lo, .string f.hi, .int .i64 f.since, .int .i64 f.til, .int .i64 f.versions, .int .i64 f.rows]
theorem Wb.fcell {w0 : World} {p : Nat} {ws : List ByteArray} {b : Nat} {v : Value} {f : FilE} {w : World} (h : Wb w0 p ws b (fcells v f) 33 w) :
    w.cell? ⟨b, 0, none⟩ = some v ∧ w.cell? ⟨b, 1, none⟩ = some (.string f.lo) ∧ w.cell? ⟨b, 2, none⟩ = some (.string f.hi) ∧ w.cell? ⟨b, 3, none⟩ = some (.int .i64 f.since) ∧ w.cell? ⟨b, 4, none⟩ = some (.int .i64 f.til) ∧ w.cell? ⟨b, 5, none⟩ = some (.int .i64 f.versions) ∧ w.cell? ⟨b, 6, none⟩ = some (.int .i64 f.rows) :=
  ⟨h.cell 0 _ rfl, h.cell 1 _ rfl, h.cell 2 _ rfl, h.cell 3 _ rfl, h.cell 4 _ rfl, h.cell 5 _ rfl, h.cell 6 _ rfl⟩
set_option maxRecDepth 100000 in
set_option maxHeartbeats 4000000 in
theorem c_wfilter {w0 : World} (hg : Gv w0) {p : Nat} {ws : List ByteArray} (v : Value) (f : FilE) (hv : HasS w0 v f.fams) (hl : f.fams.length ≤ 1000000) (h1 : f.lo.size ≤ 1000000) (h2 : f.hi.size ≤ 1000000)
    (n1 : Wf f.since) (n2 : Wf f.til) (n3 : Wf f.versions) (n4 : Wf f.rows) {w : World} (h : Ww w0 p ws w) (hlen : ws.length < 1099500000000) :
    Calls Tryz.prog 99 #[.pointer (some ⟨p, 0, none⟩), fv v f] w fun e w' => e = .returned (.tuple #[]) ∧ Ww w0 p (ws ++ wFil f) w' ∧ Fr p w w' := by
  obtain ⟨fams, lo, up, since, til, versions, rows⟩ := f
  simp only at hv hl h1 h2 n1 n2 n3 n4
  have HS := Lib.hid hv
  obtain ⟨a, c, rfl, hk⟩ := hv
  have HA0 := Lib.hid (h.box (fcells (.slice a fams.length c) ⟨fams, lo, up, since, til, versions, rows⟩) 33)
  have HF0 := Lib.hid (Fr.below h.lt ((Below.refl w.heap.size w).alloc (Nat.le_refl _) (.cells (fcells (.slice a fams.length c) ⟨fams, lo, up, since, til, versions, rows⟩) 33)))
  unfold wFil
  simp only [fv, fcells] at HA0 HF0 ⊢
  clear h
  have HL := Lib.hid hl
  have HNUM := Lib.hid (show Wf (fams.length : Int) by unfold Wf; omega)
  go_enter Tryz.func99, Tryz.ntmps99
  obtain ⟨x0, x1, x2, x3, x4, x5, x6⟩ := Wb.fcell (f := ⟨fams, lo, up, since, til, versions, rows⟩) HA0.out
  simp only at x0 x1 x2 x3 x4 x5 x6
  go_wp2_with (go_at_call 63; refine (c_wnum hg _ HNUM.out HA0.out.ww (by omega)).mono ?_)
  rintro e w1 ⟨rfl, h3, hf3⟩
  have HA1 := Lib.hid (HA0.out.next h3 hf3)
  have HF1 := Lib.hid (HF0.out.trans hf3)
  clear h3 hf3 x0 x1 x2 x3 x4 x5 x6
  obtain ⟨x0, x1, x2, x3, x4, x5, x6⟩ := Wb.fcell (f := ⟨fams, lo, up, since, til, versions, rows⟩) HA1.out
  simp only at x0 x1 x2 x3 x4 x5 x6
  go_wp2
  clear x0 x1 x2 x3 x4 x5 x6
  go_loopw [16] (fun v16 W => ∃ i : Nat, i ≤ fams.length ∧ v16 = .int .i64 i ∧ Hid (Wb w0 p (ws ++ (wNum fams.length :: fams.take i)) w.heap.size #[.slice a fams.length c, .string lo, .string up, .int .i64 since, .int .i64 til, .int .i64 versions, .int .i64 rows] 33 W) ∧ Hid (Fr p w W)) (fun v16 _ => fams.length - (intOf v16).toNat)
  case atStart => exact ⟨0, by omega, rfl, HA1, HF1⟩
  case round =>
    obtain ⟨i, hi, rfl, HA, HF⟩ := hrel
    clear HA0 HA1 HF0 HF1
    by_cases hlt : i < fams.length
    · have t1 : decide ((i : Int) < (fams.length : Int)) = true := decide_eq_true (by omega)
      obtain ⟨ad, rfl, hc⟩ := hk i hlt
      have x0 := (HA.out.ww.bel.cell (World.block_lt_of_cell? w0 _ hc)).trans hc
      have hk0 : (0 : Int) ≤ (i : Int) := by omega
      have hk1 : (i : Int) < (fams.length : Int) := by omega
      have HT := Lib.hid (takeS fams i hlt)
      generalize fams.getD i noB = x at x0 HT
      clear hc
      go_wp2_with (go_at_call 61; refine (c_wword _ HA.out.ww (by have := HL.out; simp [List.length_take]; omega)).mono ?_)
      rintro e w2 ⟨rfl, h3, hf3⟩
      have HA2 := Lib.hid (HA.out.next h3 hf3)
      have HF2 := Lib.hid (HF.out.trans hf3)
      clear h3 hf3 x0
      go_wp2
      go_roundw
      case rel => exact ⟨i + 1, by omega, by go_num, Lib.hid (by rw [HT.out]; have := HA2.out; rw [List.append_assoc, List.cons_append] at this; exact this), HF2⟩
      case measure => simp [intOf]; omega
    · have t1 : decide ((i : Int) < (fams.length : Int)) = false := decide_eq_false (by omega)
      have HE := Lib.hid (show fams.take i = fams from List.take_of_length_le (by omega))
      rw [HE.out] at HA
      clear HE
      have HA4 := HA
      have HF4 := HF
      clear HA HF hk HS
      obtain ⟨x0, x1, x2, x3, x4, x5, x6⟩ := Wb.fcell (f := ⟨fams, lo, up, since, til, versions, rows⟩) HA4.out
      simp only at x0 x1 x2 x3 x4 x5 x6
      go_wp2_with (go_at_call 98; refine (c_wtext lo h1 HA4.out.ww (by have := HL.out; simp; omega)).mono ?_)
      rintro e w5 ⟨rfl, h3, hf3⟩
      have HA5 := Lib.hid (HA4.out.next h3 hf3)
      have HF5 := Lib.hid (HF4.out.trans hf3)
      clear h3 hf3 HA4 HF4 x0 x1 x2 x3 x4 x5 x6
      obtain ⟨x0, x1, x2, x3, x4, x5, x6⟩ := Wb.fcell (f := ⟨fams, lo, up, since, til, versions, rows⟩) HA5.out
      simp only at x0 x1 x2 x3 x4 x5 x6
      go_wp2_with (go_at_call 98; refine (c_wtext up h2 HA5.out.ww (by have := HL.out; simp; omega)).mono ?_)
      rintro e w6 ⟨rfl, h3, hf3⟩
      have HA6 := Lib.hid (HA5.out.next h3 hf3)
      have HF6 := Lib.hid (HF5.out.trans hf3)
      clear h3 hf3 HA5 HF5 x0 x1 x2 x3 x4 x5 x6
      obtain ⟨x0, x1, x2, x3, x4, x5, x6⟩ := Wb.fcell (f := ⟨fams, lo, up, since, til, versions, rows⟩) HA6.out
      simp only at x0 x1 x2 x3 x4 x5 x6
      go_wp2
      have HB0 := Lib.hid (HA6.out.ww.box #[.int .i64 since, .int .i64 til, .int .i64 versions, .int .i64 rows] 3)
      have HG0 := Lib.hid (HF6.out.trans (Fr.below HA6.out.ww.lt ((Below.refl w6.heap.size w6).alloc (Nat.le_refl _) (.cells #[.int .i64 since, .int .i64 til, .int .i64 versions, .int .i64 rows] 3))))
      clear HA6 HF6 x0 x1 x2 x3 x4 x5 x6
      go_loopw [42] (fun v42 W => ∃ i : Nat, i ≤ 4 ∧ v42 = .int .i64 i ∧ Hid (Wb w0 p (ws ++ (wNum fams.length :: fams) ++ [wText lo] ++ [wText up] ++ [wNum since, wNum til, wNum versions, wNum rows].take i) w6.heap.size #[.int .i64 since, .int .i64 til, .int .i64 versions, .int .i64 rows] 3 W) ∧ Hid (Fr p w W)) (fun v42 _ => 4 - (intOf v42).toNat)
      case atStart => exact ⟨0, by omega, rfl, Lib.hid (by rw [List.take_zero, List.append_nil]; exact HB0.out), HG0⟩
      case round =>
        obtain ⟨i, hi2, rfl, HA, HF⟩ := hrel
        clear HB0 HG0
        obtain rfl | rfl | rfl | rfl | rfl : i = 0 ∨ i = 1 ∨ i = 2 ∨ i = 3 ∨ i = 4 := by omega
        · have x0 := HA.out.cell 0 _ rfl
          go_wp2_with (go_at_call 63; refine (c_wnum hg since n1 HA.out.ww (by have := HL.out; simp; omega)).mono ?_)
          rintro e w8 ⟨rfl, h3, hf3⟩
          have HA2 := Lib.hid (HA.out.next h3 hf3)
          have HF2 := Lib.hid (HF.out.trans hf3)
          clear h3 hf3 x0
          go_wp2
          go_roundw
          case rel => exact ⟨1, by omega, by go_num, Lib.hid (by have := HA2.out; rw [List.append_assoc] at this; exact this), HF2⟩
          case measure => simp [intOf]
        · have x0 := HA.out.cell 1 _ rfl
          go_wp2_with (go_at_call 63; refine (c_wnum hg til n2 HA.out.ww (by have := HL.out; simp; omega)).mono ?_)
          rintro e w8 ⟨rfl, h3, hf3⟩
          have HA2 := Lib.hid (HA.out.next h3 hf3)
          have HF2 := Lib.hid (HF.out.trans hf3)
          clear h3 hf3 x0
          go_wp2
          go_roundw
          case rel => exact ⟨2, by omega, by go_num, Lib.hid (by have := HA2.out; rw [List.append_assoc] at this; exact this), HF2⟩
          case measure => simp [intOf]
        · have x0 := HA.out.cell 2 _ rfl
          go_wp2_with (go_at_call 63; refine (c_wnum hg versions n3 HA.out.ww (by have := HL.out; simp; omega)).mono ?_)
          rintro e w8 ⟨rfl, h3, hf3⟩
          have HA2 := Lib.hid (HA.out.next h3 hf3)
          have HF2 := Lib.hid (HF.out.trans hf3)
          clear h3 hf3 x0
          go_wp2
          go_roundw
          case rel => exact ⟨3, by omega, by go_num, Lib.hid (by have := HA2.out; rw [List.append_assoc] at this; exact this), HF2⟩
          case measure => simp [intOf]
        · have x0 := HA.out.cell 3 _ rfl
          go_wp2_with (go_at_call 63; refine (c_wnum hg rows n4 HA.out.ww (by have := HL.out; simp; omega)).mono ?_)
          rintro e w8 ⟨rfl, h3, hf3⟩
          have HA2 := Lib.hid (HA.out.next h3 hf3)
          have HF2 := Lib.hid (HF.out.trans hf3)
          clear h3 hf3 x0
          go_wp2
          go_roundw
          case rel => exact ⟨4, by omega, by go_num, Lib.hid (by have := HA2.out; rw [List.append_assoc] at this; exact this), HF2⟩
          case measure => simp [intOf]
        · go_wp2
          go_end0
          exact ⟨rfl, by have := HA.out.ww; simpa using this, HF.out⟩
end Go.Proofs.YtkogcobcjoojnaaGreatDoor.Fl

namespace Go.Proofs.YtkogcobcjoojnaaGreatDoor.Fl
open Go.RowKit Go.Maps
set_option linter.unusedVariables false
set_option linter.unusedSimpArgs false
/-- A row of mutations, as a value holds it. -/
def HasM (w : World) (v : Value) (ms : List MutE) : Prop := ∃ a c, v = .slice a ms.length c ∧ ∀ j m, ms[j]? = some m → ∃ ad, a = some ad ∧ w.cell? (ad.add (j * 6)) = some (.int .i64 m.kind) ∧ ∀ r x, 1 ≤ r → (mcells m)[r]? = some x → w.cell? ⟨(ad.add (j * 6)).block, (ad.add (j * 6)).off + r, none⟩ = some x
theorem HasM.keep {w w' : World} {v : Value} {ms : List MutE} (h : HasM w v ms) (hb : Below w.heap.size w w') : HasM w' v ms := by
  obtain ⟨a, c, hv, hk⟩ := h
  refine ⟨a, c, hv, fun j m hj => ?_⟩
  obtain ⟨ad, ha, hc⟩ := hk j m hj
  exact ⟨ad, ha, (hb.cell (World.block_lt_of_cell? w _ hc.1)).trans hc.1, fun r x h1 hx => (hb.cell (World.block_lt_of_cell? w _ (hc.2 r x h1 hx))).trans (hc.2 r x h1 hx)⟩
theorem wMut_len (m : MutE) : (wMut m).length ≤ 4 := by
  unfold wMut
  split
  · simp
  · split
    · simp
    · split <;> simp
theorem wMuts_len : ∀ l : List MutE, (l.flatMap wMut).length ≤ 4 * l.length
  | [] => by simp
  | m :: l => by
    have h1 := wMut_len m
    have h2 := wMuts_len l
    rw [List.flatMap_cons, List.length_append, List.length_cons]
    omega
theorem takeM (l : List MutE) (i : Nat) (h : i < l.length) : (l.take (i + 1)).flatMap wMut = (l.take i).flatMap wMut ++ wMut l[i] := by
  rw [List.take_succ_eq_append_getElem h, List.flatMap_append]
  simp
/-- A request's cells. -/
def qcells (ms vs : Value) (q : ReqE) : Array Value := #[.int .i64 q.kind, .string q.row, .string q.stop, ms, .string q.fam, .string q.qual, .int .i64 q.vk, .int .i64 q.vn, .string q.vs, vs, .string q.fil.lo, .string q.fil.hi, .int .i64 q.fil.since, .int .i64 q.fil.til, .int .i64 q.fil.versions, .int .i64 q.fil.rows]
end Go.Proofs.YtkogcobcjoojnaaGreatDoor.Fl

namespace Go.Proofs.YtkogcobcjoojnaaGreatDoor.Fl
open Go.RowKit Go.Maps
set_option linter.unusedVariables false
set_option linter.unusedSimpArgs false
set_option maxRecDepth 100000 in
set_option maxHeartbeats 4000000 in
theorem c_wreq1 {w0 : World} (hg : Gv w0) {p : Nat} {ws : List ByteArray} (mv_ fv_ : Value) (q : ReqE) (hm : q.kind = 1) (hms : HasM w0 mv_ q.muts) (hmo : ∀ m ∈ q.muts, mutOk m = true ∧ Wf m.vn) (hml : q.muts.length ≤ 1000000) (hrow : q.row.size ≤ 1000000) {w : World} (h : Ww w0 p ws w) (hlen : ws.length < 1099400000000) :
    Calls Tryz.prog 64 #[.pointer (some ⟨p, 0, none⟩), .agg (qcells mv_ fv_ q)] w fun e w' => e = .returned (.tuple #[]) ∧ Ww w0 p (ws ++ wReq q) w' ∧ Fr p w w' := by
  obtain ⟨k, row, stop, ml, fam, qual, vk, vn, vs, ⟨fams, lo, up, since, til, versions, rows⟩⟩ := q
  simp only at hm hms hmo hml hrow
  subst hm
  have HA0 := Lib.hid (h.box (qcells mv_ fv_ ⟨1, row, stop, ml, fam, qual, vk, vn, vs, ⟨fams, lo, up, since, til, versions, rows⟩⟩) 35)
  have HF0 := Lib.hid (Fr.below h.lt ((Below.refl w.heap.size w).alloc (Nat.le_refl _) (.cells (qcells mv_ fv_ ⟨1, row, stop, ml, fam, qual, vk, vn, vs, ⟨fams, lo, up, since, til, versions, rows⟩⟩) 35)))
  simp only [qcells] at HA0 HF0 ⊢
  clear h
  have k3 : IntKind.i64.wrap 0 = 0 := by decide
  go_enter Tryz.func64, Tryz.ntmps64
  go_wp2_with fail
  have HA1 := Lib.hid HA0.out.drew
  have HFD := Lib.hid (HF0.out.trans (Fr.below HA0.out.ww.lt (Below.refl _ _).drew))
  refine wp_region_held_drew (S := fun X => ∃ u, Wb w0 p u w.heap.size (qcells mv_ fv_ ⟨1, row, stop, ml, fam, qual, vk, vn, vs, ⟨fams, lo, up, since, til, versions, rows⟩⟩) 35 X) (by kernel_rfl) ⟨_, HA1.out⟩ (fun hHeld => ?_)
  refine tk 0 (v := ?v_101) ?y101 ?_; (case y101 => (refine Or.inl ⟨by rfl, ?_⟩; intro w hSw; obtain ⟨_, hW⟩ := hSw; have x0 := hW.cell 0 (.int .i64 1) rfl; have k3 : IntKind.i64.wrap 0 = 0 := (by decide); go_simp; first | done | with_reducible rfl)); (try simp only [Act.put, List.setIfInBounds_toArray, List.set_cons_zero, List.set_cons_succ])
  refine tk 2 (v := ?v_102) ?y102 ?_; (case y102 => (refine Or.inl ⟨by rfl, ?_⟩; intro w hSw; obtain ⟨_, hW⟩ := hSw; have x0 := hW.cell 0 (.int .i64 1) rfl; have k3 : IntKind.i64.wrap 0 = 0 := (by decide); go_simp; first | done | with_reducible rfl)); (try simp only [Act.put, List.setIfInBounds_toArray, List.set_cons_zero, List.set_cons_succ])
  refine tk 3 (v := ?v_103) ?y103 ?_; (case y103 => (refine Or.inl ⟨by rfl, ?_⟩; intro w hSw; obtain ⟨_, hW⟩ := hSw; have x0 := hW.cell 0 (.int .i64 1) rfl; have k3 : IntKind.i64.wrap 0 = 0 := (by decide); go_simp; first | done | with_reducible rfl)); (try simp only [Act.put, List.setIfInBounds_toArray, List.set_cons_zero, List.set_cons_succ])
  refine tk 4 (v := ?v_104) ?y104 ?_; (case y104 => (refine Or.inl ⟨by rfl, ?_⟩; intro w hSw; obtain ⟨_, hW⟩ := hSw; have x0 := hW.cell 0 (.int .i64 1) rfl; have k3 : IntKind.i64.wrap 0 = 0 := (by decide); go_simp; first | done | with_reducible rfl)); (try simp only [Act.put, List.setIfInBounds_toArray, List.set_cons_zero, List.set_cons_succ])
  refine wpAnyH_ready (rs := [1]) (by kernel_rfl) (by simp) ?_; refine AllReadyH.cons (o := ?o_105) ?hi_105 (fun K hK => ?_) AllReadyH.nil; (case hi_105 => (simp only [List.getElem?_toArray, List.getElem?_cons_zero, List.getElem?_cons_succ]; rfl)); go_simp; (go_at_call 97; ((refine (c_requests _).mono ?_); rintro e w2 ⟨rfl, hr2, hb2⟩; have HA2 := Lib.hid (HA1.out.keep hb2); have hr3 : w2.heap[w.heap.size + 1]? = some (.cells (strs reqN).toArray 9 (0, 0)) := (by simpa using hr2); have c3 : w2.cell? ⟨w.heap.size + 1, 0, none⟩ = some (.string wWrite) := (by simp [World.cell?, hr3, strs, reqN]); have HF1 := Lib.hid (HFD.out.trans (Fr.below HA1.out.ww.lt hb2)))); refine hK.out _ _ ?_ (fun hHeld => ?_); (· exact ⟨_, HA2.out⟩); clear hK K; (try simp only [Act.put, List.setIfInBounds_toArray, List.set_cons_zero, List.set_cons_succ])
  refine tk 5 (v := ?v_106) ?y106 ?_; (case y106 => (refine Or.inl ⟨by rfl, ?_⟩; intro w hSw; obtain ⟨_, hW⟩ := hSw; have x0 := hW.cell 0 (.int .i64 1) rfl; have k3 : IntKind.i64.wrap 0 = 0 := (by decide); go_simp; first | done | with_reducible rfl)); (try simp only [Act.put, List.setIfInBounds_toArray, List.set_cons_zero, List.set_cons_succ])
  refine wpAnyH_ready (rs := [6]) (by kernel_rfl) (by simp) ?_; refine AllReadyH.cons (o := ?o_107) ?hi_107 (fun K hK => ?_) AllReadyH.nil; (case hi_107 => (simp only [List.getElem?_toArray, List.getElem?_cons_zero, List.getElem?_cons_succ]; rfl)); go_simp; skip; refine hK.out _ _ ?_ (fun hHeld => ?_); (· exact ⟨_, HA2.out⟩); clear hK K; (try simp only [Act.put, List.setIfInBounds_toArray, List.set_cons_zero, List.set_cons_succ])
  refine wpAnyH_ready (rs := [7]) (by kernel_rfl) (by simp) ?_; refine AllReadyH.cons (o := ?o_108) ?hi_108 (fun K hK => ?_) AllReadyH.nil; (case hi_108 => (simp only [List.getElem?_toArray, List.getElem?_cons_zero, List.getElem?_cons_succ]; rfl)); go_simp; (go_at_call 61; ((refine (c_wword _ HA2.out.ww (by omega)).mono ?_); rintro e w3 ⟨rfl, h3, hf3⟩; have HA3 := Lib.hid (HA2.out.next h3 hf3); have HF2 := Lib.hid (HF1.out.trans hf3); clear h3 hf3)); refine hK.out _ _ ?_ (fun hHeld => ?_); (· exact ⟨_, HA3.out⟩); clear hK K; (try simp only [Act.put, List.setIfInBounds_toArray, List.set_cons_zero, List.set_cons_succ])
  refine wpAnyH_done (by kernel_rfl) ?_ _
  have x0 := HA3.out.cell 0 (.int .i64 1) rfl
  have x1 := HA3.out.cell 1 (.string row) rfl
  go_wp2_with (go_at_call 98; refine (c_wtext row hrow HA3.out.ww (by simp; omega)).mono ?_)
  rintro e w4 ⟨rfl, h3, hf3⟩
  have HA4 := Lib.hid (HA3.out.next h3 hf3)
  have HF3 := Lib.hid (HF2.out.trans hf3)
  clear h3 hf3 x0 x1
  have x0 := HA4.out.cell 0 (.int .i64 1) rfl
  obtain ⟨a, c, rfl, hk⟩ := hms
  have x3 := HA4.out.cell 3 (.slice a ml.length c) rfl
  go_wp2
  clear x0 x3
  go_loopw [47] (fun v47 W => ∃ i : Nat, i ≤ ml.length ∧ v47 = .int .i64 i ∧ Hid (Ww w0 p (ws ++ [wWrite] ++ [wText row] ++ (ml.take i).flatMap wMut) W) ∧ Hid (Fr p w W)) (fun v47 _ => ml.length - (intOf v47).toNat)
  case atStart => exact ⟨0, by omega, rfl, Lib.hid (by simpa using HA4.out.ww), HF3⟩
  case round =>
    obtain ⟨i, hi, rfl, HA, HF⟩ := hrel
    clear HFD HA0 HA1 HA2 HA3 HA4 HF0 HF1 HF2 HF3
    by_cases hlt : i < ml.length
    · have t1 : decide ((i : Int) < (ml.length : Int)) = true := decide_eq_true (by omega)
      obtain ⟨ad, rfl, hc⟩ := hk i _ (List.getElem?_eq_getElem hlt)
      have hk0 : (0 : Int) ≤ (i : Int) := by omega
      have hk1 : (i : Int) < (ml.length : Int) := by omega
      have hmm := hmo _ (List.getElem_mem hlt)
      have HT := Lib.hid (takeM ml i hlt)
      have HN := Lib.hid (show ((ml.take i).flatMap wMut).length ≤ 4000000 by have := wMuts_len (ml.take i); rw [List.length_take] at this; omega)
      generalize ml[i] = m at hc hmm HT
      have y0 := (HA.out.bel.cell (World.block_lt_of_cell? w0 _ hc.1)).trans hc.1
      have hc2 := fun r x h1 hx => (HA.out.bel.cell (World.block_lt_of_cell? w0 _ (hc.2 r x h1 hx))).trans (hc.2 r x h1 hx)
      have y1 := hc2 1 (.string m.fam) (by decide) rfl
      have y2 := hc2 2 (.string m.qual) (by decide) rfl
      have y3 := hc2 3 (.int .i64 m.vk) (by decide) rfl
      have y4 := hc2 4 (.int .i64 m.vn) (by decide) rfl
      have y5 := hc2 5 (.string m.vs) (by decide) rfl
      clear hc hc2
      go_wp2_with fail
      have hbx := (Below.refl wr.heap.size wr).alloc (Nat.le_refl _) (.cells #[.int .i64 m.kind, .string m.fam, .string m.qual, .int .i64 m.vk, .int .i64 m.vn, .string m.vs] 90)
      refine (c_wmut hg m hmm.1 hmm.2 (HA.out.keep hbx) (by have := HN.out; simp only [List.length_append, List.length_cons, List.length_nil, wFil]; omega)).mono ?_
      rintro e w8 ⟨rfl, h3, hf3⟩
      have HA9 := Lib.hid h3
      have HF9 := Lib.hid (HF.out.trans ((Fr.below HA.out.lt hbx).trans hf3))
      clear h3 hf3 hbx y0 y1 y2 y3 y4 y5
      go_wp2
      go_roundw
      case rel => exact ⟨i + 1, by omega, by go_num, Lib.hid (by rw [HT.out, ← List.append_assoc]; exact HA9.out), HF9⟩
      case measure => simp [intOf]; omega
    · have t1 : decide ((i : Int) < (ml.length : Int)) = false := decide_eq_false (by omega)
      have HE := Lib.hid (show ml.take i = ml from List.take_of_length_le (by omega))
      rw [HE.out] at HA
      clear HE
      go_wp2
      go_end0
      exact ⟨rfl, by have := HA.out; simpa [wReq, nth, reqN] using this, HF.out⟩
set_option maxRecDepth 100000 in
set_option maxHeartbeats 4000000 in
theorem c_wreq2 {w0 : World} (hg : Gv w0) {p : Nat} {ws : List ByteArray} (mv_ fv_ : Value) (q : ReqE) (hm : q.kind = 2) (hms : HasM w0 mv_ q.muts) (hmo : ∀ m ∈ q.muts, mutOk m = true ∧ Wf m.vn) (hml : q.muts.length ≤ 1000000) (hrow : q.row.size ≤ 1000000) (hq : q.qual.size ≤ 1000000) (hn : Wf q.vn) (hv : noVal q.vk q.vn q.vs = true ∨ rightV q.vk q.vn q.vs = true) {w : World} (h : Ww w0 p ws w) (hlen : ws.length < 1099400000000) :
    Calls Tryz.prog 64 #[.pointer (some ⟨p, 0, none⟩), .agg (qcells mv_ fv_ q)] w fun e w' => e = .returned (.tuple #[]) ∧ Ww w0 p (ws ++ wReq q) w' ∧ Fr p w w' := by
  obtain ⟨k, row, stop, ml, fam, qual, vk, vn, vs, ⟨fams, lo, up, since, til, versions, rows⟩⟩ := q
  simp only at hm hms hmo hml hrow hq hn hv
  subst hm
  have HA0 := Lib.hid (h.box (qcells mv_ fv_ ⟨2, row, stop, ml, fam, qual, vk, vn, vs, ⟨fams, lo, up, since, til, versions, rows⟩⟩) 35)
  have HF0 := Lib.hid (Fr.below h.lt ((Below.refl w.heap.size w).alloc (Nat.le_refl _) (.cells (qcells mv_ fv_ ⟨2, row, stop, ml, fam, qual, vk, vn, vs, ⟨fams, lo, up, since, til, versions, rows⟩⟩) 35)))
  simp only [qcells] at HA0 HF0 ⊢
  clear h
  have k3 : IntKind.i64.wrap 1 = 1 := by decide
  go_enter Tryz.func64, Tryz.ntmps64
  go_wp2_with fail
  have HA1 := Lib.hid HA0.out.drew
  have HFD := Lib.hid (HF0.out.trans (Fr.below HA0.out.ww.lt (Below.refl _ _).drew))
  refine wp_region_held_drew (S := fun X => ∃ u, Wb w0 p u w.heap.size (qcells mv_ fv_ ⟨2, row, stop, ml, fam, qual, vk, vn, vs, ⟨fams, lo, up, since, til, versions, rows⟩⟩) 35 X) (by kernel_rfl) ⟨_, HA1.out⟩ (fun hHeld => ?_)
  refine tk 0 (v := ?v_201) ?y201 ?_; (case y201 => (refine Or.inl ⟨by rfl, ?_⟩; intro w hSw; obtain ⟨_, hW⟩ := hSw; have x0 := hW.cell 0 (.int .i64 2) rfl; have k3 : IntKind.i64.wrap 1 = 1 := (by decide); go_simp; first | done | with_reducible rfl)); (try simp only [Act.put, List.setIfInBounds_toArray, List.set_cons_zero, List.set_cons_succ])
  refine tk 2 (v := ?v_202) ?y202 ?_; (case y202 => (refine Or.inl ⟨by rfl, ?_⟩; intro w hSw; obtain ⟨_, hW⟩ := hSw; have x0 := hW.cell 0 (.int .i64 2) rfl; have k3 : IntKind.i64.wrap 1 = 1 := (by decide); go_simp; first | done | with_reducible rfl)); (try simp only [Act.put, List.setIfInBounds_toArray, List.set_cons_zero, List.set_cons_succ])
  refine tk 3 (v := ?v_203) ?y203 ?_; (case y203 => (refine Or.inl ⟨by rfl, ?_⟩; intro w hSw; obtain ⟨_, hW⟩ := hSw; have x0 := hW.cell 0 (.int .i64 2) rfl; have k3 : IntKind.i64.wrap 1 = 1 := (by decide); go_simp; first | done | with_reducible rfl)); (try simp only [Act.put, List.setIfInBounds_toArray, List.set_cons_zero, List.set_cons_succ])
  refine tk 4 (v := ?v_204) ?y204 ?_; (case y204 => (refine Or.inl ⟨by rfl, ?_⟩; intro w hSw; obtain ⟨_, hW⟩ := hSw; have x0 := hW.cell 0 (.int .i64 2) rfl; have k3 : IntKind.i64.wrap 1 = 1 := (by decide); go_simp; first | done | with_reducible rfl)); (try simp only [Act.put, List.setIfInBounds_toArray, List.set_cons_zero, List.set_cons_succ])
  refine wpAnyH_ready (rs := [1]) (by kernel_rfl) (by simp) ?_; refine AllReadyH.cons (o := ?o_205) ?hi_205 (fun K hK => ?_) AllReadyH.nil; (case hi_205 => (simp only [List.getElem?_toArray, List.getElem?_cons_zero, List.getElem?_cons_succ]; rfl)); go_simp; (go_at_call 97; ((refine (c_requests _).mono ?_); rintro e w2 ⟨rfl, hr2, hb2⟩; have HA2 := Lib.hid (HA1.out.keep hb2); have hr3 : w2.heap[w.heap.size + 1]? = some (.cells (strs reqN).toArray 9 (0, 0)) := (by simpa using hr2); have c3 : w2.cell? ⟨w.heap.size + 1, 1, none⟩ = some (.string wCheck) := (by simp [World.cell?, hr3, strs, reqN]); have HF1 := Lib.hid (HFD.out.trans (Fr.below HA1.out.ww.lt hb2)))); refine hK.out _ _ ?_ (fun hHeld => ?_); (· exact ⟨_, HA2.out⟩); clear hK K; (try simp only [Act.put, List.setIfInBounds_toArray, List.set_cons_zero, List.set_cons_succ])
  refine tk 5 (v := ?v_206) ?y206 ?_; (case y206 => (refine Or.inl ⟨by rfl, ?_⟩; intro w hSw; obtain ⟨_, hW⟩ := hSw; have x0 := hW.cell 0 (.int .i64 2) rfl; have k3 : IntKind.i64.wrap 1 = 1 := (by decide); go_simp; first | done | with_reducible rfl)); (try simp only [Act.put, List.setIfInBounds_toArray, List.set_cons_zero, List.set_cons_succ])
  refine wpAnyH_ready (rs := [6]) (by kernel_rfl) (by simp) ?_; refine AllReadyH.cons (o := ?o_207) ?hi_207 (fun K hK => ?_) AllReadyH.nil; (case hi_207 => (simp only [List.getElem?_toArray, List.getElem?_cons_zero, List.getElem?_cons_succ]; rfl)); go_simp; skip; refine hK.out _ _ ?_ (fun hHeld => ?_); (· exact ⟨_, HA2.out⟩); clear hK K; (try simp only [Act.put, List.setIfInBounds_toArray, List.set_cons_zero, List.set_cons_succ])
  refine wpAnyH_ready (rs := [7]) (by kernel_rfl) (by simp) ?_; refine AllReadyH.cons (o := ?o_208) ?hi_208 (fun K hK => ?_) AllReadyH.nil; (case hi_208 => (simp only [List.getElem?_toArray, List.getElem?_cons_zero, List.getElem?_cons_succ]; rfl)); go_simp; (go_at_call 61; ((refine (c_wword _ HA2.out.ww (by omega)).mono ?_); rintro e w3 ⟨rfl, h3, hf3⟩; have HA3 := Lib.hid (HA2.out.next h3 hf3); have HF2 := Lib.hid (HF1.out.trans hf3); clear h3 hf3)); refine hK.out _ _ ?_ (fun hHeld => ?_); (· exact ⟨_, HA3.out⟩); clear hK K; (try simp only [Act.put, List.setIfInBounds_toArray, List.set_cons_zero, List.set_cons_succ])
  refine wpAnyH_done (by kernel_rfl) ?_ _
  have x0 := HA3.out.cell 0 (.int .i64 2) rfl
  have x1 := HA3.out.cell 1 (.string row) rfl
  go_wp2_with (go_at_call 98; refine (c_wtext row hrow HA3.out.ww (by simp; omega)).mono ?_)
  rintro e w4 ⟨rfl, h3, hf3⟩
  have HA4 := Lib.hid (HA3.out.next h3 hf3)
  have HF3 := Lib.hid (HF2.out.trans hf3)
  clear h3 hf3 x0 x1
  have x0 := HA4.out.cell 0 (.int .i64 2) rfl
  have x2 := HA4.out.cell 2 (.string stop) rfl
  have x4 := HA4.out.cell 4 (.string fam) rfl
  have x5 := HA4.out.cell 5 (.string qual) rfl
  have x6 := HA4.out.cell 6 (.int .i64 vk) rfl
  have x7 := HA4.out.cell 7 (.int .i64 vn) rfl
  have x8 := HA4.out.cell 8 (.string vs) rfl
  have x9 := HA4.out.cell 9 fv_ rfl
  have x10 := HA4.out.cell 10 (.string lo) rfl
  have x11 := HA4.out.cell 11 (.string up) rfl
  have x12 := HA4.out.cell 12 (.int .i64 since) rfl
  have x13 := HA4.out.cell 13 (.int .i64 til) rfl
  have x14 := HA4.out.cell 14 (.int .i64 versions) rfl
  have x15 := HA4.out.cell 15 (.int .i64 rows) rfl
  go_wp2_with (go_at_call 61; refine (c_wword fam HA4.out.ww (by simp; omega)).mono ?_)
  rintro e w5 ⟨rfl, h3, hg3⟩
  have HA5 := Lib.hid (HA4.out.next h3 hg3)
  have HF4 := Lib.hid (HF3.out.trans hg3)
  clear h3 hg3 x0 x2 x4 x5 x6 x7 x8 x9 x10 x11 x12 x13 x14 x15
  have x0 := HA5.out.cell 0 (.int .i64 2) rfl
  have x2 := HA5.out.cell 2 (.string stop) rfl
  have x4 := HA5.out.cell 4 (.string fam) rfl
  have x5 := HA5.out.cell 5 (.string qual) rfl
  have x6 := HA5.out.cell 6 (.int .i64 vk) rfl
  have x7 := HA5.out.cell 7 (.int .i64 vn) rfl
  have x8 := HA5.out.cell 8 (.string vs) rfl
  have x9 := HA5.out.cell 9 fv_ rfl
  have x10 := HA5.out.cell 10 (.string lo) rfl
  have x11 := HA5.out.cell 11 (.string up) rfl
  have x12 := HA5.out.cell 12 (.int .i64 since) rfl
  have x13 := HA5.out.cell 13 (.int .i64 til) rfl
  have x14 := HA5.out.cell 14 (.int .i64 versions) rfl
  have x15 := HA5.out.cell 15 (.int .i64 rows) rfl
  go_wp2_with (go_at_call 98; refine (c_wtext qual hq HA5.out.ww (by simp; omega)).mono ?_)
  rintro e w6 ⟨rfl, h3, hg3⟩
  have HA6 := Lib.hid (HA5.out.next h3 hg3)
  have HF5 := Lib.hid (HF4.out.trans hg3)
  clear h3 hg3 x0 x2 x4 x5 x6 x7 x8 x9 x10 x11 x12 x13 x14 x15
  have x0 := HA6.out.cell 0 (.int .i64 2) rfl
  have x2 := HA6.out.cell 2 (.string stop) rfl
  have x4 := HA6.out.cell 4 (.string fam) rfl
  have x5 := HA6.out.cell 5 (.string qual) rfl
  have x6 := HA6.out.cell 6 (.int .i64 vk) rfl
  have x7 := HA6.out.cell 7 (.int .i64 vn) rfl
  have x8 := HA6.out.cell 8 (.string vs) rfl
  have x9 := HA6.out.cell 9 fv_ rfl
  have x10 := HA6.out.cell 10 (.string lo) rfl
  have x11 := HA6.out.cell 11 (.string up) rfl
  have x12 := HA6.out.cell 12 (.int .i64 since) rfl
  have x13 := HA6.out.cell 13 (.int .i64 til) rfl
  have x14 := HA6.out.cell 14 (.int .i64 versions) rfl
  have x15 := HA6.out.cell 15 (.int .i64 rows) rfl
  go_wp2_with (go_at_call 100; refine (c_wvalue hg vk vn vs hn hv HA6.out.ww (by simp; omega)).mono ?_)
  rintro e w7 ⟨rfl, h3, hg3⟩
  have HA7 := Lib.hid (HA6.out.next h3 hg3)
  have HF6 := Lib.hid (HF5.out.trans hg3)
  clear h3 hg3 x0 x2 x4 x5 x6 x7 x8 x9 x10 x11 x12 x13 x14 x15
  have x0 := HA7.out.cell 0 (.int .i64 2) rfl
  obtain ⟨a, c, rfl, hk⟩ := hms
  have x3 := HA7.out.cell 3 (.slice a ml.length c) rfl
  go_wp2
  clear x0 x3
  go_loopw [47] (fun v47 W => ∃ i : Nat, i ≤ ml.length ∧ v47 = .int .i64 i ∧ Hid (Ww w0 p (ws ++ [wCheck] ++ [wText row] ++ [fam] ++ [wText qual] ++ [wVal vk vn vs] ++ (ml.take i).flatMap wMut) W) ∧ Hid (Fr p w W)) (fun v47 _ => ml.length - (intOf v47).toNat)
  case atStart => exact ⟨0, by omega, rfl, Lib.hid (by simpa using HA7.out.ww), HF6⟩
  case round =>
    obtain ⟨i, hi, rfl, HA, HF⟩ := hrel
    clear HFD HA0 HA1 HA2 HA3 HA4 HA5 HA6 HA7 HF0 HF1 HF2 HF3 HF4 HF5 HF6
    by_cases hlt : i < ml.length
    · have t1 : decide ((i : Int) < (ml.length : Int)) = true := decide_eq_true (by omega)
      obtain ⟨ad, rfl, hc⟩ := hk i _ (List.getElem?_eq_getElem hlt)
      have hk0 : (0 : Int) ≤ (i : Int) := by omega
      have hk1 : (i : Int) < (ml.length : Int) := by omega
      have hmm := hmo _ (List.getElem_mem hlt)
      have HT := Lib.hid (takeM ml i hlt)
      have HN := Lib.hid (show ((ml.take i).flatMap wMut).length ≤ 4000000 by have := wMuts_len (ml.take i); rw [List.length_take] at this; omega)
      generalize ml[i] = m at hc hmm HT
      have y0 := (HA.out.bel.cell (World.block_lt_of_cell? w0 _ hc.1)).trans hc.1
      have hc2 := fun r x h1 hx => (HA.out.bel.cell (World.block_lt_of_cell? w0 _ (hc.2 r x h1 hx))).trans (hc.2 r x h1 hx)
      have y1 := hc2 1 (.string m.fam) (by decide) rfl
      have y2 := hc2 2 (.string m.qual) (by decide) rfl
      have y3 := hc2 3 (.int .i64 m.vk) (by decide) rfl
      have y4 := hc2 4 (.int .i64 m.vn) (by decide) rfl
      have y5 := hc2 5 (.string m.vs) (by decide) rfl
      clear hc hc2
      go_wp2_with fail
      have hbx := (Below.refl wr.heap.size wr).alloc (Nat.le_refl _) (.cells #[.int .i64 m.kind, .string m.fam, .string m.qual, .int .i64 m.vk, .int .i64 m.vn, .string m.vs] 90)
      refine (c_wmut hg m hmm.1 hmm.2 (HA.out.keep hbx) (by have := HN.out; simp only [List.length_append, List.length_cons, List.length_nil, wFil]; omega)).mono ?_
      rintro e w8 ⟨rfl, h3, hf3⟩
      have HA9 := Lib.hid h3
      have HF9 := Lib.hid (HF.out.trans ((Fr.below HA.out.lt hbx).trans hf3))
      clear h3 hf3 hbx y0 y1 y2 y3 y4 y5
      go_wp2
      go_roundw
      case rel => exact ⟨i + 1, by omega, by go_num, Lib.hid (by rw [HT.out, ← List.append_assoc]; exact HA9.out), HF9⟩
      case measure => simp [intOf]; omega
    · have t1 : decide ((i : Int) < (ml.length : Int)) = false := decide_eq_false (by omega)
      have HE := Lib.hid (show ml.take i = ml from List.take_of_length_le (by omega))
      rw [HE.out] at HA
      clear HE
      go_wp2
      go_end0
      exact ⟨rfl, by have := HA.out; simpa [wReq, nth, reqN] using this, HF.out⟩
set_option maxRecDepth 100000 in
set_option maxHeartbeats 4000000 in
theorem c_wreq3 {w0 : World} (hg : Gv w0) {p : Nat} {ws : List ByteArray} (mv_ fv_ : Value) (q : ReqE) (hm : q.kind = 3) (hms : HasM w0 mv_ q.muts) (hmo : ∀ m ∈ q.muts, mutOk m = true ∧ Wf m.vn) (hml : q.muts.length ≤ 1000000) (hrow : q.row.size ≤ 1000000) (hst : q.stop.size ≤ 1000000) (hfv : HasS w0 fv_ q.fil.fams) (hf1 : q.fil.fams.length ≤ 1000000) (hf2 : q.fil.lo.size ≤ 1000000) (hf3 : q.fil.hi.size ≤ 1000000) (n1 : Wf q.fil.since) (n2 : Wf q.fil.til) (n3 : Wf q.fil.versions) (n4 : Wf q.fil.rows) {w : World} (h : Ww w0 p ws w) (hlen : ws.length < 1099400000000) :
    Calls Tryz.prog 64 #[.pointer (some ⟨p, 0, none⟩), .agg (qcells mv_ fv_ q)] w fun e w' => e = .returned (.tuple #[]) ∧ Ww w0 p (ws ++ wReq q) w' ∧ Fr p w w' := by
  obtain ⟨k, row, stop, ml, fam, qual, vk, vn, vs, ⟨fams, lo, up, since, til, versions, rows⟩⟩ := q
  simp only at hm hms hmo hml hrow hst hfv hf1 hf2 hf3 n1 n2 n3 n4
  subst hm
  have HA0 := Lib.hid (h.box (qcells mv_ fv_ ⟨3, row, stop, ml, fam, qual, vk, vn, vs, ⟨fams, lo, up, since, til, versions, rows⟩⟩) 35)
  have HF0 := Lib.hid (Fr.below h.lt ((Below.refl w.heap.size w).alloc (Nat.le_refl _) (.cells (qcells mv_ fv_ ⟨3, row, stop, ml, fam, qual, vk, vn, vs, ⟨fams, lo, up, since, til, versions, rows⟩⟩) 35)))
  simp only [qcells] at HA0 HF0 ⊢
  clear h
  have k3 : IntKind.i64.wrap 2 = 2 := by decide
  go_enter Tryz.func64, Tryz.ntmps64
  go_wp2_with fail
  have HA1 := Lib.hid HA0.out.drew
  have HFD := Lib.hid (HF0.out.trans (Fr.below HA0.out.ww.lt (Below.refl _ _).drew))
  refine wp_region_held_drew (S := fun X => ∃ u, Wb w0 p u w.heap.size (qcells mv_ fv_ ⟨3, row, stop, ml, fam, qual, vk, vn, vs, ⟨fams, lo, up, since, til, versions, rows⟩⟩) 35 X) (by kernel_rfl) ⟨_, HA1.out⟩ (fun hHeld => ?_)
  refine tk 0 (v := ?v_301) ?y301 ?_; (case y301 => (refine Or.inl ⟨by rfl, ?_⟩; intro w hSw; obtain ⟨_, hW⟩ := hSw; have x0 := hW.cell 0 (.int .i64 3) rfl; have k3 : IntKind.i64.wrap 2 = 2 := (by decide); go_simp; first | done | with_reducible rfl)); (try simp only [Act.put, List.setIfInBounds_toArray, List.set_cons_zero, List.set_cons_succ])
  refine tk 2 (v := ?v_302) ?y302 ?_; (case y302 => (refine Or.inl ⟨by rfl, ?_⟩; intro w hSw; obtain ⟨_, hW⟩ := hSw; have x0 := hW.cell 0 (.int .i64 3) rfl; have k3 : IntKind.i64.wrap 2 = 2 := (by decide); go_simp; first | done | with_reducible rfl)); (try simp only [Act.put, List.setIfInBounds_toArray, List.set_cons_zero, List.set_cons_succ])
  refine tk 3 (v := ?v_303) ?y303 ?_; (case y303 => (refine Or.inl ⟨by rfl, ?_⟩; intro w hSw; obtain ⟨_, hW⟩ := hSw; have x0 := hW.cell 0 (.int .i64 3) rfl; have k3 : IntKind.i64.wrap 2 = 2 := (by decide); go_simp; first | done | with_reducible rfl)); (try simp only [Act.put, List.setIfInBounds_toArray, List.set_cons_zero, List.set_cons_succ])
  refine tk 4 (v := ?v_304) ?y304 ?_; (case y304 => (refine Or.inl ⟨by rfl, ?_⟩; intro w hSw; obtain ⟨_, hW⟩ := hSw; have x0 := hW.cell 0 (.int .i64 3) rfl; have k3 : IntKind.i64.wrap 2 = 2 := (by decide); go_simp; first | done | with_reducible rfl)); (try simp only [Act.put, List.setIfInBounds_toArray, List.set_cons_zero, List.set_cons_succ])
  refine wpAnyH_ready (rs := [1]) (by kernel_rfl) (by simp) ?_; refine AllReadyH.cons (o := ?o_305) ?hi_305 (fun K hK => ?_) AllReadyH.nil; (case hi_305 => (simp only [List.getElem?_toArray, List.getElem?_cons_zero, List.getElem?_cons_succ]; rfl)); go_simp; (go_at_call 97; ((refine (c_requests _).mono ?_); rintro e w2 ⟨rfl, hr2, hb2⟩; have HA2 := Lib.hid (HA1.out.keep hb2); have hr3 : w2.heap[w.heap.size + 1]? = some (.cells (strs reqN).toArray 9 (0, 0)) := (by simpa using hr2); have c3 : w2.cell? ⟨w.heap.size + 1, 2, none⟩ = some (.string wRead) := (by simp [World.cell?, hr3, strs, reqN]); have HF1 := Lib.hid (HFD.out.trans (Fr.below HA1.out.ww.lt hb2)))); refine hK.out _ _ ?_ (fun hHeld => ?_); (· exact ⟨_, HA2.out⟩); clear hK K; (try simp only [Act.put, List.setIfInBounds_toArray, List.set_cons_zero, List.set_cons_succ])
  refine tk 5 (v := ?v_306) ?y306 ?_; (case y306 => (refine Or.inl ⟨by rfl, ?_⟩; intro w hSw; obtain ⟨_, hW⟩ := hSw; have x0 := hW.cell 0 (.int .i64 3) rfl; have k3 : IntKind.i64.wrap 2 = 2 := (by decide); go_simp; first | done | with_reducible rfl)); (try simp only [Act.put, List.setIfInBounds_toArray, List.set_cons_zero, List.set_cons_succ])
  refine wpAnyH_ready (rs := [6]) (by kernel_rfl) (by simp) ?_; refine AllReadyH.cons (o := ?o_307) ?hi_307 (fun K hK => ?_) AllReadyH.nil; (case hi_307 => (simp only [List.getElem?_toArray, List.getElem?_cons_zero, List.getElem?_cons_succ]; rfl)); go_simp; skip; refine hK.out _ _ ?_ (fun hHeld => ?_); (· exact ⟨_, HA2.out⟩); clear hK K; (try simp only [Act.put, List.setIfInBounds_toArray, List.set_cons_zero, List.set_cons_succ])
  refine wpAnyH_ready (rs := [7]) (by kernel_rfl) (by simp) ?_; refine AllReadyH.cons (o := ?o_308) ?hi_308 (fun K hK => ?_) AllReadyH.nil; (case hi_308 => (simp only [List.getElem?_toArray, List.getElem?_cons_zero, List.getElem?_cons_succ]; rfl)); go_simp; (go_at_call 61; ((refine (c_wword _ HA2.out.ww (by omega)).mono ?_); rintro e w3 ⟨rfl, h3, hf3⟩; have HA3 := Lib.hid (HA2.out.next h3 hf3); have HF2 := Lib.hid (HF1.out.trans hf3); clear h3 hf3)); refine hK.out _ _ ?_ (fun hHeld => ?_); (· exact ⟨_, HA3.out⟩); clear hK K; (try simp only [Act.put, List.setIfInBounds_toArray, List.set_cons_zero, List.set_cons_succ])
  refine wpAnyH_done (by kernel_rfl) ?_ _
  have x0 := HA3.out.cell 0 (.int .i64 3) rfl
  have x1 := HA3.out.cell 1 (.string row) rfl
  go_wp2_with (go_at_call 98; refine (c_wtext row hrow HA3.out.ww (by simp; omega)).mono ?_)
  rintro e w4 ⟨rfl, h3, hf3⟩
  have HA4 := Lib.hid (HA3.out.next h3 hf3)
  have HF3 := Lib.hid (HF2.out.trans hf3)
  clear h3 hf3 x0 x1
  have x0 := HA4.out.cell 0 (.int .i64 3) rfl
  have x2 := HA4.out.cell 2 (.string stop) rfl
  have x4 := HA4.out.cell 4 (.string fam) rfl
  have x5 := HA4.out.cell 5 (.string qual) rfl
  have x6 := HA4.out.cell 6 (.int .i64 vk) rfl
  have x7 := HA4.out.cell 7 (.int .i64 vn) rfl
  have x8 := HA4.out.cell 8 (.string vs) rfl
  have x9 := HA4.out.cell 9 fv_ rfl
  have x10 := HA4.out.cell 10 (.string lo) rfl
  have x11 := HA4.out.cell 11 (.string up) rfl
  have x12 := HA4.out.cell 12 (.int .i64 since) rfl
  have x13 := HA4.out.cell 13 (.int .i64 til) rfl
  have x14 := HA4.out.cell 14 (.int .i64 versions) rfl
  have x15 := HA4.out.cell 15 (.int .i64 rows) rfl
  go_wp2_with (go_at_call 98; refine (c_wtext stop hst HA4.out.ww (by simp; omega)).mono ?_)
  rintro e w5 ⟨rfl, h3, hg3⟩
  have HA5 := Lib.hid (HA4.out.next h3 hg3)
  have HF4 := Lib.hid (HF3.out.trans hg3)
  clear h3 hg3 x0 x2 x4 x5 x6 x7 x8 x9 x10 x11 x12 x13 x14 x15
  have CF := c_wfilter hg fv_ ⟨fams, lo, up, since, til, versions, rows⟩ hfv hf1 hf2 hf3 n1 n2 n3 n4 HA5.out.ww (by simp; omega)
  simp only [fv] at CF
  have x0 := HA5.out.cell 0 (.int .i64 3) rfl
  have x2 := HA5.out.cell 2 (.string stop) rfl
  have x4 := HA5.out.cell 4 (.string fam) rfl
  have x5 := HA5.out.cell 5 (.string qual) rfl
  have x6 := HA5.out.cell 6 (.int .i64 vk) rfl
  have x7 := HA5.out.cell 7 (.int .i64 vn) rfl
  have x8 := HA5.out.cell 8 (.string vs) rfl
  have x9 := HA5.out.cell 9 fv_ rfl
  have x10 := HA5.out.cell 10 (.string lo) rfl
  have x11 := HA5.out.cell 11 (.string up) rfl
  have x12 := HA5.out.cell 12 (.int .i64 since) rfl
  have x13 := HA5.out.cell 13 (.int .i64 til) rfl
  have x14 := HA5.out.cell 14 (.int .i64 versions) rfl
  have x15 := HA5.out.cell 15 (.int .i64 rows) rfl
  go_wp2_with (go_at_call 99; refine (CF).mono ?_)
  rintro e w6 ⟨rfl, h3, hg3⟩
  have HA6 := Lib.hid (HA5.out.next h3 hg3)
  have HF5 := Lib.hid (HF4.out.trans hg3)
  clear h3 hg3 x0 x2 x4 x5 x6 x7 x8 x9 x10 x11 x12 x13 x14 x15
  have x0 := HA6.out.cell 0 (.int .i64 3) rfl
  obtain ⟨a, c, rfl, hk⟩ := hms
  have x3 := HA6.out.cell 3 (.slice a ml.length c) rfl
  go_wp2
  clear x0 x3
  go_loopw [47] (fun v47 W => ∃ i : Nat, i ≤ ml.length ∧ v47 = .int .i64 i ∧ Hid (Ww w0 p (ws ++ [wRead] ++ [wText row] ++ [wText stop] ++ wFil ⟨fams, lo, up, since, til, versions, rows⟩ ++ (ml.take i).flatMap wMut) W) ∧ Hid (Fr p w W)) (fun v47 _ => ml.length - (intOf v47).toNat)
  case atStart => exact ⟨0, by omega, rfl, Lib.hid (by simpa using HA6.out.ww), HF5⟩
  case round =>
    obtain ⟨i, hi, rfl, HA, HF⟩ := hrel
    clear HFD HA0 HA1 HA2 HA3 HA4 HA5 HA6 HF0 HF1 HF2 HF3 HF4 HF5
    by_cases hlt : i < ml.length
    · have t1 : decide ((i : Int) < (ml.length : Int)) = true := decide_eq_true (by omega)
      obtain ⟨ad, rfl, hc⟩ := hk i _ (List.getElem?_eq_getElem hlt)
      have hk0 : (0 : Int) ≤ (i : Int) := by omega
      have hk1 : (i : Int) < (ml.length : Int) := by omega
      have hmm := hmo _ (List.getElem_mem hlt)
      have HT := Lib.hid (takeM ml i hlt)
      have HN := Lib.hid (show ((ml.take i).flatMap wMut).length ≤ 4000000 by have := wMuts_len (ml.take i); rw [List.length_take] at this; omega)
      generalize ml[i] = m at hc hmm HT
      have y0 := (HA.out.bel.cell (World.block_lt_of_cell? w0 _ hc.1)).trans hc.1
      have hc2 := fun r x h1 hx => (HA.out.bel.cell (World.block_lt_of_cell? w0 _ (hc.2 r x h1 hx))).trans (hc.2 r x h1 hx)
      have y1 := hc2 1 (.string m.fam) (by decide) rfl
      have y2 := hc2 2 (.string m.qual) (by decide) rfl
      have y3 := hc2 3 (.int .i64 m.vk) (by decide) rfl
      have y4 := hc2 4 (.int .i64 m.vn) (by decide) rfl
      have y5 := hc2 5 (.string m.vs) (by decide) rfl
      clear hc hc2
      go_wp2_with fail
      have hbx := (Below.refl wr.heap.size wr).alloc (Nat.le_refl _) (.cells #[.int .i64 m.kind, .string m.fam, .string m.qual, .int .i64 m.vk, .int .i64 m.vn, .string m.vs] 90)
      refine (c_wmut hg m hmm.1 hmm.2 (HA.out.keep hbx) (by have := HN.out; simp only [List.length_append, List.length_cons, List.length_nil, wFil]; omega)).mono ?_
      rintro e w8 ⟨rfl, h3, hf3⟩
      have HA9 := Lib.hid h3
      have HF9 := Lib.hid (HF.out.trans ((Fr.below HA.out.lt hbx).trans hf3))
      clear h3 hf3 hbx y0 y1 y2 y3 y4 y5
      go_wp2
      go_roundw
      case rel => exact ⟨i + 1, by omega, by go_num, Lib.hid (by rw [HT.out, ← List.append_assoc]; exact HA9.out), HF9⟩
      case measure => simp [intOf]; omega
    · have t1 : decide ((i : Int) < (ml.length : Int)) = false := decide_eq_false (by omega)
      have HE := Lib.hid (show ml.take i = ml from List.take_of_length_le (by omega))
      rw [HE.out] at HA
      clear HE
      go_wp2
      go_end0
      exact ⟨rfl, by have := HA.out; simpa [wReq, nth, reqN] using this, HF.out⟩
end Go.Proofs.YtkogcobcjoojnaaGreatDoor.Fl

namespace Go.Proofs.YtkogcobcjoojnaaGreatDoor.Fl
open Go.RowKit Go.Maps
set_option linter.unusedVariables false
set_option linter.unusedSimpArgs false
/-- A value's number and text, as a machine holds them. -/
def VW (n : Int) (s : ByteArray) : Prop := Wf n ∧ s.size ≤ 9223372036854775807
theorem within_iff {n a b : Int} (h : within n a b = true) : a ≤ n ∧ n ≤ b := by
  unfold within at h
  simpa using h
theorem wf_within {n b : Int} (h : within n 0 b = true) (hb : b ≤ 1099511627776) : Wf n := by
  have := within_iff h
  unfold Wf
  omega
theorem nameSize {s : ByteArray} (h : nameOk s = true) : 1 ≤ s.size ∧ s.size ≤ 8 := by
  unfold nameOk at h
  simp only [Bool.and_eq_true, decide_eq_true_eq] at h
  omega
theorem writeParts {q : ReqE} (h : writeOk q = true) : 1 ≤ q.row.size ∧ q.row.size ≤ 16 ∧ q.stop = noB ∧ filNo q.fil = true ∧ 1 ≤ q.muts.length ∧ q.muts.length ≤ 8 ∧ ∀ m ∈ q.muts, mutOk m = true := by
  unfold writeOk at h
  simp only [Bool.and_eq_true, decide_eq_true_eq, List.all_eq_true] at h
  obtain ⟨⟨⟨⟨⟨⟨a1, a2⟩, a3⟩, a4⟩, a5⟩, a6⟩, a7⟩ := h
  exact ⟨a1, a2, a3, a4, a5, a6, a7⟩
theorem c_wreq {w0 : World} (hg : Gv w0) {p : Nat} {ws : List ByteArray} (mv_ fv_ : Value) (q : ReqE) (hq : reqOk q = true) (hw : ReqW q) (hms : HasM w0 mv_ q.muts) (hfv : HasS w0 fv_ q.fil.fams) {w : World} (h : Ww w0 p ws w) (hlen : ws.length < 1099400000000) :
    Calls Tryz.prog 64 #[.pointer (some ⟨p, 0, none⟩), .agg (qcells mv_ fv_ q)] w fun e w' => e = .returned (.tuple #[]) ∧ Ww w0 p (ws ++ wReq q) w' ∧ Fr p w w' := by
  unfold reqOk at hq
  by_cases h3 : q.kind = 3
  · rw [if_pos h3] at hq
    simp only [Bool.and_eq_true, decide_eq_true_eq] at hq
    obtain ⟨⟨⟨⟨⟨⟨⟨a1, a2⟩, a3⟩, a4⟩, a5⟩, a6⟩, a7⟩, a8⟩ := hq
    have hm0 : q.muts = [] := List.isEmpty_iff.1 a4
    unfold filOk at a8
    simp only [Bool.and_eq_true, decide_eq_true_eq] at a8
    obtain ⟨⟨⟨⟨⟨⟨⟨b1, b2⟩, b3⟩, b4⟩, b5⟩, b6⟩, b7⟩, b8⟩ := a8
    exact c_wreq3 hg mv_ fv_ q h3 hms (by rw [hm0]; intro m hm; cases hm) (by rw [hm0]; simp) (by omega) (by omega) hfv (by omega) (by omega) (by omega) (wf_within b5 (by omega)) (wf_within b6 (by omega)) (wf_within b7 (by omega)) (wf_within b8 (by omega)) h hlen
  · rw [if_neg h3] at hq
    by_cases h1 : q.kind = 1
    · rw [if_pos h1] at hq
      simp only [Bool.and_eq_true, decide_eq_true_eq] at hq
      obtain ⟨⟨⟨a1, a2⟩, a3⟩, a4⟩ := hq
      obtain ⟨r1, r2, r3, r4, r5, r6, r7⟩ := writeParts a1
      exact c_wreq1 hg mv_ fv_ q h1 hms (fun m hm => ⟨r7 m hm, (hw.m m hm).n⟩) (by omega) (by omega) h hlen
    · rw [if_neg h1] at hq
      by_cases h2 : q.kind = 2
      · rw [if_pos h2] at hq
        simp only [Bool.and_eq_true, Bool.or_eq_true, decide_eq_true_eq] at hq
        obtain ⟨⟨⟨a1, a2⟩, a3⟩, a4⟩ := hq
        obtain ⟨r1, r2, r3, r4, r5, r6, r7⟩ := writeParts a1
        exact c_wreq2 hg mv_ fv_ q h2 hms (fun m hm => ⟨r7 m hm, (hw.m m hm).n⟩) (by omega) (by omega) (by omega) hw.n a4 h hlen
      · rw [if_neg h2] at hq
        cases hq
end Go.Proofs.YtkogcobcjoojnaaGreatDoor.Fl

namespace Go.Proofs.YtkogcobcjoojnaaGreatDoor.Fl
open Go.RowKit Go.Maps
set_option linter.unusedVariables false
set_option linter.unusedSimpArgs false
/-- No letter a..z and no digit. -/
def isOther (c : Int) : Bool := (decide (c < 97) || decide (c > 122)) && (decide (c < 48) || decide (c > 57))
theorem isOther_high (c : Int) (h : 128 ≤ c) : isOther c = true := by
  have h1 : decide (c > 122) = true := decide_eq_true (by omega)
  have h2 : decide (c > 57) = true := decide_eq_true (by omega)
  unfold isOther
  rw [h1, h2]
  simp
theorem isOther_name (c : Int) : (!isOther c) = nameC c := by
  unfold isOther nameC
  by_cases a1 : c < 97 <;> by_cases a2 : c > 122 <;> by_cases a3 : c < 48 <;> by_cases a4 : c > 57 <;> simp [a1, a2, a3, a4, show (97 ≤ c) = ¬ c < 97 from by simp, show (c ≤ 122) = ¬ c > 122 from by simp, show (48 ≤ c) = ¬ c < 48 from by simp, show (c ≤ 57) = ¬ c > 57 from by simp]
/-- All bytes from so many on are letters or digits. -/
def okFrom : Nat → Nat → ByteArray → Bool
  | 0, _, _ => true
  | g + 1, p, s => if p < s.size then (!isOther ((s.data.getD p 0).toNat : Int)) && okFrom g (p + 1) s else true
def okName (s : ByteArray) : Bool := okFrom s.size 0 s
theorem okFrom_end (g p : Nat) (s : ByteArray) (h : ¬ p < s.size) : okFrom g p s = true := by cases g <;> simp [okFrom, h]
theorem okFrom_one (g p : Nat) (s : ByteArray) (h : p < s.size) : okFrom (g + 1) p s = ((!isOther ((s.data.getD p 0).toNat : Int)) && okFrom g (p + 1) s) := by simp [okFrom, h]
theorem byte_getD (s : ByteArray) (p : Nat) (h : p < s.size) : s.data.getD p 0 = s[p]'h := by
  have : p < s.data.size := h
  simp only [Array.getD, this, dif_pos]
  rfl
theorem okFrom_step (g p : Nat) (s : ByteArray) (h : p < s.size) : okFrom (g + 1) p s = ((!isOther ((Utf8.decode s p).1 : Int)) && okFrom g (p + (Utf8.decode s p).2) s) := by
  rw [okFrom_one g p s h, byte_getD s p h]
  by_cases ha : (s[p]'h).toNat < 128
  · rw [decode_ascii s p h ha]
  · have h2 := (decode_high s p h (by omega)).1
    rw [isOther_high _ (by omega), isOther_high _ (by omega)]
    rfl
theorem okFrom_drop (s : ByteArray) : ∀ (g p : Nat), s.size ≤ p + g → okFrom g p s = ((byt s).drop p).all nameC
  | 0, p, h => by
    rw [List.drop_eq_nil_of_le (by rw [byt_len]; omega)]
    rfl
  | g + 1, p, h => by
    by_cases hp : p < s.size
    · have hl : p < (byt s).length := by rw [byt_len]; omega
      rw [okFrom_one g p s hp, okFrom_drop s g (p + 1) (by omega), List.drop_eq_getElem_cons hl, List.all_cons, isOther_name]
      congr 2
      have hd : p < s.data.size := hp
      simp [byt, Array.getD, hd]
      rw [dif_pos hp]
    · rw [okFrom_end _ _ _ hp, List.drop_eq_nil_of_le (by rw [byt_len]; omega)]
      rfl
theorem okName_all (s : ByteArray) : okName s = (byt s).all nameC := by
  unfold okName
  rw [okFrom_drop s s.size 0 (by omega), List.drop_zero]
theorem nameOk_eq (s : ByteArray) : nameOk s = (!(s.toList.isEmpty) && (decide ((s.size : Int) ≤ 8) && okName s)) := by
  unfold nameOk
  rw [okName_all]
  have h1 : s.toList.isEmpty = decide (s.size < 1) := by
    rw [show s.toList = s.data.toList from Lib.toList_data s]
    have : s.size = s.data.toList.length := rfl
    rw [this]
    cases s.data.toList <;> simp
  rw [h1]
  rw [show decide ((s.size : Int) ≤ 8) = decide (s.size ≤ 8) from decide_eq_decide.2 (by omega), show decide (1 ≤ s.size) = !decide (s.size < 1) by by_cases a : s.size < 1 <;> simp [a] <;> omega]
  generalize (byt s).all nameC = x
  generalize decide (s.size < 1) = y
  generalize decide (s.size ≤ 8) = z
  cases x <;> cases y <;> cases z <;> rfl
set_option maxHeartbeats 2000000 in
set_option maxRecDepth 100000 in
theorem c_other_plan (c : Int) (w : World) : Calls Tryz.prog 121 #[.int .i32 c] w fun e w' => e = .returned (.bool (isOther c)) ∧ ∃ q, w' = w.drewN q := by
  cases q1 : decide (c < 97) <;> cases q2 : decide (c > 122) <;> cases q3 : decide (c < 48) <;> cases q4 : decide (c > 57) <;>
  · have hr : isOther c = isOther c := rfl
    conv at hr => rhs; unfold isOther; rw [q1, q2, q3, q4]
    have R := Lib.hid hr
    clear hr
    go_enter Tryz.func121, Tryz.ntmps121
    go_wp2
    go_ret
    refine ⟨by rw [R.out]; simp_all, ?_⟩
    first | exact ⟨0, rfl⟩ | exact ⟨1, rfl⟩ | exact ⟨_, rfl⟩
set_option maxHeartbeats 2000000 in
set_option maxRecDepth 100000 in
theorem c_idx_plan (s : ByteArray) (w : World) : Calls Tryz.prog 144 #[.string s, .func (.func 121) #[] #[], .bool true] w fun e w' => ∃ i : Int, e = .returned (.int .i64 i) ∧ -1 ≤ i ∧ decide (0 ≤ i) = !(okName s) ∧ Below w.heap.size w w' := by
  go_enter Tryz.func144, Tryz.ntmps144
  go_wp2
  go_loopg [] s.size (fun gf wx => ∃ pos : Nat, wx.heap[w.heap.size]? = some (.stringIter s pos) ∧ Below w.heap.size w wx ∧ okFrom gf pos s = okName s ∧ s.size ≤ pos + gf)
  case atStart => exact ⟨0, World.iter_heap w s 0, (Below.refl _ w).alloc (Nat.le_refl _) _, rfl, by omega⟩
  case round =>
    obtain ⟨pos, hit, hbw, hleft, hfu⟩ := hrel
    by_cases hps : pos < s.size
    · obtain ⟨g', rfl⟩ : ∃ g', gk = g' + 1 := ⟨gk - 1, by omega⟩
      have hnx : ∀ ty, (Instr.next (.pointer (some ⟨w.heap.size, 0, none⟩)) true ty).run Tryz.prog wr = _ := fun ty => Lib.run_next_any_at wr w.heap.size s pos ty hit hps
      have hwd := Lib.width_pos s pos
      rw [okFrom_step g' pos s hps] at hleft
      obtain ⟨R, hR⟩ : ∃ R, (Utf8.decode s pos).1 = R := ⟨_, rfl⟩
      obtain ⟨K, hK⟩ : ∃ K, (Utf8.decode s pos).2 = K := ⟨_, rfl⟩
      rw [hR, hK] at hleft
      rw [hR, hK] at hnx
      rw [hK] at hwd
      have hit2 := Lib.iterAt_heap wr w.heap.size s pos (pos + K) hit
      have hbw2 := Lib.below_iterAt hbw (k := w.heap.size) (Nat.le_refl _) s (pos + K)
      obtain ⟨W, hWd⟩ : ∃ W, wr.iterAt w.heap.size s (pos + K) = W := ⟨_, rfl⟩
      rw [hWd] at hnx hit2 hbw2
      have cS := c_other_plan (R : Int) W
      cases hsp : isOther (R : Int) <;> rw [hsp] at cS hleft
      · go_wp2_with (go_at_call 121; refine cS.mono ?_; rintro e W' ⟨rfl, q, rfl⟩)
        go_roundg g'
        case measure => omega
        case rel => exact ⟨pos + K, hit2, below_dr hbw2 q, by simpa using hleft, by omega⟩
      · go_wp2_with (go_at_call 121; refine cS.mono ?_; rintro e W' ⟨rfl, q, rfl⟩)
        go_ret
        exact ⟨pos, rfl, by omega, by rw [← hleft]; simp, below_dr hbw2 q⟩
    · have hnx : ∀ ty, (Instr.next (.pointer (some ⟨w.heap.size, 0, none⟩)) true ty).run Tryz.prog wr = _ := fun ty => Lib.run_next_end_at wr w.heap.size s pos ty hit hps
      rw [okFrom_end gk pos s hps] at hleft
      have HL := Lib.hid hleft
      clear hleft
      go_wp2
      go_ret
      exact ⟨-1, rfl, by omega, by rw [← HL.out]; rfl, hbw⟩
set_option maxHeartbeats 2000000 in
set_option maxRecDepth 100000 in
theorem c_idx2_plan (s : ByteArray) (w : World) : Calls Tryz.prog 124 #[.string s, .func (.func 121) #[] #[]] w fun e w' => ∃ i : Int, e = .returned (.int .i64 i) ∧ -1 ≤ i ∧ decide (0 ≤ i) = !(okName s) ∧ Below w.heap.size w w' := by
  have H := Lib.hid (c_idx_plan s w)
  go_enter Tryz.func124, Tryz.ntmps124
  go_wp2_with (go_at_call 144; refine H.out.mono ?_; rintro e w' ⟨i, rfl, h1, h2, hb⟩; have H2 := Lib.hid h2; have HB := Lib.hid hb; clear h2 hb)
  go_ret
  exact ⟨i, rfl, h1, H2.out, HB.out⟩
set_option maxHeartbeats 2000000 in
set_option maxRecDepth 100000 in
theorem c_contains_plan (s : ByteArray) (w : World) : Calls Tryz.prog 91 #[.string s, .func (.func 121) #[] #[]] w fun e w' => e = .returned (.bool (!(okName s))) ∧ Below w.heap.size w w' := by
  have H := Lib.hid (c_idx2_plan s w)
  go_enter Tryz.func91, Tryz.ntmps91
  go_wp2_with (go_at_call 124; refine H.out.mono ?_; rintro e w' ⟨i, rfl, h1, h2, hb⟩; have H2 := Lib.hid h2; have HB := Lib.hid hb; clear h2 hb)
  go_ret
  exact ⟨by rw [← H2.out]; rfl, by first | exact HB.out | exact below_dr HB.out _⟩
set_option maxHeartbeats 2000000 in
set_option maxRecDepth 100000 in
theorem c_name_plan (s : ByteArray) (w : World) : Calls Tryz.prog 87 #[.string s] w fun e w' => e = .returned (.bool (nameOk s)) ∧ Below w.heap.size w w' := by
  have H := fun w1 => c_contains_plan s w1
  have HE := Lib.hid (nameOk_eq s)
  by_cases n1 : s.toList = [] <;> by_cases n2 : (s.size : Int) ≤ 8 <;>
  · have HW := Lib.hid (Below.refl w.heap.size w)
    go_enter Tryz.func87, Tryz.ntmps87
    go_wp2_with (go_at_call 91; refine (H _).mono ?_; rintro e w' ⟨rfl, hb⟩; have HB := Lib.hid hb; clear hb)
    go_ret
    refine ⟨by rw [HE.out]; first | (simp [n1, n2]; done) | (simp [n1]; intro h; omega), ?_⟩
    first | exact HB.out | exact below_dr HB.out _ | exact HW.out | exact below_dr HW.out _
set_option maxHeartbeats 2000000 in
set_option maxRecDepth 100000 in
theorem c_other_filter (c : Int) (w : World) : Calls Tryz.prog 143 #[.int .i32 c] w fun e w' => e = .returned (.bool (isOther c)) ∧ ∃ q, w' = w.drewN q := by
  cases q1 : decide (c < 97) <;> cases q2 : decide (c > 122) <;> cases q3 : decide (c < 48) <;> cases q4 : decide (c > 57) <;>
  · have hr : isOther c = isOther c := rfl
    conv at hr => rhs; unfold isOther; rw [q1, q2, q3, q4]
    have R := Lib.hid hr
    clear hr
    go_enter Tryz.func143, Tryz.ntmps143
    go_wp2
    go_ret
    refine ⟨by rw [R.out]; simp_all, ?_⟩
    first | exact ⟨0, rfl⟩ | exact ⟨1, rfl⟩ | exact ⟨_, rfl⟩
set_option maxHeartbeats 2000000 in
set_option maxRecDepth 100000 in
theorem c_idx_filter (s : ByteArray) (w : World) : Calls Tryz.prog 144 #[.string s, .func (.func 143) #[] #[], .bool true] w fun e w' => ∃ i : Int, e = .returned (.int .i64 i) ∧ -1 ≤ i ∧ decide (0 ≤ i) = !(okName s) ∧ Below w.heap.size w w' := by
  go_enter Tryz.func144, Tryz.ntmps144
  go_wp2
  go_loopg [] s.size (fun gf wx => ∃ pos : Nat, wx.heap[w.heap.size]? = some (.stringIter s pos) ∧ Below w.heap.size w wx ∧ okFrom gf pos s = okName s ∧ s.size ≤ pos + gf)
  case atStart => exact ⟨0, World.iter_heap w s 0, (Below.refl _ w).alloc (Nat.le_refl _) _, rfl, by omega⟩
  case round =>
    obtain ⟨pos, hit, hbw, hleft, hfu⟩ := hrel
    by_cases hps : pos < s.size
    · obtain ⟨g', rfl⟩ : ∃ g', gk = g' + 1 := ⟨gk - 1, by omega⟩
      have hnx : ∀ ty, (Instr.next (.pointer (some ⟨w.heap.size, 0, none⟩)) true ty).run Tryz.prog wr = _ := fun ty => Lib.run_next_any_at wr w.heap.size s pos ty hit hps
      have hwd := Lib.width_pos s pos
      rw [okFrom_step g' pos s hps] at hleft
      obtain ⟨R, hR⟩ : ∃ R, (Utf8.decode s pos).1 = R := ⟨_, rfl⟩
      obtain ⟨K, hK⟩ : ∃ K, (Utf8.decode s pos).2 = K := ⟨_, rfl⟩
      rw [hR, hK] at hleft
      rw [hR, hK] at hnx
      rw [hK] at hwd
      have hit2 := Lib.iterAt_heap wr w.heap.size s pos (pos + K) hit
      have hbw2 := Lib.below_iterAt hbw (k := w.heap.size) (Nat.le_refl _) s (pos + K)
      obtain ⟨W, hWd⟩ : ∃ W, wr.iterAt w.heap.size s (pos + K) = W := ⟨_, rfl⟩
      rw [hWd] at hnx hit2 hbw2
      have cS := c_other_filter (R : Int) W
      cases hsp : isOther (R : Int) <;> rw [hsp] at cS hleft
      · go_wp2_with (go_at_call 143; refine cS.mono ?_; rintro e W' ⟨rfl, q, rfl⟩)
        go_roundg g'
        case measure => omega
        case rel => exact ⟨pos + K, hit2, below_dr hbw2 q, by simpa using hleft, by omega⟩
      · go_wp2_with (go_at_call 143; refine cS.mono ?_; rintro e W' ⟨rfl, q, rfl⟩)
        go_ret
        exact ⟨pos, rfl, by omega, by rw [← hleft]; simp, below_dr hbw2 q⟩
    · have hnx : ∀ ty, (Instr.next (.pointer (some ⟨w.heap.size, 0, none⟩)) true ty).run Tryz.prog wr = _ := fun ty => Lib.run_next_end_at wr w.heap.size s pos ty hit hps
      rw [okFrom_end gk pos s hps] at hleft
      have HL := Lib.hid hleft
      clear hleft
      go_wp2
      go_ret
      exact ⟨-1, rfl, by omega, by rw [← HL.out]; rfl, hbw⟩
set_option maxHeartbeats 2000000 in
set_option maxRecDepth 100000 in
theorem c_idx2_filter (s : ByteArray) (w : World) : Calls Tryz.prog 124 #[.string s, .func (.func 143) #[] #[]] w fun e w' => ∃ i : Int, e = .returned (.int .i64 i) ∧ -1 ≤ i ∧ decide (0 ≤ i) = !(okName s) ∧ Below w.heap.size w w' := by
  have H := Lib.hid (c_idx_filter s w)
  go_enter Tryz.func124, Tryz.ntmps124
  go_wp2_with (go_at_call 144; refine H.out.mono ?_; rintro e w' ⟨i, rfl, h1, h2, hb⟩; have H2 := Lib.hid h2; have HB := Lib.hid hb; clear h2 hb)
  go_ret
  exact ⟨i, rfl, h1, H2.out, HB.out⟩
set_option maxHeartbeats 2000000 in
set_option maxRecDepth 100000 in
theorem c_contains_filter (s : ByteArray) (w : World) : Calls Tryz.prog 91 #[.string s, .func (.func 143) #[] #[]] w fun e w' => e = .returned (.bool (!(okName s))) ∧ Below w.heap.size w w' := by
  have H := Lib.hid (c_idx2_filter s w)
  go_enter Tryz.func91, Tryz.ntmps91
  go_wp2_with (go_at_call 124; refine H.out.mono ?_; rintro e w' ⟨i, rfl, h1, h2, hb⟩; have H2 := Lib.hid h2; have HB := Lib.hid hb; clear h2 hb)
  go_ret
  exact ⟨by rw [← H2.out]; rfl, by first | exact HB.out | exact below_dr HB.out _⟩
set_option maxHeartbeats 2000000 in
set_option maxRecDepth 100000 in
theorem c_name_filter (s : ByteArray) (w : World) : Calls Tryz.prog 118 #[.string s] w fun e w' => e = .returned (.bool (nameOk s)) ∧ Below w.heap.size w w' := by
  have H := fun w1 => c_contains_filter s w1
  have HE := Lib.hid (nameOk_eq s)
  by_cases n1 : s.toList = [] <;> by_cases n2 : (s.size : Int) ≤ 8 <;>
  · have HW := Lib.hid (Below.refl w.heap.size w)
    go_enter Tryz.func118, Tryz.ntmps118
    go_wp2_with (go_at_call 91; refine (H _).mono ?_; rintro e w' ⟨rfl, hb⟩; have HB := Lib.hid hb; clear hb)
    go_ret
    refine ⟨by rw [HE.out]; first | (simp [n1, n2]; done) | (simp [n1]; intro h; omega), ?_⟩
    first | exact HB.out | exact below_dr HB.out _ | exact HW.out | exact below_dr HW.out _
set_option maxHeartbeats 2000000 in
set_option maxRecDepth 100000 in
theorem c_other_ddl (c : Int) (w : World) : Calls Tryz.prog 90 #[.int .i32 c] w fun e w' => e = .returned (.bool (isOther c)) ∧ ∃ q, w' = w.drewN q := by
  cases q1 : decide (c < 97) <;> cases q2 : decide (c > 122) <;> cases q3 : decide (c < 48) <;> cases q4 : decide (c > 57) <;>
  · have hr : isOther c = isOther c := rfl
    conv at hr => rhs; unfold isOther; rw [q1, q2, q3, q4]
    have R := Lib.hid hr
    clear hr
    go_enter Tryz.func90, Tryz.ntmps90
    go_wp2
    go_ret
    refine ⟨by rw [R.out]; simp_all, ?_⟩
    first | exact ⟨0, rfl⟩ | exact ⟨1, rfl⟩ | exact ⟨_, rfl⟩
set_option maxHeartbeats 2000000 in
set_option maxRecDepth 100000 in
theorem c_idx_ddl (s : ByteArray) (w : World) : Calls Tryz.prog 144 #[.string s, .func (.func 90) #[] #[], .bool true] w fun e w' => ∃ i : Int, e = .returned (.int .i64 i) ∧ -1 ≤ i ∧ decide (0 ≤ i) = !(okName s) ∧ Below w.heap.size w w' := by
  go_enter Tryz.func144, Tryz.ntmps144
  go_wp2
  go_loopg [] s.size (fun gf wx => ∃ pos : Nat, wx.heap[w.heap.size]? = some (.stringIter s pos) ∧ Below w.heap.size w wx ∧ okFrom gf pos s = okName s ∧ s.size ≤ pos + gf)
  case atStart => exact ⟨0, World.iter_heap w s 0, (Below.refl _ w).alloc (Nat.le_refl _) _, rfl, by omega⟩
  case round =>
    obtain ⟨pos, hit, hbw, hleft, hfu⟩ := hrel
    by_cases hps : pos < s.size
    · obtain ⟨g', rfl⟩ : ∃ g', gk = g' + 1 := ⟨gk - 1, by omega⟩
      have hnx : ∀ ty, (Instr.next (.pointer (some ⟨w.heap.size, 0, none⟩)) true ty).run Tryz.prog wr = _ := fun ty => Lib.run_next_any_at wr w.heap.size s pos ty hit hps
      have hwd := Lib.width_pos s pos
      rw [okFrom_step g' pos s hps] at hleft
      obtain ⟨R, hR⟩ : ∃ R, (Utf8.decode s pos).1 = R := ⟨_, rfl⟩
      obtain ⟨K, hK⟩ : ∃ K, (Utf8.decode s pos).2 = K := ⟨_, rfl⟩
      rw [hR, hK] at hleft
      rw [hR, hK] at hnx
      rw [hK] at hwd
      have hit2 := Lib.iterAt_heap wr w.heap.size s pos (pos + K) hit
      have hbw2 := Lib.below_iterAt hbw (k := w.heap.size) (Nat.le_refl _) s (pos + K)
      obtain ⟨W, hWd⟩ : ∃ W, wr.iterAt w.heap.size s (pos + K) = W := ⟨_, rfl⟩
      rw [hWd] at hnx hit2 hbw2
      have cS := c_other_ddl (R : Int) W
      cases hsp : isOther (R : Int) <;> rw [hsp] at cS hleft
      · go_wp2_with (go_at_call 90; refine cS.mono ?_; rintro e W' ⟨rfl, q, rfl⟩)
        go_roundg g'
        case measure => omega
        case rel => exact ⟨pos + K, hit2, below_dr hbw2 q, by simpa using hleft, by omega⟩
      · go_wp2_with (go_at_call 90; refine cS.mono ?_; rintro e W' ⟨rfl, q, rfl⟩)
        go_ret
        exact ⟨pos, rfl, by omega, by rw [← hleft]; simp, below_dr hbw2 q⟩
    · have hnx : ∀ ty, (Instr.next (.pointer (some ⟨w.heap.size, 0, none⟩)) true ty).run Tryz.prog wr = _ := fun ty => Lib.run_next_end_at wr w.heap.size s pos ty hit hps
      rw [okFrom_end gk pos s hps] at hleft
      have HL := Lib.hid hleft
      clear hleft
      go_wp2
      go_ret
      exact ⟨-1, rfl, by omega, by rw [← HL.out]; rfl, hbw⟩
set_option maxHeartbeats 2000000 in
set_option maxRecDepth 100000 in
theorem c_idx2_ddl (s : ByteArray) (w : World) : Calls Tryz.prog 124 #[.string s, .func (.func 90) #[] #[]] w fun e w' => ∃ i : Int, e = .returned (.int .i64 i) ∧ -1 ≤ i ∧ decide (0 ≤ i) = !(okName s) ∧ Below w.heap.size w w' := by
  have H := Lib.hid (c_idx_ddl s w)
  go_enter Tryz.func124, Tryz.ntmps124
  go_wp2_with (go_at_call 144; refine H.out.mono ?_; rintro e w' ⟨i, rfl, h1, h2, hb⟩; have H2 := Lib.hid h2; have HB := Lib.hid hb; clear h2 hb)
  go_ret
  exact ⟨i, rfl, h1, H2.out, HB.out⟩
set_option maxHeartbeats 2000000 in
set_option maxRecDepth 100000 in
theorem c_contains_ddl (s : ByteArray) (w : World) : Calls Tryz.prog 91 #[.string s, .func (.func 90) #[] #[]] w fun e w' => e = .returned (.bool (!(okName s))) ∧ Below w.heap.size w w' := by
  have H := Lib.hid (c_idx2_ddl s w)
  go_enter Tryz.func91, Tryz.ntmps91
  go_wp2_with (go_at_call 124; refine H.out.mono ?_; rintro e w' ⟨i, rfl, h1, h2, hb⟩; have H2 := Lib.hid h2; have HB := Lib.hid hb; clear h2 hb)
  go_ret
  exact ⟨by rw [← H2.out]; rfl, by first | exact HB.out | exact below_dr HB.out _⟩
set_option maxHeartbeats 2000000 in
set_option maxRecDepth 100000 in
theorem c_name_ddl (s : ByteArray) (w : World) : Calls Tryz.prog 55 #[.string s] w fun e w' => e = .returned (.bool (nameOk s)) ∧ Below w.heap.size w w' := by
  have H := fun w1 => c_contains_ddl s w1
  have HE := Lib.hid (nameOk_eq s)
  by_cases n1 : s.toList = [] <;> by_cases n2 : (s.size : Int) ≤ 8 <;>
  · have HW := Lib.hid (Below.refl w.heap.size w)
    go_enter Tryz.func55, Tryz.ntmps55
    go_wp2_with (go_at_call 91; refine (H _).mono ?_; rintro e w' ⟨rfl, hb⟩; have HB := Lib.hid hb; clear hb)
    go_ret
    refine ⟨by rw [HE.out]; first | (simp [n1, n2]; done) | (simp [n1]; intro h; omega), ?_⟩
    first | exact HB.out | exact below_dr HB.out _ | exact HW.out | exact below_dr HW.out _
end Go.Proofs.YtkogcobcjoojnaaGreatDoor.Fl

namespace Go.Proofs.YtkogcobcjoojnaaGreatDoor.Fl
open Go.RowKit Go.Maps
set_option linter.unusedVariables false
set_option linter.unusedSimpArgs false
/-- A reader in block p: the words that are left stand in block q. -/
structure IsR (p q : Nat) (ws : List ByteArray) (w : World) : Prop where
  blk : ∃ a c, w.heap[p]? = some (.cells #[.slice a ws.length c] 86 (0, 0)) ∧ ws.length ≤ c ∧ ∀ (j : Nat) x, ws[j]? = some x → ∃ o, a = some ⟨q, o, none⟩ ∧ w.cell? ⟨q, o + j, none⟩ = some (.string x)
  ne : q ≠ p
  lt : q < w.heap.size
  szs : ∀ x ∈ ws, x.size ≤ 1000000
  len : ws.length ≤ 1000000
/-- What the reader in block p leaves as it was: every block but its own. -/
structure FrR (p : Nat) (w w' : World) : Prop where
  size : w.heap.size ≤ w'.heap.size
  keeps : ∀ k, k < w.heap.size → k ≠ p → w'.heap[k]? = w.heap[k]?
theorem FrR.trans {p : Nat} {a b c : World} (h : FrR p a b) (h2 : FrR p b c) : FrR p a c :=
  ⟨Nat.le_trans h.size h2.size, fun k hk hne => (h2.keeps k (Nat.lt_of_lt_of_le hk h.size) hne).trans (h.keeps k hk hne)⟩
theorem FrR.below {p : Nat} {w w' : World} (hb : Below w.heap.size w w') : FrR p w w' := ⟨hb.size, fun k hk _ => hb.block k hk⟩
theorem FrR.cell {p : Nat} {w w' : World} (h : FrR p w w') {a : Addr} {v : Value} (hc : w.cell? a = some v) (hne : a.block ≠ p) : w'.cell? a = some v := by
  have hlt := World.block_lt_of_cell? w a hc
  unfold World.cell? at hc ⊢
  rw [h.keeps _ hlt hne]
  exact hc
theorem IsR.plt {p q : Nat} {ws : List ByteArray} {w : World} (h : IsR p q ws w) : p < w.heap.size := by
  obtain ⟨a, c, hb, _⟩ := h.blk
  exact (Array.getElem?_eq_some_iff.1 hb).1
theorem IsR.keep {p q : Nat} {ws : List ByteArray} {w w' : World} (h : IsR p q ws w) (hb : Below w.heap.size w w') : IsR p q ws w' := by
  have hp := h.plt
  obtain ⟨a, c, hbk, hc, hk⟩ := h.blk
  refine ⟨⟨a, c, by rw [hb.block p hp]; exact hbk, hc, fun j x hj => ?_⟩, h.ne, Nat.lt_of_lt_of_le h.lt hb.size, h.szs, h.len⟩
  obtain ⟨o, ha, hx⟩ := hk j x hj
  exact ⟨o, ha, (hb.cell (World.block_lt_of_cell? w _ hx)).trans hx⟩
/-- Another block's cells may be put. -/
theorem IsR.other {p q : Nat} {ws : List ByteArray} {w w' : World} (h : IsR p q ws w) (hs : w.heap.size ≤ w'.heap.size) (hp : w'.heap[p]? = w.heap[p]?) (hq : w'.heap[q]? = w.heap[q]?) : IsR p q ws w' := by
  obtain ⟨a, c, hbk, hc, hk⟩ := h.blk
  refine ⟨⟨a, c, by rw [hp]; exact hbk, hc, fun j x hj => ?_⟩, h.ne, Nat.lt_of_lt_of_le h.lt hs, h.szs, h.len⟩
  obtain ⟨o, ha, hx⟩ := hk j x hj
  refine ⟨o, ha, ?_⟩
  unfold World.cell? at hx ⊢
  rw [hq]
  exact hx
/-- The reader in block p, in a call that began in the world w0. -/
structure Rr (w0 : World) (p q : Nat) (ws : List ByteArray) (w : World) : Prop where
  is : IsR p q ws w
  bel : Below w0.heap.size w0 w
  base : w0.heap.size ≤ p
theorem Rr.keep {w0 : World} {p q : Nat} {ws : List ByteArray} {w w' : World} (h : Rr w0 p q ws w) (hb : Below w.heap.size w w') : Rr w0 p q ws w' := ⟨h.is.keep hb, h.bel.trans (hb.mono h.bel.size), h.base⟩
theorem Rr.gv {w0 : World} {p q : Nat} {ws : List ByteArray} {w : World} (h : Rr w0 p q ws w) (hg : Gv w0) : Gv w := hg.below h.bel
/-- What the reader's methods panic with. -/
def noneP : List PanicEntry := [{ v := .iface 83 (.agg #[]), recovered := false }]
/-- How a method of the reader ends: as it is told, or in a panic. -/
def RdR {α : Type} (res : α → Value → World → Prop) (r : Option (α × List ByteArray)) (w0 : World) (p q : Nat) (w : World) (e : Ending) (w' : World) : Prop :=
  ((∃ x rest v, r = some (x, rest) ∧ e = .returned v ∧ res x v w' ∧ Rr w0 p q rest w') ∨ (r = none ∧ e = .panicked noneP ∧ Below w0.heap.size w0 w')) ∧ FrR p w w'
theorem c_need1 (b : Bool) (hb : b = true) (w : World) : Calls Tryz.prog 43 #[.bool b] w fun e w' => e = .returned (.tuple #[]) ∧ w' = w := by
  subst hb
  go_enter Tryz.func43, Tryz.ntmps43
  go_wp2
  go_end0
  exact ⟨rfl, rfl⟩
theorem c_need0 (b : Bool) (hb : b = false) (w : World) : Calls Tryz.prog 43 #[.bool b] w fun e w' => e = .panicked noneP ∧ w' = w := by
  subst hb
  go_enter Tryz.func43, Tryz.ntmps43
  go_wp2
  exact ⟨rfl, rfl, rfl⟩
theorem setCell_size (w : World) (a : Addr) (v : Value) : (w.setCell a v).heap.size = w.heap.size := by simp [World.setCell]
theorem IsR.put {p q : Nat} {x : ByteArray} {rest : List ByteArray} {w : World} (h : IsR p q (x :: rest) w) (o c c' n : Nat) (a' : Option Addr) (hb : w.heap[p]? = some (.cells #[.slice (some ⟨q, o, none⟩) (x :: rest).length c] 86 (0, 0))) (hn : n = rest.length) (hc : rest.length ≤ c') (ha : a' = some ⟨q, o + 1, none⟩ ∨ rest = []) :
    IsR p q rest (w.setCell ⟨p, 0, none⟩ (.slice a' n c')) := by
  obtain ⟨a, c2, hbk, hc2, hk⟩ := h.blk
  rw [hb] at hbk
  simp at hbk
  obtain ⟨rfl, rfl⟩ := hbk
  subst hn
  refine ⟨⟨a', c', by simp [World.setCell, Array.getElem?_modify, hb], hc, fun j y hj => ?_⟩, h.ne, by rw [setCell_size]; exact h.lt, fun y hy => h.szs y (by simp [hy]), by have := h.len; simp at this; omega⟩
  rcases ha with rfl | rfl
  · refine ⟨o + 1, rfl, ?_⟩
    obtain ⟨o', ho, hx⟩ := hk (j + 1) y (by simpa using hj)
    obtain rfl : o = o' := by simpa using ho
    rw [World.cell?_setCell_other _ _ _ _ (by intro e; exact h.ne (by simpa using (congrArg Addr.block e).symm))]
    rw [show o + 1 + j = o + (j + 1) by omega]
    exact hx
  · simp at hj
theorem FrR.put (p : Nat) (w : World) (v : Value) : FrR p w (w.setCell ⟨p, 0, none⟩ v) := ⟨by rw [setCell_size]; exact Nat.le_refl _, fun k _ hne => Below.heap_setCell _ _ _ _ hne⟩
theorem Rr.put {w0 : World} {p q : Nat} {x : ByteArray} {rest : List ByteArray} {w : World} (h : Rr w0 p q (x :: rest) w) (o c c' n : Nat) (a' : Option Addr) (hb : w.heap[p]? = some (.cells #[.slice (some ⟨q, o, none⟩) (x :: rest).length c] 86 (0, 0))) (hn : n = rest.length) (hc : rest.length ≤ c') (ha : a' = some ⟨q, o + 1, none⟩ ∨ rest = []) :
    Rr w0 p q rest (w.setCell ⟨p, 0, none⟩ (.slice a' n c')) := ⟨h.is.put o c c' n a' hb hn hc ha, h.bel.setCell (p := ⟨p, 0, none⟩) h.base _, h.base⟩
set_option maxRecDepth 100000 in
set_option maxHeartbeats 2000000 in
theorem c_rword {w0 : World} {p q : Nat} {ws : List ByteArray} {w : World} (h : Rr w0 p q ws w) :
    Calls Tryz.prog 110 #[.pointer (some ⟨p, 0, none⟩)] w fun e w' => RdR (fun x v _ => v = .string x) (rWord ws) w0 p q w e w' := by
  have H := Lib.hid h
  obtain ⟨a, c, hb, hc, hk⟩ := h.is.blk
  have c0 : w.cell? ⟨p, 0, none⟩ = some (.slice a ws.length c) := by simp [World.cell?, hb]
  have f0 : w.frozen? ⟨p, 0, none⟩ = false := by simp [World.frozen?, hb]
  cases ws with
  | nil =>
    clear h hb hk f0
    go_enter Tryz.func110, Tryz.ntmps110
    go_wp2_with (go_at_call 43; refine (c_need0 _ (by simp) _).mono ?_)
    rintro e w1 ⟨rfl, rfl⟩
    exact ⟨rfl, Or.inr ⟨rfl, rfl, H.out.bel⟩, FrR.below (Below.refl _ _)⟩
  | cons x rest =>
    obtain ⟨o, rfl, hx⟩ := hk 0 x rfl
    have HB := Lib.hid hb
    have HC := Lib.hid hc
    have HL := Lib.hid (show (x :: rest).length = rest.length + 1 from rfl)
    have hle : (1 : Int) ≤ ((x :: rest).length : Int) := by simp; omega
    have hn : 0 < (x :: rest).length := by simp
    rw [Nat.add_zero] at hx
    clear h hb hk hc
    generalize (x :: rest).length = n at c0 HL hle hn
    go_enter Tryz.func110, Tryz.ntmps110
    go_wp2_with (go_at_call 43; refine (c_need1 _ (by first | (simp; omega) | simp) _).mono ?_)
    rintro e w1 ⟨rfl, rfl⟩
    go_wp2
    all_goals
      go_ret
      refine ⟨Or.inl ⟨x, rest, _, rfl, rfl, rfl, H.out.put o c _ _ _ HB.out (by have := HL.out; omega) (by have := HC.out; simp at this; omega) ?_⟩, FrR.put _ _ _⟩
      first | exact Or.inl rfl | (right; have := HC.out; have := HL.out; simp at *; exact List.length_eq_zero_iff.1 (by omega))
theorem c_atoix (s : ByteArray) (hs : s.size ≤ 140737488351232) (w : World) (hg : Gl w) :
    Calls Tryz.prog 111 #[.string s] w fun e w' => ((∃ n, Lib.atoiAll s.data.toList = .ok n ∧ e = .returned (.tuple #[.int .i64 n, .nilIface])) ∨ ((∀ n, Lib.atoiAll s.data.toList ≠ .ok n) ∧ ∃ n T v, e = .returned (.tuple #[.int .i64 n, .iface T v]))) ∧ Below w.heap.size w w' := by
  obtain ⟨t1, p1, h1⟩ := hg.syn
  obtain ⟨t2, p2, h2⟩ := hg.ran
  cases ha : Lib.atoiAll s.data.toList with
  | ok v =>
    refine (Tryz.strconv_Atoi_ok s (by omega) v ha w).mono ?_
    rintro e w' ⟨rfl, hw⟩
    refine ⟨Or.inl ⟨v, rfl, rfl⟩, ?_⟩
    rcases hw with rfl | ⟨t, rfl⟩
    · exact Below.refl _ _
    · exact Lib.bytesWorld_below _ _ _
  | range =>
    refine (Tryz.strconv_Atoi_range s (by omega) ha _ w h2 (Or.inr ⟨_, _, rfl⟩)).mono ?_
    rintro e w' ⟨N, rfl, _, _, hb⟩
    exact ⟨Or.inr ⟨fun n h => (by cases h), _, _, _, rfl⟩, hb⟩
  | _ =>
    refine (Tryz.strconv_Atoi_syntax s (by omega) ha _ w h1 (Or.inr ⟨_, _, rfl⟩)).mono ?_
    rintro e w' ⟨N, rfl, _, _, hb⟩
    exact ⟨Or.inr ⟨fun n h => (by cases h), _, _, _, rfl⟩, hb⟩
theorem rWord_mem {ws : List ByteArray} {s : ByteArray} {rest : List ByteArray} (h : rWord ws = some (s, rest)) : ws = s :: rest := by
  cases ws with
  | nil => cases h
  | cons y r =>
    obtain ⟨rfl, rfl⟩ : y = s ∧ r = rest := by simpa [rWord] using h
    rfl
theorem rNum_none {ws : List ByteArray} (h : rWord ws = none) : rNum ws = none := by unfold rNum Pr.then; rw [h]
set_option maxRecDepth 100000 in
set_option maxHeartbeats 2000000 in
theorem c_rnum {w0 : World} (hg : Gv w0) {p q : Nat} {ws : List ByteArray} {w : World} (h : Rr w0 p q ws w) :
    Calls Tryz.prog 78 #[.pointer (some ⟨p, 0, none⟩)] w fun e w' => RdR (fun x v _ => v = .int .i64 x) (rNum ws) w0 p q w e w' := by
  have C0 := Lib.hid (fun (_ : Unit) => c_rword h)
  have HSZ := Lib.hid h.is.szs
  have HG := Lib.hid hg
  clear h hg
  go_enter Tryz.func78, Tryz.ntmps78
  go_wp2_with fail
  refine (C0.out ()).mono ?_
  rintro e w1 ⟨⟨s, rest, v, hx, rfl, rfl, h1⟩ | ⟨hx, rfl, hb⟩, hf⟩
  case inr => exact ⟨rfl, Or.inr ⟨rNum_none hx, rfl, hb⟩, hf⟩
  have HX := Lib.hid (show rNum ws = (match Lib.atoiAll s.data.toList with | .ok n => some (n, rest) | _ => none) by unfold rNum Pr.then; rw [hx]; rfl)
  have HSS := Lib.hid (show s.size ≤ 1000000 from HSZ.out s (by rw [rWord_mem hx]; simp))
  have H1 := Lib.hid h1
  have HF := Lib.hid hf
  clear hx hf h1 C0 HSZ
  go_wp2_with fail
  refine (c_atoix s (by have := HSS.out; omega) _ (H1.out.gv HG.out).gl).mono ?_
  rintro e w2 ⟨⟨n, ha, rfl⟩ | ⟨ha, n, T, v, rfl⟩, hb⟩
  · have HA := Lib.hid (show rNum ws = some (n, rest) by rw [HX.out, ha])
    have H2 := Lib.hid (H1.out.keep hb)
    have HF2 := Lib.hid (HF.out.trans (FrR.below hb))
    clear ha hb HX
    go_wp2_with (go_at_call 43; refine (c_need1 _ rfl _).mono ?_)
    rintro e w3 ⟨rfl, rfl⟩
    go_wp2
    go_ret
    exact ⟨Or.inl ⟨n, rest, _, HA.out, rfl, rfl, H2.out⟩, HF2.out⟩
  · have HA := Lib.hid (show rNum ws = none by
      rw [HX.out]
      split
      · rename_i n' hn
        exact absurd hn (ha n')
      · rfl)
    have H2 := Lib.hid (H1.out.keep hb)
    have HF2 := Lib.hid (HF.out.trans (FrR.below hb))
    clear ha hb HX
    go_wp2_with (go_at_call 43; refine (c_need0 _ rfl _).mono ?_)
    rintro e w3 ⟨rfl, rfl⟩
    exact ⟨rfl, Or.inr ⟨HA.out, rfl, H2.out.bel⟩, HF2.out⟩
end Go.Proofs.YtkogcobcjoojnaaGreatDoor.Fl

namespace Go.Proofs.YtkogcobcjoojnaaGreatDoor.Fl
open Go.RowKit Go.Maps
set_option linter.unusedVariables false
set_option linter.unusedSimpArgs false
/-- Pointers to cells of block b. -/
def ptrs (b : Nat) (l : List Nat) : List Value := l.map fun i => Value.pointer (some ⟨b, i, none⟩)
/-- The cells of an event's numbers. -/
def fieldsC (k : Int) : List Nat := (fieldsK k).map (· + 1)
def knobsC (k : Int) : List Nat := if k = 1 then [4, 5, 6] else if k = 3 then [3] else if k = 5 then [4] else []
set_option maxRecDepth 100000 in
set_option maxHeartbeats 2000000 in
theorem c_fields1 (b : Nat) (w : World) (hc : w.cell? ⟨b, 0, none⟩ = some (.int .i64 1)) : Calls Tryz.prog 24 #[.pointer (some ⟨b, 0, none⟩)] w fun e w' => ∃ v, e = .returned v ∧ v = .slice (some ⟨w.heap.size, 0, none⟩) (fieldsC 1).length (fieldsC 1).length ∧ w'.heap[w.heap.size]? = some (.cells (ptrs b (fieldsC 1)).toArray 70 (0, 0)) ∧ Below w.heap.size w w' := by
  go_enter Tryz.func24, Tryz.ntmps24
  go_wp2
  try (go_region; go_wp2)
  go_ret
  refine ⟨_, rfl, rfl, ?_, ?_⟩
  · first | (rw [heap_alloc_new]; rfl) | (show (w.alloc _).heap[_]? = _; rw [heap_alloc_new]; rfl)
  · first | exact (Below.refl _ w).alloc (Nat.le_refl _) _ | exact ((Below.refl _ w).alloc (Nat.le_refl _) _).drew
set_option maxRecDepth 100000 in
set_option maxHeartbeats 2000000 in
theorem c_fields2 (b : Nat) (w : World) (hc : w.cell? ⟨b, 0, none⟩ = some (.int .i64 2)) : Calls Tryz.prog 24 #[.pointer (some ⟨b, 0, none⟩)] w fun e w' => ∃ v, e = .returned v ∧ v = .slice (some ⟨w.heap.size, 0, none⟩) (fieldsC 2).length (fieldsC 2).length ∧ w'.heap[w.heap.size]? = some (.cells (ptrs b (fieldsC 2)).toArray 70 (0, 0)) ∧ Below w.heap.size w w' := by
  go_enter Tryz.func24, Tryz.ntmps24
  go_wp2
  try (go_region; go_wp2)
  go_ret
  refine ⟨_, rfl, rfl, ?_, ?_⟩
  · first | (rw [heap_alloc_new]; rfl) | (show (w.alloc _).heap[_]? = _; rw [heap_alloc_new]; rfl)
  · first | exact (Below.refl _ w).alloc (Nat.le_refl _) _ | exact ((Below.refl _ w).alloc (Nat.le_refl _) _).drew
set_option maxRecDepth 100000 in
set_option maxHeartbeats 2000000 in
theorem c_fields3 (b : Nat) (w : World) (hc : w.cell? ⟨b, 0, none⟩ = some (.int .i64 3)) : Calls Tryz.prog 24 #[.pointer (some ⟨b, 0, none⟩)] w fun e w' => ∃ v, e = .returned v ∧ v = .slice (some ⟨w.heap.size, 0, none⟩) (fieldsC 3).length (fieldsC 3).length ∧ w'.heap[w.heap.size]? = some (.cells (ptrs b (fieldsC 3)).toArray 70 (0, 0)) ∧ Below w.heap.size w w' := by
  go_enter Tryz.func24, Tryz.ntmps24
  go_wp2
  try (go_region; go_wp2)
  go_ret
  refine ⟨_, rfl, rfl, ?_, ?_⟩
  · first | (rw [heap_alloc_new]; rfl) | (show (w.alloc _).heap[_]? = _; rw [heap_alloc_new]; rfl)
  · first | exact (Below.refl _ w).alloc (Nat.le_refl _) _ | exact ((Below.refl _ w).alloc (Nat.le_refl _) _).drew
set_option maxRecDepth 100000 in
set_option maxHeartbeats 2000000 in
theorem c_fields4 (b : Nat) (w : World) (hc : w.cell? ⟨b, 0, none⟩ = some (.int .i64 4)) : Calls Tryz.prog 24 #[.pointer (some ⟨b, 0, none⟩)] w fun e w' => ∃ v, e = .returned v ∧ v = .slice (some ⟨w.heap.size, 0, none⟩) (fieldsC 4).length (fieldsC 4).length ∧ w'.heap[w.heap.size]? = some (.cells (ptrs b (fieldsC 4)).toArray 70 (0, 0)) ∧ Below w.heap.size w w' := by
  go_enter Tryz.func24, Tryz.ntmps24
  go_wp2
  try (go_region; go_wp2)
  go_ret
  refine ⟨_, rfl, rfl, ?_, ?_⟩
  · first | (rw [heap_alloc_new]; rfl) | (show (w.alloc _).heap[_]? = _; rw [heap_alloc_new]; rfl)
  · first | exact (Below.refl _ w).alloc (Nat.le_refl _) _ | exact ((Below.refl _ w).alloc (Nat.le_refl _) _).drew
set_option maxRecDepth 100000 in
set_option maxHeartbeats 2000000 in
theorem c_fields5 (b : Nat) (w : World) (hc : w.cell? ⟨b, 0, none⟩ = some (.int .i64 5)) : Calls Tryz.prog 24 #[.pointer (some ⟨b, 0, none⟩)] w fun e w' => ∃ v, e = .returned v ∧ v = .slice (some ⟨w.heap.size, 0, none⟩) (fieldsC 5).length (fieldsC 5).length ∧ w'.heap[w.heap.size]? = some (.cells (ptrs b (fieldsC 5)).toArray 70 (0, 0)) ∧ Below w.heap.size w w' := by
  go_enter Tryz.func24, Tryz.ntmps24
  go_wp2
  try (go_region; go_wp2)
  go_ret
  refine ⟨_, rfl, rfl, ?_, ?_⟩
  · first | (rw [heap_alloc_new]; rfl) | (show (w.alloc _).heap[_]? = _; rw [heap_alloc_new]; rfl)
  · first | exact (Below.refl _ w).alloc (Nat.le_refl _) _ | exact ((Below.refl _ w).alloc (Nat.le_refl _) _).drew
set_option maxRecDepth 100000 in
set_option maxHeartbeats 2000000 in
theorem c_fields6 (b : Nat) (w : World) (hc : w.cell? ⟨b, 0, none⟩ = some (.int .i64 6)) : Calls Tryz.prog 24 #[.pointer (some ⟨b, 0, none⟩)] w fun e w' => ∃ v, e = .returned v ∧ v = .slice (some ⟨w.heap.size, 0, none⟩) (fieldsC 6).length (fieldsC 6).length ∧ w'.heap[w.heap.size]? = some (.cells (ptrs b (fieldsC 6)).toArray 70 (0, 0)) ∧ Below w.heap.size w w' := by
  go_enter Tryz.func24, Tryz.ntmps24
  go_wp2
  try (go_region; go_wp2)
  go_ret
  refine ⟨_, rfl, rfl, ?_, ?_⟩
  · first | (rw [heap_alloc_new]; rfl) | (show (w.alloc _).heap[_]? = _; rw [heap_alloc_new]; rfl)
  · first | exact (Below.refl _ w).alloc (Nat.le_refl _) _ | exact ((Below.refl _ w).alloc (Nat.le_refl _) _).drew
set_option maxRecDepth 100000 in
set_option maxHeartbeats 2000000 in
theorem c_fields7 (b : Nat) (w : World) (hc : w.cell? ⟨b, 0, none⟩ = some (.int .i64 7)) : Calls Tryz.prog 24 #[.pointer (some ⟨b, 0, none⟩)] w fun e w' => ∃ v, e = .returned v ∧ v = .slice (some ⟨w.heap.size, 0, none⟩) (fieldsC 7).length (fieldsC 7).length ∧ w'.heap[w.heap.size]? = some (.cells (ptrs b (fieldsC 7)).toArray 70 (0, 0)) ∧ Below w.heap.size w w' := by
  go_enter Tryz.func24, Tryz.ntmps24
  go_wp2
  try (go_region; go_wp2)
  go_ret
  refine ⟨_, rfl, rfl, ?_, ?_⟩
  · first | (rw [heap_alloc_new]; rfl) | (show (w.alloc _).heap[_]? = _; rw [heap_alloc_new]; rfl)
  · first | exact (Below.refl _ w).alloc (Nat.le_refl _) _ | exact ((Below.refl _ w).alloc (Nat.le_refl _) _).drew
set_option maxRecDepth 100000 in
set_option maxHeartbeats 2000000 in
theorem c_fields8 (b : Nat) (w : World) (hc : w.cell? ⟨b, 0, none⟩ = some (.int .i64 8)) : Calls Tryz.prog 24 #[.pointer (some ⟨b, 0, none⟩)] w fun e w' => ∃ v, e = .returned v ∧ v = .slice (some ⟨w.heap.size, 0, none⟩) (fieldsC 8).length (fieldsC 8).length ∧ w'.heap[w.heap.size]? = some (.cells (ptrs b (fieldsC 8)).toArray 70 (0, 0)) ∧ Below w.heap.size w w' := by
  go_enter Tryz.func24, Tryz.ntmps24
  go_wp2
  try (go_region; go_wp2)
  go_ret
  refine ⟨_, rfl, rfl, ?_, ?_⟩
  · first | (rw [heap_alloc_new]; rfl) | (show (w.alloc _).heap[_]? = _; rw [heap_alloc_new]; rfl)
  · first | exact (Below.refl _ w).alloc (Nat.le_refl _) _ | exact ((Below.refl _ w).alloc (Nat.le_refl _) _).drew
set_option maxRecDepth 100000 in
set_option maxHeartbeats 2000000 in
theorem c_fields9 (b : Nat) (w : World) (hc : w.cell? ⟨b, 0, none⟩ = some (.int .i64 9)) : Calls Tryz.prog 24 #[.pointer (some ⟨b, 0, none⟩)] w fun e w' => ∃ v, e = .returned v ∧ v = .slice (some ⟨w.heap.size, 0, none⟩) (fieldsC 9).length (fieldsC 9).length ∧ w'.heap[w.heap.size]? = some (.cells (ptrs b (fieldsC 9)).toArray 70 (0, 0)) ∧ Below w.heap.size w w' := by
  go_enter Tryz.func24, Tryz.ntmps24
  go_wp2
  try (go_region; go_wp2)
  go_ret
  refine ⟨_, rfl, rfl, ?_, ?_⟩
  · first | (rw [heap_alloc_new]; rfl) | (show (w.alloc _).heap[_]? = _; rw [heap_alloc_new]; rfl)
  · first | exact (Below.refl _ w).alloc (Nat.le_refl _) _ | exact ((Below.refl _ w).alloc (Nat.le_refl _) _).drew
set_option maxRecDepth 100000 in
set_option maxHeartbeats 2000000 in
theorem c_fields10 (b : Nat) (w : World) (hc : w.cell? ⟨b, 0, none⟩ = some (.int .i64 10)) : Calls Tryz.prog 24 #[.pointer (some ⟨b, 0, none⟩)] w fun e w' => ∃ v, e = .returned v ∧ v = .slice (some ⟨w.heap.size, 0, none⟩) (fieldsC 10).length (fieldsC 10).length ∧ w'.heap[w.heap.size]? = some (.cells (ptrs b (fieldsC 10)).toArray 70 (0, 0)) ∧ Below w.heap.size w w' := by
  go_enter Tryz.func24, Tryz.ntmps24
  go_wp2
  try (go_region; go_wp2)
  go_ret
  refine ⟨_, rfl, rfl, ?_, ?_⟩
  · first | (rw [heap_alloc_new]; rfl) | (show (w.alloc _).heap[_]? = _; rw [heap_alloc_new]; rfl)
  · first | exact (Below.refl _ w).alloc (Nat.le_refl _) _ | exact ((Below.refl _ w).alloc (Nat.le_refl _) _).drew
set_option maxRecDepth 100000 in
set_option maxHeartbeats 2000000 in
theorem c_fields11 (b : Nat) (w : World) (hc : w.cell? ⟨b, 0, none⟩ = some (.int .i64 11)) : Calls Tryz.prog 24 #[.pointer (some ⟨b, 0, none⟩)] w fun e w' => ∃ v, e = .returned v ∧ v = .slice (some ⟨w.heap.size, 0, none⟩) (fieldsC 11).length (fieldsC 11).length ∧ w'.heap[w.heap.size]? = some (.cells (ptrs b (fieldsC 11)).toArray 70 (0, 0)) ∧ Below w.heap.size w w' := by
  go_enter Tryz.func24, Tryz.ntmps24
  go_wp2
  try (go_region; go_wp2)
  go_ret
  refine ⟨_, rfl, rfl, ?_, ?_⟩
  · first | (rw [heap_alloc_new]; rfl) | (show (w.alloc _).heap[_]? = _; rw [heap_alloc_new]; rfl)
  · first | exact (Below.refl _ w).alloc (Nat.le_refl _) _ | exact ((Below.refl _ w).alloc (Nat.le_refl _) _).drew
set_option maxRecDepth 100000 in
set_option maxHeartbeats 2000000 in
theorem c_fields12 (b : Nat) (w : World) (hc : w.cell? ⟨b, 0, none⟩ = some (.int .i64 12)) : Calls Tryz.prog 24 #[.pointer (some ⟨b, 0, none⟩)] w fun e w' => ∃ v, e = .returned v ∧ v = .slice (some ⟨w.heap.size, 0, none⟩) (fieldsC 12).length (fieldsC 12).length ∧ w'.heap[w.heap.size]? = some (.cells (ptrs b (fieldsC 12)).toArray 70 (0, 0)) ∧ Below w.heap.size w w' := by
  go_enter Tryz.func24, Tryz.ntmps24
  go_wp2
  try (go_region; go_wp2)
  go_ret
  refine ⟨_, rfl, rfl, ?_, ?_⟩
  · first | (rw [heap_alloc_new]; rfl) | (show (w.alloc _).heap[_]? = _; rw [heap_alloc_new]; rfl)
  · first | exact (Below.refl _ w).alloc (Nat.le_refl _) _ | exact ((Below.refl _ w).alloc (Nat.le_refl _) _).drew
set_option maxRecDepth 100000 in
set_option maxHeartbeats 2000000 in
theorem c_fields13 (b : Nat) (w : World) (hc : w.cell? ⟨b, 0, none⟩ = some (.int .i64 13)) : Calls Tryz.prog 24 #[.pointer (some ⟨b, 0, none⟩)] w fun e w' => ∃ v, e = .returned v ∧ v = .slice (some ⟨w.heap.size, 0, none⟩) (fieldsC 13).length (fieldsC 13).length ∧ w'.heap[w.heap.size]? = some (.cells (ptrs b (fieldsC 13)).toArray 70 (0, 0)) ∧ Below w.heap.size w w' := by
  go_enter Tryz.func24, Tryz.ntmps24
  go_wp2
  try (go_region; go_wp2)
  go_ret
  refine ⟨_, rfl, rfl, ?_, ?_⟩
  · first | (rw [heap_alloc_new]; rfl) | (show (w.alloc _).heap[_]? = _; rw [heap_alloc_new]; rfl)
  · first | exact (Below.refl _ w).alloc (Nat.le_refl _) _ | exact ((Below.refl _ w).alloc (Nat.le_refl _) _).drew
set_option maxRecDepth 100000 in
set_option maxHeartbeats 2000000 in
theorem c_knobs1 (b : Nat) (w : World) (hc : w.cell? ⟨b, 0, none⟩ = some (.int .i64 1)) : Calls Tryz.prog 104 #[.pointer (some ⟨b, 0, none⟩)] w fun e w' => ∃ v, e = .returned v ∧ v = .slice (some ⟨w.heap.size, 0, none⟩) (knobsC 1).length (knobsC 1).length ∧ w'.heap[w.heap.size]? = some (.cells (ptrs b (knobsC 1)).toArray 70 (0, 0)) ∧ Below w.heap.size w w' := by
  go_enter Tryz.func104, Tryz.ntmps104
  go_wp2
  try (go_region; go_wp2)
  go_ret
  refine ⟨_, rfl, rfl, ?_, ?_⟩
  · first | (rw [heap_alloc_new]; rfl) | (show (w.alloc _).heap[_]? = _; rw [heap_alloc_new]; rfl)
  · first | exact (Below.refl _ w).alloc (Nat.le_refl _) _ | exact ((Below.refl _ w).alloc (Nat.le_refl _) _).drew
set_option maxRecDepth 100000 in
set_option maxHeartbeats 2000000 in
theorem c_knobs2 (b : Nat) (w : World) (hc : w.cell? ⟨b, 0, none⟩ = some (.int .i64 2)) : Calls Tryz.prog 104 #[.pointer (some ⟨b, 0, none⟩)] w fun e w' => e = .returned (.slice none 0 0) ∧ w' = w := by
  go_enter Tryz.func104, Tryz.ntmps104
  go_wp2
  go_ret
  exact ⟨rfl, rfl⟩
set_option maxRecDepth 100000 in
set_option maxHeartbeats 2000000 in
theorem c_knobs3 (b : Nat) (w : World) (hc : w.cell? ⟨b, 0, none⟩ = some (.int .i64 3)) : Calls Tryz.prog 104 #[.pointer (some ⟨b, 0, none⟩)] w fun e w' => ∃ v, e = .returned v ∧ v = .slice (some ⟨w.heap.size, 0, none⟩) (knobsC 3).length (knobsC 3).length ∧ w'.heap[w.heap.size]? = some (.cells (ptrs b (knobsC 3)).toArray 70 (0, 0)) ∧ Below w.heap.size w w' := by
  go_enter Tryz.func104, Tryz.ntmps104
  go_wp2
  try (go_region; go_wp2)
  go_ret
  refine ⟨_, rfl, rfl, ?_, ?_⟩
  · first | (rw [heap_alloc_new]; rfl) | (show (w.alloc _).heap[_]? = _; rw [heap_alloc_new]; rfl)
  · first | exact (Below.refl _ w).alloc (Nat.le_refl _) _ | exact ((Below.refl _ w).alloc (Nat.le_refl _) _).drew
set_option maxRecDepth 100000 in
set_option maxHeartbeats 2000000 in
theorem c_knobs4 (b : Nat) (w : World) (hc : w.cell? ⟨b, 0, none⟩ = some (.int .i64 4)) : Calls Tryz.prog 104 #[.pointer (some ⟨b, 0, none⟩)] w fun e w' => e = .returned (.slice none 0 0) ∧ w' = w := by
  go_enter Tryz.func104, Tryz.ntmps104
  go_wp2
  go_ret
  exact ⟨rfl, rfl⟩
set_option maxRecDepth 100000 in
set_option maxHeartbeats 2000000 in
theorem c_knobs5 (b : Nat) (w : World) (hc : w.cell? ⟨b, 0, none⟩ = some (.int .i64 5)) : Calls Tryz.prog 104 #[.pointer (some ⟨b, 0, none⟩)] w fun e w' => ∃ v, e = .returned v ∧ v = .slice (some ⟨w.heap.size, 0, none⟩) (knobsC 5).length (knobsC 5).length ∧ w'.heap[w.heap.size]? = some (.cells (ptrs b (knobsC 5)).toArray 70 (0, 0)) ∧ Below w.heap.size w w' := by
  go_enter Tryz.func104, Tryz.ntmps104
  go_wp2
  try (go_region; go_wp2)
  go_ret
  refine ⟨_, rfl, rfl, ?_, ?_⟩
  · first | (rw [heap_alloc_new]; rfl) | (show (w.alloc _).heap[_]? = _; rw [heap_alloc_new]; rfl)
  · first | exact (Below.refl _ w).alloc (Nat.le_refl _) _ | exact ((Below.refl _ w).alloc (Nat.le_refl _) _).drew
theorem c_fields (b : Nat) (k : Int) (hk : 1 ≤ k ∧ k ≤ 13) (w : World) (hc : w.cell? ⟨b, 0, none⟩ = some (.int .i64 k)) : Calls Tryz.prog 24 #[.pointer (some ⟨b, 0, none⟩)] w fun e w' => ∃ v, e = .returned v ∧ v = .slice (some ⟨w.heap.size, 0, none⟩) (fieldsC k).length (fieldsC k).length ∧ w'.heap[w.heap.size]? = some (.cells (ptrs b (fieldsC k)).toArray 70 (0, 0)) ∧ Below w.heap.size w w' := by
  have : k = 1 ∨ k = 2 ∨ k = 3 ∨ k = 4 ∨ k = 5 ∨ k = 6 ∨ k = 7 ∨ k = 8 ∨ k = 9 ∨ k = 10 ∨ k = 11 ∨ k = 12 ∨ k = 13 := by omega
  rcases this with rfl | rfl | rfl | rfl | rfl | rfl | rfl | rfl | rfl | rfl | rfl | rfl | rfl
  · exact c_fields1 b w hc
  · exact c_fields2 b w hc
  · exact c_fields3 b w hc
  · exact c_fields4 b w hc
  · exact c_fields5 b w hc
  · exact c_fields6 b w hc
  · exact c_fields7 b w hc
  · exact c_fields8 b w hc
  · exact c_fields9 b w hc
  · exact c_fields10 b w hc
  · exact c_fields11 b w hc
  · exact c_fields12 b w hc
  · exact c_fields13 b w hc
end Go.Proofs.YtkogcobcjoojnaaGreatDoor.Fl
