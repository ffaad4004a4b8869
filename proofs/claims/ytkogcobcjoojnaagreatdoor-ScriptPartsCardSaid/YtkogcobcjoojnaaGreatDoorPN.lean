/- Script: how much is looked at: LongRequest, Great. -/
import Derived.Test.YtkogcobcjoojnaaGreatDoorPM
namespace Go.Proofs.YtkogcobcjoojnaaGreatDoor.Fl
open Go.RowKit Go.Maps
set_option linter.unusedVariables false
set_option linter.unusedSimpArgs false
/-- A bool, of which P. -/
def AnyB (e : Ending) (P : Bool → Prop) : Prop := ∃ b, e = .returned (.bool b) ∧ P b
set_option maxRecDepth 100000 in
set_option maxHeartbeats 8000000 in
theorem c_longreq (q : ReqE) (a : Option Addr) (c : Nat) (fa : Option Addr) (fc : Nat) (w : World) (hm : HasM w (.slice a q.muts.length c) q.muts) (hf : HasS w (.slice fa q.fil.fams.length fc) q.fil.fams) :
    Calls Tryz.prog 19 #[.agg (qcells (.slice a q.muts.length c) (.slice fa q.fil.fams.length fc) q)] w fun e w' => AnyB e (fun b => b = false → q.muts.length ≤ 20 ∧ q.fil.fams.length ≤ 20) ∧ Below w.heap.size w w' := by
  unfold qcells
  have HM := Lib.hid hm
  have HF := Lib.hid hf
  clear hm hf
  have HX0 := Lib.hid (Bx.start w #[.int .i64 q.kind, .string q.row, .string q.stop, .slice a q.muts.length c, .string q.fam, .string q.qual, .int .i64 q.vk, .int .i64 q.vn, .string q.vs, .slice fa q.fil.fams.length fc, .string q.fil.lo, .string q.fil.hi, .int .i64 q.fil.since, .int .i64 q.fil.til, .int .i64 q.fil.versions, .int .i64 q.fil.rows] 35)
  have x1 := HX0.out.cell 1 (.string q.row) rfl
  have x2 := HX0.out.cell 2 (.string q.stop) rfl
  have x3 := HX0.out.cell 3 (.slice a q.muts.length c) rfl
  have x4 := HX0.out.cell 4 (.string q.fam) rfl
  have x5 := HX0.out.cell 5 (.string q.qual) rfl
  have x8 := HX0.out.cell 8 (.string q.vs) rfl
  have x9 := HX0.out.cell 9 (.slice fa q.fil.fams.length fc) rfl
  have x10 := HX0.out.cell 10 (.string q.fil.lo) rfl
  have x11 := HX0.out.cell 11 (.string q.fil.hi) rfl
  by_cases n0 : 100 < (q.row.size : Int)
  case pos =>
    have t0 : decide (100 < (q.row.size : Int)) = true := decide_eq_true n0
    clear n0
    go_enter Tryz.func19, Tryz.ntmps19
    go_wp2
    go_ret
    exact ⟨⟨true, rfl, fun h => (nomatch h)⟩, HX0.out.bel⟩
  have t0 : decide (100 < (q.row.size : Int)) = false := decide_eq_false n0
  by_cases n1 : 100 < (q.stop.size : Int)
  case pos =>
    have t1 : decide (100 < (q.stop.size : Int)) = true := decide_eq_true n1
    clear n1
    go_enter Tryz.func19, Tryz.ntmps19
    go_wp2
    go_ret
    exact ⟨⟨true, rfl, fun h => (nomatch h)⟩, HX0.out.bel⟩
  have t1 : decide (100 < (q.stop.size : Int)) = false := decide_eq_false n1
  by_cases n2 : 100 < (q.fam.size : Int)
  case pos =>
    have t2 : decide (100 < (q.fam.size : Int)) = true := decide_eq_true n2
    clear n2
    go_enter Tryz.func19, Tryz.ntmps19
    go_wp2
    go_ret
    exact ⟨⟨true, rfl, fun h => (nomatch h)⟩, HX0.out.bel⟩
  have t2 : decide (100 < (q.fam.size : Int)) = false := decide_eq_false n2
  by_cases n3 : 100 < (q.qual.size : Int)
  case pos =>
    have t3 : decide (100 < (q.qual.size : Int)) = true := decide_eq_true n3
    clear n3
    go_enter Tryz.func19, Tryz.ntmps19
    go_wp2
    go_ret
    exact ⟨⟨true, rfl, fun h => (nomatch h)⟩, HX0.out.bel⟩
  have t3 : decide (100 < (q.qual.size : Int)) = false := decide_eq_false n3
  by_cases n4 : 100 < (q.vs.size : Int)
  case pos =>
    have t4 : decide (100 < (q.vs.size : Int)) = true := decide_eq_true n4
    clear n4
    go_enter Tryz.func19, Tryz.ntmps19
    go_wp2
    go_ret
    exact ⟨⟨true, rfl, fun h => (nomatch h)⟩, HX0.out.bel⟩
  have t4 : decide (100 < (q.vs.size : Int)) = false := decide_eq_false n4
  by_cases n5 : 20 < (q.muts.length : Int)
  case pos =>
    have t5 : decide (20 < (q.muts.length : Int)) = true := decide_eq_true n5
    clear n5
    go_enter Tryz.func19, Tryz.ntmps19
    go_wp2
    go_ret
    exact ⟨⟨true, rfl, fun h => (nomatch h)⟩, HX0.out.bel⟩
  have t5 : decide (20 < (q.muts.length : Int)) = false := decide_eq_false n5
  by_cases n6 : 20 < (q.fil.fams.length : Int)
  case pos =>
    have t6 : decide (20 < (q.fil.fams.length : Int)) = true := decide_eq_true n6
    clear n6
    go_enter Tryz.func19, Tryz.ntmps19
    go_wp2
    go_ret
    exact ⟨⟨true, rfl, fun h => (nomatch h)⟩, HX0.out.bel⟩
  have t6 : decide (20 < (q.fil.fams.length : Int)) = false := decide_eq_false n6
  by_cases n7 : 100 < (q.fil.lo.size : Int)
  case pos =>
    have t7 : decide (100 < (q.fil.lo.size : Int)) = true := decide_eq_true n7
    clear n7
    go_enter Tryz.func19, Tryz.ntmps19
    go_wp2
    go_ret
    exact ⟨⟨true, rfl, fun h => (nomatch h)⟩, HX0.out.bel⟩
  have t7 : decide (100 < (q.fil.lo.size : Int)) = false := decide_eq_false n7
  by_cases n8 : 100 < (q.fil.hi.size : Int)
  case pos =>
    have t8 : decide (100 < (q.fil.hi.size : Int)) = true := decide_eq_true n8
    clear n8
    go_enter Tryz.func19, Tryz.ntmps19
    go_wp2
    go_ret
    exact ⟨⟨true, rfl, fun h => (nomatch h)⟩, HX0.out.bel⟩
  have t8 : decide (100 < (q.fil.hi.size : Int)) = false := decide_eq_false n8
  have HL := Lib.hid (show q.muts.length ≤ 20 ∧ q.fil.fams.length ≤ 20 by omega)
  clear n0 n1 n2 n3 n4 n5 n6 n7 n8
  go_enter Tryz.func19, Tryz.ntmps19
  go_wp2
  clear t0 t1 t2 t3 t4 t5 t6 t7 t8 x1 x2 x3 x4 x5 x8 x9 x10 x11
  go_loopw [3] (fun v3 W => ∃ i : Nat, i ≤ q.fil.fams.length ∧ v3 = .int .i64 i ∧ Hid (Bx w #[.int .i64 q.kind, .string q.row, .string q.stop, .slice a q.muts.length c, .string q.fam, .string q.qual, .int .i64 q.vk, .int .i64 q.vn, .string q.vs, .slice fa q.fil.fams.length fc, .string q.fil.lo, .string q.fil.hi, .int .i64 q.fil.since, .int .i64 q.fil.til, .int .i64 q.fil.versions, .int .i64 q.fil.rows] 35 W)) (fun v3 _ => q.fil.fams.length - (intOf v3).toNat)
  case atStart => exact ⟨0, by omega, rfl, HX0⟩
  case round =>
    obtain ⟨i, hi2, rfl, HX⟩ := hrel
    clear HX0
    have x9 := HX.out.cell 9 (.slice fa q.fil.fams.length fc) rfl
    by_cases hlt : i < q.fil.fams.length
    · have t1 : decide ((i : Int) < (q.fil.fams.length : Int)) = true := decide_eq_true (by omega)
      have hk0 : (0 : Int) ≤ (i : Int) := by omega
      have hk1 : (i : Int) < (q.fil.fams.length : Int) := by omega
      have hk2 : (i : Int) ≤ 20 := by have := HL.out; omega
      obtain ⟨b, o, rfl, _, hc⟩ := (HF.out.keep HX.out.bel).flat (by intro e; rw [e] at hlt; simp at hlt)
      have y0 := hc i _ (List.getElem?_eq_getElem hlt)
      clear hc
      generalize q.fil.fams[i] = s at y0
      by_cases hs : 100 < (s.size : Int)
      · have t2 : decide (100 < (s.size : Int)) = true := decide_eq_true hs
        go_wp2
        go_ret
        exact ⟨⟨true, rfl, fun h => (nomatch h)⟩, HX.out.bel⟩
      · have t2 : decide (100 < (s.size : Int)) = false := decide_eq_false hs
        have HN := Lib.hid (show i + 1 ≤ q.fil.fams.length ∧ i ≤ 20 by have := HL.out; omega)
        go_wp2
        go_roundw
        case rel => exact ⟨i + 1, HN.out.1, by have := HN.out; go_num, HX⟩
        case measure => have := HN.out; simp [intOf]; omega
    · have t1 : decide ((i : Int) < (q.fil.fams.length : Int)) = false := decide_eq_false (by omega)
      go_wp2
      clear t1 x9 hlt hi2
      go_loopw [4] (fun v4 W => ∃ i : Nat, i ≤ q.muts.length ∧ v4 = .int .i64 i ∧ Hid (Bx w #[.int .i64 q.kind, .string q.row, .string q.stop, .slice a q.muts.length c, .string q.fam, .string q.qual, .int .i64 q.vk, .int .i64 q.vn, .string q.vs, .slice fa q.fil.fams.length fc, .string q.fil.lo, .string q.fil.hi, .int .i64 q.fil.since, .int .i64 q.fil.til, .int .i64 q.fil.versions, .int .i64 q.fil.rows] 35 W)) (fun v4 _ => q.muts.length - (intOf v4).toNat)
      case atStart => exact ⟨0, by omega, rfl, HX⟩
      case round =>
        obtain ⟨i, hi2, rfl, HX⟩ := hrel
        have x3 := HX.out.cell 3 (.slice a q.muts.length c) rfl
        by_cases hlt : i < q.muts.length
        · have t1 : decide ((i : Int) < (q.muts.length : Int)) = true := decide_eq_true (by omega)
          have hk0 : (0 : Int) ≤ (i : Int) := by omega
          have hk1 : (i : Int) < (q.muts.length : Int) := by omega
          have hk2 : (i : Int) ≤ 20 := by have := HL.out; omega
          obtain ⟨b, o, rfl, _, hc⟩ := (HM.out.keep HX.out.bel).flat (by intro e; rw [e] at hlt; simp at hlt)
          have hm := List.getElem?_eq_getElem hlt
          generalize q.muts[i] = m at hm
          have y1 := hc i m 1 (.string m.fam) hm rfl
          have y2 := hc i m 2 (.string m.qual) hm rfl
          have y5 := hc i m 5 (.string m.vs) hm rfl
          clear hc hm
          have HN := Lib.hid (show i + 1 ≤ q.muts.length ∧ i ≤ 20 by have := HL.out; omega)
          by_cases n0 : 100 < (m.fam.size : Int)
          case pos =>
            have u0' : decide (100 < (m.fam.size : Int)) = true := decide_eq_true n0
            go_wp2
            go_ret
            exact ⟨⟨true, rfl, fun h => (nomatch h)⟩, HX.out.bel⟩
          have u0' : decide (100 < (m.fam.size : Int)) = false := decide_eq_false n0
          by_cases n1 : 100 < (m.qual.size : Int)
          case pos =>
            have u1' : decide (100 < (m.qual.size : Int)) = true := decide_eq_true n1
            go_wp2
            go_ret
            exact ⟨⟨true, rfl, fun h => (nomatch h)⟩, HX.out.bel⟩
          have u1' : decide (100 < (m.qual.size : Int)) = false := decide_eq_false n1
          by_cases n2 : 100 < (m.vs.size : Int)
          case pos =>
            have u2' : decide (100 < (m.vs.size : Int)) = true := decide_eq_true n2
            go_wp2
            go_ret
            exact ⟨⟨true, rfl, fun h => (nomatch h)⟩, HX.out.bel⟩
          have u2' : decide (100 < (m.vs.size : Int)) = false := decide_eq_false n2
          go_wp2
          go_roundw
          case rel => exact ⟨i + 1, HN.out.1, by have := HN.out; go_num, HX⟩
          case measure => have := HN.out; simp [intOf]; omega
        · have t1 : decide ((i : Int) < (q.muts.length : Int)) = false := decide_eq_false (by omega)
          go_wp2
          go_ret
          exact ⟨⟨false, rfl, fun _ => HL.out⟩, HX.out.bel⟩
theorem range_req {W : World} {b o : Nat} {ms vs : Value} {e : EvE} (h : W.rangeAt b o (ecells ms vs e).toList) : W.rangeAt b (o + 10) (qcells ms vs e.req).toList := fun j v hj => by
  have h1 := h (10 + j) v (by
    rw [ecells_parts]
    have e10 : (eHead e).length = 10 := rfl
    rw [List.append_assoc, List.getElem?_append_right (by omega), e10, show 10 + j - 10 = j by omega]
    have hlt := (List.getElem?_eq_some_iff.1 hj).1
    rw [List.getElem?_append_left hlt]
    exact hj)
  rw [← Nat.add_assoc] at h1
  exact h1
set_option maxRecDepth 100000 in
set_option maxHeartbeats 8000000 in
theorem c_Great (es : List EvE) (v : Value) (w : World) (h : HasE w v es) :
    Calls Tryz.prog 8 #[v] w fun e w' => AnyB e (fun b => b = false → es.length ≤ 150 ∧ ∀ x ∈ es, x.req.muts.length ≤ 20 ∧ x.req.fil.fams.length ≤ 20) ∧ Below w.heap.size w w' := by
  have szQ := szQ
  obtain ⟨a, c, rfl⟩ := hasE_slice h
  have HH := Lib.hid h
  clear h
  by_cases hl : 150 < (es.length : Int)
  case pos =>
    have t0 : decide (150 < (es.length : Int)) = true := decide_eq_true hl
    go_enter Tryz.func8, Tryz.ntmps8
    go_wp2
    go_ret
    exact ⟨⟨true, rfl, fun h => (nomatch h)⟩, Below.refl _ _⟩
  have t0 : decide (150 < (es.length : Int)) = false := decide_eq_false hl
  have HL := Lib.hid (show es.length ≤ 150 by omega)
  clear hl
  go_enter Tryz.func8, Tryz.ntmps8
  go_wp2
  clear t0
  go_loopw [3] (fun v3 W => ∃ i : Nat, i ≤ es.length ∧ v3 = .int .i64 i ∧ Hid (Below w.heap.size w W) ∧ Hid (∀ x ∈ es.take i, x.req.muts.length ≤ 20 ∧ x.req.fil.fams.length ≤ 20)) (fun v3 _ => es.length - (intOf v3).toNat)
  case atStart => exact ⟨0, by omega, rfl, Lib.hid (Below.refl _ _), Lib.hid (fun x hx => by simp at hx)⟩
  case round =>
    obtain ⟨i, hi2, rfl, HW, HA⟩ := hrel
    by_cases hlt : i < es.length
    · have t1 : decide ((i : Int) < (es.length : Int)) = true := decide_eq_true (by omega)
      have hk0 : (0 : Int) ≤ (i : Int) := by omega
      have hk1 : (i : Int) < (es.length : Int) := by omega
      have hk2 : (i : Int) ≤ 150 := by have := HL.out; omega
      obtain ⟨ev, hev⟩ : ∃ ev, es[i]? = some ev := ⟨_, List.getElem?_eq_getElem hlt⟩
      have HTK := Lib.hid (show es.take (i + 1) = es.take i ++ [ev] by rw [List.take_add_one, hev]; rfl)
      obtain ⟨b0, o, ma, mc, fa, fc, rfl, hr, hm, hf⟩ := (HH.out.keep HW.out).elem hev
      have HR := Lib.hid (range_req hr)
      have HE := Lib.hid hr
      have HM := Lib.hid hm
      have HF := Lib.hid hf
      have HN := Lib.hid (show i + 1 ≤ es.length ∧ i ≤ 150 by have := HL.out; omega)
      clear hev hr hm hf hlt
      go_wp2_with (with_reducible show wpList _ _ _ ({ dst := _, op := Op.load 35 _, type := _, pos := _, after := _, guard := _ } :: _) _ _; refine wpList_load_at rfl 35 _ rfl b0 (o + i * 33 + 10) rfl (qcells (.slice ma ev.req.muts.length mc) (.slice fa ev.req.fil.fams.length fc) ev.req) HR.out 16 szQ (nQ _ _ _) ruQ ?_)
      refine (c_longreq ev.req ma mc fa fc wr HM.out HF.out).mono ?_
      rintro e w3 ⟨⟨bq, rfl, hbq⟩, hb3⟩
      have HB3 := Lib.hid hbq
      have HW3 := Lib.hid (HW.out.trans (hb3.mono HW.out.size))
      have hE := range_keep HE.out hb3
      have y1 := hE 27 (.string ev.chg.fam) rfl
      have y2 := hE 28 (.string ev.chg.qual) rfl
      clear hE hb3 hbq
      cases bq
      case true =>
        go_wp2
        go_ret
        exact ⟨⟨true, rfl, fun h => (nomatch h)⟩, HW3.out⟩
      by_cases n1 : 60 < (ev.chg.fam.size : Int)
      case pos =>
        have t2 : decide (60 < (ev.chg.fam.size : Int)) = true := decide_eq_true n1
        go_wp2
        go_ret
        exact ⟨⟨true, rfl, fun h => (nomatch h)⟩, HW3.out⟩
      have t2 : decide (60 < (ev.chg.fam.size : Int)) = false := decide_eq_false n1
      by_cases n2 : 60 < (ev.chg.qual.size : Int)
      case pos =>
        have t3 : decide (60 < (ev.chg.qual.size : Int)) = true := decide_eq_true n2
        go_wp2
        go_ret
        exact ⟨⟨true, rfl, fun h => (nomatch h)⟩, HW3.out⟩
      have t3 : decide (60 < (ev.chg.qual.size : Int)) = false := decide_eq_false n2
      have HA3 := Lib.hid (show ∀ x ∈ es.take (i + 1), x.req.muts.length ≤ 20 ∧ x.req.fil.fams.length ≤ 20 from fun x hx => by
        rw [HTK.out] at hx
        rcases List.mem_append.1 hx with hx | hx
        · exact HA.out x hx
        · have : x = ev := by simpa using hx
          rw [this]
          exact HB3.out rfl)
      go_wp2
      go_roundw
      case rel => exact ⟨i + 1, HN.out.1, by have := HN.out; go_num, HW3, HA3⟩
      case measure => have := HN.out; simp [intOf]; omega
    · have t1 : decide ((i : Int) < (es.length : Int)) = false := decide_eq_false (by omega)
      have HTL := Lib.hid (show es.take i = es from List.take_of_length_le (by omega))
      rw [HTL.out] at HA
      go_wp2
      go_ret
      exact ⟨⟨false, rfl, fun _ => ⟨HL.out, HA.out⟩⟩, HW.out⟩
end Go.Proofs.YtkogcobcjoojnaaGreatDoor.Fl

namespace Go.Proofs.YtkogcobcjoojnaaGreatDoor.Fl
open Go.RowKit Go.Maps
set_option linter.unusedVariables false
set_option linter.unusedSimpArgs false
/-- Two boxes of arguments. -/
structure B2 (w : World) (T : TypeId) (cs1 cs2 : Array Value) (W : World) : Prop where
  c1 : Bk w.heap.size cs1 T W
  c2 : Bk (w.heap.size + 1) cs2 T W
  bel : Below w.heap.size w W
theorem B2.next {w W W' : World} {T : TypeId} {cs1 cs2 : Array Value} (h : B2 w T cs1 cs2 W) (hb : Below W.heap.size W W') : B2 w T cs1 cs2 W' := ⟨h.c1.next hb, h.c2.next hb, h.bel.trans (hb.mono h.bel.size)⟩
theorem B2.start (w : World) (T : TypeId) (cs1 cs2 : Array Value) : B2 w T cs1 cs2 ((w.alloc (.cells cs1 T)).alloc (.cells cs2 T)) := by
  have hs : (w.alloc (.cells cs1 T)).heap.size = w.heap.size + 1 := by show (w.heap.push _).size = _; simp
  have hb := below_box (w := w) cs1 T
  have hb2 := below_box (w := w.alloc (.cells cs1 T)) cs2 T
  refine ⟨(Bk.new w cs1 _).next hb2, ?_, hb.trans (hb2.mono (by omega))⟩
  have := Bk.new (w.alloc (.cells cs1 T)) cs2 T
  rw [hs] at this
  exact this
set_option maxRecDepth 100000 in
set_option maxHeartbeats 4000000 in
theorem c_sametexts (a1 : Option Addr) (c1 : Nat) (a2 : Option Addr) (c2 : Nat) (xs : List ByteArray) (w : World) (h1 : HasS w (.slice a1 xs.length c1) xs) (h2 : HasS w (.slice a2 xs.length c2) xs) (hl : xs.length ≤ 1099511627776) :
    Calls Tryz.prog 60 #[.slice a1 xs.length c1, .slice a2 xs.length c2] w fun e w' => e = .returned (.bool true) ∧ Below w.heap.size w w' := by
  have H1 := Lib.hid h1
  have H2 := Lib.hid h2
  have HL := Lib.hid hl
  clear h1 h2 hl
  go_enter Tryz.func60, Tryz.ntmps60
  go_wp2
  go_loopw [5] (fun v5 W => ∃ i : Nat, i ≤ xs.length ∧ v5 = .int .i64 i ∧ Hid (Below w.heap.size w W)) (fun v5 _ => xs.length - (intOf v5).toNat)
  case atStart => exact ⟨0, Nat.zero_le _, rfl, Lib.hid (Below.refl _ _)⟩
  case round =>
    obtain ⟨i, hi2, rfl, HB⟩ := hrel
    by_cases hlt : i < xs.length
    · have t1 : decide ((i : Int) < (xs.length : Int)) = true := decide_eq_true (by omega)
      have hk0 : (0 : Int) ≤ (i : Int) := by omega
      have hk1 : (i : Int) < (xs.length : Int) := by omega
      have hk2 : (i : Int) ≤ 1099511627776 := by have := HL.out; omega
      have hne : xs ≠ [] := by intro e; rw [e] at hlt; simp at hlt
      obtain ⟨b1, o1, rfl, _, hc1⟩ := (H1.out.keep HB.out).flat hne
      obtain ⟨b2, o2, rfl, _, hc2⟩ := (H2.out.keep HB.out).flat hne
      have y0 := hc1 i _ (List.getElem?_eq_getElem hlt)
      have z0 := hc2 i _ (List.getElem?_eq_getElem hlt)
      generalize xs[i] = x at y0 z0
      have e1 : (x.toList == x.toList) = true := by simp
      have HN := Lib.hid (show i + 1 ≤ xs.length ∧ i ≤ 1099511627776 by have := HL.out; omega)
      clear hc1 hc2 hne hlt
      go_wp2_with fail
      go_quiet (fail)
      have HB2 := Lib.hid (below_dr HB.out nq)
      generalize wr.drewN nq = W2 at HB2 ⊢
      clear y0 z0 HB
      go_wp2
      go_roundw
      case rel => exact ⟨i + 1, HN.out.1, by have := HN.out; go_num, HB2⟩
      case measure => have := HN.out; simp [intOf]; omega
    · have t1 : decide ((i : Int) < (xs.length : Int)) = false := decide_eq_false (by omega)
      go_wp2
      go_ret
      exact ⟨rfl, HB.out⟩
/-- A row of eight numbers in a block. -/
def nints (l : List Int) : Array Value := (l.map (Value.int .i64)).toArray
set_option maxRecDepth 100000 in
set_option maxHeartbeats 4000000 in
theorem c_sameints (g1 g2 : Nat) (l : List Int) (hl : l.length = 8) (w : World) (h1 : Bk g1 (nints l) 3 w) (h2 : Bk g2 (nints l) 3 w) :
    Calls Tryz.prog 30 #[.slice (some ⟨g1, 0, none⟩) 8 8, .slice (some ⟨g2, 0, none⟩) 8 8] w fun e w' => e = .returned (.bool true) ∧ Below w.heap.size w w' := by
  have H1 := Lib.hid h1
  have H2 := Lib.hid h2
  have HL := Lib.hid hl
  clear h1 h2 hl
  go_enter Tryz.func30, Tryz.ntmps30
  go_wp2
  go_loopw [5] (fun v5 W => ∃ i : Nat, i ≤ 8 ∧ v5 = .int .i64 i ∧ Hid (Below w.heap.size w W)) (fun v5 _ => 8 - (intOf v5).toNat)
  case atStart => exact ⟨0, Nat.zero_le _, rfl, Lib.hid (Below.refl _ _)⟩
  case round =>
    obtain ⟨i, hi2, rfl, HB⟩ := hrel
    by_cases hlt : i < 8
    · have t1 : decide ((i : Int) < 8) = true := decide_eq_true (by omega)
      have hk0 : (0 : Int) ≤ (i : Int) := by omega
      have hk1 : (i : Int) < 8 := by omega
      have hj : i < l.length := by have := HL.out; omega
      have hx : (nints l)[i]? = some (.int .i64 l[i]) := by simp [nints, hj]
      have y0 := (H1.out.next HB.out).cell i _ hx
      have z0 := (H2.out.next HB.out).cell i _ hx
      generalize l[i] = x at y0 z0
      have HN := Lib.hid (show i + 1 ≤ 8 by omega)
      clear hx hj hlt
      go_wp2_with fail
      go_quiet (fail)
      have HB2 := Lib.hid (below_dr HB.out nq)
      generalize wr.drewN nq = W2 at HB2 ⊢
      clear y0 z0 HB
      go_wp2
      go_roundw
      case rel => exact ⟨i + 1, HN.out, by have := HN.out; go_num, HB2⟩
      case measure => have := HN.out; simp [intOf]; omega
    · have t1 : decide ((i : Int) < 8) = false := decide_eq_false (by omega)
      go_wp2
      go_ret
      exact ⟨rfl, HB.out⟩
theorem neq_val_self (k n : Int) (s : ByteArray) (w : World) : (binOp .neq 30 (.agg #[.int .i64 k, .int .i64 n, .string s]) (.agg #[.int .i64 k, .int .i64 n, .string s])).run Tryz.prog w = .ok (.bool false) w := by
  simp [go_sem, tl_iff]
set_option maxRecDepth 100000 in
set_option maxHeartbeats 8000000 in
theorem c_lsame (q : ReqE) (a1 : Option Addr) (c1 : Nat) (fa1 : Option Addr) (fc1 : Nat) (a2 : Option Addr) (c2 : Nat) (fa2 : Option Addr) (fc2 : Nat) (w : World)
    (hm1 : HasM w (.slice a1 q.muts.length c1) q.muts) (hf1 : HasS w (.slice fa1 q.fil.fams.length fc1) q.fil.fams) (hm2 : HasM w (.slice a2 q.muts.length c2) q.muts) (hf2 : HasS w (.slice fa2 q.fil.fams.length fc2) q.fil.fams) (hl : q.muts.length ≤ 1099511627776) (hl2 : q.fil.fams.length ≤ 1099511627776) :
    Calls Tryz.prog 31 #[.agg (qcells (.slice a1 q.muts.length c1) (.slice fa1 q.fil.fams.length fc1) q), .agg (qcells (.slice a2 q.muts.length c2) (.slice fa2 q.fil.fams.length fc2) q)] w fun e w' => e = .returned (.bool true) ∧ Below w.heap.size w w' := by
  have szF := szF
  have HM1 := Lib.hid hm1
  have HF1 := Lib.hid hf1
  have HM2 := Lib.hid hm2
  have HF2 := Lib.hid hf2
  have HL := Lib.hid (And.intro hl hl2)
  clear hm1 hf1 hm2 hf2 hl hl2
  have HB0 := Lib.hid (B2.start w 35 (qcells (.slice a1 q.muts.length c1) (.slice fa1 q.fil.fams.length fc1) q) (qcells (.slice a2 q.muts.length c2) (.slice fa2 q.fil.fams.length fc2) q))
  obtain ⟨W2, hW2⟩ : ∃ W, (w.alloc (.cells (qcells (.slice a1 q.muts.length c1) (.slice fa1 q.fil.fams.length fc1) q) 35)).alloc (.cells (qcells (.slice a2 q.muts.length c2) (.slice fa2 q.fil.fams.length fc2) q) 35) = W := ⟨_, rfl⟩
  rw [hW2] at HB0
  have x0 := HB0.out.c1.cell 0 (.int .i64 q.kind) rfl
  have x1 := HB0.out.c1.cell 1 (.string q.row) rfl
  have x2 := HB0.out.c1.cell 2 (.string q.stop) rfl
  have x3 := HB0.out.c1.cell 3 (.slice a1 q.muts.length c1) rfl
  have x4 := HB0.out.c1.cell 4 (.string q.fam) rfl
  have x5 := HB0.out.c1.cell 5 (.string q.qual) rfl
  have x6 := HB0.out.c1.cell 6 (.int .i64 q.vk) rfl
  have x7 := HB0.out.c1.cell 7 (.int .i64 q.vn) rfl
  have x8 := HB0.out.c1.cell 8 (.string q.vs) rfl
  have x9 := HB0.out.c1.cell 9 (.slice fa1 q.fil.fams.length fc1) rfl
  have y0 := HB0.out.c2.cell 0 (.int .i64 q.kind) rfl
  have y1 := HB0.out.c2.cell 1 (.string q.row) rfl
  have y2 := HB0.out.c2.cell 2 (.string q.stop) rfl
  have y3 := HB0.out.c2.cell 3 (.slice a2 q.muts.length c2) rfl
  have y4 := HB0.out.c2.cell 4 (.string q.fam) rfl
  have y5 := HB0.out.c2.cell 5 (.string q.qual) rfl
  have y6 := HB0.out.c2.cell 6 (.int .i64 q.vk) rfl
  have y7 := HB0.out.c2.cell 7 (.int .i64 q.vn) rfl
  have y8 := HB0.out.c2.cell 8 (.string q.vs) rfl
  have y9 := HB0.out.c2.cell 9 (.slice fa2 q.fil.fams.length fc2) rfl
  have hv := neq_val_self q.vk q.vn q.vs
  go_enter Tryz.func31, Tryz.ntmps31
  go_wp2_with fail
  refine (c_sametexts fa1 fc1 fa2 fc2 q.fil.fams W2 (HF1.out.keep HB0.out.bel) (HF2.out.keep HB0.out.bel) HL.out.2).mono ?_
  rintro e w3 ⟨rfl, hb⟩
  have HB3 := Lib.hid (HB0.out.next hb)
  clear hb hW2 HB0 hv x0 x1 x2 x3 x4 x5 x6 x7 x8 x9 y0 y1 y2 y3 y4 y5 y6 y7 y8 y9
  go_wp2
  go_loopw [5] (fun v5 W => ∃ i : Nat, i ≤ q.muts.length ∧ v5 = .int .i64 i ∧ Hid (B2 w 35 (qcells (.slice a1 q.muts.length c1) (.slice fa1 q.fil.fams.length fc1) q) (qcells (.slice a2 q.muts.length c2) (.slice fa2 q.fil.fams.length fc2) q) W)) (fun v5 _ => q.muts.length - (intOf v5).toNat)
  case atStart => exact ⟨0, Nat.zero_le _, rfl, HB3⟩
  case round =>
    obtain ⟨i, hi2, rfl, HB⟩ := hrel
    clear HB3
    have x3 := HB.out.c1.cell 3 (.slice a1 q.muts.length c1) rfl
    have y3 := HB.out.c2.cell 3 (.slice a2 q.muts.length c2) rfl
    by_cases hlt : i < q.muts.length
    · have t1 : decide ((i : Int) < (q.muts.length : Int)) = true := decide_eq_true (by omega)
      have hk0 : (0 : Int) ≤ (i : Int) := by omega
      have hk1 : (i : Int) < (q.muts.length : Int) := by omega
      have hk2 : (i : Int) ≤ 1099511627776 := by have := HL.out.1; omega
      have hne : q.muts ≠ [] := by intro e; rw [e] at hlt; simp at hlt
      obtain ⟨b1, o1, rfl, _, hc1⟩ := (HM1.out.keep HB.out.bel).flat hne
      obtain ⟨b2, o2, rfl, _, hc2⟩ := (HM2.out.keep HB.out.bel).flat hne
      have hm := List.getElem?_eq_getElem hlt
      generalize q.muts[i] = m at hm
      have u0 := hc1 i m 0 (.int .i64 m.kind) hm rfl
      have z0 := hc2 i m 0 (.int .i64 m.kind) hm rfl
      have u1 := hc1 i m 1 (.string m.fam) hm rfl
      have z1 := hc2 i m 1 (.string m.fam) hm rfl
      have u2 := hc1 i m 2 (.string m.qual) hm rfl
      have z2 := hc2 i m 2 (.string m.qual) hm rfl
      have u3 := hc1 i m 3 (.int .i64 m.vk) hm rfl
      have z3 := hc2 i m 3 (.int .i64 m.vk) hm rfl
      have u4 := hc1 i m 4 (.int .i64 m.vn) hm rfl
      have z4 := hc2 i m 4 (.int .i64 m.vn) hm rfl
      have u5 := hc1 i m 5 (.string m.vs) hm rfl
      have z5 := hc2 i m 5 (.string m.vs) hm rfl
      rw [Nat.add_zero] at u0 z0
      obtain ⟨qb, hq, hqe⟩ := neq_muts m m
      obtain rfl : qb = false := Bool.eq_false_iff.2 (fun h => hqe.1 h rfl)
      unfold mcells at hq
      have HN := Lib.hid (show i + 1 ≤ q.muts.length ∧ i ≤ 1099511627776 by have := HL.out; omega)
      clear hc1 hc2 hne hlt hm hqe
      go_wp2_with fail
      go_quiet (fail)
      have HB2 := Lib.hid (HB.out.next (below_dr (Below.refl _ _) nq))
      generalize wr.drewN nq = W2 at HB2 ⊢
      clear HB x3 y3 hq u0 z0 u1 z1 u2 z2 u3 z3 u4 z4 u5 z5
      go_wp2
      go_roundw
      case rel => exact ⟨i + 1, HN.out.1, by have := HN.out; go_num, HB2⟩
      case measure => have := HN.out; simp [intOf]; omega
    · have t1 : decide ((i : Int) < (q.muts.length : Int)) = false := decide_eq_false (by omega)
      have x9 := HB.out.c1.cell 9 (.slice fa1 q.fil.fams.length fc1) rfl
      have x10 := HB.out.c1.cell 10 (.string q.fil.lo) rfl
      have x11 := HB.out.c1.cell 11 (.string q.fil.hi) rfl
      have x12 := HB.out.c1.cell 12 (.int .i64 q.fil.since) rfl
      have x13 := HB.out.c1.cell 13 (.int .i64 q.fil.til) rfl
      have x14 := HB.out.c1.cell 14 (.int .i64 q.fil.versions) rfl
      have x15 := HB.out.c1.cell 15 (.int .i64 q.fil.rows) rfl
      have y9 := HB.out.c2.cell 9 (.slice fa2 q.fil.fams.length fc2) rfl
      have y10 := HB.out.c2.cell 10 (.string q.fil.lo) rfl
      have y11 := HB.out.c2.cell 11 (.string q.fil.hi) rfl
      have y12 := HB.out.c2.cell 12 (.int .i64 q.fil.since) rfl
      have y13 := HB.out.c2.cell 13 (.int .i64 q.fil.til) rfl
      have y14 := HB.out.c2.cell 14 (.int .i64 q.fil.versions) rfl
      have y15 := HB.out.c2.cell 15 (.int .i64 q.fil.rows) rfl
      have HK1 := Lib.hid (Bk.new wr zF 33)
      have HE1 := Lib.hid (HB.out.next (below_box (w := wr) zF 33))
      obtain ⟨W3, hW3⟩ : ∃ W, wr.alloc (.cells zF 33) = W := ⟨_, rfl⟩
      rw [hW3] at HK1 HE1
      go_upto_region 9 with (with_reducible show wpList _ _ _ ({ dst := _, op := Op.store 33 _ _, type := _, pos := _, after := _, guard := _ } :: _) _ _; refine wpList_store_all rfl 33 _ _ rfl wr.heap.size (fcells (.slice fa1 q.fil.fams.length fc1) q.fil) rfl rfl 33 _ HK1.out 7 szF rfl rfl (fcells_one _ _ _ _) ?_; have HK2 := Lib.hid (HK1.out.row (fcells (.slice fa1 q.fil.fams.length fc1) q.fil)); have HE2 := Lib.hid (show B2 w 35 (qcells (.slice a1 q.muts.length c1) (.slice fa1 q.fil.fams.length fc1) q) (qcells (.slice a2 q.muts.length c2) (.slice fa2 q.fil.fams.length fc2) q) _ from ⟨HE1.out.c1.off (by have := HB.out.c2.lt; omega) (fcells (.slice fa1 q.fil.fams.length fc1) q.fil), HE1.out.c2.off (by have := HB.out.c2.lt; omega) (fcells (.slice fa1 q.fil.fams.length fc1) q.fil), below_row HE1.out.bel HB.out.bel.size (fcells (.slice fa1 q.fil.fams.length fc1) q.fil)⟩); generalize World.setRow _ wr.heap.size _ = W4 at HK2 HE2 ⊢; clear hW3)
      have HSZ := Lib.hid (HK2.out.lt)
      have HLT := Lib.hid HB.out.c2.lt
      clear HK1 HE1 HB x3 y3 x9 x10 x11 x12 x13 x14 x15 y9 y10 y11 y12 y13 y14 y15
      have x9 := HE2.out.c1.cell 9 (.slice fa1 q.fil.fams.length fc1) rfl
      have x10 := HE2.out.c1.cell 10 (.string q.fil.lo) rfl
      have x11 := HE2.out.c1.cell 11 (.string q.fil.hi) rfl
      have x12 := HE2.out.c1.cell 12 (.int .i64 q.fil.since) rfl
      have x13 := HE2.out.c1.cell 13 (.int .i64 q.fil.til) rfl
      have x14 := HE2.out.c1.cell 14 (.int .i64 q.fil.versions) rfl
      have x15 := HE2.out.c1.cell 15 (.int .i64 q.fil.rows) rfl
      have y9 := HE2.out.c2.cell 9 (.slice fa2 q.fil.fams.length fc2) rfl
      have y10 := HE2.out.c2.cell 10 (.string q.fil.lo) rfl
      have y11 := HE2.out.c2.cell 11 (.string q.fil.hi) rfl
      have y12 := HE2.out.c2.cell 12 (.int .i64 q.fil.since) rfl
      have y13 := HE2.out.c2.cell 13 (.int .i64 q.fil.til) rfl
      have y14 := HE2.out.c2.cell 14 (.int .i64 q.fil.versions) rfl
      have y15 := HE2.out.c2.cell 15 (.int .i64 q.fil.rows) rfl
      have HK3 := Lib.hid (Bk.new W4 zF 33)
      have HK2' := Lib.hid (HK2.out.next (below_box (w := W4) zF 33))
      have HE3 := Lib.hid (HE2.out.next (below_box (w := W4) zF 33))
      obtain ⟨W5, hW5⟩ : ∃ W, W4.alloc (.cells zF 33) = W := ⟨_, rfl⟩
      rw [hW5] at HK3 HK2' HE3
      go_upto_region 10 with (with_reducible show wpList _ _ _ ({ dst := _, op := Op.store 33 _ _, type := _, pos := _, after := _, guard := _ } :: _) _ _; refine wpList_store_all rfl 33 _ _ rfl W4.heap.size (fcells (.slice fa2 q.fil.fams.length fc2) q.fil) rfl rfl 33 _ HK3.out 7 szF rfl rfl (fcells_one _ _ _ _) ?_; have HK4 := Lib.hid (HK3.out.row (fcells (.slice fa2 q.fil.fams.length fc2) q.fil)); have HE4 := Lib.hid (below_row HE3.out.bel HE2.out.bel.size (fcells (.slice fa2 q.fil.fams.length fc2) q.fil)); have HK5 := Lib.hid (HK2'.out.off (show W4.heap.size ≠ wr.heap.size by have := HSZ.out; omega) (fcells (.slice fa2 q.fil.fams.length fc2) q.fil)); generalize World.setRow _ W4.heap.size _ = W6 at HK4 HK5 HE4 ⊢; clear hW5)
      clear x9 x10 x11 x12 x13 x14 x15 y9 y10 y11 y12 y13 y14 y15
      have x0 := HK5.out.cell 0 (.slice fa1 q.fil.fams.length fc1) rfl
      have x1 := HK5.out.cell 1 (.string q.fil.lo) rfl
      have x2 := HK5.out.cell 2 (.string q.fil.hi) rfl
      have x3 := HK5.out.cell 3 (.int .i64 q.fil.since) rfl
      have x4 := HK5.out.cell 4 (.int .i64 q.fil.til) rfl
      have x5 := HK5.out.cell 5 (.int .i64 q.fil.versions) rfl
      have x6 := HK5.out.cell 6 (.int .i64 q.fil.rows) rfl
      have y0 := HK4.out.cell 0 (.slice fa2 q.fil.fams.length fc2) rfl
      have y1 := HK4.out.cell 1 (.string q.fil.lo) rfl
      have y2 := HK4.out.cell 2 (.string q.fil.hi) rfl
      have y3 := HK4.out.cell 3 (.int .i64 q.fil.since) rfl
      have y4 := HK4.out.cell 4 (.int .i64 q.fil.til) rfl
      have y5 := HK4.out.cell 5 (.int .i64 q.fil.versions) rfl
      have y6 := HK4.out.cell 6 (.int .i64 q.fil.rows) rfl
      go_wp2
      go_ret
      exact ⟨rfl, HE4.out⟩
end Go.Proofs.YtkogcobcjoojnaaGreatDoor.Fl

namespace Go.Proofs.YtkogcobcjoojnaaGreatDoor.Fl
open Go.RowKit Go.Maps
set_option linter.unusedVariables false
set_option linter.unusedSimpArgs false
/-- The cells of an event as the document has it. -/
def rcells (ms fv : Value) (e : EvE) (g : Nat) : Array Value := #[.int .i64 e.kind, .slice (some ⟨g, 0, none⟩) 8 8, .bool e.stays, .int .i64 e.req.kind, .string e.req.row, .string e.req.stop, ms, .string e.req.fam, .string e.req.qual, .int .i64 e.req.vk, .int .i64 e.req.vn, .string e.req.vs, fv, .string e.req.fil.lo, .string e.req.fil.hi, .int .i64 e.req.fil.since, .int .i64 e.req.fil.til, .int .i64 e.req.fil.versions, .int .i64 e.req.fil.rows, .int .i64 e.chg.kind, .string e.chg.fam, .string e.chg.qual, .int .i64 e.chg.typ, .int .i64 e.chg.group, .int .i64 e.chg.versions, .int .i64 e.chg.life]
theorem rcells_one (a : Option Addr) (n c : Nat) (a2 : Option Addr) (n2 c2 : Nat) (e : EvE) (g : Nat) : (rcells (.slice a n c) (.slice a2 n2 c2) e g).all (·.oneCell') = true := by simp [rcells, Value.oneCell']
theorem nR (ms fv : Value) (e : EvE) (g : Nat) : (rcells ms fv e g).size = 26 := rfl
theorem szR : (Tryz.prog.info? 50).map (·.size) = some 26 := by kernel_rfl
abbrev zR : Array Value := #[(.int .i64 0), (.slice none 0 0), (.bool false), (.int .i64 0), (.string ⟨#[]⟩), (.string ⟨#[]⟩), (.slice none 0 0), (.string ⟨#[]⟩), (.string ⟨#[]⟩), (.int .i64 0), (.int .i64 0), (.string ⟨#[]⟩), (.slice none 0 0), (.string ⟨#[]⟩), (.string ⟨#[]⟩), (.int .i64 0), (.int .i64 0), (.int .i64 0), (.int .i64 0), (.int .i64 0), (.string ⟨#[]⟩), (.string ⟨#[]⟩), (.int .i64 0), (.int .i64 0), (.int .i64 0), (.int .i64 0)]
set_option maxRecDepth 100000 in
set_option maxHeartbeats 8000000 in
theorem c_of {w : World} (ma : Option Addr) (mn mc : Nat) (fa : Option Addr) (fn fc : Nat) (ev : EvE) :
    Calls Tryz.prog 16 #[.agg (ecells (.slice ma mn mc) (.slice fa fn fc) ev)] w fun e w' => ∃ g, e = .returned (.agg (rcells (.slice ma mn mc) (.slice fa fn fc) ev g)) ∧ Bk g (nints ev.nums) 3 w' ∧ Below w.heap.size w w' := by
  have szR := szR
  obtain ⟨W1, hW1⟩ : ∃ W, w.alloc (.cells (ecells (.slice ma mn mc) (.slice fa fn fc) ev) 39) = W := ⟨_, rfl⟩
  have hs1 : W1.heap.size = w.heap.size + 1 := by rw [← hW1]; show (w.heap.push _).size = _; simp
  have hb1 : Below w.heap.size w W1 := hW1 ▸ below_box _ _
  have hk1 : Bk w.heap.size (ecells (.slice ma mn mc) (.slice fa fn fc) ev) 39 W1 := hW1 ▸ Bk.new _ _ _
  obtain ⟨W2, hW2⟩ : ∃ W, W1.alloc (.cells zR 50) = W := ⟨_, rfl⟩
  have hs2 : W2.heap.size = w.heap.size + 1 + 1 := by rw [← hW2]; show (W1.heap.push _).size = _; simp [hs1]
  have hn2 : Below W1.heap.size W1 W2 := hW2 ▸ below_box (w := W1) zR 50
  have hb2 := hb1.trans (hn2.mono hb1.size)
  have hk2 := hk1.next hn2
  have hr2 : Bk (w.heap.size + 1) zR 50 W2 := by rw [← hs1]; exact hW2 ▸ Bk.new W1 zR 50
  obtain ⟨W3, hW3⟩ : ∃ W, W2.alloc (.cells #[.int .i64 ev.node, .int .i64 ev.dst, .int .i64 ev.log, .int .i64 ev.pos, .int .i64 ev.by_, .int .i64 ev.keep, .int .i64 ev.client, .int .i64 ev.seq] 3) = W := ⟨_, rfl⟩
  have hn3 : Below W2.heap.size W2 W3 := hW3 ▸ below_box (w := W2) #[.int .i64 ev.node, .int .i64 ev.dst, .int .i64 ev.log, .int .i64 ev.pos, .int .i64 ev.by_, .int .i64 ev.keep, .int .i64 ev.client, .int .i64 ev.seq] 3
  have HB3 := Lib.hid (hb2.trans (hn3.mono hb2.size))
  have HR3 := Lib.hid (hr2.next hn3)
  have hk3 := hk2.next hn3
  have HG3 := Lib.hid (show Bk (w.heap.size + 1 + 1) (nints ev.nums) 3 W3 by rw [← hs2]; exact hW3 ▸ Bk.new W2 #[.int .i64 ev.node, .int .i64 ev.dst, .int .i64 ev.log, .int .i64 ev.pos, .int .i64 ev.by_, .int .i64 ev.keep, .int .i64 ev.client, .int .i64 ev.seq] 3)
  have x0 := hk2.cell 0 (.int .i64 ev.kind) rfl
  have x1 := hk2.cell 1 (.int .i64 ev.node) rfl
  have x2 := hk2.cell 2 (.int .i64 ev.dst) rfl
  have x3 := hk2.cell 3 (.int .i64 ev.log) rfl
  have x4 := hk2.cell 4 (.int .i64 ev.pos) rfl
  have x5 := hk2.cell 5 (.int .i64 ev.by_) rfl
  have x6 := hk2.cell 6 (.int .i64 ev.keep) rfl
  have x7 := hk2.cell 7 (.int .i64 ev.client) rfl
  have x8 := hk2.cell 8 (.int .i64 ev.seq) rfl
  have y9 := hk3.cell 9 (.bool ev.stays) rfl
  have y10 := hk3.cell 10 (.int .i64 ev.req.kind) rfl
  have y11 := hk3.cell 11 (.string ev.req.row) rfl
  have y12 := hk3.cell 12 (.string ev.req.stop) rfl
  have y13 := hk3.cell 13 ((.slice ma mn mc)) rfl
  have y14 := hk3.cell 14 (.string ev.req.fam) rfl
  have y15 := hk3.cell 15 (.string ev.req.qual) rfl
  have y16 := hk3.cell 16 (.int .i64 ev.req.vk) rfl
  have y17 := hk3.cell 17 (.int .i64 ev.req.vn) rfl
  have y18 := hk3.cell 18 (.string ev.req.vs) rfl
  have y19 := hk3.cell 19 ((.slice fa fn fc)) rfl
  have y20 := hk3.cell 20 (.string ev.req.fil.lo) rfl
  have y21 := hk3.cell 21 (.string ev.req.fil.hi) rfl
  have y22 := hk3.cell 22 (.int .i64 ev.req.fil.since) rfl
  have y23 := hk3.cell 23 (.int .i64 ev.req.fil.til) rfl
  have y24 := hk3.cell 24 (.int .i64 ev.req.fil.versions) rfl
  have y25 := hk3.cell 25 (.int .i64 ev.req.fil.rows) rfl
  have y26 := hk3.cell 26 (.int .i64 ev.chg.kind) rfl
  have y27 := hk3.cell 27 (.string ev.chg.fam) rfl
  have y28 := hk3.cell 28 (.string ev.chg.qual) rfl
  have y29 := hk3.cell 29 (.int .i64 ev.chg.typ) rfl
  have y30 := hk3.cell 30 (.int .i64 ev.chg.group) rfl
  have y31 := hk3.cell 31 (.int .i64 ev.chg.versions) rfl
  have y32 := hk3.cell 32 (.int .i64 ev.chg.life) rfl
  clear hk1 hk2 hk3 hr2 hn2 hn3 hb1 hb2
  go_enter Tryz.func16, Tryz.ntmps16
  go_wp2_with (with_reducible show wpList _ _ _ ({ dst := _, op := Op.store 50 _ _, type := _, pos := _, after := _, guard := _ } :: _) _ _; refine wpList_store_all rfl 50 _ _ rfl (w.heap.size + 1) (rcells (.slice ma mn mc) (.slice fa fn fc) ev (w.heap.size + 1 + 1)) rfl rfl 50 _ HR3.out 26 szR (nR _ _ _ _) rfl (rcells_one _ _ _ _ _ _ _ _) ?_; have HRf := Lib.hid (HR3.out.row (rcells (.slice ma mn mc) (.slice fa fn fc) ev (w.heap.size + 1 + 1))); have HGf := Lib.hid (HG3.out.off (show w.heap.size + 1 ≠ w.heap.size + 1 + 1 by omega) (rcells (.slice ma mn mc) (.slice fa fn fc) ev (w.heap.size + 1 + 1))); have HBf := Lib.hid (below_row HB3.out (show w.heap.size ≤ w.heap.size + 1 by omega) (rcells (.slice ma mn mc) (.slice fa fn fc) ev (w.heap.size + 1 + 1))); generalize World.setRow _ (w.heap.size + 1) _ = Wf at HRf HGf HBf ⊢)
  exact bodyPost_ret (results_cell_row rfl _ _ (w.heap.size + 1) _ _ (0, 0) _ rfl HRf.out Tryz.underlying50 rfl szR) rfl ⟨_, rfl, HGf.out, HBf.out⟩
set_option maxRecDepth 100000 in
set_option maxHeartbeats 8000000 in
theorem c_Same {w : World} (ev : EvE) (a1 : Option Addr) (c1 : Nat) (fa1 : Option Addr) (fc1 : Nat) (a2 : Option Addr) (c2 : Nat) (fa2 : Option Addr) (fc2 : Nat)
    (hm1 : HasM w (.slice a1 ev.req.muts.length c1) ev.req.muts) (hf1 : HasS w (.slice fa1 ev.req.fil.fams.length fc1) ev.req.fil.fams) (hm2 : HasM w (.slice a2 ev.req.muts.length c2) ev.req.muts) (hf2 : HasS w (.slice fa2 ev.req.fil.fams.length fc2) ev.req.fil.fams) (hl : ev.req.muts.length ≤ 1099511627776) (hl2 : ev.req.fil.fams.length ≤ 1099511627776) :
    Calls Tryz.prog 12 #[.agg (ecells (.slice a1 ev.req.muts.length c1) (.slice fa1 ev.req.fil.fams.length fc1) ev), .agg (ecells (.slice a2 ev.req.muts.length c2) (.slice fa2 ev.req.fil.fams.length fc2) ev)] w fun e w' => e = .returned (.bool true) ∧ Below w.heap.size w w' := by
  have szE := szE
  have szR := szR
  have CS := Lib.hid (fun W (hb : Below w.heap.size w W) => c_lsame ev.req a1 c1 fa1 fc1 a2 c2 fa2 fc2 W (hm1.keep hb) (hf1.keep hb) (hm2.keep hb) (hf2.keep hb) hl hl2)
  clear hm1 hf1 hm2 hf2 hl hl2
  have HB0 := Lib.hid (B2.start w 39 (ecells (.slice a1 ev.req.muts.length c1) (.slice fa1 ev.req.fil.fams.length fc1) ev) (ecells (.slice a2 ev.req.muts.length c2) (.slice fa2 ev.req.fil.fams.length fc2) ev))
  obtain ⟨W2, hW2⟩ : ∃ W, (w.alloc (.cells (ecells (.slice a1 ev.req.muts.length c1) (.slice fa1 ev.req.fil.fams.length fc1) ev) 39)).alloc (.cells (ecells (.slice a2 ev.req.muts.length c2) (.slice fa2 ev.req.fil.fams.length fc2) ev) 39) = W := ⟨_, rfl⟩
  rw [hW2] at HB0
  go_enter Tryz.func12, Tryz.ntmps12
  go_wp2_with (with_reducible show wpList _ _ _ ({ dst := _, op := Op.load 39 _, type := _, pos := _, after := _, guard := _ } :: _) _ _; refine wpList_load_all rfl 39 _ rfl w.heap.size rfl 39 (ecells (.slice a1 ev.req.muts.length c1) (.slice fa1 ev.req.fil.fams.length fc1) ev) HB0.out.c1 33 szE (nE _ _ _) ruE ?_)
  refine (c_of a1 ev.req.muts.length c1 fa1 ev.req.fil.fams.length fc1 ev).mono ?_
  rintro e w3 ⟨g1, rfl, hg1, hb⟩
  have HB3 := Lib.hid (HB0.out.next hb)
  have HG1 := Lib.hid hg1
  have HL1 := Lib.hid hg1.lt
  clear hg1 hb hW2 HB0
  have HR3 := Lib.hid (Bk.new w3 zR 50)
  have HB4 := Lib.hid (HB3.out.next (below_box (w := w3) zR 50))
  have HG4 := Lib.hid (HG1.out.next (below_box (w := w3) zR 50))
  obtain ⟨W4, hW4⟩ : ∃ W, w3.alloc (.cells zR 50) = W := ⟨_, rfl⟩
  rw [hW4] at HR3 HB4 HG4
  go_wp2_with (first | (with_reducible show wpList _ _ _ ({ dst := _, op := Op.store 50 _ _, type := _, pos := _, after := _, guard := _ } :: _) _ _; refine wpList_store_all rfl 50 _ _ rfl w3.heap.size (rcells (.slice a1 ev.req.muts.length c1) (.slice fa1 ev.req.fil.fams.length fc1) ev g1) rfl rfl 50 _ HR3.out 26 szR (nR _ _ _ _) rfl (rcells_one _ _ _ _ _ _ _ _) ?_; have HR5 := Lib.hid (HR3.out.row (rcells (.slice a1 ev.req.muts.length c1) (.slice fa1 ev.req.fil.fams.length fc1) ev g1)); have HG5 := Lib.hid (HG4.out.off (show w3.heap.size ≠ g1 by have := HL1.out; omega) (rcells (.slice a1 ev.req.muts.length c1) (.slice fa1 ev.req.fil.fams.length fc1) ev g1)); have HB5 := Lib.hid (show B2 w 39 (ecells (.slice a1 ev.req.muts.length c1) (.slice fa1 ev.req.fil.fams.length fc1) ev) (ecells (.slice a2 ev.req.muts.length c2) (.slice fa2 ev.req.fil.fams.length fc2) ev) _ from ⟨HB4.out.c1.off (by have := HB3.out.c2.lt; omega) (rcells (.slice a1 ev.req.muts.length c1) (.slice fa1 ev.req.fil.fams.length fc1) ev g1), HB4.out.c2.off (by have := HB3.out.c2.lt; omega) (rcells (.slice a1 ev.req.muts.length c1) (.slice fa1 ev.req.fil.fams.length fc1) ev g1), below_row HB4.out.bel HB3.out.bel.size (rcells (.slice a1 ev.req.muts.length c1) (.slice fa1 ev.req.fil.fams.length fc1) ev g1)⟩); generalize World.setRow _ w3.heap.size _ = W5 at HR5 HG5 HB5 ⊢; clear hW4) | (with_reducible show wpList _ _ _ ({ dst := _, op := Op.load 39 _, type := _, pos := _, after := _, guard := _ } :: _) _ _; refine wpList_load_all rfl 39 _ rfl (w.heap.size + 1) rfl 39 (ecells (.slice a2 ev.req.muts.length c2) (.slice fa2 ev.req.fil.fams.length fc2) ev) HB5.out.c2 33 szE (nE _ _ _) ruE ?_))
  refine (c_of a2 ev.req.muts.length c2 fa2 ev.req.fil.fams.length fc2 ev).mono ?_
  rintro e w6 ⟨g2, rfl, hg2, hb⟩
  have HB6 := Lib.hid (HB5.out.next hb)
  have HG6 := Lib.hid (HG5.out.next hb)
  have HR6 := Lib.hid (HR5.out.next hb)
  have HG2 := Lib.hid hg2
  have HL2 := Lib.hid hg2.lt
  clear hg2 hb HB5 HG5 HR5 HB4 HG4 HR3 HB3 HG1
  have HR7 := Lib.hid (Bk.new w6 zR 50)
  have HB7 := Lib.hid (HB6.out.next (below_box (w := w6) zR 50))
  have HG7 := Lib.hid (HG6.out.next (below_box (w := w6) zR 50))
  have HH7 := Lib.hid (HG2.out.next (below_box (w := w6) zR 50))
  have HQ7 := Lib.hid (HR6.out.next (below_box (w := w6) zR 50))
  obtain ⟨W7, hW7⟩ : ∃ W, w6.alloc (.cells zR 50) = W := ⟨_, rfl⟩
  rw [hW7] at HR7 HB7 HG7 HH7 HQ7
  go_upto_region 3 with (with_reducible show wpList _ _ _ ({ dst := _, op := Op.store 50 _ _, type := _, pos := _, after := _, guard := _ } :: _) _ _; refine wpList_store_all rfl 50 _ _ rfl w6.heap.size (rcells (.slice a2 ev.req.muts.length c2) (.slice fa2 ev.req.fil.fams.length fc2) ev g2) rfl rfl 50 _ HR7.out 26 szR (nR _ _ _ _) rfl (rcells_one _ _ _ _ _ _ _ _) ?_; have HR8 := Lib.hid (HR7.out.row (rcells (.slice a2 ev.req.muts.length c2) (.slice fa2 ev.req.fil.fams.length fc2) ev g2)); have HG8 := Lib.hid (HG7.out.off (show w6.heap.size ≠ g1 by have := HG6.out.lt; omega) (rcells (.slice a2 ev.req.muts.length c2) (.slice fa2 ev.req.fil.fams.length fc2) ev g2)); have HH8 := Lib.hid (HH7.out.off (show w6.heap.size ≠ g2 by have := HL2.out; omega) (rcells (.slice a2 ev.req.muts.length c2) (.slice fa2 ev.req.fil.fams.length fc2) ev g2)); have HQ8 := Lib.hid (HQ7.out.off (show w6.heap.size ≠ w3.heap.size by have := HR6.out.lt; omega) (rcells (.slice a2 ev.req.muts.length c2) (.slice fa2 ev.req.fil.fams.length fc2) ev g2)); have HB8 := Lib.hid (below_row HB7.out.bel HB6.out.bel.size (rcells (.slice a2 ev.req.muts.length c2) (.slice fa2 ev.req.fil.fams.length fc2) ev g2)); generalize World.setRow _ w6.heap.size _ = W8 at HR8 HG8 HH8 HQ8 HB8 ⊢; clear hW7)
  clear HR7 HG7 HH7 HQ7 HB7 HB6 HG6 HR6 HG2
  have x0 := HQ8.out.cell 0 (.int .i64 ev.kind) rfl
  have x1 := HQ8.out.cell 1 (.slice (some ⟨g1, 0, none⟩) 8 8) rfl
  have x2 := HQ8.out.cell 2 (.bool ev.stays) rfl
  have x3 := HQ8.out.cell 3 (.int .i64 ev.req.kind) rfl
  have x4 := HQ8.out.cell 4 (.string ev.req.row) rfl
  have x5 := HQ8.out.cell 5 (.string ev.req.stop) rfl
  have x6 := HQ8.out.cell 6 ((.slice a1 ev.req.muts.length c1)) rfl
  have x7 := HQ8.out.cell 7 (.string ev.req.fam) rfl
  have x8 := HQ8.out.cell 8 (.string ev.req.qual) rfl
  have x9 := HQ8.out.cell 9 (.int .i64 ev.req.vk) rfl
  have x10 := HQ8.out.cell 10 (.int .i64 ev.req.vn) rfl
  have x11 := HQ8.out.cell 11 (.string ev.req.vs) rfl
  have x12 := HQ8.out.cell 12 ((.slice fa1 ev.req.fil.fams.length fc1)) rfl
  have x13 := HQ8.out.cell 13 (.string ev.req.fil.lo) rfl
  have x14 := HQ8.out.cell 14 (.string ev.req.fil.hi) rfl
  have x15 := HQ8.out.cell 15 (.int .i64 ev.req.fil.since) rfl
  have x16 := HQ8.out.cell 16 (.int .i64 ev.req.fil.til) rfl
  have x17 := HQ8.out.cell 17 (.int .i64 ev.req.fil.versions) rfl
  have x18 := HQ8.out.cell 18 (.int .i64 ev.req.fil.rows) rfl
  have x19 := HQ8.out.cell 19 (.int .i64 ev.chg.kind) rfl
  have x20 := HQ8.out.cell 20 (.string ev.chg.fam) rfl
  have x21 := HQ8.out.cell 21 (.string ev.chg.qual) rfl
  have x22 := HQ8.out.cell 22 (.int .i64 ev.chg.typ) rfl
  have x23 := HQ8.out.cell 23 (.int .i64 ev.chg.group) rfl
  have x24 := HQ8.out.cell 24 (.int .i64 ev.chg.versions) rfl
  have x25 := HQ8.out.cell 25 (.int .i64 ev.chg.life) rfl
  have y0 := HR8.out.cell 0 (.int .i64 ev.kind) rfl
  have y1 := HR8.out.cell 1 (.slice (some ⟨g2, 0, none⟩) 8 8) rfl
  have y2 := HR8.out.cell 2 (.bool ev.stays) rfl
  have y3 := HR8.out.cell 3 (.int .i64 ev.req.kind) rfl
  have y4 := HR8.out.cell 4 (.string ev.req.row) rfl
  have y5 := HR8.out.cell 5 (.string ev.req.stop) rfl
  have y6 := HR8.out.cell 6 ((.slice a2 ev.req.muts.length c2)) rfl
  have y7 := HR8.out.cell 7 (.string ev.req.fam) rfl
  have y8 := HR8.out.cell 8 (.string ev.req.qual) rfl
  have y9 := HR8.out.cell 9 (.int .i64 ev.req.vk) rfl
  have y10 := HR8.out.cell 10 (.int .i64 ev.req.vn) rfl
  have y11 := HR8.out.cell 11 (.string ev.req.vs) rfl
  have y12 := HR8.out.cell 12 ((.slice fa2 ev.req.fil.fams.length fc2)) rfl
  have y13 := HR8.out.cell 13 (.string ev.req.fil.lo) rfl
  have y14 := HR8.out.cell 14 (.string ev.req.fil.hi) rfl
  have y15 := HR8.out.cell 15 (.int .i64 ev.req.fil.since) rfl
  have y16 := HR8.out.cell 16 (.int .i64 ev.req.fil.til) rfl
  have y17 := HR8.out.cell 17 (.int .i64 ev.req.fil.versions) rfl
  have y18 := HR8.out.cell 18 (.int .i64 ev.req.fil.rows) rfl
  have y19 := HR8.out.cell 19 (.int .i64 ev.chg.kind) rfl
  have y20 := HR8.out.cell 20 (.string ev.chg.fam) rfl
  have y21 := HR8.out.cell 21 (.string ev.chg.qual) rfl
  have y22 := HR8.out.cell 22 (.int .i64 ev.chg.typ) rfl
  have y23 := HR8.out.cell 23 (.int .i64 ev.chg.group) rfl
  have y24 := HR8.out.cell 24 (.int .i64 ev.chg.versions) rfl
  have y25 := HR8.out.cell 25 (.int .i64 ev.chg.life) rfl
  obtain ⟨qb, hq, hqe⟩ := eq_chg ev.chg ev.chg
  obtain rfl : qb = true := hqe.2 ⟨rfl, rfl, rfl, rfl, rfl, rfl, rfl⟩
  unfold ccells at hq
  clear hqe
  go_wp2_with fail
  refine (c_sameints g1 g2 ev.nums rfl W8 HG8.out HH8.out).mono ?_
  rintro e w9 ⟨rfl, hb⟩
  have HR9 := Lib.hid (HR8.out.next hb)
  have HQ9 := Lib.hid (HQ8.out.next hb)
  have HB9 := Lib.hid (HB8.out.trans (hb.mono HB8.out.size))
  clear hb HR8 HQ8 HB8 HG8 HH8 x0 y0 x1 y1 x2 y2 x3 y3 x4 y4 x5 y5 x6 y6 x7 y7 x8 y8 x9 y9 x10 y10 x11 y11 x12 y12 x13 y13 x14 y14 x15 y15 x16 y16 x17 y17 x18 y18 x19 y19 x20 y20 x21 y21 x22 y22 x23 y23 x24 y24 x25 y25
  have x0 := HQ9.out.cell 0 (.int .i64 ev.kind) rfl
  have x1 := HQ9.out.cell 1 (.slice (some ⟨g1, 0, none⟩) 8 8) rfl
  have x2 := HQ9.out.cell 2 (.bool ev.stays) rfl
  have x3 := HQ9.out.cell 3 (.int .i64 ev.req.kind) rfl
  have x4 := HQ9.out.cell 4 (.string ev.req.row) rfl
  have x5 := HQ9.out.cell 5 (.string ev.req.stop) rfl
  have x6 := HQ9.out.cell 6 ((.slice a1 ev.req.muts.length c1)) rfl
  have x7 := HQ9.out.cell 7 (.string ev.req.fam) rfl
  have x8 := HQ9.out.cell 8 (.string ev.req.qual) rfl
  have x9 := HQ9.out.cell 9 (.int .i64 ev.req.vk) rfl
  have x10 := HQ9.out.cell 10 (.int .i64 ev.req.vn) rfl
  have x11 := HQ9.out.cell 11 (.string ev.req.vs) rfl
  have x12 := HQ9.out.cell 12 ((.slice fa1 ev.req.fil.fams.length fc1)) rfl
  have x13 := HQ9.out.cell 13 (.string ev.req.fil.lo) rfl
  have x14 := HQ9.out.cell 14 (.string ev.req.fil.hi) rfl
  have x15 := HQ9.out.cell 15 (.int .i64 ev.req.fil.since) rfl
  have x16 := HQ9.out.cell 16 (.int .i64 ev.req.fil.til) rfl
  have x17 := HQ9.out.cell 17 (.int .i64 ev.req.fil.versions) rfl
  have x18 := HQ9.out.cell 18 (.int .i64 ev.req.fil.rows) rfl
  have x19 := HQ9.out.cell 19 (.int .i64 ev.chg.kind) rfl
  have x20 := HQ9.out.cell 20 (.string ev.chg.fam) rfl
  have x21 := HQ9.out.cell 21 (.string ev.chg.qual) rfl
  have x22 := HQ9.out.cell 22 (.int .i64 ev.chg.typ) rfl
  have x23 := HQ9.out.cell 23 (.int .i64 ev.chg.group) rfl
  have x24 := HQ9.out.cell 24 (.int .i64 ev.chg.versions) rfl
  have x25 := HQ9.out.cell 25 (.int .i64 ev.chg.life) rfl
  have y0 := HR9.out.cell 0 (.int .i64 ev.kind) rfl
  have y1 := HR9.out.cell 1 (.slice (some ⟨g2, 0, none⟩) 8 8) rfl
  have y2 := HR9.out.cell 2 (.bool ev.stays) rfl
  have y3 := HR9.out.cell 3 (.int .i64 ev.req.kind) rfl
  have y4 := HR9.out.cell 4 (.string ev.req.row) rfl
  have y5 := HR9.out.cell 5 (.string ev.req.stop) rfl
  have y6 := HR9.out.cell 6 ((.slice a2 ev.req.muts.length c2)) rfl
  have y7 := HR9.out.cell 7 (.string ev.req.fam) rfl
  have y8 := HR9.out.cell 8 (.string ev.req.qual) rfl
  have y9 := HR9.out.cell 9 (.int .i64 ev.req.vk) rfl
  have y10 := HR9.out.cell 10 (.int .i64 ev.req.vn) rfl
  have y11 := HR9.out.cell 11 (.string ev.req.vs) rfl
  have y12 := HR9.out.cell 12 ((.slice fa2 ev.req.fil.fams.length fc2)) rfl
  have y13 := HR9.out.cell 13 (.string ev.req.fil.lo) rfl
  have y14 := HR9.out.cell 14 (.string ev.req.fil.hi) rfl
  have y15 := HR9.out.cell 15 (.int .i64 ev.req.fil.since) rfl
  have y16 := HR9.out.cell 16 (.int .i64 ev.req.fil.til) rfl
  have y17 := HR9.out.cell 17 (.int .i64 ev.req.fil.versions) rfl
  have y18 := HR9.out.cell 18 (.int .i64 ev.req.fil.rows) rfl
  have y19 := HR9.out.cell 19 (.int .i64 ev.chg.kind) rfl
  have y20 := HR9.out.cell 20 (.string ev.chg.fam) rfl
  have y21 := HR9.out.cell 21 (.string ev.chg.qual) rfl
  have y22 := HR9.out.cell 22 (.int .i64 ev.chg.typ) rfl
  have y23 := HR9.out.cell 23 (.int .i64 ev.chg.group) rfl
  have y24 := HR9.out.cell 24 (.int .i64 ev.chg.versions) rfl
  have y25 := HR9.out.cell 25 (.int .i64 ev.chg.life) rfl
  have CS9 := CS.out w9 HB9.out
  unfold qcells at CS9
  have CS9 := Lib.hid CS9
  go_wp2_with fail
  refine CS9.out.mono ?_
  rintro e w10 ⟨rfl, hb⟩
  have HB10 := Lib.hid (HB9.out.trans (hb.mono HB9.out.size))
  clear hb x0 y0 x1 y1 x2 y2 x3 y3 x4 y4 x5 y5 x6 y6 x7 y7 x8 y8 x9 y9 x10 y10 x11 y11 x12 y12 x13 y13 x14 y14 x15 y15 x16 y16 x17 y17 x18 y18 x19 y19 x20 y20 x21 y21 x22 y22 x23 y23 x24 y24 x25 y25
  go_wp2
  go_ret
  exact ⟨rfl, HB10.out⟩
end Go.Proofs.YtkogcobcjoojnaaGreatDoor.Fl

namespace Go.Proofs.YtkogcobcjoojnaaGreatDoor.Fl
open Go.RowKit Go.Maps
set_option linter.unusedVariables false
set_option linter.unusedSimpArgs false
theorem wpList_loadW {P : Program} {ops : Array Oper} {rest : List Oper} {op : Oper} {a : Act} {w : World} {Q : Exit → Act → World → Prop} (hw : Region.wanted op (yielded ops a.tmps) = true) (ty : TypeId) (x : Operand) (ho : op.op = .load ty x)
    (b o : Nat) (hx : a.eval x = .pointer (some ⟨b, o, none⟩)) (cells : Array Value) (hc : w.rangeAt b o cells.toList) (n : Nat) (hi : (P.info? ty).map (·.size) = some n) (hn : cells.size = n)
    (hu : ∃ d, P.underlying ty = some d ∧ d.isRow = true)
    (h : wpList P ops Q rest (a.put op.dst (.agg cells)) w) : wpList P ops Q (op :: rest) a w := by
  obtain ⟨d, hu, hd⟩ := hu
  subst hn
  refine wpList_step fun K hK => ?_
  rw [if_pos hw]
  exact wp_load_mid ty x ho b o hx cells.toList d hc hu hd hi (hK _ _ (by simpa using h))
theorem Bk.range {b : Nat} {cs : Array Value} {T : TypeId} {W : World} (h : Bk b cs T W) : W.rangeAt b 0 cs.toList := fun j v hj => by rw [Nat.zero_add]; exact h.cell j v (by simpa using hj)
theorem lvS_list : (lvS.toList == [97, 115, 107, 32, 48, 32, 49, 32, 50, 32, 119, 114, 105, 116, 101, 32, 34, 97, 34, 32, 112, 117, 116, 32, 102, 32, 34, 113, 34, 32, 55, 10, 100, 101, 108, 105, 118, 101, 114, 32, 48, 32, 115, 116, 97, 121, 115, 10]) = true := by rw [Lib.toList_data]; rfl
theorem lvL_list : (lvL.toList == [97, 115, 107, 32, 48, 32, 49, 32, 50, 32, 119, 114, 105, 116, 101, 32, 34, 97, 34, 32, 112, 117, 116, 32, 102, 32, 34, 113, 34, 32, 55]) = true := by rw [Lib.toList_data]; rfl
theorem all2 {α : Type} {a b : α} {P : α → Prop} (ha : P a) (hb : P b) : ∀ x ∈ [a, b], P x := fun x hx => by
  rcases List.mem_cons.1 hx with h | h
  · rw [h]; exact ha
  · rw [List.mem_singleton.1 h]; exact hb
theorem len2 {α : Type} (a b : α) : [a, b].length ≤ 1000 := by simp
theorem own_lv (W : World) (ma : Option Addr) (mc : Nat) (fa : Option Addr) (fc : Nat) (hm : HasM W (.slice ma 1 mc) lvE.req.muts) (hf : HasS W (.slice fa 0 fc) lvE.req.fil.fams) :
    OwnE (W.alloc (.cells (elist [(.slice ma 1 mc, .slice fa 0 fc, lvE), (nilV, nilV, lvD)]).toArray 39)) W.heap.size (.slice (some ⟨W.heap.size, 0, none⟩) 2 2) [(.slice ma 1 mc, .slice fa 0 fc, lvE), (nilV, nilV, lvD)] :=
  OwnE.lit W [(.slice ma 1 mc, .slice fa 0 fc, lvE), (nilV, nilV, lvD)] (len2 _ _) (all2 (P := fun (x : Value × Value × EvE) => HasM W x.1 x.2.2.req.muts ∧ HasS W x.2.1 x.2.2.req.fil.fams) ⟨hm, hf⟩ ⟨hasM_nil2 _, hasS_nil2 _⟩)
theorem qg_lv : ∀ e ∈ [lvE, lvD], QG e.req := all2 (P := fun (e : EvE) => QG e.req) lv_qg qg_no
theorem has_lv {W : World} {v : Value} {B : Nat} {m f m2 f2 : Value} (h : OwnE W B v [(m, f, lvE), (m2, f2, lvD)]) : HasE W v [lvE, lvD] := h.has
theorem built_lvD : Tryz.prog.built 39 [(0, .int .i64 6), (9, .bool true)] = some (ecells nilV nilV lvD) := by kernel_rfl
theorem wpList_buildD {ops : Array Oper} {rest : List Oper} {o : Oper} {a : Act} {w : World} {Q : Exit → Act → World → Prop} (hgd : o.guard = none) (ho : o.op = .build 39 #[(0, .const (.int .i64 6)), (9, .const (.bool true))])
    (h : wpList Tryz.prog ops Q rest (a.put o.dst (.agg (ecells nilV nilV lvD))) w) : wpList Tryz.prog ops Q (o :: rest) a w :=
  wpList_buildTo hgd _ _ ho _ rfl _ (by rw [show ((#[(0, Operand.const (Value.int .i64 6)), (9, Operand.const (Value.bool true))] : Array (Nat × Operand)).map fun (i, x) => (i, a.eval x)).toList = [(0, .int .i64 6), (9, .bool true)] by simp [Act.eval]]; exact built_lvD) h
set_option maxRecDepth 100000 in
set_option maxHeartbeats 8000000 in
theorem c_lalive (w : World) (hg : Gv w) : Calls Tryz.prog 7 #[] w fun e w' => e = .returned (.bool true) ∧ Below w.heap.size w w' := by
  have szE := szE
  have HG := Lib.hid hg
  clear hg
  go_enter Tryz.func7, Tryz.ntmps7
  go_wp2_with fail
  refine (c_Read HG.out lvL (by decide)).mono ?_
  rintro e w1 ⟨⟨ev, ms, fv, hx, rfl, hms, hfv, hqg, _, _⟩ | ⟨hx, rfl⟩, hb⟩
  case inr => rw [lv_read] at hx; cases hx
  rw [lv_read] at hx
  obtain rfl := Option.some.inj hx
  obtain ⟨ma, mc, rfl⟩ : ∃ a c, ms = .slice a 1 c := hasM_slice hms
  obtain ⟨fa, fc, rfl⟩ : ∃ a c, fv = .slice a 0 c := hasS_slice hfv
  have HM1 := Lib.hid hms
  have HF1 := Lib.hid hfv
  have HB1 := Lib.hid hb
  clear hx hms hfv hqg hb
  have HK1 := Lib.hid (Bk.new w1 zE 39)
  have HX1 := Lib.hid (below_box (w := w1) zE 39)
  obtain ⟨W2, hW2⟩ : ∃ W, w1.alloc (.cells zE 39) = W := ⟨_, rfl⟩
  rw [hW2] at HK1 HX1
  go_wp2_with (first | (with_reducible show wpList _ _ _ ({ dst := _, op := Op.store 39 _ _, type := _, pos := _, after := _, guard := _ } :: _) _ _; refine wpList_store_all rfl 39 _ _ rfl w1.heap.size (ecells (.slice ma 1 mc) (.slice fa 0 fc) lvE) rfl rfl 39 _ HK1.out 33 szE (nE _ _ _) rfl (ecells_one _ _ _ _ _ _ _) ?_; have HK3 := Lib.hid (HK1.out.row (ecells (.slice ma 1 mc) (.slice fa 0 fc) lvE)); have HX3 := Lib.hid (below_row HX1.out (Nat.le_refl _) (ecells (.slice ma 1 mc) (.slice fa 0 fc) lvE)); generalize World.setRow _ w1.heap.size _ = W3 at HK3 HX3 ⊢; clear hW2 HK1 HX1) | (with_reducible show wpList _ _ _ ({ dst := _, op := Op.load 39 _, type := _, pos := _, after := _, guard := _ } :: _) _ _; refine wpList_load_all rfl 39 _ rfl w1.heap.size rfl 39 (ecells (.slice ma 1 mc) (.slice fa 0 fc) lvE) HK3.out 33 szE (nE _ _ _) ruE ?_) | (with_reducible show wpList _ _ _ ({ dst := _, op := Op.build _ _, type := _, pos := _, after := _, guard := _ } :: _) _ _; refine wpList_buildD rfl rfl ?_) | (with_reducible show wpList _ _ _ ({ dst := _, op := Op.buildSlice _ _ _, type := _, pos := _, after := _, guard := _ } :: _) _ _; refine wpList_lit_e2 rfl _ _ rfl (.slice ma 1 mc) (.slice fa 0 fc) lvE nilV nilV lvD rfl rfl ?_; have HO4 := Lib.hid (own_lv W3 ma mc fa fc (HM1.out.keep HX3.out) (HF1.out.keep HX3.out)); have HK4 := Lib.hid (HK3.out.next (below_box (w := W3) (elist [((.slice ma 1 mc), (.slice fa 0 fc), lvE), (nilV, nilV, lvD)]).toArray 39)); have HX4 := Lib.hid (HX3.out.trans ((below_box (w := W3) (elist [((.slice ma 1 mc), (.slice fa 0 fc), lvE), (nilV, nilV, lvD)]).toArray 39).mono HX3.out.size)); generalize W3.heap.size = nb at HO4 ⊢; generalize W3.alloc (.cells (elist [((.slice ma 1 mc), (.slice fa 0 fc), lvE), (nilV, nilV, lvD)]).toArray 39) = W4 at HO4 HK4 HX4 ⊢))
  have HB4 := Lib.hid (HB1.out.trans (HX4.out.mono HB1.out.size))
  refine (c_Show (HG.out.below HB4.out) [lvE, lvD] _ (has_lv HO4.out) qg_lv (len2 _ _)).mono ?_
  rintro e w5 ⟨rfl, hb⟩
  rw [lv_show, lv_all]
  have HB5 := Lib.hid (HB4.out.trans (hb.mono HB4.out.size))
  have HK5 := Lib.hid (HK4.out.next hb)
  have HX5 := Lib.hid (HX4.out.trans (hb.mono HX4.out.size))
  clear hb HO4 HK4 HX4 HB4 HK3 HX3
  go_wp2_with fail
  refine (c_Parse (HG.out.below HB5.out) lvS (linesOk_small (by decide))).mono ?_
  rintro e w6 ⟨⟨es, v, hx, rfl, ho, _, _⟩ | ⟨n, hx, rfl⟩, hb⟩
  case inr => rw [lv_parse] at hx; cases hx
  rw [lv_parse] at hx
  have hlen : es.length = 2 := by
    have h := Except.ok.inj hx
    have := congrArg List.length h
    simpa using this.symm
  obtain ⟨va, vc, rfl⟩ : ∃ a c, v = .slice a 2 c := by
    obtain ⟨a, c, e⟩ := hasE_slice ho.has
    rw [List.length_map, hlen] at e
    exact ⟨a, c, e⟩
  have HB6 := Lib.hid (HB5.out.trans (hb.mono HB5.out.size))
  have HK6 := Lib.hid (HK5.out.next hb)
  have HX6 := Lib.hid (HX5.out.trans (hb.mono HX5.out.size))
  clear hb hx ho hlen HB5 HK5 HX5
  go_wp2_with fail
  refine (c_Parse (HG.out.below HB6.out) lvB (linesOk_small (by decide))).mono ?_
  rintro e w7 ⟨⟨es2, v2, hx, rfl, ho, _, _⟩ | ⟨n, hx, rfl⟩, hb⟩
  case inl => rw [lv_bad] at hx; cases hx
  rw [lv_bad] at hx
  obtain rfl := Except.error.inj hx
  have HB7 := Lib.hid (HB6.out.trans (hb.mono HB6.out.size))
  have HK7 := Lib.hid (HK6.out.next hb)
  have HX7 := Lib.hid (HX6.out.trans (hb.mono HX6.out.size))
  clear hb hx HB6 HK6 HX6
  have hS := lvS_list
  have hL := lvL_list
  generalize lvS = sS at hS ⊢
  have x7 : w7.cell? ⟨w1.heap.size, 7, none⟩ = some (.int .i64 1) := HK7.out.cell 7 _ rfl
  have x13 : w7.cell? ⟨w1.heap.size, 13, none⟩ = some (.slice ma 1 mc) := HK7.out.cell 13 _ rfl
  have HRG := Lib.hid HK7.out.range
  go_wp2_with (with_reducible show wpList _ _ _ ({ dst := _, op := Op.load 39 _, type := _, pos := _, after := _, guard := _ } :: _) _ _; refine wpList_loadW (by kernel_rfl) 39 _ rfl w1.heap.size 0 rfl (ecells (.slice ma 1 mc) (.slice fa 0 fc) lvE) HRG.out 33 szE (nE _ _ _) ruE ?_)
  refine (c_Told (HG.out.below HB7.out) ma mc fa fc lvE (lv_qg.qw (HM1.out.keep HX7.out) (HF1.out.keep HX7.out))).mono ?_
  rintro e w8 ⟨rfl, hb⟩
  rw [lv_told]
  have HB8 := Lib.hid (HB7.out.trans (hb.mono HB7.out.size))
  have HK8 := Lib.hid (HK7.out.next hb)
  have HX8 := Lib.hid (HX7.out.trans (hb.mono HX7.out.size))
  clear hb HB7 HK7 HX7 x7 x13 HRG
  have x7 : w8.cell? ⟨w1.heap.size, 7, none⟩ = some (.int .i64 1) := HK8.out.cell 7 _ rfl
  have x13 : w8.cell? ⟨w1.heap.size, 13, none⟩ = some (.slice ma 1 mc) := HK8.out.cell 13 _ rfl
  have HRG := Lib.hid HK8.out.range
  go_wp2_with (with_reducible show wpList _ _ _ ({ dst := _, op := Op.load 39 _, type := _, pos := _, after := _, guard := _ } :: _) _ _; refine wpList_loadW (by kernel_rfl) 39 _ rfl w1.heap.size 0 rfl (ecells (.slice ma 1 mc) (.slice fa 0 fc) lvE) HRG.out 33 szE (nE _ _ _) ruE ?_)
  refine (c_Line (HG.out.below HB8.out) ma mc fa fc lvE (lv_qg.qw (HM1.out.keep HX8.out) (HF1.out.keep HX8.out))).mono ?_
  rintro e w9 ⟨rfl, hb⟩
  rw [lv_line]
  generalize lvL = sL at hL ⊢
  have HB9 := Lib.hid (HB8.out.trans (hb.mono HB8.out.size))
  clear hb HB8 HK8 HX8 x7 x13 HRG
  go_wp2
  go_ret
  exact ⟨rfl, HB9.out⟩
end Go.Proofs.YtkogcobcjoojnaaGreatDoor.Fl

namespace Go.Proofs.YtkogcobcjoojnaaGreatDoor.Fl
open Go.RowKit Go.Maps
set_option linter.unusedVariables false
set_option linter.unusedSimpArgs false
def linesL (l : List EvE) : List (List UInt8) := l.map fun e => (lineE e).data.toList
theorem showE_yes {l : List EvE} (h : l.all told = true) : showE l = ⟨(cat (linesL l)).toArray⟩ := by unfold showE; rw [if_pos h]; rfl
theorem showE_no {l : List EvE} (h : ¬ l.all told = true) : showE l = noB := by unfold showE; rw [if_neg h]
theorem ba_mk (a b : List UInt8) : (⟨a.toArray⟩ : ByteArray) ++ ⟨b.toArray⟩ = ⟨(a ++ b).toArray⟩ := by
  apply ba_ext
  rw [ByteArray.data_append]
  simp
theorem show_app {a b : List EvE} (ha : a.all told = true) (hb : b.all told = true) : showE a ++ showE b = showE (a ++ b) := by
  rw [showE_yes ha, showE_yes hb, showE_yes (by rw [List.all_append, ha, hb]; rfl), ba_mk, ← cat_append]
  unfold linesL
  rw [List.map_append]
theorem cat_len : ∀ (ls : List (List UInt8)) (n : Nat), (∀ l ∈ ls, l.length ≤ n) → (cat ls).length ≤ ls.length * (n + 1)
  | [], n, _ => by simp [cat]
  | x :: r, n, h => by
    have ih := cat_len r n (fun l hl => h l (List.mem_cons_of_mem _ hl))
    have h1 := h x (by simp)
    have e : cat (x :: r) = (x ++ [10]) ++ cat r := by simp [cat]
    have e2 : (r.length + 1) * (n + 1) = r.length * (n + 1) + (n + 1) := Nat.succ_mul _ _
    rw [e]
    simp only [List.length_append, List.length_cons, List.length_nil]
    rw [e2]
    omega
theorem linesOk_cat {ls : List (List UInt8)} (h10 : ∀ l ∈ ls, ∀ b ∈ l, ¬ b = 10) (hs : ∀ l ∈ ls, l.length ≤ 60000) (hl : ls.length ≤ 1000) : LinesOk ⟨(cat ls).toArray⟩ := by
  have h1 := cat_len ls 60000 hs
  have h2 : ls.length * 60001 ≤ 1000 * 60001 := Nat.mul_le_mul_right _ hl
  have hsz : (⟨(cat ls).toArray⟩ : ByteArray).size ≤ 1000000000 := by rw [Lib.size_mk]; omega
  by_cases hn : ls = []
  · subst hn
    have e : linesB ⟨(cat []).toArray⟩ = [noB] := by
      show (linesOf (cat [])).map _ = _
      rw [lines_nil]
      rfl
    exact ⟨hsz, fun x hx => by rw [e] at hx; rw [List.mem_singleton.1 hx]; decide, by rw [e]; decide⟩
  · have e : linesB ⟨(cat ls).toArray⟩ = ls.map fun l => ⟨l.toArray⟩ := by
      show (linesOf (cat ls)).map _ = _
      rw [lines_cat ls hn h10]
    refine ⟨hsz, fun x hx => ?_, by rw [e, List.length_map]; omega⟩
    rw [e] at hx
    obtain ⟨l, hl2, rfl⟩ := List.mem_map.1 hx
    have := hs l hl2
    rw [Lib.size_mk]
    omega
/-- Events that a text may hold. -/
def Evs (l : List EvE) : Prop := (∀ e ∈ l, QG e.req) ∧ l.all told = true
theorem Evs.each {l : List EvE} (h : Evs l) : ∀ e ∈ l, ReqW e.req ∧ told e = true := fun e he => ⟨(h.1 e he).n, List.all_eq_true.1 h.2 e he⟩
theorem Evs.no10 {l : List EvE} (h : Evs l) : ∀ x ∈ linesL l, ∀ b ∈ x, ¬ b = 10 := fun x hx b hb => by
  obtain ⟨e, he, rfl⟩ := List.mem_map.1 hx
  exact line_no10 (h.each e he).2 b hb
theorem Evs.short {l : List EvE} (h : Evs l) : ∀ x ∈ linesL l, x.length ≤ 60000 := fun x hx => by
  obtain ⟨e, he, rfl⟩ := List.mem_map.1 hx
  exact lineE_size (h.1 e he).n
theorem Evs.app {a b : List EvE} (ha : Evs a) (hb : Evs b) : Evs (a ++ b) := ⟨fun e he => by
  rcases List.mem_append.1 he with he | he
  · exact ha.1 e he
  · exact hb.1 e he, by rw [List.all_append, ha.2, hb.2]; rfl⟩
theorem Evs.sub {l : List EvE} (h : Evs l) {r : List EvE} (hr : ∀ e ∈ r, e ∈ l) : Evs r := ⟨fun e he => h.1 e (hr e he), List.all_eq_true.2 fun e he => List.all_eq_true.1 h.2 e (hr e he)⟩
theorem linesL_len (l : List EvE) : (linesL l).length = l.length := by unfold linesL; rw [List.length_map]
theorem ok_show {l : List EvE} (h : Evs l) (hl : l.length ≤ 1000) : LinesOk (showE l) ∧ parseE (showE l) = .ok l := by
  rw [showE_yes h.2]
  exact ⟨linesOk_cat h.no10 h.short (by rw [linesL_len]; exact hl), parse_show h.each⟩
/-- The text with a remark ahead. -/
def remT (rm : ByteArray) (s : ByteArray) : ByteArray := (⟨#[10, 35]⟩ : ByteArray) ++ rm ++ ⟨#[10]⟩ ++ s
theorem rem_eq (rm : ByteArray) (ls : List (List UInt8)) : remT rm ⟨(cat ls).toArray⟩ = ⟨([10, 35] ++ rm.data.toList ++ [10] ++ cat ls).toArray⟩ := by
  apply ba_ext
  unfold remT
  simp [ByteArray.data_append]
theorem ok_rem {l : List EvE} (h : Evs l) (hl : l.length ≤ 500) (rm : ByteArray) (h10 : ∀ b ∈ rm.data.toList, ¬ b = 10) (hr : rm.size ≤ 100) : LinesOk (remT rm (showE l)) ∧ parseE (remT rm (showE l)) = .ok l := by
  rw [showE_yes h.2, rem_eq]
  refine ⟨?_, parse_remark h.each rm.data.toList h10⟩
  have e : [10, 35] ++ rm.data.toList ++ [10] ++ cat (linesL l) = cat ([] :: (35 :: rm.data.toList) :: linesL l) := by simp [cat]
  rw [e]
  have hrl : rm.data.toList.length = rm.size := rfl
  refine linesOk_cat (fun x hx b hb => ?_) (fun x hx => ?_) (by rw [List.length_cons, List.length_cons, linesL_len]; omega)
  · rcases List.mem_cons.1 hx with rfl | hx
    · cases hb
    · rcases List.mem_cons.1 hx with rfl | hx
      · rcases List.mem_cons.1 hb with rfl | hb
        · decide
        · exact h10 b hb
      · exact h.no10 x hx b hb
  · rcases List.mem_cons.1 hx with rfl | hx
    · simp
    · rcases List.mem_cons.1 hx with rfl | hx
      · rw [List.length_cons]; omega
      · exact h.short x hx
/-- Two texts with a line between them that tells none. -/
def askT (a : ByteArray) (rm : ByteArray) (b : ByteArray) : ByteArray := a ++ (⟨#[63]⟩ : ByteArray) ++ rm ++ ⟨#[10]⟩ ++ b
theorem ask_eq (rm : ByteArray) (la lb : List (List UInt8)) : askT ⟨(cat la).toArray⟩ rm ⟨(cat lb).toArray⟩ = ⟨(cat la ++ [63] ++ rm.data.toList ++ [10] ++ cat lb).toArray⟩ := by
  apply ba_ext
  unfold askT
  simp [ByteArray.data_append]
theorem ok_ask {a b : List EvE} (ha : Evs a) (hb : Evs b) (hl : a.length + b.length ≤ 500) (rm : ByteArray) (h10 : ∀ b ∈ rm.data.toList, ¬ b = 10) (hr : rm.size ≤ 100) : LinesOk (askT (showE a) rm (showE b)) ∧ parseE (askT (showE a) rm (showE b)) = .error (a.length + 1) := by
  rw [showE_yes ha.2, showE_yes hb.2, ask_eq]
  refine ⟨?_, parse_ask ha.each (fun e he => (hb.each e he).2) rm.data.toList h10⟩
  have e : cat (linesL a) ++ [63] ++ rm.data.toList ++ [10] ++ cat (linesL b) = cat (linesL a ++ (63 :: rm.data.toList) :: linesL b) := by simp [cat]
  rw [e]
  have hrl : rm.data.toList.length = rm.size := rfl
  refine linesOk_cat (fun x hx c hc => ?_) (fun x hx => ?_) (by rw [List.length_append, List.length_cons, linesL_len, linesL_len]; omega)
  · rcases List.mem_append.1 hx with hx | hx
    · exact ha.no10 x hx c hc
    · rcases List.mem_cons.1 hx with rfl | hx
      · rcases List.mem_cons.1 hc with rfl | hc
        · decide
        · exact h10 c hc
      · exact hb.no10 x hx c hc
  · rcases List.mem_append.1 hx with hx | hx
    · exact ha.short x hx
    · rcases List.mem_cons.1 hx with rfl | hx
      · rw [List.length_cons]; omega
      · exact hb.short x hx
end Go.Proofs.YtkogcobcjoojnaaGreatDoor.Fl

namespace Go.Proofs.YtkogcobcjoojnaaGreatDoor.Fl
open Go.RowKit Go.Maps
set_option linter.unusedVariables false
set_option linter.unusedSimpArgs false
theorem yl_at {P : Program} {ops : Array Oper} {S : World → Prop} {op : Oper} {a : Act} (hw : Region.wanted op (yielded ops a.tmps) = true) (ty : TypeId) (x : Operand) (ho : op.op = .load ty x)
    (b o : Nat) (hx : a.eval x = .pointer (some ⟨b, o, none⟩)) (cs : Array Value) (hS : ∀ w, S w → w.rangeAt b o cs.toList) (n : Nat) (hi : (P.info? ty).map (·.size) = some n) (hm : cs.size = n) (hu : ∃ d, P.underlying ty = some d ∧ d.isRow = true) : YieldsIf P ops S op (.agg cs) a := by
  obtain ⟨d, hu, hd⟩ := hu
  have := yieldsIf_load_mid (ops := ops) (S := S) hw ty x ho b o hx cs.toList d hS hu hd (by rw [hi, ← hm]; simp)
  simpa using this
/-- A request as it is handed in: without bounds on its rows. -/
structure QP (q : ReqE) : Prop where
  mv : ∀ m ∈ q.muts, VW m.vn m.vs
  v : VW q.vn q.vs
  n : ReqW q
theorem QP.qg {q : ReqE} (h : QP q) (h1 : q.muts.length ≤ 20) (h2 : q.fil.fams.length ≤ 20) : QG q := ⟨by omega, by omega, h.mv, h.v, h.n⟩
theorem list_ofE {α : Type} (p : Nat → α → Prop) : ∀ n, (∀ i, i < n → ∃ a, p i a) → ∃ l : List α, l.length = n ∧ ∀ i a, l[i]? = some a → p i a
  | 0, _ => ⟨[], rfl, fun i a h => by simp at h⟩
  | n + 1, h => by
    obtain ⟨l, hl, hp⟩ := list_ofE p n (fun i hi => h i (by omega))
    obtain ⟨a, ha⟩ := h n (by omega)
    refine ⟨l ++ [a], by simp [hl], fun i b hb => ?_⟩
    by_cases hi : i < n
    · exact hp i b (by rwa [List.getElem?_append_left (by omega)] at hb)
    · have hlt := (List.getElem?_eq_some_iff.1 hb).1
      simp at hlt
      obtain rfl : i = n := by omega
      rw [List.getElem?_append_right (by omega), hl] at hb
      simp at hb
      subst hb
      exact ha
/-- A row of events that came in, or none at all. -/
def SrcN (W : World) (o : Option Nat) (v : Value) (l : List (Value × Value × EvE)) : Prop := (v = .slice none 0 0 ∧ l = []) ∨ SrcE W o v l
theorem SrcN.below {W W' : World} {o : Option Nat} {v : Value} {l : List (Value × Value × EvE)} (h : SrcN W o v l) (hb : Below W.heap.size W W') : SrcN W' o v l := by
  rcases h with h | ⟨ad, c, hv, hc, hk⟩
  · exact Or.inl h
  · exact Or.inr ⟨ad, c, hv, fun j u hj => (hb.cell (World.block_lt_of_cell? W _ (hc j u hj))).trans (hc j u hj), fun x hx => (hk x hx).below hb⟩
theorem HasE.src {W : World} {v : Value} {es : List EvE} (h : HasE W v es) (hn : v = .slice none 0 0 ∨ ∃ ad n c, v = .slice (some ad) n c) :
    ∃ l : List (Value × Value × EvE), l.map (·.2.2) = es ∧ ∀ o : Option Nat, (∀ g, o = some g → W.heap.size ≤ g) → SrcN W o v l := by
  obtain ⟨a, c, rfl, hk⟩ := h
  obtain ⟨l, hl, hp⟩ := list_ofE (fun i (x : Value × Value × EvE) => es[i]? = some x.2.2 ∧ ∃ b o, a = some ⟨b, o, none⟩ ∧ W.rangeAt b (o + i * 33) (ecells x.1 x.2.1 x.2.2).toList ∧ HasM W x.1 x.2.2.req.muts ∧ HasS W x.2.1 x.2.2.req.fil.fams) es.length (fun i hi => by
    obtain ⟨b, o, ms, fv, h1, h2, h3, h4⟩ := hk i es[i] (List.getElem?_eq_getElem hi)
    exact ⟨(ms, fv, es[i]), List.getElem?_eq_getElem hi, b, o, h1, h2, h3, h4⟩)
  have hmap : l.map (·.2.2) = es := by
    apply List.ext_getElem?
    intro i
    rw [List.getElem?_map]
    cases hx : l[i]? with
    | none =>
      have : es.length ≤ i := by rw [← hl]; exact List.getElem?_eq_none_iff.1 hx
      rw [List.getElem?_eq_none_iff.2 this]
      rfl
    | some x => rw [(hp i x hx).1]; rfl
  refine ⟨l, hmap, fun o ho => ?_⟩
  have hok : ∀ x ∈ l, EvOk W o x := fun x hx => by
    obtain ⟨i, hi⟩ := List.mem_iff_getElem?.1 hx
    obtain ⟨_, b, o2, _, _, hm, hf⟩ := hp i x hi
    exact ⟨hm, hf, fun hne g hg e => by have := hm.lt hne hg; have := ho g e; omega, fun hne g hg e => by have := hf.lt hne hg; have := ho g e; omega⟩
  rcases hn with hn | ⟨ad, n, c', hn⟩
  · left
    refine ⟨hn, ?_⟩
    have : es.length = 0 := by injection hn
    exact List.length_eq_zero_iff.1 (by omega)
  · right
    have ha : a = some ad := by injection hn
    subst ha
    refine ⟨ad, c, by rw [hl], fun j u hj => ?_, hok⟩
    have hlt := (List.getElem?_eq_some_iff.1 hj).1
    rw [elist_len] at hlt
    have hq : j / 33 < l.length := by omega
    have hx := List.getElem?_eq_getElem hq
    obtain ⟨_, b, o2, e, hr, _, _⟩ := hp _ _ hx
    obtain rfl := Option.some.inj e
    have hr2 : j % 33 < (ecells l[j / 33].1 l[j / 33].2.1 l[j / 33].2.2).size := by show j % 33 < 33; omega
    have h5 := Array.getElem?_eq_getElem hr2
    have h6 := elist_at l (j / 33) _ (j % 33) _ hx h5
    rw [show j / 33 * 33 + j % 33 = j by omega, hj] at h6
    have h7 := hr (j % 33) _ (by rw [Array.getElem?_toList]; exact h5)
    rw [Addr.add_mid, h6, ← h7]
    congr 2
    omega
theorem OwnE.empty (W : World) : OwnE (W.alloc (.cells #[] 39)) W.heap.size (.slice (some ⟨W.heap.size, 0, none⟩) 0 0) [] :=
  ⟨World.ownsRow_lit W #[] 0 (Nat.le_refl _) (by unfold maxLen; omega) rfl, fun x hx => nomatch hx⟩
theorem wp_append_n {w : World} {ops : Array Oper} {rest : List Oper} {o : Oper} {a : Act} {Q : Exit → Act → World → Prop} (hgd : o.guard = none) (s x : Operand)
    (ho : o.op = .call { callee := .builtin .append, args := #[s, x], argTypes := #[22, 22] })
    (B : Nat) (v v2 : Value) (l l2 : List (Value × Value × EvE)) (hs : a.eval s = v) (hx : a.eval x = v2) (hown : OwnE w B v l) (hsrc : SrcN w v.ownBlock v2 l2) (hlen : l.length + l2.length ≤ 1000000) (hB : B ≤ w.heap.size)
    (h : ∀ v' w', OwnE w' B v' (l ++ l2) → Below B w w' → wpList Tryz.prog ops Q rest (a.put o.dst v') w') :
    wpList Tryz.prog ops Q (o :: rest) a w := by
  rcases hsrc with ⟨rfl, rfl⟩ | hsrc
  · refine wp_append_e0 hgd s x ho B v l hs hx hown (h v w ?_ (Below.refl _ _))
    rw [List.append_nil]
    exact hown
  · exact wp_append_e hgd s x ho B v v2 l l2 hs hx hown hsrc hlen hB (fun v' w' h1 h2 _ => h v' w' h1 h2)
end Go.Proofs.YtkogcobcjoojnaaGreatDoor.Fl

namespace Go.Proofs.YtkogcobcjoojnaaGreatDoor.Fl
open Go.RowKit Go.Maps
set_option linter.unusedVariables false
set_option linter.unusedSimpArgs false
theorem wpList_cut {ops : Array Oper} {rest : List Oper} {op : Oper} {a : Act} {w : World} {Q : Exit → Act → World → Prop} (hgd : op.guard = none) (x : Operand) (lo hi : Option Operand) (ho : op.op = .slice 22 x lo hi none) (v : Value)
    (hr : (Instr.sliceAt 22 (a.eval x) (lo.map a.eval) (hi.map a.eval) none).run Tryz.prog w = .ok v w) (h : wpList Tryz.prog ops Q rest (a.put op.dst v) w) : wpList Tryz.prog ops Q (op :: rest) a w :=
  wpList_plain hgd fun _ hK => by
    unfold Oper.wp execOp
    simp only [ho, Sem.run_bind, Option.map_none, hr, Result.andThen_ok]
    exact hK _ _ h
theorem run_cut_hi (w : World) (a : Option Addr) (N c k : Nat) (hk : k ≤ c) : (Instr.sliceAt 22 (.slice a N c) none (some (.int .i64 k)) none).run Tryz.prog w = .ok (.slice a k c) w := by
  obtain ⟨i0, hi, hz0, hz1, hz2⟩ := info_parts infoE
  have hb : (Instr.sliceBounds true N c none (some (.int .i64 k)) none).run Tryz.prog w = .ok (0, k, c) w := by
    simp [Instr.sliceBounds, run_sliceBound w .i64 k c .sliceAcap (by omega) (by omega), go_sem]
  simp only [Instr.sliceAt, run_underlying Tryz.underlying22, Sem.run_bind, Result.andThen_ok, Instr.slice, hb, sizeOf, typeInfo, hi]
  simp [hi]
  intro _
  cases a <;> simp [Addr.add]
theorem run_cut_lo (w : World) (a : Option Addr) (N c k : Nat) (hk : k ≤ N) : (Instr.sliceAt 22 (.slice a N c) (some (.int .i64 k)) none none).run Tryz.prog w = .ok (.slice (if c = k then a else a.map (fun x => x.add (k * 33))) (N - k) (c - k)) w := by
  obtain ⟨i0, hi, hz0, hz1, hz2⟩ := info_parts infoE
  have hb : (Instr.sliceBounds true N c (some (.int .i64 k)) none none).run Tryz.prog w = .ok (k, N, c) w := by
    simp [Instr.sliceBounds, run_sliceBound w .i64 k N .sliceB (by omega) (by omega), go_sem]
  simp only [Instr.sliceAt, run_underlying Tryz.underlying22, Sem.run_bind, Result.andThen_ok, Instr.slice, hb, sizeOf, typeInfo, hi]
  simp [hi, hz1]
theorem HasE.takeE {W : World} {a : Option Addr} {N c : Nat} {es : List EvE} (h : HasE W (.slice a N c) es) (hN : es.length = N) {k : Nat} (hk : k ≤ N) : HasE W (.slice a k c) (es.take k) := by
  obtain ⟨a', c', hv, hk2⟩ := h
  obtain rfl : a = a' := by injection hv
  refine ⟨a, c, by rw [List.length_take, hN, Nat.min_eq_left hk], fun j e hj => hk2 j e ?_⟩
  rw [List.getElem?_take] at hj
  split at hj
  · exact hj
  · cases hj
theorem HasE.dropE {W : World} {a : Option Addr} {N c : Nat} {es : List EvE} (h : HasE W (.slice a N c) es) (hN : es.length = N) {k : Nat} (hk : k ≤ N) (hc : N ≤ c) : HasE W (.slice (if c = k then a else a.map (fun x => x.add (k * 33))) (N - k) (c - k)) (es.drop k) := by
  obtain ⟨a', c', hv, hk2⟩ := h
  obtain rfl : a = a' := by injection hv
  refine ⟨_, _, by rw [List.length_drop, hN], fun j e hj => ?_⟩
  rw [List.getElem?_drop] at hj
  obtain ⟨b, o, ms, fv, rfl, hr, hm, hf⟩ := hk2 _ e hj
  have hlt := (List.getElem?_eq_some_iff.1 hj).1
  refine ⟨b, o + k * 33, ms, fv, ?_, ?_, hm, hf⟩
  · rw [if_neg (by omega), Option.map_some, Addr.add_mid]
  · rw [show o + k * 33 + j * 33 = o + (k + j) * 33 by omega]
    exact hr
set_option maxRecDepth 100000 in
set_option maxHeartbeats 8000000 in
theorem scriptParts (w : World) (hg : Gv w) (va vb : Value) (A B : List EvE) (ha : HasE w va A) (hb : HasE w vb B) (na : va = .slice none 0 0 ∨ ∃ ad n c, va = .slice (some ad) n c) (nb : vb = .slice none 0 0 ∨ ∃ ad n c, vb = .slice (some ad) n c) (qa : ∀ e ∈ A, QP e.req) (qb : ∀ e ∈ B, QP e.req) :
    Calls Tryz.prog 4 #[va, vb] w fun e w' => e = .returned (.bool true) ∧ Below w.heap.size w w' := by
  have szE := szE
  have HG := Lib.hid hg
  have HA := Lib.hid ha
  have HB := Lib.hid hb
  have HNA := Lib.hid na
  have HNB := Lib.hid nb
  have HQA := Lib.hid qa
  have HQB := Lib.hid qb
  clear hg ha hb na nb qa qb
  go_enter Tryz.func4, Tryz.ntmps4
  go_wp2_with fail
  refine (c_lalive w HG.out).mono ?_
  rintro e w1 ⟨rfl, hb⟩
  have HW1 := Lib.hid hb
  clear hb
  go_wp2_with fail
  refine (c_Great A va w1 (HA.out.keep HW1.out)).mono ?_
  rintro e w2 ⟨⟨ga, rfl, hga⟩, hb⟩
  have HW2 := Lib.hid (HW1.out.trans (hb.mono HW1.out.size))
  have HGA := Lib.hid hga
  clear hb hga
  cases ga
  case true =>
    go_wp2
    go_ret
    exact ⟨rfl, HW2.out⟩
  go_wp2_with fail
  refine (c_Great B vb w2 (HB.out.keep HW2.out)).mono ?_
  rintro e w3 ⟨⟨gb, rfl, hgb⟩, hb⟩
  have HW3 := Lib.hid (HW2.out.trans (hb.mono HW2.out.size))
  have HGB := Lib.hid hgb
  clear hb hgb
  cases gb
  case true =>
    go_wp2
    go_ret
    exact ⟨rfl, HW3.out⟩
  have HEA := Lib.hid (show A.length ≤ 150 ∧ ∀ e ∈ A, QG e.req from ⟨(HGA.out (by trivial)).1, fun e he => (HQA.out e he).qg ((HGA.out (by trivial)).2 e he).1 ((HGA.out (by trivial)).2 e he).2⟩)
  have HEB := Lib.hid (show B.length ≤ 150 ∧ ∀ e ∈ B, QG e.req from ⟨(HGB.out (by trivial)).1, fun e he => (HQB.out e he).qg ((HGB.out (by trivial)).2 e he).1 ((HGB.out (by trivial)).2 e he).2⟩)
  clear HGA HGB HQA HQB HW1 HW2
  go_wp2_with fail
  refine (c_Show (HG.out.below HW3.out) A va (HA.out.keep HW3.out) HEA.out.2 (by have := HEA.out.1; omega)).mono ?_
  rintro e w4 ⟨rfl, hb⟩
  have HW4 := Lib.hid (HW3.out.trans (hb.mono HW3.out.size))
  clear hb
  go_wp2_with fail
  refine (c_Show (HG.out.below HW4.out) B vb (HB.out.keep HW4.out) HEB.out.2 (by have := HEB.out.1; omega)).mono ?_
  rintro e w5 ⟨rfl, hb⟩
  have HW5 := Lib.hid (HW4.out.trans (hb.mono HW4.out.size))
  clear hb HW3 HW4
  obtain ⟨lA, hlA, hsA⟩ := (HA.out.keep HW5.out).src HNA.out
  obtain ⟨lB, hlB, hsB⟩ := (HB.out.keep HW5.out).src HNB.out
  have HLA := Lib.hid hlA
  have HLB := Lib.hid hlB
  have HSA := Lib.hid hsA
  have HSB := Lib.hid hsB
  have HLE := Lib.hid (show lA.length ≤ 150 ∧ lB.length ≤ 150 by
    have h1 := congrArg List.length hlA
    have h2 := congrArg List.length hlB
    rw [List.length_map] at h1 h2
    exact ⟨by have := HEA.out.1; omega, by have := HEB.out.1; omega⟩)
  clear hlA hlB hsA hsB HNA HNB HA HB
  have HO6 := Lib.hid (OwnE.empty w5)
  have HX6 := Lib.hid (below_box (w := w5) #[] 39)
  obtain ⟨W6, hW6⟩ : ∃ W, w5.alloc (.cells #[] 39) = W := ⟨_, rfl⟩
  rw [hW6] at HO6 HX6
  go_wp2_with (first | (at_builtin; refine wp_append_n rfl (.tmp 34) (.tmp 35) rfl w5.heap.size (.slice (some ⟨w5.heap.size, 0, none⟩) 0 0) va [] lA rfl rfl ?o1 ?s1 ?l1 ?b1 ?_; (case o1 => exact HO6.out); (case s1 => exact (HSA.out _ (fun g hg => Nat.le_of_eq (by simpa [Value.ownBlock] using hg))).below HX6.out); (case l1 => have := HLE.out; simp; omega); (case b1 => exact HX6.out.size); intro v7 w7 ho hb7; have HO7 := Lib.hid ho; have HX7 := Lib.hid (HX6.out.trans hb7); clear ho hb7 hW6) | (at_builtin; refine wp_append_n rfl (.tmp 36) (.tmp 37) rfl w5.heap.size v7 vb ([] ++ lA) lB rfl rfl ?o2 ?s2 ?l2 ?b2 ?_; (case o2 => exact HO7.out); (case s2 => exact (HSB.out _ (fun g hg => (HO7.out.lt g hg).1)).below HX7.out); (case l2 => have := HLE.out; simp; omega); (case b2 => exact HX7.out.size); intro v8 w8 ho hb8; have HO8 := Lib.hid ho; have HX8 := Lib.hid (HX7.out.trans hb8); clear ho hb8))
  have HE8 := Lib.hid (show HasE w8 v8 (A ++ B) by
    have := HO8.out.has
    rw [List.nil_append, List.map_append, HLA.out, HLB.out] at this
    exact this)
  have HW8 := Lib.hid (HW5.out.trans (HX8.out.mono HW5.out.size))
  have HQ := Lib.hid (show ∀ e ∈ A ++ B, QG e.req from fun e he => by
    rcases List.mem_append.1 he with he | he
    · exact HEA.out.2 e he
    · exact HEB.out.2 e he)
  have HN := Lib.hid (show (A ++ B).length ≤ 300 by rw [List.length_append]; have := HEA.out.1; have := HEB.out.1; omega)
  clear HO6 HX6 HO7 HX7 HO8 HX8 HSA HSB HLA HLB HLE
  refine (c_Show (HG.out.below HW8.out) (A ++ B) v8 HE8.out HQ.out (by have := HN.out; omega)).mono ?_
  rintro e w9 ⟨rfl, hb⟩
  have HW9 := Lib.hid (HW8.out.trans (hb.mono HW8.out.size))
  have HE9 := Lib.hid (HE8.out.keep hb)
  clear hb HE8 HW8 HW5
  have HAL := Lib.hid (show (A ++ B).all told = (A.all told && B.all told) from List.all_append)
  rw [HAL.out]
  have HZ := Lib.hid (show (A.all told && B.all told) = false → showE (A ++ B) = noB from fun h => showE_no (by rw [HAL.out, h]; decide))
  have HY := Lib.hid (show A.all told = true → B.all told = true → (showE A ++ showE B = showE (A ++ B) ∧ (LinesOk (showE (A ++ B)) ∧ parseE (showE (A ++ B)) = .ok (A ++ B)) ∧ ¬ 9223372036854775807 < (showE A).size + (showE B).size) from fun h1 h2 => by
    have he1 : Evs A := ⟨HEA.out.2, h1⟩
    have he2 : Evs B := ⟨HEB.out.2, h2⟩
    have hk := ok_show (he1.app he2) (by have := HN.out; omega)
    refine ⟨show_app h1 h2, hk, ?_⟩
    have hsz := hk.1.size
    rw [← show_app h1 h2, ByteArray.size_append] at hsz
    omega)
  generalize A.all told = xa at HZ HY ⊢
  generalize B.all told = xb at HZ HY ⊢
  generalize showE A = sA at HY ⊢
  generalize showE B = sB at HY ⊢
  generalize showE (A ++ B) = sC at HZ HY ⊢
  clear HAL HEA HEB
  cases xa <;> cases xb
  case false.false | false.true | true.false =>
    have hz : sC.toList.isEmpty = true := by rw [isE, HZ.out (by trivial)]; rfl
    go_wp2
    go_ret
    exact ⟨rfl, HW9.out⟩
  obtain ⟨hcat, ⟨hlk, hps⟩, hadd⟩ := HY.out (by trivial) (by trivial)
  have HLK := Lib.hid hlk
  have HPS := Lib.hid hps
  clear hlk hps HZ HY
  go_wp2_with fail
  refine (c_Parse (HG.out.below HW9.out) sC HLK.out).mono ?_
  rintro e w10 ⟨⟨es, v10, hx, rfl, ho, _, _⟩ | ⟨n, hx, rfl⟩, hb⟩
  case inr => rw [HPS.out] at hx; cases hx
  rw [HPS.out] at hx
  have hes := Except.ok.inj hx
  have HE10 := Lib.hid (show HasE w10 v10 (A ++ B) by rw [hes]; exact ho.has)
  have HF10 := Lib.hid (HE9.out.keep hb)
  have HW10 := Lib.hid (HW9.out.trans (hb.mono HW9.out.size))
  clear hx hes ho hb HE9 HW9 HPS HLK
  generalize A ++ B = AB at HE10 HF10 HQ HN
  obtain ⟨p1, k1, rfl⟩ := hasE_slice HE10.out
  obtain ⟨p2, k2, rfl⟩ := hasE_slice HF10.out
  obtain ⟨N, hN⟩ : ∃ N, AB.length = N := ⟨_, rfl⟩
  have HNN := Lib.hid hN
  rw [hN] at HE10 HF10 HN ⊢
  clear hN
  have hcat2 : (sC.toList == sC.toList) = true := by simp
  go_wp2
  clear hcat hadd hcat2
  go_loopw [15] (fun v15 W => ∃ i : Nat, i ≤ N ∧ v15 = .int .i64 i ∧ Hid (Below w10.heap.size w10 W)) (fun v15 _ => N - (intOf v15).toNat)
  case atStart => exact ⟨0, Nat.zero_le _, rfl, Lib.hid (Below.refl _ _)⟩
  case round =>
    obtain ⟨i, hi2, rfl, HB⟩ := hrel
    by_cases hlt : i < N
    · have t1 : decide ((i : Int) < (N : Int)) = true := decide_eq_true (by omega)
      have hk0 : (0 : Int) ≤ (i : Int) := by omega
      have hk1 : (i : Int) < (N : Int) := by omega
      have hk2 : (i : Int) ≤ 300 := by have := HN.out; omega
      obtain ⟨ev, hev⟩ : ∃ ev, AB[i]? = some ev := ⟨_, List.getElem?_eq_getElem (by rw [HNN.out]; exact hlt)⟩
      have HQE := Lib.hid (HQ.out ev (List.mem_of_getElem? hev))
      have HWD := Lib.hid (HB.out.drew)
      obtain ⟨b1, o1, m1, c1, f1, d1, rfl, hr1, hm1, hf1⟩ := (HE10.out.keep HWD.out).elem hev
      obtain ⟨b2, o2, m2, c2, f2, d2, rfl, hr2, hm2, hf2⟩ := (HF10.out.keep HWD.out).elem hev
      have HR1 := Lib.hid hr1
      have HM1 := Lib.hid hm1
      have HF1 := Lib.hid hf1
      have HR2 := Lib.hid hr2
      have HM2 := Lib.hid hm2
      have HF2 := Lib.hid hf2
      have HNX := Lib.hid (show i + 1 ≤ N ∧ i ≤ 300 by have := HN.out; omega)
      clear hev hr1 hm1 hf1 hr2 hm2 hf2 hlt
      go_wp2_with fail
      refine wp_region_held_drew (S := fun X => X.rangeAt b1 (o1 + i * 33) (ecells (.slice m1 ev.req.muts.length c1) (.slice f1 ev.req.fil.fams.length d1) ev).toList ∧ X.rangeAt b2 (o2 + i * 33) (ecells (.slice m2 ev.req.muts.length c2) (.slice f2 ev.req.fil.fams.length d2) ev).toList) (by kernel_rfl) ⟨HR1.out, HR2.out⟩ (fun hHeld => ?_)
      refine tk 0 (v := ?v_1) ?y1 ?_; (case y1 => (refine Or.inl ⟨by rfl, ?_⟩; intro w hSw; go_simp; first | done | with_reducible rfl)); (try simp only [Act.put, List.setIfInBounds_toArray, List.set_cons_zero, List.set_cons_succ])
      refine tk 1 (v := ?v_2) ?y2 ?_; (case y2 => (refine Or.inl ⟨by rfl, ?_⟩; intro w hSw; go_simp; first | done | with_reducible rfl)); (try simp only [Act.put, List.setIfInBounds_toArray, List.set_cons_zero, List.set_cons_succ])
      refine tk 2 (v := ?v_3) ?y3 ?_; (case y3 => (refine Or.inl ⟨by rfl, ?_⟩; intro w hSw; go_simp; first | done | with_reducible rfl)); (try simp only [Act.put, List.setIfInBounds_toArray, List.set_cons_zero, List.set_cons_succ])
      refine tk 3 (v := .agg (ecells (.slice m1 ev.req.muts.length c1) (.slice f1 ev.req.fil.fams.length d1) ev)) ?y4 ?_; (case y4 => exact yl_at (by rfl) 39 _ rfl b1 (o1 + i * 33) rfl (ecells (.slice m1 ev.req.muts.length c1) (.slice f1 ev.req.fil.fams.length d1) ev) (fun _ h => h.1) 33 szE (nE _ _ _) ruE); (try simp only [Act.put, List.setIfInBounds_toArray, List.set_cons_zero, List.set_cons_succ])
      refine tk 4 (v := ?v_5) ?y5 ?_; (case y5 => (refine Or.inl ⟨by rfl, ?_⟩; intro w hSw; go_simp; first | done | with_reducible rfl)); (try simp only [Act.put, List.setIfInBounds_toArray, List.set_cons_zero, List.set_cons_succ])
      refine tk 5 (v := ?v_6) ?y6 ?_; (case y6 => (refine Or.inl ⟨by rfl, ?_⟩; intro w hSw; go_simp; first | done | with_reducible rfl)); (try simp only [Act.put, List.setIfInBounds_toArray, List.set_cons_zero, List.set_cons_succ])
      refine tk 6 (v := ?v_7) ?y7 ?_; (case y7 => (refine Or.inl ⟨by rfl, ?_⟩; intro w hSw; go_simp; first | done | with_reducible rfl)); (try simp only [Act.put, List.setIfInBounds_toArray, List.set_cons_zero, List.set_cons_succ])
      refine tk 7 (v := .agg (ecells (.slice m2 ev.req.muts.length c2) (.slice f2 ev.req.fil.fams.length d2) ev)) ?y8 ?_; (case y8 => exact yl_at (by rfl) 39 _ rfl b2 (o2 + i * 33) rfl (ecells (.slice m2 ev.req.muts.length c2) (.slice f2 ev.req.fil.fams.length d2) ev) (fun _ h => h.2) 33 szE (nE _ _ _) ruE); (try simp only [Act.put, List.setIfInBounds_toArray, List.set_cons_zero, List.set_cons_succ])
      refine wpAnyH_ready (rs := [8]) (by kernel_rfl) (by simp) ?_; refine AllReadyH.cons (o := ?o_9) ?hi_9 (fun K hK => ?_) AllReadyH.nil; (case hi_9 => (simp only [List.getElem?_toArray, List.getElem?_cons_zero, List.getElem?_cons_succ]; rfl)); go_simp; (go_at_call 12; (refine (c_Same ev m1 c1 f1 d1 m2 c2 f2 d2 HM1.out HF1.out HM2.out HF2.out HQE.out.ml HQE.out.fl).mono ?_; rintro e w8 ⟨rfl, hb⟩; have HW8 := Lib.hid (HWD.out.trans (hb.mono HWD.out.size)); have HS8 := Lib.hid (And.intro (range_keep HR1.out hb) (range_keep HR2.out hb)); clear hb)); refine hK.out _ _ ?_ (fun hHeld => ?_); (· exact HS8.out); clear hK K; (try simp only [Act.put, List.setIfInBounds_toArray, List.set_cons_zero, List.set_cons_succ])
      refine tk 9 (v := ?v_10) ?y10 ?_; (case y10 => (refine Or.inl ⟨by rfl, ?_⟩; intro w hSw; go_simp; first | done | with_reducible rfl)); (try simp only [Act.put, List.setIfInBounds_toArray, List.set_cons_zero, List.set_cons_succ])
      refine wpAnyH_done (by kernel_rfl) ?_ _
      go_wp2
      go_roundw
      case rel => exact ⟨i + 1, HNX.out.1, by have := HNX.out; go_num, HW8⟩
      case measure => have := HNX.out; simp [intOf]; omega
    · have t1 : decide ((i : Int) < (N : Int)) = false := decide_eq_false (by omega)
      go_wp2
      go_ret
      exact ⟨rfl, HW10.out.trans (HB.out.mono HW10.out.size)⟩
end Go.Proofs.YtkogcobcjoojnaaGreatDoor.Fl
