/- A slice of bytes that came in. -/
import Derived.Test.YtikpmlginojnhaaGreatDoorRows
import Derived.Test.YtikpmlginojnhaaGreatDoorVm
import Derived.Lib.LaidTab
import Derived.Lib.LaidU8T
import Derived.PinnedBridge
import Derived.Lay
import Derived.Stop.LaidErr
import Derived.MakeChecks
import Derived.Handed
import Derived.ProofKit
import Derived.OpenShut
import Derived.SizedLaws

namespace Go.Proofs.YtikpmlginojnhaaGreatDoor.Fl
open Go.RowKit Go.Maps
set_option linter.unusedVariables false
theorem row82 (u : TypeId) (h : Tryz.prog.typeName? 3 u = some "*errors.errorString") : u = 140 := typeName_ptr_named (nm := "errors.errorString") (by kernel_rfl) (by kernel_rfl) (by decide) u (show Tryz.prog.typeName? 3 u = some ("*" ++ "errors.errorString") from h)
theorem gl_of_laid {W : World} (h : laidMetH Tryz.prog Rows.valAsksRow.laid W) (hs : W.ShapedOpen Tryz.prog) : Gv W := by
  rw [MakeChecks.laidMetH_plain _ _ _ (by kernel_rfl)] at h
  have h1 := laidMet.tail h
  have hT := Lib.tabIs_of_head (P := Tryz.prog) (k := .u8) (g := 7) (t := 144) (e := 5) (n := 64) (zs := [0, 1, 56, 2, 57, 49, 28, 3, 61, 58, 42, 50, 38, 29, 17, 4, 62, 47, 59, 36, 45, 43, 51, 22, 53, 39, 33, 30, 24, 18, 12, 5, 63, 55, 48, 27, 60, 41, 37, 16, 46, 35, 44, 21, 52, 32, 23, 11, 54, 26, 40, 15, 34, 20, 31, 10, 25, 14, 19, 9, 13, 8, 7, 6]) (by kernel_rfl) (by kernel_rfl) Tryz.underlying144 Tryz.underlying5 (by kernel_rfl) (by kernel_rfl) h1
  have h2 := laidMet.tail h1
  have e10 : (Rows.laid_internal_strconv_uint64pow10 : DataW Unit) = Lib.tabData .u64 Lib.pow10Tab := by kernel_rfl
  have hP := Lib.tabIs_of_head (P := Tryz.prog) (k := .u64) (g := 3) (t := 126) (e := 42) (n := 20) (zs := Lib.pow10Tab) (name := "internal/strconv.uint64pow10") (by kernel_rfl) (by kernel_rfl) Tryz.underlying126 Tryz.underlying42 (by kernel_rfl) (by kernel_rfl) (by rw [← e10]; exact h2)
  have h3 := laidMet.tail (laidMet.tail h2)
  obtain ⟨a0, s0, hv0, _, _, _⟩ := laid_sentinel (P := Tryz.prog) (g := 5) (ti := 77) (tp := 140) (te := 142) (ts := 9) h3 (by kernel_rfl) (by kernel_rfl) Tryz.underlying77 row82 Tryz.underlying140 Tryz.underlying142 rfl rfl Tryz.underlying9 (by kernel_rfl) (by kernel_rfl)
  have h4 := laidMet.tail h3
  obtain ⟨a1, s1, hv1, _, _, _⟩ := laid_sentinel (P := Tryz.prog) (g := 4) (ti := 77) (tp := 140) (te := 142) (ts := 9) h4 (by kernel_rfl) (by kernel_rfl) Tryz.underlying77 row82 Tryz.underlying140 Tryz.underlying142 rfl rfl Tryz.underlying9 (by kernel_rfl) (by kernel_rfl)
  have c := hT.cell (g := 7) (by kernel_rfl) 15 (by decide)
  have c0 := World.var?_cell (P := Tryz.prog) (g := 5) (by kernel_rfl) hv0 0
  have c1 := World.var?_cell (P := Tryz.prog) (g := 4) (by kernel_rfl) hv1 0
  have ea : Rows.laid_unicode_utf8_acceptRanges = Lib.acceptData := by kernel_rfl
  have ef : Rows.laid_unicode_utf8_first = Lib.firstData := Pinned.utf8First_eq
  have r3 : Lib.VarReads Tryz.prog W "unicode/utf8.first" Lib.firstData := by
    rw [← ef]
    exact Lib.laidMet.reads h (by simp [Rows.valAsksRow])
  have r4 : Lib.VarReads Tryz.prog W "unicode/utf8.acceptRanges" Lib.acceptData := by
    rw [← ea]
    exact Lib.laidMet.reads h (by simp [Rows.valAsksRow])
  have hU := utf8Tabs_of_readsT (U8Types.of196 Tryz.lays196) ⟨by kernel_rfl, by kernel_rfl, by kernel_rfl, by kernel_rfl, by kernel_rfl, by kernel_rfl, by kernel_rfl⟩ r3 r4
  have hM := Tryz.laysM138.s1_3 W hs
  exact ⟨⟨c, ⟨_, _, c1⟩, ⟨_, _, c0⟩⟩, hP, hU, hM⟩
end Go.Proofs.YtikpmlginojnhaaGreatDoor.Fl

namespace Go.Proofs.YtikpmlginojnhaaGreatDoor.Fl
open Go.RowKit Go.Maps Go.ChangeShapes Go.WideShapes Go.ChangeAt Go.Deep
set_option linter.unusedVariables false
theorem cells5_ : Tryz.prog.cellsOf 5 = 1 := by kernel_rfl
set_option maxRecDepth 100000 in
theorem open_byt {H : Type} {enc : TypeId × Value → H} {W : World} {base : Nat} {v : Value} {d : DataW H} {p : List MemPlace} (hval : Value.okWide Tryz.prog W .any base 26 v) (h : DataW.Trod enc Tryz.prog W 0 (fun _ => true) true 26 v d p) :
    ∃ A c, ∃ l : List Int, v = .slice A l.length c ∧ HasB W (.slice A l.length c) l ∧ Byts l ∧ l.length ≤ 9223372036854775807 := by
  obtain ⟨a1, len, cap, rfl⟩ := okWide_slice Tryz.underlying26 hval
  obtain ⟨fuel, hf⟩ := h
  rcases open_ints Tryz.underlying26 Tryz.underlying5 cells5_ hf with ⟨hcs, hx⟩ | ⟨a, len', cap', zs, hcs, _, hl, hm, hz, hx, hcell, hwz⟩
  · simp [Value.cells] at hcs
    obtain ⟨rfl, rfl, rfl⟩ := hcs
    exact ⟨none, 0, [], rfl, HasB.nil W, fun x hx => (by cases hx), by simp⟩
  · simp [Value.cells] at hcs
    obtain ⟨rfl, rfl, rfl⟩ := hcs
    have hlz : len ≤ zs.length := by
      simp only [if_true] at hz
      omega
    have hlen : (zs.take len).length = len := by simp; omega
    refine ⟨some a, cap, zs.take len, by rw [hlen], ⟨some a, cap, rfl, by omega, fun k hk => ⟨a, rfl, ?_⟩⟩, fun x hx => ?_, by unfold maxLen at hm; omega⟩
    · rw [hlen] at hk
      have hcj := hcell k (by omega)
      rw [hcj]
      congr 2
      simp only [List.getD_eq_getElem?_getD]
      rw [List.getElem?_take_of_lt hk]
    · obtain ⟨k, hk, rfl⟩ := List.mem_iff_getElem.1 hx
      have hk2 : k < zs.length := by simp at hk; omega
      have hb := range_u8 hwz k
      rw [List.getElem_take]
      simp only [List.getElem?_eq_getElem hk2, Option.getD_some] at hb
      omega
theorem weights_of {H : Type} {P : Program} {ts : List TypeId} {ds : List (DataW H)} (h : (DataW.weightsEach P ts ds).all (· ≤ reachBytes) = true) {j : Nat} {t : TypeId} {d : DataW H} (ht : ts[j]? = some t) (hd : ds[j]? = some d) : ∀ n ∈ d.weights P t, n ≤ 140737488351232 := fun n hn =>
  of_decide_eq_true (List.all_eq_true.1 h n (DataW.weights_mem_each ht hd n hn))
set_option maxRecDepth 100000 in
theorem open_val {H : Type} {enc : TypeId × Value → H} {W : World} {base : Nat} {v : Value} {d : DataW H} {p : List MemPlace} (hval : Value.okWide Tryz.prog W .any base 23 v) (h : DataW.Trod enc Tryz.prog W 0 (fun _ => true) true 23 v d p) (hw : ∀ n ∈ d.weights Tryz.prog 23, n ≤ 140737488351232) :
    ∃ k n s, v = vv k n s ∧ Wf n ∧ s.size ≤ 140737488351232 := by
  obtain ⟨cs, rfl, hz⟩ := okWide_struct Tryz.underlying23 hval
  obtain ⟨fuel, hf⟩ := h
  obtain ⟨xs, m, _, ed, hl, hlen, hall⟩ := DataW.trod_struct Tryz.underlying23 hf
  obtain ⟨rfl, rfl⟩ := Prod.mk.inj ed
  have ct : Tryz.prog.cellsOf 23 = 3 := by kernel_rfl
  have c3 : Tryz.prog.cellsOf 3 = 1 := by kernel_rfl
  have c9 : Tryz.prog.cellsOf 9 = 1 := by kernel_rfl
  rw [ct] at hl
  have hcs : (Value.agg cs).cells.toList = cs.toList := by simp [Value.cells]
  rw [hcs] at hl hall
  match hx : cs.toList, hl with
  | [u0, u1, u2], _ =>
    rw [hx] at hall
    match xs, hlen with
    | [x0, x1, x2], _ =>
      have h0 : DataW.trod enc Tryz.prog W 0 (fun _ => true) true m 3 (List.take (Tryz.prog.cellsOf 3) (List.drop 0 [u0, u1, u2])) = some x0 := hall 0 _ rfl
      have h1 : DataW.trod enc Tryz.prog W 0 (fun _ => true) true m 3 (List.take (Tryz.prog.cellsOf 3) (List.drop 1 [u0, u1, u2])) = some x1 := hall 1 _ rfl
      have h2 : DataW.trod enc Tryz.prog W 0 (fun _ => true) true m 9 (List.take (Tryz.prog.cellsOf 9) (List.drop 2 [u0, u1, u2])) = some x2 := hall 2 _ rfl
      rw [c3] at h0 h1
      rw [c9] at h2
      obtain ⟨k, e0, _, _⟩ := DataW.trod_int Tryz.underlying3 h0
      obtain ⟨n, e1, _, hwn⟩ := DataW.trod_int Tryz.underlying3 h1
      obtain ⟨s, e2, ex2, _⟩ := DataW.trod_string Tryz.underlying9 h2
      have f0 : u0 = .int .i64 k := by simpa using e0
      have f1 : u1 = .int .i64 n := by simpa using e1
      have f2 : u2 = .string s := by simpa using e2
      refine ⟨k, n, s, ?_, ?_, ?_⟩
      · have : cs = #[u0, u1, u2] := by cases cs; simp_all
        rw [this, f0, f1, f2]
        rfl
      · simp [Lit.wf, IntKind.min, IntKind.max, IntKind.bits, IntKind.signed] at hwn
        unfold Wf
        omega
      · have := hw s.data.toList.length (by
          rw [DataW.weights, Tryz.underlying23]
          simp only [List.map_cons, List.map_nil, DataW.weightsEach]
          refine List.mem_append_right _ (List.mem_append_right _ (List.mem_append_left _ ?_))
          rw [ex2]
          simp [DataW.weights])
        rwa [Array.length_toList] at this
/-- The row's builder, with a condition and the world's shape. -/
theorem returns_laid_shaped {H : Type} {enc : TypeId × Value → H} {a : Assume} {C : Checked} {os : Os} {f : FuncId} {fn : Func} {s : ChangeSpec} {conds : List PathCond} {apart fresh handsOn again : Bool} {X : World → Array Value → Prop}
    (hX : ∀ (w w' : World) (args : Array Value), w.heap = w'.heap → X w args → X w' args) (own : ownKnob C.prog.godebug = none) (started : os.Started) (noInit : C.prog.inits.idxOf? f = none) (hfn : C.prog.funcs[f]? = some fn)
    (witness : ∃ (w : World) (tape : Tape) (i : Input), w.os = os ∧ (w.forCall tape i).Shaped C.prog ∧ i.vars = [] ∧ Input.okWide C.prog (w.forCall tape i) .any w.heap.size f i ∧ ((s.pre enc C.prog fn conds apart (w.forCall tape i).memory i.args ∧ X (w.forCall tape i).memory i.args) ∧ sizedMet enc C.prog fn (OpenSpec.ofChange s) apart (w.forCall tape i).memory i.args) ∧ a.holds C.prog (lone (Frame.enter C.prog f i.args .normal) [] (w.forCall tape i)))
    (body : ∀ (W : World) (base : Nat) (args : Array Value) (ds gs : List (DataW H)) (before : List MemPlace), (∀ (j : Nat) t v, fn.params[j]? = some t → args[j]? = some v → Value.okWide C.prog W .any base t v) → DataW.Whole enc C.prog fn.params.toList s.vars apart W args.toList ds gs before →
      (DataW.weightsEach C.prog (fn.params.toList ++ s.plain.varTypes C.prog) (ds ++ gs)).all (· ≤ reachBytes) = true → X W args → W.ShapedOpen C.prog → Calls C.prog f args W fun e W' => ∃ v, e = .returned v ∧ s.post enc C.prog fn apart fresh handsOn again W args v W') :
    ReturnsInHanded a C os f .any (fun w args => (s.pre enc C.prog fn conds apart w args ∧ X w args) ∧ sizedMet enc C.prog fn (OpenSpec.ofChange s) apart w args) (s.post enc C.prog fn apart fresh handsOn again) := by
  refine returnsInHanded_of_calls own started noInit witness (fun w tape i _ hshape _ hok hp _ => ?_)
  rcases hok with ⟨_, _, _, fn2, hfn2, _, _, _, _, hv⟩
  cases Option.some.inj (hfn2.symm.trans hfn)
  rcases hp with ⟨⟨⟨ds, gs, b, hw, _⟩, hx⟩, hz⟩
  have h2 := DataW.Whole.of_heap (w' := w.forCall tape i) (by rfl) hw
  refine (body _ _ _ _ _ _ hv h2 (hz.weights hw) (hX _ _ _ (by rfl) hx) hshape).mono ?_
  rintro e W' ⟨v, rfl, hpost⟩
  exact ChangeSpec.post_blind hpost
end Go.Proofs.YtikpmlginojnhaaGreatDoor.Fl
