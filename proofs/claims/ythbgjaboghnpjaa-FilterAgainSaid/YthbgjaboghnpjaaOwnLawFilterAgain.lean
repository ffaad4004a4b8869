/- What was asked for is asked for again: the row of FilterAgain. -/
import Derived.Test.YthbgjaboghnpjaaV
import Derived.Test.YthbgjaboghnpjaaRows
import Derived.Test.YthbgjaboghnpjaaPureFilterAgain
import Derived.WalkKit
import Derived.ProofKit
import Derived.OpenShut
import Derived.ShutString
import Derived.ChangeOld
import Derived.Below
import Derived.SizedLaws
import Derived.ChangeArms
import Derived.Deep.Slices
namespace Go.Proofs.Ythbgjaboghnpjaa.Opn
open Go.RowKit Go.Deep Go.Proofs.YthbgjaboghnpjaaW.PrintWords
set_option linter.unusedVariables false

/-- The cells of type T read as a value of kind d, of which G holds. -/
structure Opens {α : Type} (P : Program) (T : TypeId) (d : Kd α) (G : α → Prop) : Prop where
  size : P.cellsOf T = d.sz
  reads : ∀ {H : Type} {enc : TypeId × Value → H} {W : World} {fuel : Nat} {cs : List Value} {x : DataW H × List MemPlace}, DataW.trod enc P W 0 (fun _ => true) true fuel T cs = some x → (∀ n ∈ x.1.weights P T, n ≤ 140737488351232) → ∃ a, d.K W a cs ∧ G a
theorem list_of {α : Type} (p : Nat → α → Prop) : ∀ n, (∀ i, i < n → ∃ a, p i a) → ∃ l : List α, l.length = n ∧ ∀ i a, l[i]? = some a → p i a
  | 0, _ => ⟨[], rfl, fun i a h => by simp at h⟩
  | n + 1, h => by
    obtain ⟨l, hl, hp⟩ := list_of p n (fun i hi => h i (by omega))
    obtain ⟨a, ha⟩ := h n (by omega)
    refine ⟨l ++ [a], by simp [hl], fun i b hb => ?_⟩
    by_cases hi : i < n
    · exact hp i b (by rwa [List.getElem?_append_left (by omega)] at hb)
    · have hlt := (List.getElem?_eq_some_iff.1 hb).1
      simp at hlt
      obtain rfl : i = n := by omega
      rw [List.getElem?_append_right (by omega), hl] at hb
      simp at hb
      subst hb
      exact ha
theorem add_add_ (a : Addr) (i j : Nat) : (a.add i).add j = a.add (i + j) := by
  unfold Addr.add
  by_cases hi : i = 0 <;> by_cases hj : j = 0 <;> simp [hi, hj, Nat.add_assoc]
namespace Opens
variable {P : Program} {T : TypeId}
theorem int {k : IntKind} (hu : P.underlying T = some (.int k)) (hc : P.cellsOf T = 1) : Opens P T (Kd.int k) (fun x => (Lit.int k x).wf = true) :=
  ⟨hc, fun h _ => by
    obtain ⟨n, rfl, _, hw⟩ := DataW.trod_int hu h
    exact ⟨n, rfl, hw⟩⟩
theorem bool (hu : P.underlying T = some .bool) (hc : P.cellsOf T = 1) : Opens P T Kd.bool (fun _ => True) :=
  ⟨hc, fun h _ => by
    obtain ⟨n, rfl, _⟩ := DataW.trod_bool hu h
    exact ⟨n, rfl, trivial⟩⟩
theorem string (hu : P.underlying T = some .string) (hc : P.cellsOf T = 1) : Opens P T Kd.string (fun s => s.size ≤ 140737488351232) :=
  ⟨hc, fun h hw => by
    obtain ⟨s, rfl, rfl, _⟩ := DataW.trod_string hu h
    refine ⟨s, rfl, ?_⟩
    have := hw s.data.toList.length (by simp [DataW.weights])
    rwa [Array.length_toList] at this⟩
theorem weights_all {H : Type} (e : TypeId) : ∀ (l : List (DataW H)) (d : DataW H), d ∈ l → ∀ n ∈ d.weights P e, n ∈ DataW.weightsAll P e l
  | [], d, h => by cases h
  | y :: l, d, h => fun n hn => by
    rw [DataW.weightsAll]
    rcases List.mem_cons.1 h with rfl | h
    · exact List.mem_append_left _ hn
    · exact List.mem_append_right _ (weights_all e l d h n hn)
theorem slice {α : Type} {e : TypeId} {d : Kd α} {G : α → Prop} {B : Nat} (hu : P.underlying T = some (.slice e)) (hc : P.cellsOf T = 1) (hb : P.bytesOf e = B) (ho : Opens P e d G) :
    Opens P T (Kd.slice e d) (fun l => l.length ≤ maxLen ∧ l.length * B ≤ 140737488351232 ∧ ∀ x ∈ l, G x) :=
  ⟨hc, fun {H enc W fuel cs x} h hw => by
    rcases open_slice hu h with ⟨rfl, rfl⟩ | ⟨a, len, cap, m, n, D, Pl, rfl, hba, hl, hm, hmm, rfl, hx⟩
    · exact ⟨[], ⟨none, 0, rfl, Nat.le_refl _, Kd.C_nil d W⟩, by simp, by simp, fun x hx => by cases hx⟩
    · simp only [if_true] at hmm
      subst hmm
      have hwt : ∀ i, i < len → ∀ n ∈ (D i).weights P e, n ≤ 140737488351232 := fun i hi n hn => hw n (by
        rw [DataW.weights, hu]
        exact List.mem_cons_of_mem _ (List.mem_append_left _ (weights_all e _ (D i) (List.mem_map.2 ⟨i, List.mem_range.2 hi, rfl⟩) n hn)))
      have hsz := hw ((((List.range len).map D).length + ((List.range (m - len)).map fun j => D (len + j)).length) * P.bytesOf e) (by rw [DataW.weights, hu]; exact List.mem_cons_self ..)
      obtain ⟨l, hll, hp⟩ := list_of (fun i (y : α) => ∃ c, c.length = d.sz ∧ d.K W y c ∧ (∀ j u, c[j]? = some u → W.cell? (a.add (i * d.sz + j)) = some u) ∧ G y) len (fun i hi => by
        obtain ⟨cs', hc1, hc2⟩ := hx i (by omega)
        obtain ⟨y, hy, hg⟩ := ho.reads hc2 (hwt i hi)
        obtain ⟨_, hlen, hcell⟩ := World.cells?_some hc1
        refine ⟨y, cs', by rw [hlen, ho.size], hy, fun j u hj => ?_, hg⟩
        have hjl := (List.getElem?_eq_some_iff.1 hj).1
        have := hcell j (by omega)
        rw [ho.size] at this
        rw [← hj, ← this]
        rw [← add_add_ a])
      refine ⟨l, ⟨some a, m, by rw [hll], by omega, ⟨hll.symm ▸ rfl, by simp only [maxLen] at hm; omega, fun _ => ⟨a, rfl, fun j p hj => ?_⟩⟩⟩, by omega, ?_, fun x hx => ?_⟩
      · obtain ⟨c, h1, h2, h3, _⟩ := hp j p hj
        exact ⟨c, h1, h2, h3⟩
      · rw [hb] at hsz
        simp only [List.length_map, List.length_range] at hsz
        rw [hll]
        exact Nat.le_trans (Nat.mul_le_mul_right _ (by omega)) hsz
      · obtain ⟨i, hi⟩ := List.mem_iff_getElem?.1 hx
        obtain ⟨_, _, _, _, hg⟩ := hp i x hi
        exact hg⟩
/-- The fields of a struct, from one place on. -/
structure Fields {α : Type} (P : Program) (fs : List Field) (off : Nat) (d : Kd α) (G : α → Prop) : Prop where
  reads : ∀ {H : Type} {enc : TypeId × Value → H} {W : World} {n : Nat} {cs : List Value} {xs : List (DataW H × List MemPlace)}, off + d.sz ≤ cs.length → xs.length = fs.length →
    (∀ (i : Nat) (f : Field), fs[i]? = some f → DataW.trod enc P W 0 (fun _ => true) true n f.type ((cs.drop f.offset).take (P.cellsOf f.type)) = xs[i]?) → (∀ n ∈ DataW.weightsEach P (fs.map (·.type)) (xs.map (·.1)), n ≤ 140737488351232) → ∃ a, d.K W a ((cs.drop off).take d.sz) ∧ G a
theorem one {α : Type} {f : Field} {off : Nat} {d : Kd α} {G : α → Prop} (hf : f.offset = off) (ho : Opens P f.type d G) : Fields P [f] off d G :=
  ⟨fun {H enc W n cs xs} hl hx h hw => by
    obtain ⟨x, rfl⟩ : ∃ x, xs = [x] := by
      match xs, hx with
      | [x], _ => exact ⟨x, rfl⟩
    have h0 := h 0 f rfl
    simp only [List.getElem?_cons_zero] at h0
    rw [hf, ho.size] at h0
    exact ho.reads h0 (fun n hn => hw n (by simp only [List.map_cons, DataW.weightsEach]; exact List.mem_append_left _ hn))⟩
theorem more {α β : Type} {f : Field} {fs : List Field} {off : Nat} {d0 : Kd α} {d1 : Kd β} {G0 : α → Prop} {G1 : β → Prop} (hf : f.offset = off) (ho : Opens P f.type d0 G0) (hs : Fields P fs (off + d0.sz) d1 G1) : Fields P (f :: fs) off (Kd.pair d0 d1) (fun x => G0 x.1 ∧ G1 x.2) :=
  ⟨fun {H enc W n cs xs} hl hx h hw => by
    obtain ⟨x, xs, rfl⟩ : ∃ x l, xs = x :: l := by
      match xs, hx with
      | x :: l, _ => exact ⟨x, l, rfl⟩
    have h0 := h 0 f rfl
    simp only [List.getElem?_cons_zero] at h0
    rw [hf, ho.size] at h0
    have hsz : (Kd.pair d0 d1).sz = d0.sz + d1.sz := rfl
    obtain ⟨a, ha, hga⟩ := ho.reads h0 (fun n hn => hw n (by simp only [List.map_cons, DataW.weightsEach]; exact List.mem_append_left _ hn))
    obtain ⟨b, hb, hgb⟩ := hs.reads (cs := cs) (xs := xs) (by omega) (by simpa using hx) (fun i g hg => by simpa using h (i + 1) g (by simpa using hg)) (fun n hn => hw n (by simp only [List.map_cons, DataW.weightsEach]; exact List.mem_append_right _ hn))
    refine ⟨(a, b), ⟨_, _, ?_, ha, hb⟩, hga, hgb⟩
    rw [hsz, List.take_add, List.drop_drop]⟩
theorem struct {α β : Type} {fs : Array Field} {d : Kd α} {G : α → Prop} (hu : P.underlying T = some (.struct fs)) (hc : P.cellsOf T = d.sz) (f : β → α) (g : α → β) (hfg : ∀ a, f (g a) = a) (hF : Fields P fs.toList 0 d G) : Opens P T (Kd.iso d f) (fun x => G (f x)) :=
  ⟨hc, fun {H enc W fuel cs x} h hw => by
    obtain ⟨xs, n, _, rfl, hl, hlen, hf⟩ := DataW.trod_struct hu h
    obtain ⟨a, ha, hga⟩ := hF.reads (cs := cs) (xs := xs) (by rw [hl, hc]; omega) (by simpa using hlen) (fun i f hi => hf i f (by simpa using hi)) (fun n hn => hw n (by rw [DataW.weights, hu]; exact hn))
    rw [List.drop_zero, List.take_of_length_le (by rw [hl, hc]; exact Nat.le_refl _)] at ha
    exact ⟨g a, by show d.K W (f (g a)) cs; rw [hfg]; exact ha, by show G (f (g a)); rw [hfg]; exact hga⟩⟩
end Opens
/-- An argument's reading, out of the row's. -/
theorem weights_of {H : Type} {P : Program} {ts : List TypeId} {ds : List (DataW H)} (h : (DataW.weightsEach P ts ds).all (· ≤ reachBytes) = true) {j : Nat} {t : TypeId} {d : DataW H} (ht : ts[j]? = some t) (hd : ds[j]? = some d) : ∀ n ∈ d.weights P t, n ≤ 140737488351232 := fun n hn => by
  have := List.all_eq_true.1 h n (DataW.weights_mem_each ht hd n hn)
  exact of_decide_eq_true this
end Go.Proofs.Ythbgjaboghnpjaa.Opn

namespace Go.Proofs.Ythbgjaboghnpjaa.filterAgain
open Go.ChangeShapes Go.WideShapes Go.ChangeAt Go.RowKit Go.Proofs.Ythbgjaboghnpjaa.Opn
open Go.ChangeMaps (open_string shut_string)
set_option linter.unusedVariables false
theorem own : ownKnob Try.prog.godebug = none := by kernel_rfl
theorem laidOut : laidOutB Try.prog = true := by kernel_rfl
open Go.Proofs.YthbgjaboghnpjaaW.PrintWords
theorem any_ {α : Type} {P : Program} {T : TypeId} {d : Kd α} {G : α → Prop} (h : Opens P T d G) : Opens P T d (fun _ => True) := ⟨h.size, fun a b => (h.reads a b).elim fun x y => ⟨x, y.1, trivial⟩⟩
structure F24 where
  f0 : List ByteArray
  f1 : ByteArray
  f2 : ByteArray
  f3 : Int
  f4 : Int
  f5 : Int
  f6 : Int
def kF : Kd F24 := Kd.iso (Kd.pair (Kd.slice 9 Kd.string) (Kd.pair Kd.string (Kd.pair Kd.string (Kd.pair (Kd.int .i64) (Kd.pair (Kd.int .i64) (Kd.pair (Kd.int .i64) (Kd.int .i64))))))) (fun x : F24 => (x.f0, x.f1, x.f2, x.f3, x.f4, x.f5, x.f6))
theorem kF_open {w : World} {x : F24} {cs : List Value} (h : kF.K w x cs) : ∃ A c, x.f0.length ≤ c ∧ Kd.C Kd.string w A x.f0.length x.f0 ∧ cs = [.slice A x.f0.length c, .string x.f1, .string x.f2, .int .i64 x.f3, .int .i64 x.f4, .int .i64 x.f5, .int .i64 x.f6] := by
  obtain ⟨_, _, rfl, ⟨A, c, rfl, hc, hC⟩, ⟨_, _, rfl, rfl, ⟨_, _, rfl, rfl, ⟨_, _, rfl, rfl, ⟨_, _, rfl, rfl, ⟨_, _, rfl, rfl, rfl⟩⟩⟩⟩⟩⟩ := h
  exact ⟨A, c, hc, hC, rfl⟩
theorem int_ : Opens Try.prog 3 (Kd.int .i64) (fun x => (Lit.int .i64 x).wf = true) := Opens.int Try.underlying3 (by kernel_rfl)
theorem str_ : Opens Try.prog 9 Kd.string (fun s => s.size ≤ 140737488351232) := Opens.string Try.underlying9 (by kernel_rfl)
theorem texts_ : Opens Try.prog 22 (Kd.slice 9 Kd.string) (fun l => l.length ≤ maxLen ∧ l.length * 16 ≤ 140737488351232 ∧ ∀ x ∈ l, x.size ≤ 140737488351232) := Opens.slice Try.underlying22 (by kernel_rfl) (by kernel_rfl) str_
theorem filter_ : Opens Try.prog 24 kF (fun _ => True) := any_ (Opens.struct Try.underlying24 (by kernel_rfl) (fun x : F24 => (x.f0, x.f1, x.f2, x.f3, x.f4, x.f5, x.f6)) (fun a => ⟨a.1, a.2.1, a.2.2.1, a.2.2.2.1, a.2.2.2.2.1, a.2.2.2.2.2.1, a.2.2.2.2.2.2⟩) (fun _ => rfl) (Opens.more rfl texts_ (Opens.more rfl str_ (Opens.more rfl str_ (Opens.more rfl int_ (Opens.more rfl int_ (Opens.more rfl int_ (Opens.one rfl int_))))))))
theorem val_ : Opens Try.prog 27 Q.k27 (fun _ => True) := any_ (Opens.struct Try.underlying27 (by kernel_rfl) (fun x : Q.S27 => (x.f0, x.f1, x.f2)) (fun a => ⟨a.1, a.2.1, a.2.2⟩) (fun _ => rfl) (Opens.more rfl int_ (Opens.more rfl int_ (Opens.one rfl str_))))
theorem cell_ : Opens Try.prog 29 Q.k29 (fun _ => True) := any_ (Opens.struct Try.underlying29 (by kernel_rfl) (fun x : Q.S29 => (x.f0, x.f1, x.f2, x.f3, x.f4, x.f5)) (fun a => ⟨a.1, a.2.1, a.2.2.1, a.2.2.2.1, a.2.2.2.2.1, a.2.2.2.2.2⟩) (fun _ => rfl) (Opens.more rfl str_ (Opens.more rfl str_ (Opens.more rfl str_ (Opens.more rfl int_ (Opens.more rfl int_ (Opens.one rfl val_)))))))
theorem cells_ : Opens Try.prog 25 (Kd.slice 29 Q.k29) (fun l => l.length ≤ maxLen ∧ l.length * 96 ≤ 140737488351232 ∧ ∀ x ∈ l, True) := Opens.slice Try.underlying25 (by kernel_rfl) (by kernel_rfl) cell_
set_option maxRecDepth 100000 in
theorem lifted (os : Os) (started : os.Started) (H : Type) (enc : TypeId × Value → H) :
    ReturnsInHanded {} Try.checked os 6 .any (Rows.filterAgainSpec.pre6 enc Try.prog Try.f6 Rows.filterAgainRow.domain false) (Rows.filterAgainSpec.post enc Try.prog Try.f6 false true false false) := by
  refine returnsInHanded_of_change_sized (C := Try.checked) own started (by kernel_rfl) Try.func6
    (ChangeSpec.witness6 (enc := enc) (C := Try.checked) false ⟨#[], #[.agg #[.slice none 0 0, .string ByteArray.empty, .string ByteArray.empty, .int .i64 0, .int .i64 0, .int .i64 0, .int .i64 0], .slice none 0 0], []⟩ 8 (by kernel_rfl) (by kernel_rfl) (by kernel_rfl) (by kernel_rfl)) ?_
  intro W base args ds gs before hval0 hW hcnd hsz0 _
  have hsz : (DataW.weightsEach Try.prog (Try.f6.params.toList ++ Rows.filterAgainSpec.plain.varTypes Try.prog) (ds ++ gs)).all (· ≤ reachBytes) = true := hsz0
  have hval : ∀ (j : Nat) t v, Try.f6.params[j]? = some t → args[j]? = some v → Value.okWide Try.prog W .any base t v := hval0
  have hW' := hW
  obtain ⟨p, q, hA0, hV, rfl, hfz, hnd⟩ := hW
  have hA : DataW.TrodAll enc Try.prog W 0 (fun _ => true) true Try.f6.params.toList args.toList ds p := hA0
  rw [Try.params6] at hA hval hsz
  obtain ⟨v0, vs0, d0, ds0, p0, q0, hargs, rfl, rfl, h0, r0⟩ := trodAll_cons hA
  obtain ⟨v1, vs1, d1, ds1, p1, q1, rfl, rfl, rfl, h1, r1⟩ := trodAll_cons r0
  obtain ⟨rfl, rfl, rfl⟩ := trodAll_nil r1
  obtain rfl : args = #[v0, v1] := by cases args; simp_all
  obtain ⟨rfl, rfl⟩ := trodVars_none hV
  have k0 := h0
  have lt0 : ∀ x ∈ p0, x.block < W.heap.size := by obtain ⟨m, hm⟩ := k0; exact DataW.trod_lt m _ _ _ hm
  obtain ⟨cs0, rfl, hz0⟩ := okWide_struct Try.underlying24 (hval 0 24 v0 rfl rfl)
  obtain ⟨fu0, hf0⟩ := h0
  obtain ⟨l0, hK0, g0⟩ := (filter_).reads hf0 (weights_of hsz (j := 0) (t := 24) rfl rfl)
  obtain ⟨A0, c0, hc0, hC0, e0⟩ := kF_open hK0
  obtain rfl : cs0 = #[.slice A0 l0.f0.length c0, .string l0.f1, .string l0.f2, .int .i64 l0.f3, .int .i64 l0.f4, .int .i64 l0.f5, .int .i64 l0.f6] := by
    have e_ : cs0.toList = [.slice A0 l0.f0.length c0, .string l0.f1, .string l0.f2, .int .i64 l0.f3, .int .i64 l0.f4, .int .i64 l0.f5, .int .i64 l0.f6] := by simpa [Value.cells] using e0
    cases cs0
    simpa using e_
  have k1 := h1
  have lt1 : ∀ x ∈ p1, x.block < W.heap.size := by obtain ⟨m, hm⟩ := k1; exact DataW.trod_lt m _ _ _ hm
  obtain ⟨a1, len1, cap1, rfl⟩ := okWide_slice Try.underlying25 (hval 1 25 v1 rfl rfl)
  obtain ⟨fu1, hf1⟩ := h1
  obtain ⟨l1, hK1, g1⟩ := (cells_).reads hf1 (weights_of hsz (j := 1) (t := 25) rfl rfl)
  obtain ⟨A1, c1, e1, hc1, hC1⟩ := hK1
  obtain ⟨ra1, rl1, rc1⟩ : a1 = A1 ∧ len1 = l1.length ∧ cap1 = c1 := by simpa [Value.cells] using e1
  subst ra1 rl1 rc1
  clear hA0 hval0 hsz0 hsz
  obtain ⟨k, hk⟩ := Pure.FilterAgain l0.f0 l0.f1 l0.f2 l0.f3 l0.f4 l0.f5 l0.f6 l1
  refine (Q.joistlaw13_FilterAgain.calls k A0 c0 l0.f0 l0.f1 l0.f2 l0.f3 l0.f4 l0.f5 l0.f6 a1 cap1 l1 true W hC0 hc0 hC1 hc1 hk).mono fun e W' ⟨he, bel⟩ => ?_
  subst he
  exact ⟨_, rfl, _, _, _, [], _, [], hW', trodAll_mk1 (shut_bool Try.underlying4 _), (trodAll_cons_mk (Below.trod laidOut (by kernel_rfl) (of_decide_eq_true (by kernel_rfl)) k0 bel lt0) (trodAll_cons_mk (Below.trod laidOut (by kernel_rfl) (of_decide_eq_true (by kernel_rfl)) k1 bel lt1) trodAll_mk0)), rfl, bel.frame _, fun h => by cases h⟩
theorem over : Rows.filterAgainRow.holds Try.pinned (OpenSpec.ofChange Rows.filterAgainSpec) :=
  OpenClaim.holds_of_wide 6 Try.f6 rfl rfl rfl rfl rfl rfl rfl ⟨rfl, rfl, rfl, rfl, rfl⟩ rfl rfl rfl rfl rfl (by kernel_rfl) Try.func6 (by kernel_rfl)
    (of_decide_eq_true (by kernel_rfl)) (by unfold Func.isWrapper; first | (rw [if_pos (by decide +kernel)]; kernel_rfl) | (rw [if_neg (by decide +kernel)]; exact ⟨rfl, rfl⟩))
    (fun os started H enc _ => lifted os started H enc)
theorem proved : Rows.FilterAgainSaid := over
#print axioms proved
end Go.Proofs.Ythbgjaboghnpjaa.filterAgain
namespace Go.Proofs.Ythbgjaboghnpjaa
/-- The row, under a short name, for the claim. -/
theorem filterAgain_holds : Rows.FilterAgainSaid := filterAgain.proved
end Go.Proofs.Ythbgjaboghnpjaa
