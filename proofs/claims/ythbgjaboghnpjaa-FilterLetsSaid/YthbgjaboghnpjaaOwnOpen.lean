/- What an argument of a law reads as, kind by kind: numbers, bools, strings, slices, structs; with the bounds that a row's reading gives. -/
import Derived.Test.YthbgjaboghnpjaaV
import Derived.ChangeArms
import Derived.Deep.Slices
import Derived.SizedLaws
import Derived.WalkKit
import Derived.ProofKit
import Derived.OpenShut
import Derived.ShutString
namespace Go.Proofs.Ythbgjaboghnpjaa.Opn
open Go.RowKit Go.Deep Go.Proofs.YthbgjaboghnpjaaW.PrintWords
set_option linter.unusedVariables false

/-- The cells of type T read as a value of kind d, of which G holds. -/
structure Opens {α : Type} (P : Program) (T : TypeId) (d : Kd α) (G : α → Prop) : Prop where
  size : P.cellsOf T = d.sz
  reads : ∀ {H : Type} {enc : TypeId × Value → H} {W : World} {fuel : Nat} {cs : List Value} {x : DataW H × List MemPlace}, DataW.trod enc P W 0 (fun _ => true) true fuel T cs = some x → (∀ n ∈ x.1.weights P T, n ≤ 140737488351232) → ∃ a, d.K W a cs ∧ G a
theorem list_of {α : Type} (p : Nat → α → Prop) : ∀ n, (∀ i, i < n → ∃ a, p i a) → ∃ l : List α, l.length = n ∧ ∀ i a, l[i]? = some a → p i a
  | 0, _ => ⟨[], rfl, fun i a h => by simp at h⟩
  | n + 1, h => by
    obtain ⟨l, hl, hp⟩ := list_of p n (fun i hi => h i (by omega))
    obtain ⟨a, ha⟩ := h n (by omega)
    refine ⟨l ++ [a], by simp [hl], fun i b hb => ?_⟩
    by_cases hi : i < n
    · exact hp i b (by rwa [List.getElem?_append_left (by omega)] at hb)
    · have hlt := (List.getElem?_eq_some_iff.1 hb).1
      simp at hlt
      obtain rfl : i = n := by omega
      rw [List.getElem?_append_right (by omega), hl] at hb
      simp at hb
      subst hb
      exact ha
theorem add_add_ (a : Addr) (i j : Nat) : (a.add i).add j = a.add (i + j) := by
  unfold Addr.add
  by_cases hi : i = 0 <;> by_cases hj : j = 0 <;> simp [hi, hj, Nat.add_assoc]
namespace Opens
variable {P : Program} {T : TypeId}
theorem int {k : IntKind} (hu : P.underlying T = some (.int k)) (hc : P.cellsOf T = 1) : Opens P T (Kd.int k) (fun x => (Lit.int k x).wf = true) :=
  ⟨hc, fun h _ => by
    obtain ⟨n, rfl, _, hw⟩ := DataW.trod_int hu h
    exact ⟨n, rfl, hw⟩⟩
theorem bool (hu : P.underlying T = some .bool) (hc : P.cellsOf T = 1) : Opens P T Kd.bool (fun _ => True) :=
  ⟨hc, fun h _ => by
    obtain ⟨n, rfl, _⟩ := DataW.trod_bool hu h
    exact ⟨n, rfl, trivial⟩⟩
theorem string (hu : P.underlying T = some .string) (hc : P.cellsOf T = 1) : Opens P T Kd.string (fun s => s.size ≤ 140737488351232) :=
  ⟨hc, fun h hw => by
    obtain ⟨s, rfl, rfl, _⟩ := DataW.trod_string hu h
    refine ⟨s, rfl, ?_⟩
    have := hw s.data.toList.length (by simp [DataW.weights])
    rwa [Array.length_toList] at this⟩
theorem weights_all {H : Type} (e : TypeId) : ∀ (l : List (DataW H)) (d : DataW H), d ∈ l → ∀ n ∈ d.weights P e, n ∈ DataW.weightsAll P e l
  | [], d, h => by cases h
  | y :: l, d, h => fun n hn => by
    rw [DataW.weightsAll]
    rcases List.mem_cons.1 h with rfl | h
    · exact List.mem_append_left _ hn
    · exact List.mem_append_right _ (weights_all e l d h n hn)
theorem slice {α : Type} {e : TypeId} {d : Kd α} {G : α → Prop} {B : Nat} (hu : P.underlying T = some (.slice e)) (hc : P.cellsOf T = 1) (hb : P.bytesOf e = B) (ho : Opens P e d G) :
    Opens P T (Kd.slice e d) (fun l => l.length ≤ maxLen ∧ l.length * B ≤ 140737488351232 ∧ ∀ x ∈ l, G x) :=
  ⟨hc, fun {H enc W fuel cs x} h hw => by
    rcases open_slice hu h with ⟨rfl, rfl⟩ | ⟨a, len, cap, m, n, D, Pl, rfl, hba, hl, hm, hmm, rfl, hx⟩
    · exact ⟨[], ⟨none, 0, rfl, Nat.le_refl _, Kd.C_nil d W⟩, by simp, by simp, fun x hx => by cases hx⟩
    · simp only [if_true] at hmm
      subst hmm
      have hwt : ∀ i, i < len → ∀ n ∈ (D i).weights P e, n ≤ 140737488351232 := fun i hi n hn => hw n (by
        rw [DataW.weights, hu]
        exact List.mem_cons_of_mem _ (List.mem_append_left _ (weights_all e _ (D i) (List.mem_map.2 ⟨i, List.mem_range.2 hi, rfl⟩) n hn)))
      have hsz := hw ((((List.range len).map D).length + ((List.range (m - len)).map fun j => D (len + j)).length) * P.bytesOf e) (by rw [DataW.weights, hu]; exact List.mem_cons_self ..)
      obtain ⟨l, hll, hp⟩ := list_of (fun i (y : α) => ∃ c, c.length = d.sz ∧ d.K W y c ∧ (∀ j u, c[j]? = some u → W.cell? (a.add (i * d.sz + j)) = some u) ∧ G y) len (fun i hi => by
        obtain ⟨cs', hc1, hc2⟩ := hx i (by omega)
        obtain ⟨y, hy, hg⟩ := ho.reads hc2 (hwt i hi)
        obtain ⟨_, hlen, hcell⟩ := World.cells?_some hc1
        refine ⟨y, cs', by rw [hlen, ho.size], hy, fun j u hj => ?_, hg⟩
        have hjl := (List.getElem?_eq_some_iff.1 hj).1
        have := hcell j (by omega)
        rw [ho.size] at this
        rw [← hj, ← this]
        rw [← add_add_ a])
      refine ⟨l, ⟨some a, m, by rw [hll], by omega, ⟨hll.symm ▸ rfl, by simp only [maxLen] at hm; omega, fun _ => ⟨a, rfl, fun j p hj => ?_⟩⟩⟩, by omega, ?_, fun x hx => ?_⟩
      · obtain ⟨c, h1, h2, h3, _⟩ := hp j p hj
        exact ⟨c, h1, h2, h3⟩
      · rw [hb] at hsz
        simp only [List.length_map, List.length_range] at hsz
        rw [hll]
        exact Nat.le_trans (Nat.mul_le_mul_right _ (by omega)) hsz
      · obtain ⟨i, hi⟩ := List.mem_iff_getElem?.1 hx
        obtain ⟨_, _, _, _, hg⟩ := hp i x hi
        exact hg⟩
/-- The fields of a struct, from one place on. -/
structure Fields {α : Type} (P : Program) (fs : List Field) (off : Nat) (d : Kd α) (G : α → Prop) : Prop where
  reads : ∀ {H : Type} {enc : TypeId × Value → H} {W : World} {n : Nat} {cs : List Value} {xs : List (DataW H × List MemPlace)}, off + d.sz ≤ cs.length → xs.length = fs.length →
    (∀ (i : Nat) (f : Field), fs[i]? = some f → DataW.trod enc P W 0 (fun _ => true) true n f.type ((cs.drop f.offset).take (P.cellsOf f.type)) = xs[i]?) → (∀ n ∈ DataW.weightsEach P (fs.map (·.type)) (xs.map (·.1)), n ≤ 140737488351232) → ∃ a, d.K W a ((cs.drop off).take d.sz) ∧ G a
theorem one {α : Type} {f : Field} {off : Nat} {d : Kd α} {G : α → Prop} (hf : f.offset = off) (ho : Opens P f.type d G) : Fields P [f] off d G :=
  ⟨fun {H enc W n cs xs} hl hx h hw => by
    obtain ⟨x, rfl⟩ : ∃ x, xs = [x] := by
      match xs, hx with
      | [x], _ => exact ⟨x, rfl⟩
    have h0 := h 0 f rfl
    simp only [List.getElem?_cons_zero] at h0
    rw [hf, ho.size] at h0
    exact ho.reads h0 (fun n hn => hw n (by simp only [List.map_cons, DataW.weightsEach]; exact List.mem_append_left _ hn))⟩
theorem more {α β : Type} {f : Field} {fs : List Field} {off : Nat} {d0 : Kd α} {d1 : Kd β} {G0 : α → Prop} {G1 : β → Prop} (hf : f.offset = off) (ho : Opens P f.type d0 G0) (hs : Fields P fs (off + d0.sz) d1 G1) : Fields P (f :: fs) off (Kd.pair d0 d1) (fun x => G0 x.1 ∧ G1 x.2) :=
  ⟨fun {H enc W n cs xs} hl hx h hw => by
    obtain ⟨x, xs, rfl⟩ : ∃ x l, xs = x :: l := by
      match xs, hx with
      | x :: l, _ => exact ⟨x, l, rfl⟩
    have h0 := h 0 f rfl
    simp only [List.getElem?_cons_zero] at h0
    rw [hf, ho.size] at h0
    have hsz : (Kd.pair d0 d1).sz = d0.sz + d1.sz := rfl
    obtain ⟨a, ha, hga⟩ := ho.reads h0 (fun n hn => hw n (by simp only [List.map_cons, DataW.weightsEach]; exact List.mem_append_left _ hn))
    obtain ⟨b, hb, hgb⟩ := hs.reads (cs := cs) (xs := xs) (by omega) (by simpa using hx) (fun i g hg => by simpa using h (i + 1) g (by simpa using hg)) (fun n hn => hw n (by simp only [List.map_cons, DataW.weightsEach]; exact List.mem_append_right _ hn))
    refine ⟨(a, b), ⟨_, _, ?_, ha, hb⟩, hga, hgb⟩
    rw [hsz, List.take_add, List.drop_drop]⟩
theorem struct {α β : Type} {fs : Array Field} {d : Kd α} {G : α → Prop} (hu : P.underlying T = some (.struct fs)) (hc : P.cellsOf T = d.sz) (f : β → α) (g : α → β) (hfg : ∀ a, f (g a) = a) (hF : Fields P fs.toList 0 d G) : Opens P T (Kd.iso d f) (fun x => G (f x)) :=
  ⟨hc, fun {H enc W fuel cs x} h hw => by
    obtain ⟨xs, n, _, rfl, hl, hlen, hf⟩ := DataW.trod_struct hu h
    obtain ⟨a, ha, hga⟩ := hF.reads (cs := cs) (xs := xs) (by rw [hl, hc]; omega) (by simpa using hlen) (fun i f hi => hf i f (by simpa using hi)) (fun n hn => hw n (by rw [DataW.weights, hu]; exact hn))
    rw [List.drop_zero, List.take_of_length_le (by rw [hl, hc]; exact Nat.le_refl _)] at ha
    exact ⟨g a, by show d.K W (f (g a)) cs; rw [hfg]; exact ha, by show G (f (g a)); rw [hfg]; exact hga⟩⟩
end Opens
/-- An argument's reading, out of the row's. -/
theorem weights_of {H : Type} {P : Program} {ts : List TypeId} {ds : List (DataW H)} (h : (DataW.weightsEach P ts ds).all (· ≤ reachBytes) = true) {j : Nat} {t : TypeId} {d : DataW H} (ht : ts[j]? = some t) (hd : ds[j]? = some d) : ∀ n ∈ d.weights P t, n ≤ 140737488351232 := fun n hn => by
  have := List.all_eq_true.1 h n (DataW.weights_mem_each ht hd n hn)
  exact of_decide_eq_true this
end Go.Proofs.Ythbgjaboghnpjaa.Opn
