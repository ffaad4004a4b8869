/- The book of leases: what lies in memory; what the questions come to, out of all that was given. -/
import Derived.Test.YtfadanmfelbfiaaA7
import Derived.Maps.OwnOps
namespace Go.Proofs.Ytfadanmfelbfiaa.L
open Go.RowKit Go.Maps Go.Proofs.YtfadanmfelbfiaaW.PrintWords Go.Proofs.YtfadanmfelbfiaaW.PrintLast Go.Proofs.YtfadanmfelbfiaaW.PrintMore
set_option linter.unusedVariables false
set_option linter.unusedSimpArgs false
abbrev Gs := List (Int × Int)
/-- The map as read holds, of each version that was given, until when the last one counts. -/
def Ends (D : DataW Unit) (gs : Gs) : Prop := IsMap D ∧ ∀ v : Int,
  (has D (.int .i64 v) = true ∧ ∃ c, (∀ zd, D.atKey (.int .i64 v) zd = .lit (.int .i64 c)) ∧ (v, c) ∈ gs ∧ ∀ u, (v, u) ∈ gs → u ≤ c) ∨ (has D (.int .i64 v) = false ∧ ∀ u, (v, u) ∉ gs)
theorem Ends.start : Ends (.map []) [] := ⟨isMap_empty, fun v => Or.inr ⟨rfl, fun u h => by cases h⟩⟩
/-- What is in the book is in reach. -/
def GB (gs : Gs) : Prop := ∀ p ∈ gs, 1 ≤ p.1 ∧ p.1 ≤ 1099511627776 ∧ 1 ≤ p.2 ∧ p.2 ≤ 1099511627776
theorem isKey (v : Int) : WideAt.IsKeyLit (.int .i64 v) := trivial
theorem ne_key {v v' : Int} (h : v ≠ v') : (Lit.int .i64 v : Lit) ≠ .int .i64 v' := fun e => h (by injection e)
theorem Ends.put {D : DataW Unit} {gs : Gs} (h : Ends D gs) (hb : GB gs) (v u c : Int) (hc : D.atKey (.int .i64 v) (.lit (.int .i64 0)) = .lit (.int .i64 c)) (hu : 1 ≤ u) (x : Int) (hx : (c ≤ u → x = u) ∧ (u ≤ c → x = c)) :
    Ends (D.put (.int .i64 v) (.lit (.int .i64 x))) (gs ++ [(v, u)]) := by
  refine ⟨h.1.put _ _, fun v' => ?_⟩
  by_cases e : v' = v
  · subst e
    refine Or.inl ⟨has_put_same h.1 (isKey _) _, x, fun zd => atKey_put_same h.1 (isKey _) _ _, ?_⟩
    rcases h.2 v' with ⟨h1, c', h2, h3, h4⟩ | ⟨h1, h2⟩
    · rw [h2] at hc
      obtain rfl : c' = c := by injection hc with hc; injection hc
      by_cases hcu : c' ≤ u
      · obtain rfl := hx.1 hcu
        refine ⟨by simp, fun w hw => ?_⟩
        rcases List.mem_append.1 hw with hw | hw
        · have := h4 w hw; omega
        · simp at hw; omega
      · obtain rfl := hx.2 (by omega)
        refine ⟨List.mem_append_left _ h3, fun w hw => ?_⟩
        rcases List.mem_append.1 hw with hw | hw
        · exact h4 w hw
        · simp at hw; omega
    · rw [atKey_of_not_has h1] at hc
      obtain rfl : 0 = c := by injection hc with hc; injection hc
      obtain rfl := hx.1 (by omega)
      refine ⟨by simp, fun w hw => ?_⟩
      rcases List.mem_append.1 hw with hw | hw
      · exact absurd hw (h2 w)
      · simp at hw; omega
  · rw [has_put_other (ne_key e)]
    rcases h.2 v' with ⟨h1, c', h2, h3, h4⟩ | ⟨h1, h2⟩
    · refine Or.inl ⟨h1, c', fun zd => by rw [atKey_put_other (ne_key e)]; exact h2 zd, List.mem_append_left _ h3, fun w hw => ?_⟩
      rcases List.mem_append.1 hw with hw | hw
      · exact h4 w hw
      · simp [e] at hw
    · refine Or.inr ⟨h1, fun w hw => ?_⟩
      rcases List.mem_append.1 hw with hw | hw
      · exact h2 w hw
      · simp [e] at hw
/-- When it may go on. -/
def FreeIs (gs : Gs) (v now x : Int) : Prop := now ≤ x ∧ (x = now ∨ ∃ p ∈ gs, p.1 < v ∧ p.2 = x) ∧ ∀ p ∈ gs, p.1 < v → p.2 ≤ x
theorem FreeIs.unique {gs : Gs} {v now x y : Int} (h : FreeIs gs v now x) (k : FreeIs gs v now y) : x = y := by
  obtain ⟨h1, h2, h3⟩ := h
  obtain ⟨k1, k2, k3⟩ := k
  have a : x ≤ y := by
    rcases h2 with rfl | ⟨p, hp, hv, rfl⟩
    · exact k1
    · exact k3 p hp hv
  have b : y ≤ x := by
    rcases k2 with rfl | ⟨p, hp, hv, rfl⟩
    · exact h1
    · exact h3 p hp hv
  omega
/-- The least version that counts. -/
def OldIs (gs : Gs) (now x : Int) (ok : Bool) : Prop := (ok = false ∧ x = 0 ∧ ∀ p ∈ gs, ¬ now < p.2) ∨ (ok = true ∧ (∃ p ∈ gs, p.1 = x ∧ now < p.2) ∧ ∀ p ∈ gs, now < p.2 → x ≤ p.1)
theorem OldIs.unique {gs : Gs} {now x y : Int} {b c : Bool} (h : OldIs gs now x b) (k : OldIs gs now y c) : x = y ∧ b = c := by
  rcases h with ⟨rfl, rfl, h⟩ | ⟨rfl, ⟨p, hp, rfl, hn⟩, h⟩ <;> rcases k with ⟨rfl, rfl, k⟩ | ⟨rfl, ⟨q, hq, rfl, kn⟩, k⟩
  · exact ⟨rfl, rfl⟩
  · exact absurd kn (h q hq)
  · exact absurd hn (k p hp)
  · have := h q hq kn
    have := k p hp hn
    exact ⟨by omega, rfl⟩
/-- May what holds a version go on? -/
def MayIs (gs : Gs) (v now : Int) (b : Bool) : Prop := b = true ↔ ∀ p ∈ gs, now < p.2 → v ≤ p.1
theorem MayIs.unique {gs : Gs} {v now : Int} {b c : Bool} (h : MayIs gs v now b) (k : MayIs gs v now c) : b = c := by
  exact Bool.eq_iff_iff.2 (h.trans k.symm)
theorem OldIs.may {gs : Gs} {now x v : Int} {ok : Bool} (h : OldIs gs now x ok) : MayIs gs v now (!ok || decide (x ≥ v)) := by
  unfold MayIs
  rcases h with ⟨rfl, rfl, h⟩ | ⟨rfl, ⟨p, hp, rfl, hn⟩, h⟩
  · simp
    intro a b hab hlt
    exact absurd hlt (h _ hab)
  · simp
    constructor
    · intro hv a b hab hlt
      have := h _ hab hlt
      simp at this
      omega
    · intro hv
      exact hv p.1 p.2 hp hn
/-- May the lease be given? -/
def GiveOk (gr : Gs) (n v u : Int) : Prop := 0 ≤ n ∧ n < gr.length ∧ 1 ≤ v ∧ v ≤ 1099511627776 ∧ u ≤ 1099511627776 ∧ (gr.getD n.toNat (0, 0)).1 ≤ v ∧ (gr.getD n.toNat (0, 0)).2 < u
/-- What is answered, and the book behind it. -/
def Gv (gr gs : Gs) (n v u : Int) (r : Bool) (gr' gs' : Gs) : Prop := (GiveOk gr n v u ∧ r = true ∧ gr' = gr.set n.toNat (v, u) ∧ gs' = gs ++ [(v, u)]) ∨ (¬ GiveOk gr n v u ∧ r = false ∧ gr' = gr ∧ gs' = gs)
theorem Gv.unique {gr gs : Gs} {n v u : Int} {r r' : Bool} {a a' b b' : Gs} (h : Gv gr gs n v u r a b) (k : Gv gr gs n v u r' a' b') : r = r' ∧ a = a' ∧ b = b' := by
  rcases h with ⟨h, rfl, rfl, rfl⟩ | ⟨h, rfl, rfl, rfl⟩ <;> rcases k with ⟨k, rfl, rfl, rfl⟩ | ⟨k, rfl, rfl, rfl⟩
  · exact ⟨rfl, rfl, rfl⟩
  · exact absurd h k
  · exact absurd k h
  · exact ⟨rfl, rfl, rfl⟩
/-- The nodes' leases are in reach. -/
structure RB (gr : Gs) : Prop where
  lo : 1 ≤ gr.length
  hi : gr.length ≤ 5
  val : ∀ i, 0 ≤ (gr.getD i (0, 0)).1 ∧ (gr.getD i (0, 0)).1 ≤ 1099511627776 ∧ 0 ≤ (gr.getD i (0, 0)).2 ∧ (gr.getD i (0, 0)).2 ≤ 1099511627776
theorem getD_set2 (l : Gs) (k i : Nat) (v : Int × Int) (hk : k < l.length) : (l.set k v).getD i (0, 0) = if i = k then v else l.getD i (0, 0) := by
  by_cases h : i = k
  · subst h; simp [List.getD_eq_getElem?_getD, hk]
  · rw [if_neg h]; simp [List.getD_eq_getElem?_getD, List.getElem?_set_ne (Ne.symm h)]
theorem Gv.keeps {gr gs : Gs} {n v u : Int} {r : Bool} {a b : Gs} (h : Gv gr gs n v u r a b) (hr : RB gr) (hg : GB gs) : RB a ∧ GB b ∧ a.length = gr.length ∧ b.length ≤ gs.length + 1 := by
  rcases h with ⟨⟨h0, h1, h2, h3, h4, h5, h6⟩, rfl, rfl, rfl⟩ | ⟨h, rfl, rfl, rfl⟩
  · have h7 := hr.val n.toNat
    refine ⟨⟨by simpa using hr.lo, by simpa using hr.hi, fun i => ?_⟩, fun p hp => ?_, by simp, by simp⟩
    · rw [getD_set2 _ _ _ _ (by omega)]
      have := hr.val i
      split
      · simp only; omega
      · exact this
    · rcases List.mem_append.1 hp with hp | hp
      · exact hg p hp
      · simp at hp
        subst hp
        simp only
        omega
  · exact ⟨hr, hg, rfl, by omega⟩
/-- The cells of a row of pairs. -/
def pairsA (l : Gs) : Array Value := (l.flatMap fun p => [Value.int .i64 p.1, Value.int .i64 p.2]).toArray
def HasPairs (w : World) (g : Nat) (l : Gs) : Prop := w.heap[g]? = some (.cells (pairsA l) 72 (0, 0))
theorem pairs_at (l : Gs) : ∀ k, k < l.length → (l.flatMap fun p => [Value.int .i64 p.1, Value.int .i64 p.2])[2 * k]? = some (.int .i64 (l.getD k (0, 0)).1) ∧ (l.flatMap fun p => [Value.int .i64 p.1, Value.int .i64 p.2])[2 * k + 1]? = some (.int .i64 (l.getD k (0, 0)).2) := by
  induction l with
  | nil => intro k hk; simp at hk
  | cons p l ih =>
    intro k hk
    match k with
    | 0 => simp
    | k + 1 =>
      have := ih k (by simpa using hk)
      simp only [List.flatMap_cons, List.getD_cons_succ]
      rw [show 2 * (k + 1) = 2 * k + 1 + 1 from by omega, show 2 * k + 1 + 1 + 1 = (2 * k + 1) + 1 + 1 from by omega]
      exact ⟨by simpa using this.1, by simpa using this.2⟩
theorem pairs_set (l : Gs) : ∀ (k : Nat) (v u : Int), k < l.length → (((l.flatMap fun p => [Value.int .i64 p.1, Value.int .i64 p.2]).set (2 * k) (.int .i64 v)).set (2 * k + 1) (.int .i64 u)) = ((l.set k (v, u)).flatMap fun p => [Value.int .i64 p.1, Value.int .i64 p.2]) := by
  induction l with
  | nil => intro k v u hk; simp at hk
  | cons p l ih =>
    intro k v u hk
    match k with
    | 0 => simp
    | k + 1 =>
      have := ih k v u (by simpa using hk)
      simp only [List.flatMap_cons, List.set_cons_succ]
      rw [show 2 * (k + 1) = 2 * k + 1 + 1 from by omega, ← this]
      simp
theorem cells_setCell {w : World} {g k : Nat} {C : Array Value} {T : TypeId} {v : Value} (h : w.heap[g]? = some (.cells C T (0, 0))) : (w.setCell ⟨g, k, none⟩ v).heap[g]? = some (.cells (C.setIfInBounds k v) T (0, 0)) := by
  have hlt := lt_of_block h
  have h' : w.heap[g] = .cells C T (0, 0) := by simpa [Array.getElem?_eq_getElem hlt] using h
  show (w.heap.modify g _)[g]? = _
  rw [Array.getElem?_eq_getElem (by simpa using hlt), Array.getElem_modify_self, h']
  simp
theorem HasPairs.cell {w : World} {g : Nat} {l : Gs} (h : HasPairs w g l) (k : Nat) (hk : k < l.length) : w.cell? ⟨g, k * 2, none⟩ = some (.int .i64 (l.getD k (0, 0)).1) ∧ w.cell? ⟨g, k * 2 + 1, none⟩ = some (.int .i64 (l.getD k (0, 0)).2) := by
  unfold HasPairs at h
  rw [Nat.mul_comm k 2]
  have := pairs_at l k hk
  simp [World.cell?, h, pairsA, this]
theorem HasPairs.free {w : World} {g : Nat} {l : Gs} (h : HasPairs w g l) (k : Nat) : w.frozen? ⟨g, k, none⟩ = false := by
  unfold HasPairs at h
  simp [World.frozen?, h]
theorem HasPairs.set {w : World} {g : Nat} {l : Gs} (h : HasPairs w g l) (k : Nat) (hk : k < l.length) (v u : Int) : HasPairs ((w.setCell ⟨g, k * 2, none⟩ (.int .i64 v)).setCell ⟨g, k * 2 + 1, none⟩ (.int .i64 u)) g (l.set k (v, u)) := by
  unfold HasPairs
  rw [Nat.mul_comm k 2]
  rw [cells_setCell (cells_setCell h)]
  simp only [pairsA, List.setIfInBounds_toArray]
  rw [pairs_set l k v u hk]
end Go.Proofs.Ytfadanmfelbfiaa.L
