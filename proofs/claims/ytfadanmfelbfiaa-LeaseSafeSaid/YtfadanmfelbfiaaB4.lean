/- The document's book of leases: made, and the questions. -/
import Derived.Test.YtfadanmfelbfiaaB3
namespace Go.Proofs.Ytfadanmfelbfiaa.L
open Go.RowKit Go.Maps Go.Proofs.YtfadanmfelbfiaaW.PrintWords Go.Proofs.YtfadanmfelbfiaaW.PrintLast Go.Proofs.YtfadanmfelbfiaaW.PrintMore
set_option linter.unusedVariables false
set_option linter.unusedSimpArgs false
theorem row_eq {w w' : World} {base e size n : Nat} {v : Value} {xs : List Value} (h : w.ownsRow base e size v n xs) (he : ∀ k, v.ownBlock = some k → w'.heap[k]? = w.heap[k]?) : w'.ownsRow base e size v n xs := by
  obtain ⟨h1, h2⟩ := h
  refine ⟨h1, ?_⟩
  rcases h2 with h2 | ⟨g, cap, cur, rfl, hg, hh, r⟩
  · exact Or.inl h2
  · exact Or.inr ⟨g, cap, cur, rfl, hg, by rw [he g rfl]; exact hh, r⟩
/-- A row of the call's own, of numbers. -/
def OwnI (w : World) (v : Value) (l : List Int) : Prop := w.ownsRow 0 3 1 v l.length (l.map (.int .i64))
/-- The blocks of the document's book. -/
def RF (R gv gu : Nat) (v3 v4 : Value) (k : Nat) : Prop := k = R ∨ k = gv ∨ k = gu ∨ v3.ownBlock = some k ∨ v4.ownBlock = some k
structure RBk (w : World) (R gv gu : Nat) (v3 v4 : Value) (gr gs : Gs) : Prop where
  box : w.heap[R]? = some (.cells #[.slice (some ⟨gv, 0, none⟩) gr.length gr.length, .slice (some ⟨gu, 0, none⟩) gr.length gr.length, v3, v4] 69 (0, 0))
  rv : HasInts w gv (gr.map (·.1))
  ru : HasInts w gu (gr.map (·.2))
  o3 : OwnI w v3 (gs.map (·.1))
  o4 : OwnI w v4 (gs.map (·.2))
  n1 : gv ≠ R
  n2 : gu ≠ R
  n3 : gu ≠ gv
  d3 : ∀ k, v3.ownBlock = some k → k ≠ R ∧ k ≠ gv ∧ k ≠ gu
  d4 : ∀ k, v4.ownBlock = some k → k ≠ R ∧ k ≠ gv ∧ k ≠ gu
  d34 : ∀ k, v3.ownBlock = some k → v4.ownBlock ≠ some k
theorem RBk.of_eq {w w' : World} {R gv gu : Nat} {v3 v4 : Value} {gr gs : Gs} (h : RBk w R gv gu v3 v4 gr gs) (he : ∀ k, RF R gv gu v3 v4 k → w'.heap[k]? = w.heap[k]?) : RBk w' R gv gu v3 v4 gr gs :=
  ⟨(he R (Or.inl rfl)).trans h.box, h.rv.of_eq (he gv (Or.inr (Or.inl rfl))), h.ru.of_eq (he gu (Or.inr (Or.inr (Or.inl rfl)))), row_eq h.o3 (fun k hk => he k (Or.inr (Or.inr (Or.inr (Or.inl hk))))), row_eq h.o4 (fun k hk => he k (Or.inr (Or.inr (Or.inr (Or.inr hk))))),
   h.n1, h.n2, h.n3, h.d3, h.d4, h.d34⟩
theorem RBk.lt {w : World} {R gv gu : Nat} {v3 v4 : Value} {gr gs : Gs} (h : RBk w R gv gu v3 v4 gr gs) : ∀ k, RF R gv gu v3 v4 k → k < w.heap.size := by
  rintro k (rfl | rfl | rfl | hk | hk)
  · exact lt_of_block h.box
  · exact h.rv.lt
  · exact h.ru.lt
  · exact (World.ownsRow.lt h.o3 k hk).2
  · exact (World.ownsRow.lt h.o4 k hk).2
theorem RBk.below {w w' : World} {R gv gu : Nat} {v3 v4 : Value} {gr gs : Gs} (h : RBk w R gv gu v3 v4 gr gs) (hb : Below w.heap.size w w') : RBk w' R gv gu v3 v4 gr gs := h.of_eq fun k hk => hb.block k (h.lt k hk)
theorem RBk.c0 {w : World} {R gv gu : Nat} {v3 v4 : Value} {gr gs : Gs} (h : RBk w R gv gu v3 v4 gr gs) : w.cell? ⟨R, 0, none⟩ = some (.slice (some ⟨gv, 0, none⟩) gr.length gr.length) := by simp [World.cell?, h.box]
theorem RBk.c1 {w : World} {R gv gu : Nat} {v3 v4 : Value} {gr gs : Gs} (h : RBk w R gv gu v3 v4 gr gs) : w.cell? ⟨R, 1, none⟩ = some (.slice (some ⟨gu, 0, none⟩) gr.length gr.length) := by simp [World.cell?, h.box]
theorem RBk.c2 {w : World} {R gv gu : Nat} {v3 v4 : Value} {gr gs : Gs} (h : RBk w R gv gu v3 v4 gr gs) : w.cell? ⟨R, 2, none⟩ = some v3 := by simp [World.cell?, h.box]
theorem RBk.c3 {w : World} {R gv gu : Nat} {v3 v4 : Value} {gr gs : Gs} (h : RBk w R gv gu v3 v4 gr gs) : w.cell? ⟨R, 3, none⟩ = some v4 := by simp [World.cell?, h.box]
theorem RBk.f {w : World} {R gv gu : Nat} {v3 v4 : Value} {gr gs : Gs} (h : RBk w R gv gu v3 v4 gr gs) (k : Nat) : w.frozen? ⟨R, k, none⟩ = false := by simp [World.frozen?, h.box]
theorem fst_getD (gr : Gs) (k : Nat) : (gr.map (·.1)).getD k 0 = (gr.getD k (0, 0)).1 := by
  simp only [List.getD_eq_getElem?_getD, List.getElem?_map]
  cases gr[k]? <;> rfl
theorem snd_getD (gr : Gs) (k : Nat) : (gr.map (·.2)).getD k 0 = (gr.getD k (0, 0)).2 := by
  simp only [List.getD_eq_getElem?_getD, List.getElem?_map]
  cases gr[k]? <;> rfl
theorem RBk.cell {w : World} {R gv gu : Nat} {v3 v4 : Value} {gr gs : Gs} (h : RBk w R gv gu v3 v4 gr gs) (k : Nat) (hk : k < gr.length) : w.cell? ⟨gv, k, none⟩ = some (.int .i64 (gr.getD k (0, 0)).1) ∧ w.cell? ⟨gu, k, none⟩ = some (.int .i64 (gr.getD k (0, 0)).2) := by
  have h1 := h.rv.cell k (by simpa using hk)
  have h2 := h.ru.cell k (by simpa using hk)
  rw [fst_getD] at h1
  rw [snd_getD] at h2
  exact ⟨h1, h2⟩
theorem rnew_end (w : World) (n p q : Nat) (hp : (p = w.heap.size ∧ q = w.heap.size + 1) ∨ (p = w.heap.size + 1 ∧ q = w.heap.size)) :
    ∃ R gv gu v3 v4, (∀ k, RF R gv gu v3 v4 k → w.heap.size ≤ k) ∧ Ending.returned (.tuple #[.pointer (some ⟨w.heap.size + 1 + 1, 0, none⟩), .int .i64 0]) = .returned (.tuple #[.pointer (some ⟨R, 0, none⟩), .int .i64 0]) ∧
      RBk (((w.alloc (.cells (intsA (List.replicate n 0)) 3)).alloc (.cells (intsA (List.replicate n 0)) 3)).alloc (.cells #[.slice (some ⟨p, 0, none⟩) n n, .slice (some ⟨q, 0, none⟩) n n, .slice none 0 0, .slice none 0 0] 69)).drew R gv gu v3 v4 (List.replicate n (0, 0)) [] ∧
      Below w.heap.size w (((w.alloc (.cells (intsA (List.replicate n 0)) 3)).alloc (.cells (intsA (List.replicate n 0)) 3)).alloc (.cells #[.slice (some ⟨p, 0, none⟩) n n, .slice (some ⟨q, 0, none⟩) n n, .slice none 0 0, .slice none 0 0] 69)).drew := by
  have a1 := heap_alloc_new w (.cells (intsA (List.replicate n 0)) 3)
  have a2 := heap_alloc_new (w.alloc (.cells (intsA (List.replicate n 0)) 3)) (.cells (intsA (List.replicate n 0)) 3)
  have a3 := heap_alloc_new ((w.alloc (.cells (intsA (List.replicate n 0)) 3)).alloc (.cells (intsA (List.replicate n 0)) 3)) (.cells #[.slice (some ⟨p, 0, none⟩) n n, .slice (some ⟨q, 0, none⟩) n n, .slice none 0 0, .slice none 0 0] 69)
  have b1 := (heap_alloc_old _ (.cells #[.slice (some ⟨p, 0, none⟩) n n, .slice (some ⟨q, 0, none⟩) n n, .slice none 0 0, .slice none 0 0] 69) (by simp; omega)).trans ((heap_alloc_old _ (.cells (intsA (List.replicate n 0)) 3) (by simp)).trans a1)
  have b2 := (heap_alloc_old _ (.cells #[.slice (some ⟨p, 0, none⟩) n n, .slice (some ⟨q, 0, none⟩) n n, .slice none 0 0, .slice none 0 0] 69) (by simp)).trans a2
  have hb : ∀ r, r = w.heap.size ∨ r = w.heap.size + 1 → HasInts (((w.alloc (.cells (intsA (List.replicate n 0)) 3)).alloc (.cells (intsA (List.replicate n 0)) 3)).alloc (.cells #[.slice (some ⟨p, 0, none⟩) n n, .slice (some ⟨q, 0, none⟩) n n, .slice none 0 0, .slice none 0 0] 69)).drew r (List.replicate n 0) := by
    rintro r (rfl | rfl)
    · exact b1
    · have s2 : (w.alloc (.cells (intsA (List.replicate n 0)) 3)).heap.size = w.heap.size + 1 := by simp
      rw [s2] at b2
      exact b2
  refine ⟨w.heap.size + 2, p, q, .slice none 0 0, .slice none 0 0, ?_, rfl, ⟨?_, ?_, ?_, ⟨by simp, Or.inl ⟨rfl, rfl⟩⟩, ⟨by simp, Or.inl ⟨rfl, rfl⟩⟩, by omega, by omega, by omega, ?_, ?_, ?_⟩, ((((Below.refl _ _).alloc (Nat.le_refl _) _).alloc (by simp) _).alloc (by simp; omega) _).drew⟩
  · rintro k (rfl | rfl | rfl | hk | hk)
    · omega
    · omega
    · omega
    · cases hk
    · cases hk
  · have s3 : ((w.alloc (.cells (intsA (List.replicate n 0)) 3)).alloc (.cells (intsA (List.replicate n 0)) 3)).heap.size = w.heap.size + 2 := by simp
    rw [s3] at a3
    rw [List.length_replicate]
    exact a3
  · have := hb p (by omega)
    simpa using this
  · have := hb q (by omega)
    simpa using this
  · intro k hk; cases hk
  · intro k hk; cases hk
  · intro k hk; cases hk
theorem rNew_yes (n : Nat) (w : World) (h1 : 1 ≤ n) (h2 : n ≤ 5) :
    Calls Try.prog 18 #[.int .i64 n] w fun e w' => ∃ R gv gu v3 v4, (∀ k, RF R gv gu v3 v4 k → w.heap.size ≤ k) ∧ e = .returned (.tuple #[.pointer (some ⟨R, 0, none⟩), .int .i64 0]) ∧ RBk w' R gv gu v3 v4 (List.replicate n (0, 0)) [] ∧ Below w.heap.size w w' := by
  have hm := make3 n h2
  go_enter Try.func18, Try.ntmps18
  go_wp2
  go_region
  all_goals go_wp2
  all_goals go_ret2
  all_goals first
    | exact rnew_end w n _ _ (Or.inl ⟨rfl, rfl⟩)
    | exact rnew_end w n _ _ (Or.inr ⟨rfl, rfl⟩)
theorem rNew_no (n : Int) (w : World) (h : ¬ (1 ≤ n ∧ n ≤ 5)) :
    Calls Try.prog 18 #[.int .i64 n] w fun e w' => e = .returned (.tuple #[.pointer none, .int .i64 11]) ∧ w = w' := by
  have H := Lib.hid h
  clear h
  go_enter Try.func18, Try.ntmps18
  go_wp2
  all_goals first
    | (go_ret2; exact ⟨rfl, rfl⟩)
    | (exfalso; have := H.out; omega)
theorem rOf (w : World) (R gv gu : Nat) (v3 v4 : Value) (gr gs : Gs) (n : Int) (h : RBk w R gv gu v3 v4 gr gs) (hr : RB gr) :
    Calls Try.prog 22 #[.pointer (some ⟨R, 0, none⟩), .int .i64 n] w fun e w' => e = .returned (.tuple #[.int .i64 (ofI gr n).1, .int .i64 (ofI gr n).2]) ∧ Drawn w w' := by
  have hc0 := h.c0
  have hc1 := h.c1
  have hlen := hr.hi
  have hlo := hr.lo
  by_cases hn : 0 ≤ n ∧ n < gr.length
  · obtain ⟨k, rfl⟩ := Int.eq_ofNat_of_zero_le hn.1
    have hk : k < gr.length := by omega
    obtain ⟨hv, hu⟩ := h.cell k hk
    have hk0 : (0 : Int) ≤ (k : Int) := by omega
    have hk1 : (k : Int) < (gr.length : Int) := by omega
    have hq : ofI gr (k : Int) = gr.getD k (0, 0) := by unfold ofI; rw [if_pos hn]; rfl
    generalize gr.getD k (0, 0) = p at hv hu hq
    obtain ⟨a, b⟩ := p
    simp only at hv hu
    have HQ := Lib.hid hq
    clear hq hn
    go_enter Try.func22, Try.ntmps22
    go_wp2
    go_quiet (fail)
    go_wp2
    go_ret2
    exact ⟨by rw [HQ.out]; rfl, Drawn.step (Drawn.refl _) _⟩
  · have HQ := Lib.hid (show ofI gr n = (0, 0) from by unfold ofI; rw [if_neg hn])
    rcases (by omega : n < 0 ∨ (gr.length : Int) ≤ n) with hx | hx
    · clear hn
      go_enter Try.func22, Try.ntmps22
      go_wp2
      go_ret2
      exact ⟨by rw [HQ.out]; rfl, Drawn.refl _⟩
    · clear hn
      have hx0 : 0 ≤ n := by omega
      go_enter Try.func22, Try.ntmps22
      go_wp2
      go_ret2
      exact ⟨by rw [HQ.out]; rfl, Drawn.refl _⟩
end Go.Proofs.Ytfadanmfelbfiaa.L
