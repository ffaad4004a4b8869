/- The book of leases: made, read. -/
import Derived.Test.YtfadanmfelbfiaaB0
namespace Go.Proofs.Ytfadanmfelbfiaa.L
open Go.RowKit Go.Maps Go.Proofs.YtfadanmfelbfiaaW.PrintWords Go.Proofs.YtfadanmfelbfiaaW.PrintLast Go.Proofs.YtfadanmfelbfiaaW.PrintMore
attribute [local go_sem] max2_int min2_int max_two min_two   -- for this text's walks alone
set_option linter.unusedVariables false
set_option linter.unusedSimpArgs false
/-- The program's book. -/
structure Bk (w : World) (B g m : Nat) (gr gs : Gs) : Prop where
  box : w.heap[B]? = some (.cells #[.slice (some ⟨g, 0, none⟩) gr.length gr.length, .map (some m)] 67 (0, 0))
  row : HasPairs w g gr
  mp : ∃ D : DataW Unit, w.ownsMap Try.prog 3 (plainElem Try.prog 3) m gs.length D ∧ Ends D gs
  ne1 : g ≠ B
  ne2 : m ≠ B
  ne3 : m ≠ g
theorem owns_eq {w w' : World} {m n : Nat} {D : DataW Unit} (h : w.ownsMap Try.prog 3 (plainElem Try.prog 3) m n D) (e : w'.heap[m]? = w.heap[m]?) : w'.ownsMap Try.prog 3 (plainElem Try.prog 3) m n D := by
  obtain ⟨es, clock, hb, r⟩ := h
  exact ⟨es, clock, e.trans hb, r⟩
theorem Bk.of_eq {w w' : World} {B g m : Nat} {gr gs : Gs} (h : Bk w B g m gr gs) (e1 : w'.heap[B]? = w.heap[B]?) (e2 : w'.heap[g]? = w.heap[g]?) (e3 : w'.heap[m]? = w.heap[m]?) : Bk w' B g m gr gs := by
  obtain ⟨D, h1, h2⟩ := h.mp
  exact ⟨e1.trans h.box, e2.trans h.row, ⟨D, owns_eq h1 e3, h2⟩, h.ne1, h.ne2, h.ne3⟩
theorem Bk.c0 {w : World} {B g m : Nat} {gr gs : Gs} (h : Bk w B g m gr gs) : w.cell? ⟨B, 0, none⟩ = some (.slice (some ⟨g, 0, none⟩) gr.length gr.length) := by simp [World.cell?, h.box]
theorem Bk.c1 {w : World} {B g m : Nat} {gr gs : Gs} (h : Bk w B g m gr gs) : w.cell? ⟨B, 1, none⟩ = some (.map (some m)) := by simp [World.cell?, h.box]
theorem Bk.lt {w : World} {B g m : Nat} {gr gs : Gs} (h : Bk w B g m gr gs) : B < w.heap.size ∧ g < w.heap.size ∧ m < w.heap.size := by
  obtain ⟨D, h1, h2⟩ := h.mp
  exact ⟨lt_of_block h.box, lt_of_block h.row, h1.lt⟩
theorem Bk.below {w w' : World} {B g m : Nat} {gr gs : Gs} (h : Bk w B g m gr gs) (hb : Below w.heap.size w w') : Bk w' B g m gr gs :=
  h.of_eq (hb.block _ h.lt.1) (hb.block _ h.lt.2.1) (hb.block _ h.lt.2.2)
theorem info72 : (Try.prog.info? 72).map (fun i => (i.zero, i.size, i.bytes)) = some (some (.agg #[.int .i64 0, .int .i64 0]), 2, 16) := by kernel_rfl
theorem madePairs (n : Nat) : madeCells (Value.agg #[.int .i64 0, .int .i64 0]).cells (n * 2) = pairsA (List.replicate n (0, 0)) := by
  have hl : ∀ n : Nat, ((List.replicate n ((0 : Int), (0 : Int))).flatMap fun p => [Value.int .i64 p.1, Value.int .i64 p.2]) = List.replicate (n * 2) (.int .i64 0) := by
    intro n
    induction n with
    | zero => simp
    | succ n ih => rw [List.replicate_succ, List.flatMap_cons, ih, show (n + 1) * 2 = n * 2 + 1 + 1 from by omega, List.replicate_succ, List.replicate_succ]; rfl
  unfold pairsA
  rw [hl]
  apply Array.ext
  · simp [size_madeCells]
  · intro i h1 h2
    have : i % 2 = 0 ∨ i % 2 = 1 := by omega
    rcases this with e | e <;> simp [madeCells, Value.cells, e]
theorem make72 (n : Nat) (h : n ≤ 5) (w : World) : (Instr.makeSlice 64 (.int .i64 n) (.int .i64 n)).run Try.prog w = .ok (.slice (some ⟨w.heap.size, 0, none⟩) n n) (w.alloc (.cells (pairsA (List.replicate n (0, 0))) 72)) := by
  obtain ⟨i0, hi, hz0, hz1, hz2⟩ := info_parts info72
  have h1 := run_make (P := Try.prog) w 64 72 i0 (.agg #[.int .i64 0, .int .i64 0]) Try.underlying64 hi hz0 .i64 .i64 n n (by omega) (by omega) (by rw [hz2]; omega) (by omega)
  rw [hz1, Int.toNat_natCast, madePairs] at h1
  exact h1
theorem new_yes (n : Nat) (w : World) (h1 : 1 ≤ n) (h2 : n ≤ 5) :
    Calls Try.prog 17 #[.int .i64 n] w fun e w' => ∃ B g m, w.heap.size ≤ B ∧ w.heap.size ≤ g ∧ w.heap.size ≤ m ∧ e = .returned (.tuple #[.pointer (some ⟨B, 0, none⟩), .int .i64 0]) ∧ Bk w' B g m (List.replicate n (0, 0)) [] ∧ Below w.heap.size w w' := by
  have c1 := fun w => within n 1 5 w
  rw [show withinB n 1 5 = true from by simp [withinB]; omega] at c1
  have hm := make72 n h2
  have hmm := @run_makeMap Try.prog
  go_enter Try.func17, Try.ntmps17
  go_wp2_with (go_at_call 30; ((with_reducible refine (c1 _).mono ?_); rintro e w' ⟨rfl, rfl⟩))
  go_ret2
  have a1 := heap_alloc_new w (.cells (pairsA (List.replicate n (0, 0))) 72)
  have a2 := heap_alloc_new (w.alloc (.cells (pairsA (List.replicate n (0, 0))) 72)) (.map #[] 0)
  have a3 := heap_alloc_new ((w.alloc (.cells (pairsA (List.replicate n (0, 0))) 72)).alloc (.map #[] 0)) (.cells #[.slice (some ⟨w.heap.size, 0, none⟩) n n, .map (some (w.heap.size + 1))] 67)
  have o2 := World.ownsMap_made (H := Unit) (w.alloc (.cells (pairsA (List.replicate n (0, 0))) 72)) Try.prog 3 (plainElem Try.prog 3)
  refine ⟨w.heap.size + 2, w.heap.size, w.heap.size + 1, by omega, by omega, by omega, by simp, ⟨by simpa using a3, ?_, ⟨_, ?_, Ends.start⟩, by omega, by omega, by omega⟩, (((Below.refl _ _).alloc (Nat.le_refl _) _).alloc (by simp) _).alloc (by simp; omega) _⟩
  · exact ((heap_alloc_old _ _ (by simp; omega)).trans (heap_alloc_old _ _ (by simp))).trans a1
  · have := o2.alloc (.cells #[.slice (some ⟨w.heap.size, 0, none⟩) n n, .map (some (w.heap.size + 1))] 67)
    simpa using this
theorem new_no (n : Int) (w : World) (h : ¬ (1 ≤ n ∧ n ≤ 5)) :
    Calls Try.prog 17 #[.int .i64 n] w fun e w' => e = .returned (.tuple #[.pointer none, .int .i64 11]) ∧ w = w' := by
  have c1 := fun w => within n 1 5 w
  rw [show withinB n 1 5 = false from by simp [withinB]; omega] at c1
  clear h
  go_enter Try.func17, Try.ntmps17
  go_wp2_with (go_at_call 30; ((with_reducible refine (c1 _).mono ?_); rintro e w' ⟨rfl, rfl⟩))
  go_ret2
  exact ⟨rfl, rfl⟩
def ofI (gr : Gs) (n : Int) : Int × Int := if 0 ≤ n ∧ n < gr.length then gr.getD n.toNat (0, 0) else (0, 0)
theorem of_ (w : World) (B g m : Nat) (gr gs : Gs) (n : Int) (h : Bk w B g m gr gs) (hr : RB gr) :
    Calls Try.prog 21 #[.pointer (some ⟨B, 0, none⟩), .int .i64 n] w fun e w' => e = .returned (.tuple #[.int .i64 (ofI gr n).1, .int .i64 (ofI gr n).2]) ∧ Drawn w w' := by
  have hc0 := h.c0
  have hlen := hr.hi
  have hlo := hr.lo
  by_cases hn : 0 ≤ n ∧ n < gr.length
  · obtain ⟨k, rfl⟩ := Int.eq_ofNat_of_zero_le hn.1
    have hk : k < gr.length := by omega
    obtain ⟨hv, hu⟩ := h.row.cell k hk
    have hk0 : (0 : Int) ≤ (k : Int) := by omega
    have hk1 : (k : Int) < (gr.length : Int) := by omega
    have c1 := fun w => within k 0 (gr.length - 1) w
    rw [show withinB (k : Int) 0 ((gr.length : Int) - 1) = true from by simp [withinB]; omega] at c1
    have hq : ofI gr (k : Int) = gr.getD k (0, 0) := by unfold ofI; rw [if_pos hn]; rfl
    generalize gr.getD k (0, 0) = p at hv hu hq
    obtain ⟨a, b⟩ := p
    simp only at hv hu
    have HQ := Lib.hid hq
    clear hq hn
    go_enter Try.func21, Try.ntmps21
    go_wp2_with (go_at_call 30; ((with_reducible refine (c1 _).mono ?_); rintro e w' ⟨rfl, rfl⟩))
    go_quiet (fail)
    go_wp2
    go_ret2
    exact ⟨by rw [HQ.out]; rfl, Drawn.step (Drawn.refl _) _⟩
  · have c1 := fun w => within n 0 (gr.length - 1) w
    rw [show withinB n 0 ((gr.length : Int) - 1) = false from by simp [withinB]; omega] at c1
    have HQ := Lib.hid (show ofI gr n = (0, 0) from by unfold ofI; rw [if_neg hn])
    clear hn
    go_enter Try.func21, Try.ntmps21
    go_wp2_with (go_at_call 30; ((with_reducible refine (c1 _).mono ?_); rintro e w' ⟨rfl, rfl⟩))
    go_ret2
    exact ⟨by rw [HQ.out]; rfl, Drawn.refl _⟩
end Go.Proofs.Ytfadanmfelbfiaa.L
