/- The clocks: what the functions answer that only read. -/
import Derived.Test.YtfadanmfelbfiaaA1
import Derived.Test.YtfadanmfelbfiaaWWords
import Derived.Test.YtfadanmfelbfiaaWLast
import Derived.Test.YtfadanmfelbfiaaWMore
namespace Go.Proofs.Ytfadanmfelbfiaa.L
open Go.RowKit Go.Maps Go.Proofs.YtfadanmfelbfiaaW.PrintWords Go.Proofs.YtfadanmfelbfiaaW.PrintLast Go.Proofs.YtfadanmfelbfiaaW.PrintMore
attribute [local go_sem] max2_int min2_int max_two min_two   -- for this text's walks alone
set_option linter.unusedVariables false
set_option linter.unusedSimpArgs false

theorem info3 : (Try.prog.info? 3).map (fun i => (i.zero, i.size, i.bytes)) = some (some (.int .i64 0), 1, 8) := by kernel_rfl
theorem make3 (n : Nat) (h : n ≤ 5) (w : World) : (Instr.makeSlice 55 (.int .i64 n) (.int .i64 n)).run Try.prog w = .ok (.slice (some ⟨w.heap.size, 0, none⟩) n n) (w.alloc (.cells (intsA (List.replicate n 0)) 3)) := by
  obtain ⟨i0, hi, hz0, hz1, hz2⟩ := info_parts info3
  have h1 := run_make (P := Try.prog) w 55 3 i0 (.int .i64 0) Try.underlying55 hi hz0 .i64 .i64 n n (by omega) (by omega) (by rw [hz2]; omega) (by omega)
  rw [hz1, Int.toNat_natCast, madeInts] at h1
  exact h1

def nonneg5 (n s : Int) : Bool := decide (1 ≤ n) && decide (n ≤ 5) && decide (0 ≤ s) && decide (s ≤ 1000)
theorem newClocks_yes (n : Nat) (s : Int) (w : World) (h1 : 1 ≤ n) (h2 : n ≤ 5) (h3 : 0 ≤ s) (h4 : s ≤ 1000) :
    Calls Try.prog 9 #[.int .i64 n, .int .i64 s] w fun e w' => ∃ B g, w.heap.size ≤ B ∧ w.heap.size ≤ g ∧ e = .returned (.tuple #[.pointer (some ⟨B, 0, none⟩), .int .i64 0]) ∧ Clk 57 w' B g (List.replicate n 0) s ∧ Below w.heap.size w w' := by
  have c1 := fun w => within n 1 5 w
  have c2 := fun w => within s 0 1000 w
  rw [show withinB n 1 5 = true from by simp [withinB]; omega] at c1
  rw [show withinB s 0 1000 = true from by simp [withinB]; omega] at c2
  have hm := make3 n h2
  go_enter Try.func9, Try.ntmps9
  go_wp2_with (first | (go_at_call 30; ((with_reducible refine (c1 _).mono ?_); rintro e w' ⟨rfl, rfl⟩)) | (go_at_call 30; ((with_reducible refine (c2 _).mono ?_); rintro e w' ⟨rfl, rfl⟩)))
  go_ret2
  refine ⟨w.heap.size + 1, w.heap.size, by omega, by omega, by simp, ⟨?_, ?_, by omega⟩, ((Below.refl _ _).alloc (Nat.le_refl _) _).alloc (by simp) _⟩
  · have := heap_alloc_new (w.alloc (.cells (intsA (List.replicate n 0)) 3)) (.cells #[.slice (some ⟨w.heap.size, 0, none⟩) n n, .int .i64 s] 57)
    simpa using this
  · exact (HasInts.new w _).of_eq (heap_alloc_old _ _ (by simp))
theorem newClocks_no (n s : Int) (w : World) (h : ¬ (1 ≤ n ∧ n ≤ 5 ∧ 0 ≤ s ∧ s ≤ 1000)) :
    Calls Try.prog 9 #[.int .i64 n, .int .i64 s] w fun e w' => e = .returned (.tuple #[.pointer none, .int .i64 11]) ∧ w = w' := by
  have c1 := fun w => within n 1 5 w
  have c2 := fun w => within s 0 1000 w
  by_cases hn : 1 ≤ n ∧ n ≤ 5
  · rw [show withinB n 1 5 = true from by simp [withinB]; omega] at c1
    rw [show withinB s 0 1000 = false from by simp [withinB]; omega] at c2
    clear h hn
    go_enter Try.func9, Try.ntmps9
    go_wp2_with (first | (go_at_call 30; ((with_reducible refine (c1 _).mono ?_); rintro e w' ⟨rfl, rfl⟩)) | (go_at_call 30; ((with_reducible refine (c2 _).mono ?_); rintro e w' ⟨rfl, rfl⟩)))
    go_ret2
    exact ⟨rfl, rfl⟩
  · rw [show withinB n 1 5 = false from by simp [withinB]; omega] at c1
    clear h hn
    go_enter Try.func9, Try.ntmps9
    go_wp2_with (first | (go_at_call 30; ((with_reducible refine (c1 _).mono ?_); rintro e w' ⟨rfl, rfl⟩)))
    go_ret2
    exact ⟨rfl, rfl⟩
theorem rNewClocks_yes (n : Nat) (s : Int) (w : World) (h1 : 1 ≤ n) (h2 : n ≤ 5) (h3 : 0 ≤ s) (h4 : s ≤ 1000) :
    Calls Try.prog 10 #[.int .i64 n, .int .i64 s] w fun e w' => ∃ B g, w.heap.size ≤ B ∧ w.heap.size ≤ g ∧ e = .returned (.tuple #[.pointer (some ⟨B, 0, none⟩), .int .i64 0]) ∧ Clk 59 w' B g (List.replicate n 0) s ∧ Below w.heap.size w w' := by
  have hm := make3 n h2
  go_enter Try.func10, Try.ntmps10
  go_wp2
  go_ret2
  refine ⟨w.heap.size + 1, w.heap.size, by omega, by omega, by simp, ⟨?_, ?_, by omega⟩, ((Below.refl _ _).alloc (Nat.le_refl _) _).alloc (by simp) _⟩
  · have := heap_alloc_new (w.alloc (.cells (intsA (List.replicate n 0)) 3)) (.cells #[.slice (some ⟨w.heap.size, 0, none⟩) n n, .int .i64 s] 59)
    simpa using this
  · exact (HasInts.new w _).of_eq (heap_alloc_old _ _ (by simp))
theorem rNewClocks_no (n s : Int) (w : World) (h : ¬ (1 ≤ n ∧ n ≤ 5 ∧ 0 ≤ s ∧ s ≤ 1000)) :
    Calls Try.prog 10 #[.int .i64 n, .int .i64 s] w fun e w' => e = .returned (.tuple #[.pointer none, .int .i64 11]) ∧ w = w' := by
  have H := Lib.hid h
  clear h
  go_enter Try.func10, Try.ntmps10
  go_wp2
  all_goals first
    | (go_ret2; exact ⟨rfl, rfl⟩)
    | (exfalso; have := H.out; omega)
theorem rNow (w : World) (B g : Nat) (l : List Int) (s n : Int) (h : Clk 59 w B g l s) (h1 : 1 ≤ l.length) (h5 : l.length ≤ 5) :
    Calls Try.prog 14 #[.pointer (some ⟨B, 0, none⟩), .int .i64 n] w fun e w' => e = .returned (.int .i64 (nowI l n)) ∧ Drawn w w' := by
  have hc0 := h.c0
  by_cases hn : 0 ≤ n ∧ n < l.length
  · obtain ⟨k, rfl⟩ := Int.eq_ofNat_of_zero_le hn.1
    have hk : k < l.length := by omega
    have hv := h.row.cell k hk
    have hr : nowI l (k : Int) = l.getD k 0 := by unfold nowI; rw [if_pos hn]; rfl
    generalize l.getD k 0 = v at hv hr
    have HR := Lib.hid hr
    clear hr hn
    go_enter Try.func14, Try.ntmps14
    go_wp2
    go_ret
    exact ⟨by rw [HR.out]; rfl, Drawn.refl _⟩
  · have HR := Lib.hid (show nowI l n = 0 from by unfold nowI; rw [if_neg hn])
    have hn' : n < 0 ∨ (l.length : Int) ≤ n := by omega
    clear hn
    rcases hn' with hn' | hn'
    · go_enter Try.func14, Try.ntmps14
      go_wp2
      go_ret
      exact ⟨by rw [HR.out]; rfl, Drawn.refl _⟩
    · have hn0 : 0 ≤ n := by omega
      go_enter Try.func14, Try.ntmps14
      go_wp2
      go_ret
      exact ⟨by rw [HR.out]; rfl, Drawn.refl _⟩

def IsMax (l : List Int) (n : Nat) (x : Int) : Prop := (∃ i, i < n ∧ x = l.getD i 0) ∧ ∀ i, i < n → l.getD i 0 ≤ x
def IsMin (l : List Int) (n : Nat) (x : Int) : Prop := (∃ i, i < n ∧ x = l.getD i 0) ∧ ∀ i, i < n → x ≤ l.getD i 0
theorem IsMax.start (l : List Int) : IsMax l 1 (l.getD 0 0) := ⟨⟨0, by omega, rfl⟩, fun i hi => by
  have : i = 0 := by omega
  subst this
  exact Int.le_refl _⟩
theorem IsMax.new {l : List Int} {n : Nat} {x y : Int} (h : IsMax l n x) (e : l.getD n 0 = y) (hx : x ≤ y) : IsMax l (n + 1) y := by
  obtain ⟨⟨i, hi, e'⟩, h2⟩ := h
  refine ⟨⟨n, by omega, e.symm⟩, fun j hj => ?_⟩
  rcases Nat.lt_or_ge j n with h' | h'
  · have := h2 j h'; omega
  · obtain rfl : j = n := by omega
    omega
theorem IsMax.old {l : List Int} {n : Nat} {x y : Int} (h : IsMax l n x) (e : l.getD n 0 = y) (hx : y ≤ x) : IsMax l (n + 1) x := by
  obtain ⟨⟨i, hi, e'⟩, h2⟩ := h
  refine ⟨⟨i, by omega, e'⟩, fun j hj => ?_⟩
  rcases Nat.lt_or_ge j n with h' | h'
  · have := h2 j h'; omega
  · obtain rfl : j = n := by omega
    omega
theorem IsMin.start (l : List Int) : IsMin l 1 (l.getD 0 0) := ⟨⟨0, by omega, rfl⟩, fun i hi => by
  have : i = 0 := by omega
  subst this
  exact Int.le_refl _⟩
theorem IsMin.new {l : List Int} {n : Nat} {x y : Int} (h : IsMin l n x) (e : l.getD n 0 = y) (hx : y ≤ x) : IsMin l (n + 1) y := by
  obtain ⟨⟨i, hi, e'⟩, h2⟩ := h
  refine ⟨⟨n, by omega, e.symm⟩, fun j hj => ?_⟩
  rcases Nat.lt_or_ge j n with h' | h'
  · have := h2 j h'; omega
  · obtain rfl : j = n := by omega
    omega
theorem IsMin.old {l : List Int} {n : Nat} {x y : Int} (h : IsMin l n x) (e : l.getD n 0 = y) (hx : x ≤ y) : IsMin l (n + 1) x := by
  obtain ⟨⟨i, hi, e'⟩, h2⟩ := h
  refine ⟨⟨i, by omega, e'⟩, fun j hj => ?_⟩
  rcases Nat.lt_or_ge j n with h' | h'
  · have := h2 j h'; omega
  · obtain rfl : j = n := by omega
    omega
def IsMaxPost (l : List Int) (w : World) (e : Ending) (w' : World) : Prop := ∃ x, e = .returned (.int .i64 x) ∧ IsMax l l.length x ∧ Drawn w w'
theorem slMax (w : World) (g c : Nat) (l : List Int) (h0 : 1 ≤ l.length) (hb : l.length ≤ 9223372036854775807) (hc : ∀ k, k < l.length → w.cell? ⟨g, k, none⟩ = some (.int .i64 (l.getD k 0))) :
    Calls Try.prog 34 #[.slice (some ⟨g, 0, none⟩) l.length c] w (IsMaxPost l w) := by
  have hc0 := hc 0 (by omega)
  have h1 := IsMax.start l
  generalize l.getD 0 0 = v at hc0 h1
  have H1 := Lib.hid h1
  have HC := Lib.hid hc
  clear hc h1
  go_enter Try.func34, Try.ntmps34
  go_wp2
  go_loopg [3, 4] l.length (fun gg v3 v4 wr => ∃ (kk : Nat) (x : Int), 1 ≤ kk ∧ kk ≤ l.length ∧ l.length - kk ≤ gg ∧ v4 = .int .i64 kk ∧ v3 = .int .i64 x ∧ Hid (IsMax l kk x) ∧ Drawn w wr)
  case atStart => exact ⟨1, v, Nat.le_refl _, h0, by omega, rfl, rfl, H1, Drawn.refl _⟩
  case round =>
    obtain ⟨kk, x, hk1, hk2, hg, rfl, rfl, HX, ⟨q, rfl⟩⟩ := hrel
    by_cases hlt : kk < l.length
    · have hv := HC.out kk hlt
      obtain ⟨y, hy⟩ : ∃ y, l.getD kk 0 = y := ⟨_, rfl⟩
      rw [hy] at hv
      have HY := Lib.hid hy
      clear hy
      go_wp2
      all_goals
        go_roundg (l.length - (kk + 1))
        case measure => omega
        case rel => first
          | exact ⟨kk + 1, _, by omega, by omega, by omega, by go_num, rfl, HX.out.new HY.out (by omega), Drawn.step (Drawn.refl _) _⟩
          | exact ⟨kk + 1, _, by omega, by omega, by omega, by go_num, rfl, HX.out.old HY.out (by omega), Drawn.step (Drawn.refl _) _⟩
    · have hk : kk = l.length := by omega
      subst hk
      go_wp2
      go_ret
      exact ⟨x, rfl, HX.out, Drawn.step (Drawn.refl _) _⟩
def IsMinPost (l : List Int) (w : World) (e : Ending) (w' : World) : Prop := ∃ x, e = .returned (.int .i64 x) ∧ IsMin l l.length x ∧ Drawn w w'
theorem slMin (w : World) (g c : Nat) (l : List Int) (h0 : 1 ≤ l.length) (hb : l.length ≤ 9223372036854775807) (hc : ∀ k, k < l.length → w.cell? ⟨g, k, none⟩ = some (.int .i64 (l.getD k 0))) :
    Calls Try.prog 35 #[.slice (some ⟨g, 0, none⟩) l.length c] w (IsMinPost l w) := by
  have hc0 := hc 0 (by omega)
  have h1 := IsMin.start l
  generalize l.getD 0 0 = v at hc0 h1
  have H1 := Lib.hid h1
  have HC := Lib.hid hc
  clear hc h1
  go_enter Try.func35, Try.ntmps35
  go_wp2
  go_loopg [3, 4] l.length (fun gg v3 v4 wr => ∃ (kk : Nat) (x : Int), 1 ≤ kk ∧ kk ≤ l.length ∧ l.length - kk ≤ gg ∧ v4 = .int .i64 kk ∧ v3 = .int .i64 x ∧ Hid (IsMin l kk x) ∧ Drawn w wr)
  case atStart => exact ⟨1, v, Nat.le_refl _, h0, by omega, rfl, rfl, H1, Drawn.refl _⟩
  case round =>
    obtain ⟨kk, x, hk1, hk2, hg, rfl, rfl, HX, ⟨q, rfl⟩⟩ := hrel
    by_cases hlt : kk < l.length
    · have hv := HC.out kk hlt
      obtain ⟨y, hy⟩ : ∃ y, l.getD kk 0 = y := ⟨_, rfl⟩
      rw [hy] at hv
      have HY := Lib.hid hy
      clear hy
      go_wp2
      all_goals
        go_roundg (l.length - (kk + 1))
        case measure => omega
        case rel => first
          | exact ⟨kk + 1, _, by omega, by omega, by omega, by go_num, rfl, HX.out.new HY.out (by omega), Drawn.step (Drawn.refl _) _⟩
          | exact ⟨kk + 1, _, by omega, by omega, by omega, by go_num, rfl, HX.out.old HY.out (by omega), Drawn.step (Drawn.refl _) _⟩
    · have hk : kk = l.length := by omega
      subst hk
      go_wp2
      go_ret
      exact ⟨x, rfl, HX.out, Drawn.step (Drawn.refl _) _⟩
end Go.Proofs.Ytfadanmfelbfiaa.L
