/- The clocks: how much the greatest one is above the least one. -/
import Derived.Test.YtfadanmfelbfiaaA2
namespace Go.Proofs.Ytfadanmfelbfiaa.L
open Go.RowKit Go.Maps Go.Proofs.YtfadanmfelbfiaaW.PrintWords Go.Proofs.YtfadanmfelbfiaaW.PrintLast Go.Proofs.YtfadanmfelbfiaaW.PrintMore
attribute [local go_sem] max2_int min2_int max_two min_two   -- for this text's walks alone
set_option linter.unusedVariables false
set_option linter.unusedSimpArgs false
theorem IsMax.exists (l : List Int) : ∀ n, 1 ≤ n → ∃ x, IsMax l n x
  | 0, h => by omega
  | 1, _ => ⟨_, IsMax.start l⟩
  | n + 2, _ => by
    obtain ⟨x, hx⟩ := IsMax.exists l (n + 1) (by omega)
    by_cases h : x ≤ l.getD (n + 1) 0
    · exact ⟨_, hx.new rfl h⟩
    · exact ⟨_, hx.old rfl (by omega)⟩
theorem IsMin.exists (l : List Int) : ∀ n, 1 ≤ n → ∃ x, IsMin l n x
  | 0, h => by omega
  | 1, _ => ⟨_, IsMin.start l⟩
  | n + 2, _ => by
    obtain ⟨x, hx⟩ := IsMin.exists l (n + 1) (by omega)
    by_cases h : l.getD (n + 1) 0 ≤ x
    · exact ⟨_, hx.new rfl h⟩
    · exact ⟨_, hx.old rfl (by omega)⟩
theorem IsMax.unique {l : List Int} {n : Nat} {x y : Int} (h : IsMax l n x) (k : IsMax l n y) : x = y := by
  obtain ⟨⟨i, hi, rfl⟩, h2⟩ := h
  obtain ⟨⟨j, hj, rfl⟩, k2⟩ := k
  have := h2 j hj
  have := k2 i hi
  omega
theorem IsMin.unique {l : List Int} {n : Nat} {x y : Int} (h : IsMin l n x) (k : IsMin l n y) : x = y := by
  obtain ⟨⟨i, hi, rfl⟩, h2⟩ := h
  obtain ⟨⟨j, hj, rfl⟩, k2⟩ := k
  have := h2 j hj
  have := k2 i hi
  omega
/-- Rows of clocks that are in reach. -/
structure CB (l : List Int) : Prop where
  lo : 1 ≤ l.length
  hi : l.length ≤ 5
  val : ∀ i, 0 ≤ l.getD i 0 ∧ l.getD i 0 ≤ 1099511627776
def IsSpread (l : List Int) (x : Int) : Prop := (∃ i k, i < l.length ∧ k < l.length ∧ x = l.getD i 0 - l.getD k 0) ∧ ∀ i k, i < l.length → k < l.length → l.getD i 0 - l.getD k 0 ≤ x
theorem IsSpread.unique {l : List Int} {x y : Int} (h : IsSpread l x) (k : IsSpread l y) : x = y := by
  obtain ⟨⟨i, i', hi, hi', rfl⟩, h2⟩ := h
  obtain ⟨⟨j, j', hj, hj', rfl⟩, k2⟩ := k
  have := h2 j j' hj hj'
  have := k2 i i' hi hi'
  omega
def SpreadPost (l : List Int) (w : World) (e : Ending) (w' : World) : Prop := ∃ x, e = .returned (.int .i64 x) ∧ IsSpread l x ∧ Drawn w w'
theorem spread (w : World) (B g : Nat) (l : List Int) (s : Int) (h : Clk 57 w B g l s) (hb : CB l) :
    Calls Try.prog 15 #[.pointer (some ⟨B, 0, none⟩)] w (SpreadPost l w) := by
  have hc0 := h.c0
  obtain ⟨x, hx⟩ := IsMax.exists l l.length hb.lo
  obtain ⟨y, hy⟩ := IsMin.exists l l.length hb.lo
  have hbx : 0 ≤ x ∧ x ≤ 1099511627776 := by obtain ⟨⟨i, _, e⟩, _⟩ := hx; have := hb.val i; omega
  have hby : 0 ≤ y ∧ y ≤ 1099511627776 := by obtain ⟨⟨i, _, e⟩, _⟩ := hy; have := hb.val i; omega
  have hs : IsSpread l (x - y) := by
    obtain ⟨⟨i, hi, e⟩, h2⟩ := hx
    obtain ⟨⟨j, hj, e'⟩, k2⟩ := hy
    refine ⟨⟨i, j, hi, hj, by omega⟩, fun a b ha hb => ?_⟩
    have := h2 a ha
    have := k2 b hb
    omega
  have hlen := hb.hi
  have hlo := hb.lo
  have cmax : ∀ w', w'.heap = w.heap → Calls Try.prog 34 #[.slice (some ⟨g, 0, none⟩) l.length l.length] w' fun e w'' => e = .returned (.int .i64 x) ∧ ∃ m, w'' = w'.drewN m := fun w' hw =>
    (slMax w' g l.length l hlo (by omega) (HasInts.cell (h.row.of_eq (by rw [hw])))).mono fun e w'' ⟨z, he, hz, hd⟩ => ⟨by rw [he, hz.unique hx], hd.out⟩
  have cmin : ∀ w', w'.heap = w.heap → Calls Try.prog 35 #[.slice (some ⟨g, 0, none⟩) l.length l.length] w' fun e w'' => e = .returned (.int .i64 y) ∧ ∃ m, w'' = w'.drewN m := fun w' hw =>
    (slMin w' g l.length l hlo (by omega) (HasInts.cell (h.row.of_eq (by rw [hw])))).mono fun e w'' ⟨z, he, hz, hd⟩ => ⟨by rw [he, hz.unique hy], hd.out⟩
  have hwr : IntKind.i64.wrap (x - y) = x - y := IntWalk.i64_in _ (by omega)
  have HS := Lib.hid hs
  have CX := Lib.hid cmax
  have CN := Lib.hid cmin
  clear hx hy hs cmax cmin
  go_enter Try.func15, Try.ntmps15
  go_wp2_with fail
  go_quiet (first | (go_at_call 34; exact Calls.quiet_of (CX.out _ rfl)) | (go_at_call 35; exact Calls.quiet_of (CN.out _ rfl)))
  go_wp2
  go_ret
  exact ⟨_, rfl, HS.out, Drawn.step (Drawn.refl _) _⟩
/-- What the two loops have seen: rows up to i, and of row i up to k. -/
def Seen (l : List Int) (i k : Nat) (x : Int) : Prop := 0 ≤ x ∧ (∃ a b, a < l.length ∧ b < l.length ∧ x = l.getD a 0 - l.getD b 0) ∧ (∀ a b, a < i → b < l.length → l.getD a 0 - l.getD b 0 ≤ x) ∧ ∀ b, b < k → l.getD i 0 - l.getD b 0 ≤ x
theorem Seen.start (l : List Int) (h : 1 ≤ l.length) : Seen l 0 0 0 := ⟨by omega, ⟨0, 0, by omega, by omega, by omega⟩, fun a b ha => by omega, fun b hb => by omega⟩
theorem Seen.new {l : List Int} {i k : Nat} {x y z : Int} (h : Seen l i k x) (hi : i < l.length) (hk : k < l.length) (ey : l.getD i 0 = y) (ez : l.getD k 0 = z) (hx : x ≤ y - z) : Seen l i (k + 1) (y - z) := by
  obtain ⟨h0, ⟨a, b, ha, hb, e⟩, h1, h2⟩ := h
  refine ⟨by omega, ⟨i, k, hi, hk, by omega⟩, fun a b ha hb => by have := h1 a b ha hb; omega, fun b hb => ?_⟩
  rcases Nat.lt_or_ge b k with h' | h'
  · have := h2 b h'; omega
  · obtain rfl : b = k := by omega
    omega
theorem Seen.old {l : List Int} {i k : Nat} {x y z : Int} (h : Seen l i k x) (ey : l.getD i 0 = y) (ez : l.getD k 0 = z) (hx : y - z ≤ x) : Seen l i (k + 1) x := by
  obtain ⟨h0, h3, h1, h2⟩ := h
  refine ⟨h0, h3, h1, fun b hb => ?_⟩
  rcases Nat.lt_or_ge b k with h' | h'
  · exact h2 b h'
  · obtain rfl : b = k := by omega
    omega
theorem Seen.next {l : List Int} {i : Nat} {x : Int} (h : Seen l i l.length x) : Seen l (i + 1) 0 x := by
  obtain ⟨h0, h3, h1, h2⟩ := h
  refine ⟨h0, h3, fun a b ha hb => ?_, fun b hb => by omega⟩
  rcases Nat.lt_or_ge a i with h' | h'
  · exact h1 a b h' hb
  · obtain rfl : a = i := by omega
    exact h2 b hb
theorem Seen.done {l : List Int} {x : Int} (h : Seen l l.length 0 x) : IsSpread l x := ⟨h.2.1, fun i k hi hk => h.2.2.1 i k hi hk⟩
theorem Seen.le {l : List Int} {i k : Nat} {x : Int} (hb : CB l) (h : Seen l i k x) : 0 ≤ x ∧ x ≤ 1099511627776 := by
  obtain ⟨h0, ⟨a, b, ha, hb', e⟩, h1, h2⟩ := h
  have := hb.val a
  have := hb.val b
  omega
theorem rSpread (w : World) (B g : Nat) (l : List Int) (s : Int) (h : Clk 59 w B g l s) (hb : CB l) :
    Calls Try.prog 16 #[.pointer (some ⟨B, 0, none⟩)] w (SpreadPost l w) := by
  have hc0 := h.c0
  have hlen := hb.hi
  have hlo := hb.lo
  have HB := Lib.hid hb
  have HC := Lib.hid (fun k hk => h.row.cell k hk)
  have H0 := Lib.hid (Seen.start l hlo)
  clear hb h
  go_enter Try.func16, Try.ntmps16
  go_wp2
  go_loopg [3, 4, 5] l.length (fun gg v3 v4 _ wr => ∃ (i : Nat) (x : Int), i ≤ l.length ∧ l.length - i ≤ gg ∧ v4 = .int .i64 i ∧ v3 = .int .i64 x ∧ Hid (Seen l i 0 x) ∧ Drawn w wr)
  case atStart => exact ⟨0, 0, by omega, by omega, rfl, rfl, H0, Drawn.refl _⟩
  case round =>
    clear H0
    obtain ⟨i, x, hi, hg, rfl, rfl, HX, ⟨q, rfl⟩⟩ := hrel
    by_cases hlt : i < l.length
    · have hv := HC.out i hlt
      obtain ⟨y, hy⟩ : ∃ y, l.getD i 0 = y := ⟨_, rfl⟩
      rw [hy] at hv
      have hby : 0 ≤ y ∧ y ≤ 1099511627776 := by have := HB.out.val i; omega
      have HY := Lib.hid hy
      clear hy
      obtain ⟨wo, hwo⟩ : ∃ wo : World, wo = w.drewN q := ⟨_, rfl⟩
      go_wp2
      go_loopg [3, 5] l.length (fun gg v3 v5 wr => ∃ (k : Nat) (x : Int), k ≤ l.length ∧ l.length - k ≤ gg ∧ v5 = .int .i64 k ∧ v3 = .int .i64 x ∧ Hid (Seen l i k x) ∧ Drawn w wr)
      case atStart => exact ⟨0, x, by omega, by omega, rfl, rfl, HX, Drawn.step (Drawn.refl _) _⟩
      case round =>
        clear HX
        obtain ⟨k, x, hk, hg2, rfl, rfl, HX, ⟨q2, rfl⟩⟩ := hrel
        by_cases hlt2 : k < l.length
        · have hv2 := HC.out k hlt2
          obtain ⟨z, hz⟩ : ∃ z, l.getD k 0 = z := ⟨_, rfl⟩
          rw [hz] at hv2
          have hbz : 0 ≤ z ∧ z ≤ 1099511627776 := by have := HB.out.val k; omega
          have hbx := HX.out.le HB.out
          have HZ := Lib.hid hz
          clear hz
          have hwr : IntKind.i64.wrap (y - z) = y - z := IntWalk.i64_in _ (by omega)
          go_wp2
          go_quiet (fail)
          clear hwr
          go_wp2
          all_goals
            go_roundg (l.length - (k + 1))
            case measure => omega
            case rel => first
              | exact ⟨k + 1, _, by omega, by omega, by go_num, rfl, HX.out.new hlt hlt2 HY.out HZ.out (by omega), Drawn.step (Drawn.refl _) _⟩
              | exact ⟨k + 1, _, by omega, by omega, by go_num, rfl, HX.out.old HY.out HZ.out (by omega), Drawn.step (Drawn.refl _) _⟩
        · have hk' : k = l.length := by omega
          subst hk'
          go_wp2
          go_roundg (l.length - (i + 1))
          case measure => omega
          case rel => exact ⟨i + 1, x, by omega, by omega, by go_num, rfl, HX.out.next, Drawn.step (Drawn.refl _) _⟩
    · have hi' : i = l.length := by omega
      subst hi'
      go_wp2
      go_ret
      exact ⟨x, rfl, HX.out.done, Drawn.step (Drawn.refl _) _⟩
end Go.Proofs.Ytfadanmfelbfiaa.L
