/- The clocks: a clock goes on (the document's). -/
import Derived.Test.YtfadanmfelbfiaaA3
namespace Go.Proofs.Ytfadanmfelbfiaa.L
open Go.RowKit Go.Maps Go.Proofs.YtfadanmfelbfiaaW.PrintWords Go.Proofs.YtfadanmfelbfiaaW.PrintLast Go.Proofs.YtfadanmfelbfiaaW.PrintMore
set_option linter.unusedVariables false
set_option linter.unusedSimpArgs false
/-- No other clock would be left too far behind. -/
def Near (l : List Int) (s : Int) (k : Nat) (t : Int) (m : Nat) : Prop := ∀ i, i < m → i ≠ k → t ≤ l.getD i 0 + s
/-- May the clock go on so? -/
def TickOk (l : List Int) (s n b : Int) : Prop := 0 ≤ n ∧ n < l.length ∧ 1 ≤ b ∧ b ≤ 1000 ∧ l.getD n.toNat 0 + b ≤ 1099511627776 ∧ Near l s n.toNat (l.getD n.toNat 0 + b) l.length
/-- What is answered, and the clocks behind it. -/
def Tk (l : List Int) (s n b : Int) (r : Bool) (l' : List Int) : Prop := (TickOk l s n b ∧ r = true ∧ l' = l.set n.toNat (l.getD n.toNat 0 + b)) ∨ (¬ TickOk l s n b ∧ r = false ∧ l' = l)
theorem Tk.unique {l : List Int} {s n b : Int} {r r' : Bool} {m m' : List Int} (h : Tk l s n b r m) (k : Tk l s n b r' m') : r = r' ∧ m = m' := by
  rcases h with ⟨h, rfl, rfl⟩ | ⟨h, rfl, rfl⟩ <;> rcases k with ⟨k, rfl, rfl⟩ | ⟨k, rfl, rfl⟩
  · exact ⟨rfl, rfl⟩
  · exact absurd h k
  · exact absurd k h
  · exact ⟨rfl, rfl⟩
theorem getD_set (l : List Int) (k i : Nat) (v : Int) (hk : k < l.length) : (l.set k v).getD i 0 = if i = k then v else l.getD i 0 := by
  by_cases h : i = k
  · subst h; simp [List.getD_eq_getElem?_getD, hk]
  · rw [if_neg h]; simp [List.getD_eq_getElem?_getD, List.getElem?_set_ne (Ne.symm h)]
theorem Tk.cb {l : List Int} {s n b : Int} {r : Bool} {m : List Int} (h : Tk l s n b r m) (hb : CB l) : CB m ∧ m.length = l.length := by
  rcases h with ⟨⟨h0, h1, h2, h3, h4, h5⟩, rfl, rfl⟩ | ⟨h, rfl, rfl⟩
  · refine ⟨⟨by simpa using hb.lo, by simpa using hb.hi, fun i => ?_⟩, by simp⟩
    rw [getD_set _ _ _ _ (by omega)]
    have := hb.val n.toNat
    have := hb.val i
    split <;> omega
  · exact ⟨hb, rfl⟩
/-- No two clocks are further apart than that. -/
def Tight (l : List Int) (s : Int) : Prop := ∀ i k, i < l.length → k < l.length → l.getD i 0 - l.getD k 0 ≤ s
theorem Tk.tight {l : List Int} {s n b : Int} {r : Bool} {m : List Int} (h : Tk l s n b r m) (ht : Tight l s) (hs : 0 ≤ s) : Tight m s := by
  rcases h with ⟨⟨h0, h1, h2, h3, h4, h5⟩, rfl, rfl⟩ | ⟨h, rfl, rfl⟩
  · intro i k hi hk
    simp only [List.length_set] at hi hk
    rw [getD_set _ _ _ _ (by omega), getD_set _ _ _ _ (by omega)]
    have t1 := ht i k hi hk
    have t2 := ht i n.toNat hi (by omega)
    by_cases e1 : i = n.toNat <;> by_cases e2 : k = n.toNat
    · rw [if_pos e1, if_pos e2]; omega
    · rw [if_pos e1, if_neg e2]; have := h5 k hk e2; omega
    · rw [if_neg e1, if_pos e2]; omega
    · rw [if_neg e1, if_neg e2]; omega
  · exact ht
def TickPost (T B g : Nat) (l : List Int) (s n b : Int) (w : World) (e : Ending) (w' : World) : Prop := ∃ r l', e = .returned (.bool r) ∧ Tk l s n b r l' ∧ Clk T w' B g l' s ∧ But (fun k => k = g) w w'
theorem tickPost_no {T B g : Nat} {l : List Int} {s n b : Int} {w w' : World} (h : Clk T w B g l s) (hn : ¬ TickOk l s n b) (hd : Below w.heap.size w w') : TickPost T B g l s n b w (.returned (.bool false)) w' :=
  ⟨false, l, rfl, Or.inr ⟨hn, rfl, rfl⟩, h.of_eq (hd.block _ (lt_of_block h.box)) (hd.block _ h.row.lt), But.below hd⟩
theorem Near.step {l : List Int} {s t y : Int} {k m : Nat} (h : Near l s k t m) (e : l.getD m 0 = y) (hy : m ≠ k → t ≤ y + s) : Near l s k t (m + 1) := fun i hi hne => by
  rcases Nat.lt_or_ge i m with h' | h'
  · exact h i h' hne
  · obtain rfl : i = m := by omega
    have := hy hne
    omega
theorem below_drewN {B : Nat} {a b : World} (h : Below B a b) (n : Nat) : Below B a (b.drewN n) := ⟨h.os, h.tape, h.output, h.size, h.block⟩
set_option maxHeartbeats 2000000 in
theorem rTick (w : World) (B g : Nat) (l : List Int) (s n b : Int) (h : Clk 59 w B g l s) (hb : CB l) (h0 : 0 ≤ s) (h1 : s ≤ 1000) :
    Calls Try.prog 12 #[.pointer (some ⟨B, 0, none⟩), .int .i64 n, .int .i64 b] w (TickPost 59 B g l s n b w) := by
  have hc0 := h.c0
  have hc1 := h.c1
  have hlen := hb.hi
  have hlo := hb.lo
  have HCLK := Lib.hid h
  have HB := Lib.hid hb
  by_cases hn : 0 ≤ n ∧ n < l.length
  · obtain ⟨hn0, hn1⟩ := hn
    obtain ⟨k, rfl⟩ := Int.eq_ofNat_of_zero_le hn0
    have hk : k < l.length := by omega
    by_cases hbb : 1 ≤ b ∧ b ≤ 1000
    · obtain ⟨hb0, hb1⟩ := hbb
      have hv := h.row.cell k hk
      have hf := h.row.free k
      obtain ⟨y, hy⟩ : ∃ y, l.getD k 0 = y := ⟨_, rfl⟩
      rw [hy] at hv
      have hby : 0 ≤ y ∧ y ≤ 1099511627776 := by have := hb.val k; omega
      have HY := Lib.hid hy
      clear hy
      by_cases ht : y + b ≤ 1099511627776
      · have HC := Lib.hid (fun k hk => h.row.cell k hk)
        clear hb h
        have d1 : decide ((k : Int) < 0) = false := decide_eq_false (by omega)
        have d2 : decide (l.length ≤ k) = false := decide_eq_false (by omega)
        have d3 : decide (b < 1) = false := decide_eq_false (by omega)
        have d4 : decide (1000 < b) = false := decide_eq_false (by omega)
        have d5 : decide (1099511627776 < y + b) = false := decide_eq_false (by omega)
        go_enter Try.func12, Try.ntmps12
        go_wp2
        go_loopg [7] l.length (fun gg v7 wr => ∃ i : Nat, i ≤ l.length ∧ l.length - i ≤ gg ∧ v7 = .int .i64 i ∧ Hid (Near l s k (y + b) i) ∧ Drawn w wr)
        case atStart => exact ⟨0, by omega, by omega, rfl, fun i hi => by omega, Drawn.refl _⟩
        case round =>
          obtain ⟨i, hi, hg, rfl, HN, ⟨q, rfl⟩⟩ := hrel
          by_cases hlt : i < l.length
          · by_cases hik : i = k
            · subst hik
              have hne : ((i : Int) != (i : Int)) = false := by simp
              go_wp2
              go_quiet (fail)
              go_wp2
              go_roundg (l.length - (i + 1))
              case measure => omega
              case rel => exact ⟨i + 1, by omega, by omega, by go_num, HN.out.step HY.out (fun e => absurd rfl e), Drawn.step (Drawn.refl _) _⟩
            · have hv2 := HC.out i hlt
              obtain ⟨z, hz⟩ : ∃ z, l.getD i 0 = z := ⟨_, rfl⟩
              rw [hz] at hv2
              have hbz : 0 ≤ z ∧ z ≤ 1099511627776 := by have := HB.out.val i; omega
              have HZ := Lib.hid hz
              clear hz
              have hne : ((i : Int) != (k : Int)) = true := by rw [bne_iff_ne]; omega
              have hne2 : ((i : Int) == (k : Int)) = false := by rw [beq_eq_false_iff_ne]; omega
              have hw1 : IntKind.i64.wrap (y + b) = y + b := IntWalk.i64_in _ (by omega)
              have hw2 : IntKind.i64.wrap (z + s) = z + s := IntWalk.i64_in _ (by omega)
              have HIK := Lib.hid hik
              clear hik
              by_cases hfar : z + s < y + b
              · have hd : decide (y + b > z + s) = true := decide_eq_true hfar
                go_wp2
                go_quiet (fail)
                clear hw1 hw2
                go_wp2
                go_ret
                exact tickPost_no HCLK.out (fun hok => by
                  have := hok.2.2.2.2.2 i hlt (by rw [Int.toNat_natCast]; exact HIK.out)
                  rw [Int.toNat_natCast, HY.out, HZ.out] at this
                  omega) (below_drewN (below_drewN (Below.refl _ _) _) _)
              · have hd : decide (y + b > z + s) = false := decide_eq_false hfar
                go_wp2
                go_quiet (fail)
                clear hw1 hw2
                go_wp2
                go_roundg (l.length - (i + 1))
                case measure => omega
                case rel => exact ⟨i + 1, by omega, by omega, by go_num, HN.out.step HZ.out (fun _ => by omega), Drawn.step (Drawn.refl _) _⟩
          · have hi' : i = l.length := by omega
            subst hi'
            go_wp2
            go_ret
            refine ⟨true, _, rfl, Or.inl ⟨⟨by omega, hn1, hb0, hb1, by rw [Int.toNat_natCast, HY.out]; exact ht, by rw [Int.toNat_natCast, HY.out]; exact HN.out⟩, rfl, rfl⟩, ?_, ?_⟩
            · rw [Int.toNat_natCast, HY.out]
              have hq : Clk 59 (w.drewN q) B g l s := HCLK.out.of_eq rfl rfl
              exact ⟨by simpa using (Below.heap_setCell _ _ _ _ (Ne.symm hq.ne)).trans hq.box, hq.row.set k (y + b), hq.ne⟩
            · exact But.setCell (S := fun k => k = g) (But.drewN (But.refl _ _) _) (fun _ => rfl) _
      · go_enter Try.func12, Try.ntmps12
        go_wp2
        go_ret
        exact tickPost_no HCLK.out (fun hok => by have := hok.2.2.2.2.1; rw [Int.toNat_natCast, HY.out] at this; omega) (Below.refl _ _)
    · have HN := Lib.hid hbb
      rcases (by omega : b < 1 ∨ 1000 < b) with hx | hx
      · clear hbb
        go_enter Try.func12, Try.ntmps12
        go_wp2
        go_ret
        exact tickPost_no HCLK.out (fun hok => HN.out ⟨hok.2.2.1, hok.2.2.2.1⟩) (Below.refl _ _)
      · clear hbb
        have hx1 : 1 ≤ b := by omega
        go_enter Try.func12, Try.ntmps12
        go_wp2
        go_ret
        exact tickPost_no HCLK.out (fun hok => HN.out ⟨hok.2.2.1, hok.2.2.2.1⟩) (Below.refl _ _)
  · have HN := Lib.hid hn
    rcases (by omega : n < 0 ∨ (l.length : Int) ≤ n) with hx | hx
    · clear hn
      go_enter Try.func12, Try.ntmps12
      go_wp2
      go_ret
      exact tickPost_no HCLK.out (fun hok => HN.out ⟨hok.1, hok.2.1⟩) (Below.refl _ _)
    · clear hn
      have hx0 : 0 ≤ n := by omega
      go_enter Try.func12, Try.ntmps12
      go_wp2
      go_ret
      exact tickPost_no HCLK.out (fun hok => HN.out ⟨hok.1, hok.2.1⟩) (Below.refl _ _)
end Go.Proofs.Ytfadanmfelbfiaa.L
