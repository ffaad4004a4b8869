/- Rows of bytes: what reads as a list, and SameBytes. -/
import Derived.Test.YtikpmlginojnhaaGreatDoorF2
import Derived.Deep.LoopGhost
import Derived.OwnWalk
import Derived.Laws.OwnMore
import Derived.Maps.AppendAt
import Derived.Deep.AppendLies
import Derived.OneCell
import Derived.Deep.CutBlock
import Derived.LoopTactic
namespace Go.Proofs.YtikpmlginojnhaaGreatDoor.Fl
open Go.RowKit
set_option linter.unusedVariables false
set_option linter.unusedSimpArgs false
/-- The row reads as the list of bytes. -/
def HasB (w : World) (v : Value) (l : List Int) : Prop := ∃ A c, v = .slice A l.length c ∧ l.length ≤ c ∧ ∀ k, k < l.length → ∃ ad, A = some ad ∧ w.cell? (ad.add k) = some (.int .u8 (l.getD k 0))
theorem HasB.below {w w' : World} {v : Value} {l : List Int} (h : HasB w v l) (hb : Below w.heap.size w w') : HasB w' v l := by
  obtain ⟨A, c, e, hc, hk⟩ := h
  refine ⟨A, c, e, hc, fun k hlt => ?_⟩
  obtain ⟨ad, e, hc⟩ := hk k hlt
  exact ⟨ad, e, (hb.cell (World.block_lt_of_cell? w _ hc)).trans hc⟩
theorem HasB.nil (w : World) : HasB w (.slice none 0 0) [] := ⟨none, 0, rfl, Nat.le_refl _, fun k h => by simp at h⟩
theorem add_plain (g k : Nat) : (⟨g, 0, none⟩ : Addr).add k = ⟨g, k, none⟩ := by
  unfold Addr.add
  by_cases h : k = 0
  · subst h; simp
  · simp [h]
theorem HasB.own {w : World} {base e : Nat} {v : Value} {l : List Int} (h : w.ownsRow base e 1 v l.length (l.map (.int .u8))) : HasB w v l := by
  rcases h.2 with ⟨rfl, h2⟩ | ⟨g, cap, cur, rfl, hb, hh, hc, _⟩
  · have : l = [] := List.length_eq_zero_iff.1 h2
    subst this
    exact HasB.nil w
  · refine ⟨_, cap, rfl, hc, fun k hk => ⟨_, rfl, h.cells rfl k _ ?_⟩⟩
    rw [List.getElem?_map, List.getElem?_eq_getElem hk, List.getD_eq_getElem?_getD, List.getElem?_eq_getElem hk]
    rfl
theorem below_drewN (w : World) (n : Nat) : Below w.heap.size w (w.drewN n) := by
  induction n with
  | zero => exact Below.refl _ _
  | succ n ih => exact ih.drew
theorem below_dr {B : Nat} {a w : World} (h : Below B a w) (n : Nat) : Below B a (w.drewN n) := by
  induction n with
  | zero => exact h
  | succ n ih => exact ih.drew
theorem own_below {w W W' : World} {e size n : Nat} {v : Value} {xs : List Value} {o : Obj} (hb : Below w.heap.size w W) (ho : W.ownsRow w.heap.size e size v n xs) (hg : (W.alloc o).grownBy W' v.ownBlock) : Below w.heap.size w W' := by
  refine (hb.alloc hb.size o).grown hg (by have := hb.size; simp; omega) (fun k hk => ?_)
  rcases ho.2 with ⟨rfl, _⟩ | ⟨g, cap, cur, rfl, hbg, _⟩
  · cases hk
  · have : g = k := by simpa [Value.ownBlock] using hk
    omega
theorem same_at {l1 l2 : List Int} (he : l1.length = l2.length) : (∀ k, k < l1.length → l1.getD k 0 = l2.getD k 0) ↔ l1 = l2 := by
  constructor
  · intro h
    refine List.ext_getElem he (fun k h1 h2 => ?_)
    have := h k h1
    simpa [List.getD_eq_getElem?_getD, List.getElem?_eq_getElem, h1, h2] using this
  · rintro rfl k _
    rfl
set_option maxHeartbeats 4000000 in
theorem c_same (w : World) (v1 v2 : Value) (l1 l2 : List Int) (h1 : HasB w v1 l1) (h2 : HasB w v2 l2) (hl : l1.length ≤ 1000000) (b : Bool) (hb : decide (l1 = l2) = b) :
    Calls Tryz.prog 17 #[v1, v2] w fun e w' => e = .returned (.bool b) ∧ Below w.heap.size w w' := by
  obtain ⟨A1, c1, rfl, hc1, hk1⟩ := h1
  obtain ⟨A2, c2, rfl, hc2, hk2⟩ := h2
  have HB := Lib.hid hb
  clear hb
  have H1 := Lib.hid hk1
  have H2 := Lib.hid hk2
  clear hk1 hk2
  by_cases he : l1.length = l2.length
  · have HE := Lib.hid he
    have hq : (l1.length == l2.length) = true := by simp [he]
    have hq2 : (l1.length != l2.length) = false := by simp [he]
    clear he
    go_enter Tryz.func17, Tryz.ntmps17
    go_wp2
    go_loopw [5] (fun i W => ∃ k : Nat, k ≤ l1.length ∧ i = .int .i64 k ∧ Hid (∀ j, j < k → l1.getD j 0 = l2.getD j 0) ∧ ∃ n, W = w.drewN n) (fun i _ => l1.length - (intOf i).toNat)
    case atStart => exact ⟨0, by omega, rfl, fun j h => by omega, 0, rfl⟩
    case round =>
      obtain ⟨k, hk, rfl, HP, n, rfl⟩ := hrel
      by_cases hlt : k < l1.length
      · obtain ⟨ad1, rfl, x1⟩ := H1.out k hlt
        obtain ⟨ad2, rfl, x2⟩ := H2.out k (by rw [← HE.out]; exact hlt)
        have hk2 : k < l2.length := by rw [← HE.out]; exact hlt
        have HX := Lib.hid (⟨rfl, rfl⟩ : l1.getD k 0 = l1.getD k 0 ∧ l2.getD k 0 = l2.getD k 0)
        generalize hx : l1.getD k 0 = x at x1 HX
        generalize hy : l2.getD k 0 = y at x2 HX
        have HXE := Lib.hid hx
        have HYE := Lib.hid hy
        clear hx hy HX
        have hk0 : (0 : Int) ≤ (k : Int) := by omega
        have hk1 : (k : Int) < (l1.length : Int) := by omega
        have hk3 : (k : Int) < (l2.length : Int) := by omega
        by_cases hxy : x = y
        · have hd : (x != y) = false := by simp [hxy]
          have HXY := Lib.hid hxy
          clear hxy
          go_wp2
          go_quiet (fail)
          go_wp2
          go_roundw
          case rel => exact ⟨k + 1, by omega, by go_num, fun j hj => (by
            by_cases e : j = k
            · subst e; rw [HXE.out, HYE.out, HXY.out]
            · exact HP.out j (by omega)), _, rfl⟩
          case measure => simp [intOf]; omega
        · have hd : (x != y) = true := by simp [hxy]
          have HXY := Lib.hid hxy
          clear hxy
          go_wp2
          go_quiet (fail)
          go_wp2
          go_ret
          have hb : b = false := by rw [← HB.out, decide_eq_false (fun e => HXY.out (by rw [← HXE.out, ← HYE.out, e]))]
          subst hb
          exact ⟨rfl, below_dr (below_drewN _ _) _⟩
      · have hk' : k = l1.length := by omega
        subst hk'
        go_wp2
        go_ret
        have hb : b = true := by rw [← HB.out, decide_eq_true ((same_at HE.out).1 HP.out)]
        subst hb
        exact ⟨rfl, below_drewN _ _⟩
  · have hq : (l1.length == l2.length) = false := by simp [he]
    have hq2 : (l1.length != l2.length) = true := by simp [he]
    obtain rfl : b = false := by rw [← HB.out, decide_eq_false (fun e => he (by rw [e]))]
    clear he HB
    go_enter Tryz.func17, Tryz.ntmps17
    go_wp2
    go_ret
    exact ⟨rfl, Below.refl _ _⟩
end Go.Proofs.YtikpmlginojnhaaGreatDoor.Fl
