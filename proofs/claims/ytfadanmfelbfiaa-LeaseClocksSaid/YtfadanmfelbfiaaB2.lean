/- The book of leases: a lease is given (the program's). -/
import Derived.Test.YtfadanmfelbfiaaB1
import Derived.StillTailTactics
namespace Go.Proofs.Ytfadanmfelbfiaa.L
open Go.RowKit Go.Maps Go.Proofs.YtfadanmfelbfiaaW.PrintWords Go.Proofs.YtfadanmfelbfiaaW.PrintLast Go.Proofs.YtfadanmfelbfiaaW.PrintMore
attribute [local go_sem] max2_int min2_int max_two min_two   -- for this text's walks alone
set_option linter.unusedVariables false
set_option linter.unusedSimpArgs false
theorem law3 : Keyed Try.prog 3 := int_keyed Try.underlying3
theorem zero3 (w : World) : (zeroValue 3).run Try.prog w = .ok (.int .i64 0) w := by kernel_rfl
theorem wf64 {v : Int} (h0 : -9223372036854775808 ≤ v) (h1 : v ≤ 9223372036854775807) : (Lit.int .i64 v).wf = true := WalkArith.wf_i64 (by omega)
def GivePost (B g m : Nat) (gr gs : Gs) (n v u : Int) (w : World) (e : Ending) (w' : World) : Prop := ∃ r gr' gs', e = .returned (.bool r) ∧ Gv gr gs n v u r gr' gs' ∧ Bk w' B g m gr' gs' ∧ But (fun k => k = g ∨ k = m) w w'
theorem givePost_no {B g m : Nat} {gr gs : Gs} {n v u : Int} {w w' : World} (h : Bk w B g m gr gs) (hn : ¬ GiveOk gr n v u) (hd : Below w.heap.size w w') : GivePost B g m gr gs n v u w (.returned (.bool false)) w' :=
  ⟨false, gr, gs, rfl, Or.inr ⟨hn, rfl, rfl, rfl⟩, h.below hd, But.below hd⟩
/-- The map as read, at a version: a number, the same in every world with that block. -/
theorem look (w : World) (m n : Nat) (D : DataW Unit) (h : w.ownsMap Try.prog 3 (plainElem Try.prog 3) m n D) (v : Int) (hv : (Lit.int .i64 v).wf = true) :
    ∃ c, D.atKey (.int .i64 v) (.lit (.int .i64 0)) = .lit (.int .i64 c) ∧ ∀ W : World, W.heap[m]? = w.heap[m]? → (Instr.lookup 65 (.map (some m)) (.int .i64 v) false).run Try.prog W = .ok (.int .i64 c) W := by
  obtain ⟨c, h1, h2, h3⟩ := h.lookup_int law3 Try.underlying65 Try.underlying3 (zero3 _) (keyOf_int_mk Try.underlying3 hv)
  refine ⟨c, h2, fun W hW => ?_⟩
  obtain ⟨c', k1, k2, k3⟩ := (owns_eq h hW).lookup_int law3 Try.underlying65 Try.underlying3 (zero3 _) (keyOf_int_mk Try.underlying3 hv)
  rw [h2] at k2
  obtain rfl : c = c' := by injection k2 with k2; injection k2
  exact k1
theorem give_end {w W w1 : World} {B g m : Nat} {gr gs : Gs} {k : Nat} {v u c x : Int} {D : DataW Unit} (h : Bk w B g m gr gs) (hg : GB gs) (hok : GiveOk gr k v u) (hu : 1 ≤ u) (hoth : ∀ q, q ≠ g → W.heap[q]? = w.heap[q]?) (hrow : HasPairs W g (gr.set k (v, u)))
    (hbut : But (fun q => q = g ∨ q = m) w W) (hE : Ends D gs) (hat : D.atKey (.int .i64 v) (.lit (.int .i64 0)) = .lit (.int .i64 c)) (hx : (c ≤ u → x = u) ∧ (u ≤ c → x = c))
    (hown : w1.ownsMap Try.prog 3 (plainElem Try.prog 3) m (gs.length + 1) (D.put (.int .i64 v) (.lit (.int .i64 x)))) (hturn : W.drew.mapTurned w1 m) : GivePost B g m gr gs k v u w (.returned (.bool true)) w1 := by
  have hgr := hturn.grown
  have hsz := hbut.size
  refine ⟨true, _, _, rfl, Or.inl ⟨hok, rfl, rfl, rfl⟩, ?_, hbut.trans (But.grown (But.drew (But.refl _ _)) hgr (fun k hk _ => by cases hk; exact Or.inr rfl))⟩
  rw [Int.toNat_natCast]
  have hlt := h.lt
  refine ⟨?_, ?_, ⟨_, by simpa using hown, hE.put hg v u c hat hu x hx⟩, h.ne1, h.ne2, h.ne3⟩
  · rw [hgr.block B (by show B < W.heap.size; omega) (by simp; exact Ne.symm h.ne2)]
    show W.heap[B]? = _
    rw [hoth B (Ne.symm h.ne1), List.length_set]
    exact h.box
  · unfold HasPairs
    rw [hgr.block g (by show g < W.heap.size; omega) (by simp; exact Ne.symm h.ne3)]
    exact hrow
set_option maxHeartbeats 2000000 in
theorem give_in (w : World) (B g m : Nat) (gr gs : Gs) (k : Nat) (v u : Int) (h : Bk w B g m gr gs) (hr : RB gr) (hg : GB gs) (hs : gs.length < 1000000) (hk : k < gr.length) (hv0 : 1 ≤ v) (hv1 : v ≤ 1099511627776) (hu : u ≤ 1099511627776) (ho1 : (gr.getD k (0, 0)).1 ≤ v) (ho2 : (gr.getD k (0, 0)).2 < u) :
    Calls Try.prog 19 #[.pointer (some ⟨B, 0, none⟩), .int .i64 k, .int .i64 v, .int .i64 u] w (GivePost B g m gr gs k v u w) := by
  have hc0 := h.c0
  have hc1 := h.c1
  have hlen := hr.hi
  have hlo := hr.lo
  have hlt := h.lt
  have hvk := hr.val k
  have HBK := Lib.hid h
  obtain ⟨hv, huu⟩ := h.row.cell k hk
  have hf0 := h.row.free (k * 2)
  have hf1 := h.row.free (k * 2 + 1)
  have HOK : Hid (GiveOk gr k v u) := ⟨by omega, by omega, hv0, hv1, hu, by rw [Int.toNat_natCast]; exact ho1, by rw [Int.toNat_natCast]; exact ho2⟩
  generalize gr.getD k (0, 0) = p at hv huu ho1 ho2 hvk
  obtain ⟨a, b⟩ := p
  simp only at hv huu ho1 ho2 hvk
  have hu1 : 1 ≤ u := by omega
  obtain ⟨D, hown, hE⟩ := h.mp
  obtain ⟨c, hat, hlk⟩ := look w m gs.length D hown v (wf64 (by omega) (by omega))
  have HE := Lib.hid hE
  have HAT := Lib.hid hat
  have HLK := Lib.hid hlk
  have HOWN := Lib.hid hown
  have hk0 : (0 : Int) ≤ (k : Int) := by omega
  have hk1 : (k : Int) < (gr.length : Int) := by omega
  have ne1 := h.ne1
  have ne2 := h.ne2
  have ne3 := h.ne3
  clear hE hat hlk hown h
  have c1 := fun w => within k 0 (gr.length - 1) w
  rw [show withinB (k : Int) 0 ((gr.length : Int) - 1) = true from by simp [withinB]; omega] at c1
  have c2 := fun w => within v 1 1099511627776 w
  rw [show withinB v 1 1099511627776 = true from by simp [withinB]; omega] at c2
  go_enter Try.func19, Try.ntmps19
  go_wp2_with (first | (go_at_call 30; ((with_reducible refine (c1 _).mono ?_); rintro e w' ⟨rfl, rfl⟩)) | (go_at_call 30; ((with_reducible refine (c2 _).mono ?_); rintro e w' ⟨rfl, rfl⟩)))
  obtain ⟨W, hW⟩ : ∃ W, W = (w.setCell ⟨g, k * 2, none⟩ (.int .i64 v)).setCell ⟨g, k * 2 + 1, none⟩ (.int .i64 u) := ⟨_, rfl⟩
  rw [← hW]
  have hoth : ∀ q, q ≠ g → W.heap[q]? = w.heap[q]? := fun q hq => by rw [hW, Below.heap_setCell _ _ _ _ hq, Below.heap_setCell _ _ _ _ hq]
  have kc1 : W.cell? ⟨B, 1, none⟩ = some (.map (some m)) := by have := hoth B (Ne.symm ne1); simp only [World.cell?] at hc1 ⊢; rw [this]; exact hc1
  have hown : W.ownsMap Try.prog 3 (plainElem Try.prog 3) m gs.length D := owns_eq HOWN.out (hoth m ne3)
  have hlk := HLK.out W.drew (hoth m ne3)
  have HBW : Hid (HasPairs W g (gr.set k (v, u))) := by rw [hW]; exact HBK.out.row.set k hk v u
  have HTW : Hid (But (fun q => q = g ∨ q = m) w W) := by rw [hW]; exact But.setCell (But.setCell (But.refl _ _) (fun _ => Or.inl rfl) _) (fun _ => Or.inl rfl) _
  have HOTH := Lib.hid hoth
  have HOW := Lib.hid hown
  have hwv : (Lit.int .i64 v).wf = true := wf64 (by omega) (by omega)
  have hwu : (Lit.int .i64 u).wf = true := wf64 (by omega) (by omega)
  have hcw : -9223372036854775808 ≤ c ∧ c ≤ 9223372036854775807 := by
    rcases HE.out.2 v with ⟨_, c', e1, e2, _⟩ | ⟨e1, _⟩
    · have := e1 (.lit (.int .i64 0))
      rw [HAT.out] at this
      obtain rfl : c = c' := by injection this with this; injection this
      have := hg _ e2
      simp only at this
      omega
    · have := HAT.out
      rw [atKey_of_not_has e1] at this
      obtain rfl : 0 = c := by injection this with this; injection this
      omega
  have hwc : (Lit.int .i64 c).wf = true := wf64 hcw.1 hcw.2
  have HG := Lib.hid hg
  have HWV := Lib.hid hwv
  have HWU := Lib.hid hwu
  have HWC := Lib.hid hwc
  clear hW hoth hown hg hwv hwu hwc hv huu hc0 hc1 hf0 hf1 c1 c2
  by_cases hcu : c < u
  · go_still_tail 13, (by kernel_rfl)
    change wpList _ _ _ _ _ W.drew
    go_wp2_with (at_mapUpdate; refine wpList_mapUpdate_in _ rfl _ _ _ 65 rfl 3 3 law3 Try.underlying65 _ m gs.length D rfl (owns_eq HOW.out rfl) (by unfold maxLen; omega) _ _ _ rfl rfl (keyOf_int_mk Try.underlying3 HWV.out) _ [] (plainElem_int Try.underlying3 HWU.out) ?_; intro w1 hown1 hturn1)
    go_ret
    exact give_end HBK.out HG.out HOK.out hu1 HOTH.out HBW.out HTW.out HE.out HAT.out (by omega) hown1 hturn1
  · go_still_tail 13, (by kernel_rfl)
    change wpList _ _ _ _ _ W.drew
    go_wp2_with (at_mapUpdate; refine wpList_mapUpdate_in _ rfl _ _ _ 65 rfl 3 3 law3 Try.underlying65 _ m gs.length D rfl (owns_eq HOW.out rfl) (by unfold maxLen; omega) _ _ _ rfl rfl (keyOf_int_mk Try.underlying3 HWV.out) _ [] (plainElem_int Try.underlying3 HWC.out) ?_; intro w1 hown1 hturn1)
    go_ret
    exact give_end HBK.out HG.out HOK.out hu1 HOTH.out HBW.out HTW.out HE.out HAT.out (by omega) hown1 hturn1
set_option maxHeartbeats 2000000 in
theorem give (w : World) (B g m : Nat) (gr gs : Gs) (n v u : Int) (h : Bk w B g m gr gs) (hr : RB gr) (hg : GB gs) (hs : gs.length < 1000000) :
    Calls Try.prog 19 #[.pointer (some ⟨B, 0, none⟩), .int .i64 n, .int .i64 v, .int .i64 u] w (GivePost B g m gr gs n v u w) := by
  by_cases hn : 0 ≤ n ∧ n < gr.length
  · obtain ⟨k, rfl⟩ := Int.eq_ofNat_of_zero_le hn.1
    have hk : k < gr.length := by omega
    by_cases hv : 1 ≤ v ∧ v ≤ 1099511627776
    · by_cases hu : u ≤ 1099511627776
      · by_cases ho1 : (gr.getD k (0, 0)).1 ≤ v
        · by_cases ho2 : (gr.getD k (0, 0)).2 < u
          · exact give_in w B g m gr gs k v u h hr hg hs hk hv.1 hv.2 hu ho1 ho2
          · have hc0 := h.c0
            have hlen := hr.hi
            have hlo := hr.lo
            have HBK := Lib.hid h
            obtain ⟨hv', huu⟩ := h.row.cell k hk
            have HN : Hid (¬ GiveOk gr k v u) := fun hok => by have := hok.2.2.2.2.2.2; rw [Int.toNat_natCast] at this; omega
            generalize gr.getD k (0, 0) = p at hv' huu ho1 ho2
            obtain ⟨a, b⟩ := p
            simp only at hv' huu ho1 ho2
            have hk0 : (0 : Int) ≤ (k : Int) := by omega
            have hk1 : (k : Int) < (gr.length : Int) := by omega
            have c1 := fun w => within k 0 (gr.length - 1) w
            rw [show withinB (k : Int) 0 ((gr.length : Int) - 1) = true from by simp [withinB]; omega] at c1
            have c2 := fun w => within v 1 1099511627776 w
            rw [show withinB v 1 1099511627776 = true from by simp [withinB]; omega] at c2
            clear h
            go_enter Try.func19, Try.ntmps19
            go_wp2_with (first | (go_at_call 30; ((with_reducible refine (c1 _).mono ?_); rintro e w' ⟨rfl, rfl⟩)) | (go_at_call 30; ((with_reducible refine (c2 _).mono ?_); rintro e w' ⟨rfl, rfl⟩)))
            go_ret
            exact givePost_no HBK.out HN.out (Below.refl _ _)
        · have hc0 := h.c0
          have hlen := hr.hi
          have hlo := hr.lo
          have HBK := Lib.hid h
          obtain ⟨hv', huu⟩ := h.row.cell k hk
          have HN : Hid (¬ GiveOk gr k v u) := fun hok => by have := hok.2.2.2.2.2.1; rw [Int.toNat_natCast] at this; omega
          generalize gr.getD k (0, 0) = p at hv' huu ho1
          obtain ⟨a, b⟩ := p
          simp only at hv' huu ho1
          have hk0 : (0 : Int) ≤ (k : Int) := by omega
          have hk1 : (k : Int) < (gr.length : Int) := by omega
          have c1 := fun w => within k 0 (gr.length - 1) w
          rw [show withinB (k : Int) 0 ((gr.length : Int) - 1) = true from by simp [withinB]; omega] at c1
          have c2 := fun w => within v 1 1099511627776 w
          rw [show withinB v 1 1099511627776 = true from by simp [withinB]; omega] at c2
          clear h
          go_enter Try.func19, Try.ntmps19
          go_wp2_with (first | (go_at_call 30; ((with_reducible refine (c1 _).mono ?_); rintro e w' ⟨rfl, rfl⟩)) | (go_at_call 30; ((with_reducible refine (c2 _).mono ?_); rintro e w' ⟨rfl, rfl⟩)))
          go_ret
          exact givePost_no HBK.out HN.out (Below.refl _ _)
      · have hc0 := h.c0
        have hlen := hr.hi
        have hlo := hr.lo
        have HBK := Lib.hid h
        have HN : Hid (¬ GiveOk gr k v u) := fun hok => hu hok.2.2.2.2.1
        have hu' : 1099511627776 < u := by omega
        have c1 := fun w => within k 0 (gr.length - 1) w
        rw [show withinB (k : Int) 0 ((gr.length : Int) - 1) = true from by simp [withinB]; omega] at c1
        have c2 := fun w => within v 1 1099511627776 w
        rw [show withinB v 1 1099511627776 = true from by simp [withinB]; omega] at c2
        clear h hu
        go_enter Try.func19, Try.ntmps19
        go_wp2_with (first | (go_at_call 30; ((with_reducible refine (c1 _).mono ?_); rintro e w' ⟨rfl, rfl⟩)) | (go_at_call 30; ((with_reducible refine (c2 _).mono ?_); rintro e w' ⟨rfl, rfl⟩)))
        go_ret
        exact givePost_no HBK.out HN.out (Below.refl _ _)
    · have hc0 := h.c0
      have hlen := hr.hi
      have hlo := hr.lo
      have HBK := Lib.hid h
      have HN : Hid (¬ GiveOk gr k v u) := fun hok => hv ⟨hok.2.2.1, hok.2.2.2.1⟩
      have c1 := fun w => within k 0 (gr.length - 1) w
      rw [show withinB (k : Int) 0 ((gr.length : Int) - 1) = true from by simp [withinB]; omega] at c1
      have c2 := fun w => within v 1 1099511627776 w
      rw [show withinB v 1 1099511627776 = false from by simp [withinB]; omega] at c2
      clear h hv
      go_enter Try.func19, Try.ntmps19
      go_wp2_with (first | (go_at_call 30; ((with_reducible refine (c1 _).mono ?_); rintro e w' ⟨rfl, rfl⟩)) | (go_at_call 30; ((with_reducible refine (c2 _).mono ?_); rintro e w' ⟨rfl, rfl⟩)))
      go_ret
      exact givePost_no HBK.out HN.out (Below.refl _ _)
  · have hc0 := h.c0
    have hlen := hr.hi
    have hlo := hr.lo
    have HBK := Lib.hid h
    have HN : Hid (¬ GiveOk gr n v u) := fun hok => hn ⟨hok.1, hok.2.1⟩
    have c1 := fun w => within n 0 (gr.length - 1) w
    rw [show withinB n 0 ((gr.length : Int) - 1) = false from by simp [withinB]; omega] at c1
    clear h hn
    go_enter Try.func19, Try.ntmps19
    go_wp2_with (go_at_call 30; ((with_reducible refine (c1 _).mono ?_); rintro e w' ⟨rfl, rfl⟩))
    go_ret
    exact givePost_no HBK.out HN.out (Below.refl _ _)
end Go.Proofs.Ytfadanmfelbfiaa.L
