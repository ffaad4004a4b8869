/- The book of leases: the questions (the program's). -/
import Derived.Test.YtfadanmfelbfiaaB2
namespace Go.Proofs.Ytfadanmfelbfiaa.L
open Go.RowKit Go.Maps Go.Proofs.YtfadanmfelbfiaaW.PrintWords Go.Proofs.YtfadanmfelbfiaaW.PrintLast Go.Proofs.YtfadanmfelbfiaaW.PrintMore
attribute [local go_sem] max2_int min2_int max_two min_two   -- for this text's walks alone
set_option linter.unusedVariables false
set_option linter.unusedSimpArgs false
theorem counts (w : World) (v u now : Int) : Calls Try.prog 36 #[.agg #[.int .i64 v, .int .i64 u], .int .i64 now] w fun e w' => e = .returned (.bool (decide (now < u))) ∧ w' = w.alloc (.cells #[.int .i64 v, .int .i64 u] 72) := by
  go_enter Try.func36, Try.ntmps36
  go_wp2
  go_ret
  exact ⟨rfl, rfl⟩
def ValidB (u now s : Int) : Bool := decide (0 ≤ now) && decide (now ≤ 1099511627776) && decide (0 ≤ s) && decide (s ≤ 1000) && decide (now + s < u)
theorem valid (w : World) (u now s : Int) : Calls Try.prog 29 #[.int .i64 u, .int .i64 now, .int .i64 s] w fun e w' => e = .returned (.bool (ValidB u now s)) ∧ w = w' := by
  have c1 := fun w => within now 0 1099511627776 w
  have c2 := fun w => within s 0 1000 w
  by_cases h1 : 0 ≤ now ∧ now ≤ 1099511627776
  · by_cases h2 : 0 ≤ s ∧ s ≤ 1000
    · obtain ⟨a1, a2⟩ := h1
      obtain ⟨a3, a4⟩ := h2
      rw [show withinB now 0 1099511627776 = true from by simp [withinB]; omega] at c1
      rw [show withinB s 0 1000 = true from by simp [withinB]; omega] at c2
      have HV := Lib.hid (show ValidB u now s = decide (now + s < u) from by simp [ValidB, a1, a2, a3, a4])
      go_enter Try.func29, Try.ntmps29
      go_wp2_with (first | (go_at_call 30; ((with_reducible refine (c1 _).mono ?_); rintro e w' ⟨rfl, rfl⟩)) | (go_at_call 30; ((with_reducible refine (c2 _).mono ?_); rintro e w' ⟨rfl, rfl⟩)))
      go_ret
      exact ⟨by rw [HV.out]; rfl, rfl⟩
    · rw [show withinB now 0 1099511627776 = true from by simp [withinB]; omega] at c1
      rw [show withinB s 0 1000 = false from by simp [withinB]; omega] at c2
      have HV := Lib.hid (show ValidB u now s = false from by simp [ValidB]; omega)
      clear h1 h2
      go_enter Try.func29, Try.ntmps29
      go_wp2_with (first | (go_at_call 30; ((with_reducible refine (c1 _).mono ?_); rintro e w' ⟨rfl, rfl⟩)) | (go_at_call 30; ((with_reducible refine (c2 _).mono ?_); rintro e w' ⟨rfl, rfl⟩)))
      go_ret
      exact ⟨by rw [HV.out]; rfl, rfl⟩
  · rw [show withinB now 0 1099511627776 = false from by simp [withinB]; omega] at c1
    have HV := Lib.hid (show ValidB u now s = false from by simp [ValidB]; omega)
    clear h1
    go_enter Try.func29, Try.ntmps29
    go_wp2_with (first | (go_at_call 30; ((with_reducible refine (c1 _).mono ?_); rintro e w' ⟨rfl, rfl⟩)))
    go_ret
    exact ⟨by rw [HV.out]; rfl, rfl⟩
/-- What the loop of Free has seen: the entries that are no longer to come. -/
def FreeTo (gs : Gs) (D : DataW Unit) (left : Lit → Bool) (v now x : Int) : Prop := now ≤ x ∧ (x = now ∨ ∃ p ∈ gs, p.1 < v ∧ p.2 = x) ∧ ∀ p ∈ gs, p.1 < v → left (.int .i64 p.1) = false → p.2 ≤ x
theorem has_of_mem {D : DataW Unit} {gs : Gs} (h : Ends D gs) {p : Int × Int} (hp : p ∈ gs) : has D (.int .i64 p.1) = true := by
  rcases h.2 p.1 with ⟨h1, _⟩ | ⟨_, h2⟩
  · exact h1
  · exact absurd hp (h2 p.2)
theorem FreeTo.start {gs : Gs} {D : DataW Unit} (h : Ends D gs) (v now : Int) : FreeTo gs D (has D) v now now :=
  ⟨Int.le_refl _, Or.inl rfl, fun p hp hv hl => by rw [has_of_mem h hp] at hl; cases hl⟩
theorem FreeTo.done {gs : Gs} {D : DataW Unit} {left : Lit → Bool} {v now x : Int} (h : FreeTo gs D left v now x) (hl : ∀ kl, left kl = false) : FreeIs gs v now x := ⟨h.1, h.2.1, fun p hp hv => h.2.2 p hp hv (hl _)⟩
theorem end_of {D : DataW Unit} {gs : Gs} (h : Ends D gs) {k c : Int} (hat : ∀ zd, D.atKey (.int .i64 k) zd = .lit (.int .i64 c)) : (k, c) ∈ gs ∧ ∀ u, (k, u) ∈ gs → u ≤ c := by
  rcases h.2 k with ⟨_, c', h2, h3, h4⟩ | ⟨h1, _⟩
  · have := (hat .nil).symm.trans (h2 .nil)
    obtain rfl : c = c' := by injection this with this; injection this
    exact ⟨h3, h4⟩
  · have := hat .nil
    rw [atKey_of_not_has h1] at this
    cases this
theorem FreeTo.step {gs : Gs} {D : DataW Unit} {left : Lit → Bool} {v now x k c y : Int} (h : FreeTo gs D left v now x) (hE : Ends D gs) (hat : ∀ zd, D.atKey (.int .i64 k) zd = .lit (.int .i64 c)) (hy : (k < v ∧ ((x < c ∧ y = c) ∨ (c ≤ x ∧ y = x))) ∨ (v ≤ k ∧ y = x)) :
    FreeTo gs D (fun z => left z && !z.sameKey (.int .i64 k)) v now y := by
  obtain ⟨h1, h2, h3⟩ := h
  obtain ⟨e1, e2⟩ := end_of hE hat
  refine ⟨by omega, ?_, fun p hp hv hl => ?_⟩
  · rcases hy with ⟨hk, ⟨_, rfl⟩ | ⟨_, rfl⟩⟩ | ⟨_, rfl⟩
    · exact Or.inr ⟨_, e1, hk, rfl⟩
    · exact h2
    · exact h2
  · by_cases e : p.1 = k
    · have := e2 p.2 (by rw [← e]; exact hp)
      omega
    · dsimp only at hl
      rw [sameKey_ne (ne_key e)] at hl
      have := h3 p hp hv (by simpa using hl)
      clear h2
      omega
def FreePost (gs : Gs) (v now : Int) (w : World) (e : Ending) (w' : World) : Prop := ∃ x, e = .returned (.int .i64 x) ∧ FreeIs gs v now x ∧ Below w.heap.size w w'
set_option maxHeartbeats 1000000 in
theorem free (w : World) (B g m : Nat) (gr gs : Gs) (v now : Int) (h : Bk w B g m gr gs) : Calls Try.prog 27 #[.pointer (some ⟨B, 0, none⟩), .int .i64 v, .int .i64 now] w (FreePost gs v now w) := by
  have hc1 := h.c1
  obtain ⟨D, hown, hE⟩ := h.mp
  have HE := Lib.hid hE
  have hml := h.lt.2.2
  clear hE h
  go_enter Try.func27, Try.ntmps27
  go_wp2_with (first
    | (at_range; refine wpList_range_own _ rfl _ 65 rfl 3 3 law3 Try.underlying65 _ m gs.length _ rfl hown ?_; intro w0 hrg0 hg0 hs0)
    | go_in)
  go_frame
  go_loopw [2, 7, 8] (fun v2 _ _ wr => ∃ (left : Lit → Bool) (cnt : Nat) (x : Int), v2 = .int .i64 x ∧ Hid (FreeTo gs D left v now x) ∧ wr.ranges Try.prog 3 (plainElem Try.prog 3) m w.heap.size gs.length D left cnt ∧ Below w.heap.size w wr)
    (fun _ _ _ wr => wr.rangeLeft m w.heap.size)
  case atStart => exact ⟨_, _, now, rfl, FreeTo.start HE.out v now, hrg0, (Below.refl _ _).grown hg0 (Nat.le_refl _) (by simp)⟩
  case round =>
    clear hrg0 hg0 hs0
    obtain ⟨left, cnt, x, rfl, HF, hrg, hbl⟩ := hrel
    have HBL := Lib.hid hbl
    clear hbl
    go_wp2_with (first
      | (at_next; refine wpList_next_ranges_ii _ rfl _ rfl 3 3 .i64 .i64 law3 Try.underlying3 Try.underlying3 m w.heap.size gs.length _ _ _ rfl hrg ?_ ?_)
      | go_in)
    · intro _ hl0
      have HL := Lib.hid hl0
      clear hl0
      go_wp2
      go_ret
      exact ⟨x, rfl, HF.out.done HL.out, HBL.out⟩
    · intro k c w1 cnt1 hwx hwc hlx hat hrg1 hlt hg1 hs1 hen
      have HW1 := Lib.hid (HBL.out.grown hg1 HBL.out.size (fun q hq => by cases hq; exact Nat.le_refl _))
      have HAT := Lib.hid hat
      clear hlx hat hg1 hs1
      go_wp2
      all_goals
        go_roundw
        case rel => first
          | exact ⟨_, cnt1, _, rfl, HF.out.step HE.out HAT.out (by omega), hrg1, HW1.out⟩
        case measure => rw [hrg1.left_eq, hrg.left_eq]; exact hlt
/-- What the loop of Oldest has collected. -/
def OldTo (gs : Gs) (left : Lit → Bool) (now : Int) (vs : List Int) : Prop := (∀ x ∈ vs, ∃ p ∈ gs, p.1 = x ∧ now < p.2) ∧ ∀ p ∈ gs, now < p.2 → left (.int .i64 p.1) = false → p.1 ∈ vs
theorem OldTo.start {gs : Gs} {D : DataW Unit} (h : Ends D gs) (now : Int) : OldTo gs (has D) now [] :=
  ⟨fun x hx => by (cases hx), fun p hp hv hl => by rw [has_of_mem h hp] at hl; cases hl⟩
theorem OldTo.add {gs : Gs} {D : DataW Unit} {left : Lit → Bool} {now k c : Int} {vs : List Int} (h : OldTo gs left now vs) (hE : Ends D gs) (hat : ∀ zd, D.atKey (.int .i64 k) zd = .lit (.int .i64 c)) (hc : now < c) :
    OldTo gs (fun z => left z && !z.sameKey (.int .i64 k)) now (vs ++ [k]) := by
  obtain ⟨e1, e2⟩ := end_of hE hat
  refine ⟨fun x hx => ?_, fun p hp hn hl => ?_⟩
  · rcases List.mem_append.1 hx with hx | hx
    · exact h.1 x hx
    · simp at hx
      exact ⟨_, e1, hx.symm, hc⟩
  · by_cases e : p.1 = k
    · simp [e]
    · dsimp only at hl
      rw [sameKey_ne (ne_key e)] at hl
      exact List.mem_append_left _ (h.2 p hp hn (by simpa using hl))
theorem OldTo.skip {gs : Gs} {D : DataW Unit} {left : Lit → Bool} {now k c : Int} {vs : List Int} (h : OldTo gs left now vs) (hE : Ends D gs) (hat : ∀ zd, D.atKey (.int .i64 k) zd = .lit (.int .i64 c)) (hc : c ≤ now) :
    OldTo gs (fun z => left z && !z.sameKey (.int .i64 k)) now vs := by
  obtain ⟨e1, e2⟩ := end_of hE hat
  refine ⟨h.1, fun p hp hn hl => ?_⟩
  by_cases e : p.1 = k
  · have := e2 p.2 (by rw [← e]; exact hp)
    omega
  · dsimp only at hl
    rw [sameKey_ne (ne_key e)] at hl
    exact h.2 p hp hn (by simpa using hl)
theorem OldTo.none {gs : Gs} {left : Lit → Bool} {now : Int} (h : OldTo gs left now []) (hl : ∀ kl, left kl = false) : OldIs gs now 0 false :=
  Or.inl ⟨rfl, rfl, fun p hp hn => by have := h.2 p hp hn (hl _); cases this⟩
theorem OldTo.some {gs : Gs} {left : Lit → Bool} {now x : Int} {vs : List Int} (h : OldTo gs left now vs) (hl : ∀ kl, left kl = false) (hx : IsMin vs vs.length x) : OldIs gs now x true := by
  obtain ⟨⟨i, hi, rfl⟩, h2⟩ := hx
  refine Or.inr ⟨rfl, ?_, fun p hp hn => ?_⟩
  · have : vs.getD i 0 ∈ vs := by rw [List.getD_eq_getElem?_getD, List.getElem?_eq_getElem hi]; exact List.getElem_mem _
    exact h.1 _ this
  · obtain ⟨j, hj, e⟩ := List.getElem_of_mem (h.2 p hp hn (hl _))
    have := h2 j hj
    have e2 : vs.getD j 0 = p.1 := by rw [List.getD_eq_getElem?_getD, List.getElem?_eq_getElem hj, e]; rfl
    rw [e2] at this
    exact this
def OldPost (gs : Gs) (now : Int) (w : World) (e : Ending) (w' : World) : Prop := ∃ x ok, e = .returned (.tuple #[.int .i64 x, .bool ok]) ∧ OldIs gs now x ok ∧ Below w.heap.size w w'
theorem owns_cells {w : World} {base : Nat} {v : Value} {vs : List Int} (h : w.ownsRow base 3 1 v vs.length (vs.map (.int .i64))) : (v = .slice none 0 0 ∧ vs = []) ∨ ∃ g c, v = .slice (some ⟨g, 0, none⟩) vs.length c ∧ base ≤ g ∧ vs.length ≤ 9223372036854775807 ∧ ∀ k, k < vs.length → w.cell? ⟨g, k, none⟩ = some (.int .i64 (vs.getD k 0)) := by
  obtain ⟨h1, h2⟩ := h
  rcases h2 with ⟨rfl, h0⟩ | ⟨g, cap, cur, rfl, hb, hg, hn, hc, hs, ht⟩
  · exact Or.inl ⟨rfl, List.length_eq_zero_iff.1 h0⟩
  · refine Or.inr ⟨g, cap, rfl, hb, by unfold maxLen at hc; omega, fun k hk => ?_⟩
    have hk2 : k < cur.size := by omega
    have : cur[k]? = Option.some (.int .i64 (vs.getD k 0)) := by
      have e := congrArg (fun l => l[k]?) ht
      simp only [List.getElem?_take, Nat.mul_one, if_pos hk, List.getElem?_map, List.getElem?_eq_getElem hk] at e
      rw [List.getD_eq_getElem?_getD, List.getElem?_eq_getElem hk]
      simpa using e
    simp [World.cell?, hg, this]
theorem own_ne {w : World} {base k e size n : Nat} {v : Value} {xs : List Value} (h : w.ownsRow base e size v n xs) (hk : k < base) : v.ownBlock = none ∨ v.ownBlock ≠ Option.some k := by
  by_cases hq : v.ownBlock = Option.some k
  · have := h.lt k hq; omega
  · exact Or.inr hq
theorem own_ne' {w : World} {base k e size n : Nat} {v : Value} {xs : List Value} (h : w.ownsRow base e size v n xs) (hk : k < base) : Option.some k ≠ v.ownBlock := fun hq => by
  have := h.lt k hq.symm; omega
theorem one_new (w : World) (n : Nat) (hn : n = w.heap.size) (x : Value) (t : TypeId) : ∀ j u, [x][j]? = Option.some u → (w.alloc (.cells #[x] t)).cell? ((⟨n, 0, none⟩ : Addr).add j) = Option.some u := by
  subst hn
  intro j u hj
  have hj0 : j = 0 := by have := (List.getElem?_eq_some_iff.1 hj).1; simp at this; exact this
  subst hj0
  simp at hj
  subst hj
  have := cell_of_one (heap_alloc_new w (.cells #[x] t))
  unfold Addr.add
  exact this
set_option maxHeartbeats 2000000 in
theorem oldest (w : World) (B g m : Nat) (gr gs : Gs) (now : Int) (h : Bk w B g m gr gs) (hs : gs.length < 1000000) : Calls Try.prog 23 #[.pointer (some ⟨B, 0, none⟩), .int .i64 now] w (OldPost gs now w) := by
  have hc1 := h.c1
  obtain ⟨D, hown, hE⟩ := h.mp
  have HE := Lib.hid hE
  have HSZ := Lib.hid hown.size_le
  have hml := h.lt.2.2
  obtain ⟨i0, hi0, hz0, hz1, hz2⟩ := info_parts info3
  clear hE h
  go_enter Try.func23, Try.ntmps23
  go_wp2_with (first
    | (at_range; refine wpList_range_own _ rfl _ 65 rfl 3 3 law3 Try.underlying65 _ m gs.length _ rfl hown ?_; intro w0 hrg0 hg0 hs0)
    | go_in)
  go_frame
  go_loopw [6, 7, 8] (fun v6 _ _ wr => ∃ (left : Lit → Bool) (cnt : Nat) (vs : List Int), Hid (OldTo gs left now vs) ∧ Hid (wr.ownsRow (w.heap.size + 1) 3 1 v6 vs.length (vs.map (.int .i64))) ∧ vs.length + cnt ≤ gs.length ∧ wr.ranges Try.prog 3 (plainElem Try.prog 3) m w.heap.size gs.length D left cnt ∧ Below w.heap.size w wr ∧ w.heap.size + 1 ≤ wr.heap.size)
    (fun _ _ _ wr => wr.rangeLeft m w.heap.size)
  case atStart => exact ⟨_, _, [], OldTo.start HE.out now, ⟨by simp, Or.inl ⟨rfl, rfl⟩⟩, by have := HSZ.out; simpa using this, hrg0, (Below.refl _ _).grown hg0 (Nat.le_refl _) (by simp), by rw [hs0]; exact Nat.le_refl _⟩
  case round =>
    clear hrg0 hg0 hs0
    obtain ⟨left, cnt, vs, HO, HR, hcnt, hrg, hbl, hsz⟩ := hrel
    have HBL := Lib.hid hbl
    clear hbl
    go_wp2_with (first
      | (at_next; refine wpList_next_ranges_ii _ rfl _ rfl 3 3 .i64 .i64 law3 Try.underlying3 Try.underlying3 m w.heap.size gs.length _ _ _ rfl hrg ?_ ?_)
      | go_in)
    · intro _ hl0
      have HL := Lib.hid hl0
      clear hl0
      rcases owns_cells HR.out with ⟨hv, hvs⟩ | ⟨gg, c, hv, hb, hle, hcell⟩
      · subst hvs
        subst hv
        go_wp2
        go_ret2
        exact ⟨0, false, rfl, HO.out.none HL.out, HBL.out⟩
      · subst hv
        have HC := Lib.hid hcell
        clear hcell
        by_cases h0 : vs.length = 0
        · have hz : ((vs.length : Int) == 0) = true := by rw [beq_iff_eq]; omega
          have hvs : vs = [] := List.length_eq_zero_iff.1 h0
          clear h0
          go_wp2
          go_ret2
          subst hvs
          exact ⟨0, false, rfl, HO.out.none HL.out, HBL.out⟩
        · have hz : ((vs.length : Int) == 0) = false := by rw [beq_eq_false_iff_ne]; omega
          have h1 : 1 ≤ vs.length := by omega
          clear h0
          go_wp2_with (go_at_call 35; refine (slMin _ gg c vs h1 hle HC.out).mono ?_; rintro e w' ⟨x, rfl, hx, ⟨q, rfl⟩⟩; have HX := Lib.hid hx; clear hx)
          go_ret2
          exact ⟨x, true, rfl, HO.out.some HL.out HX.out, below_drewN HBL.out _⟩
    · intro k c w1 cnt1 hwx hwc hlx hat hrg1 hlt hg1 hs1 hen
      have HW1 := Lib.hid (HBL.out.grown hg1 HBL.out.size (fun q hq => by cases hq; exact Nat.le_refl _))
      have HR1 := Lib.hid (HR.out.kept hg1 (own_ne HR.out (Nat.lt_succ_self _)))
      have hsz1 : w.heap.size + 1 ≤ w1.heap.size := by omega
      have HAT := Lib.hid hat
      clear hlx hat hg1 hs1
      have HRG := Lib.hid hrg1
      have HRL := Lib.hid hrg1.left_eq
      have HRL0 := Lib.hid hrg.left_eq
      have hb8 : (vs.length + 1) * 8 ≤ 140737488355328 := by omega
      have hml1 : vs.length + 1 ≤ maxLen := by unfold maxLen; omega
      by_cases hc : now < c
      · go_wp2_with (first
          | (go_at_call 36; ((with_reducible refine (counts _ _ _ _).mono ?_); rintro e w' ⟨rfl, rfl⟩))
          | (at_builtin; refine wpList_append_own _ rfl _ _ 55 rfl (w.heap.size + 1) 3 i0 (.int .i64 0) 1 8 Try.underlying55 hi0 hz0 hz1 hz2 rfl (by decide) _ _ _ rfl ((HR1.out.alloc _).alloc _) ⟨w1.heap.size + 1, 0, none⟩ 1 1 [.int .i64 k] rfl rfl ?c1 ?c2 ?c3 ?c4 ?c5 ?_; (case c1 => exact one_new _ _ (by simp) _ _); (case c2 => simp [Value.oneCell']); (case c3 => exact hml1); (case c4 => exact hb8); (case c5 => simp; omega); intro v' w2 hown2 hgrow2 hnil2))
        have hrg2 := ((HRG.out.alloc (.cells #[.int .i64 k, .int .i64 c] 72)).alloc (.cells #[.int .i64 k] 3)).kept hgrow2 (own_ne' HR1.out (by omega)) (own_ne' HR1.out (Nat.lt_succ_self _))
        have hw2 := ((HW1.out.alloc (by omega) (.cells #[.int .i64 k, .int .i64 c] 72)).alloc (by simp; omega) (.cells #[.int .i64 k] 3)).grown hgrow2 (by simp; omega) (fun q hq => by have := HR1.out.lt q hq; omega)
        have hsz2 := hgrow2.size
        have HZ2 := Lib.hid (show w.heap.size + 1 ≤ w2.heap.size from by simp at hsz2; omega)
        have HRG2 := Lib.hid hrg2
        have HW2 := Lib.hid hw2
        have HOWN2 := Lib.hid hown2
        clear hrg2 hw2 hsz2 hown2 hgrow2 hnil2
        go_roundw
        case rel => exact ⟨_, cnt1, vs ++ [k], HO.out.add HE.out HAT.out hc, by rw [List.length_append, List.map_append]; exact HOWN2.out, by simp; omega, HRG2.out, HW2.out, HZ2.out⟩
        case measure => rw [HRG2.out.left_eq, HRL0.out]; exact hlt
      · go_wp2_with (first
          | (go_at_call 36; ((with_reducible refine (counts _ _ _ _).mono ?_); rintro e w' ⟨rfl, rfl⟩)))
        go_roundw
        case rel => exact ⟨_, cnt1, vs, HO.out.skip HE.out HAT.out (by omega), HR1.out.alloc _, by omega, HRG.out.alloc _, HW1.out.alloc (by omega) _, by simp; omega⟩
        case measure => rw [(HRG.out.alloc _).left_eq, HRL0.out]; exact hlt
def MayPost (gs : Gs) (v now : Int) (w : World) (e : Ending) (w' : World) : Prop := ∃ b, e = .returned (.bool b) ∧ MayIs gs v now b ∧ Below w.heap.size w w'
theorem may (w : World) (B g m : Nat) (gr gs : Gs) (v now : Int) (h : Bk w B g m gr gs) (hs : gs.length < 1000000) : Calls Try.prog 25 #[.pointer (some ⟨B, 0, none⟩), .int .i64 v, .int .i64 now] w (MayPost gs v now w) := by
  have HO := Lib.hid (oldest w B g m gr gs now h hs)
  clear h
  go_enter Try.func25, Try.ntmps25
  go_wp2_with (go_at_call 23; refine HO.out.mono ?_; rintro e w' ⟨x, ok, rfl, hx, hb⟩; have HX := Lib.hid (hx.may (v := v)); have HB := Lib.hid hb; clear hx hb)
  all_goals
    go_ret
    exact ⟨_, rfl, by have hh := HX.out; simpa [*] using hh, HB.out⟩
end Go.Proofs.Ytfadanmfelbfiaa.L
