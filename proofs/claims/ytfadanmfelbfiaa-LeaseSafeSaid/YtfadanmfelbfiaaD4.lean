/- LeaseSafe: what lies in memory while it runs. -/
import Derived.Test.YtfadanmfelbfiaaC2
namespace Go.Proofs.Ytfadanmfelbfiaa.L
open Go.RowKit Go.Maps Go.Proofs.YtfadanmfelbfiaaW.PrintWords Go.Proofs.YtfadanmfelbfiaaW.PrintLast Go.Proofs.YtfadanmfelbfiaaW.PrintMore
set_option linter.unusedVariables false
set_option linter.unusedSimpArgs false
/-- The cells of a row of leases. -/
def flat3 (l : List T3) : List Value := l.flatMap fun x => [.int .i64 x.1, .int .i64 x.2.1, .int .i64 x.2.2]
theorem flat3_at (l : List T3) : ∀ k, k < l.length → (flat3 l)[k * 3]? = some (.int .i64 (l.getD k (0, 0, 0)).1) ∧ (flat3 l)[k * 3 + 1]? = some (.int .i64 (l.getD k (0, 0, 0)).2.1) ∧ (flat3 l)[k * 3 + 2]? = some (.int .i64 (l.getD k (0, 0, 0)).2.2) := by
  induction l with
  | nil => intro k hk; simp at hk
  | cons p l ih =>
    intro k hk
    match k with
    | 0 => simp [flat3]
    | k + 1 =>
      have := ih k (by simpa using hk)
      unfold flat3 at this ⊢
      simp only [List.flatMap_cons, List.getD_cons_succ]
      rw [show (k + 1) * 3 = k * 3 + 1 + 1 + 1 from by omega, show k * 3 + 1 + 1 + 1 + 1 = (k * 3 + 1) + 1 + 1 + 1 from by omega, show k * 3 + 1 + 1 + 1 + 2 = (k * 3 + 2) + 1 + 1 + 1 from by omega]
      exact ⟨by simpa using this.1, by simpa using this.2.1, by simpa using this.2.2⟩
theorem flat3_append (l : List T3) (a b d : Int) : flat3 (l ++ [(a, b, d)]) = flat3 l ++ [.int .i64 a, .int .i64 b, .int .i64 d] := by simp [flat3]
theorem own3_cells {W : World} {bs n : Nat} {A : Option Addr} {c : Nat} {l : List T3} (h : W.ownsRow bs 45 3 (.slice A n c) l.length (flat3 l)) (k : Nat) (hk : k < l.length) :
    ∃ gg, A = some ⟨gg, 0, none⟩ ∧ W.cell? ⟨gg, k * 3, none⟩ = some (.int .i64 (l.getD k (0, 0, 0)).1) ∧ W.cell? ⟨gg, k * 3 + 1, none⟩ = some (.int .i64 (l.getD k (0, 0, 0)).2.1) ∧ W.cell? ⟨gg, k * 3 + 2, none⟩ = some (.int .i64 (l.getD k (0, 0, 0)).2.2) := by
  obtain ⟨h1, h2⟩ := h
  rcases h2 with ⟨e, h0⟩ | ⟨gg, cap, cur, e, hb, hg, hn, hc, hs, ht⟩
  · omega
  · obtain ⟨rfl, rfl, rfl⟩ : A = some ⟨gg, 0, none⟩ ∧ n = l.length ∧ c = cap := by injection e with a b c; exact ⟨a, b, c⟩
    refine ⟨gg, rfl, ?_⟩
    have hat : ∀ j v, (flat3 l)[j]? = some v → W.cell? ⟨gg, j, none⟩ = some v := fun j v hj => by
      rw [← ht, List.getElem?_take] at hj
      by_cases hjn : j < l.length * 3
      · rw [if_pos hjn] at hj
        simp [World.cell?, hg]
        simpa using hj
      · rw [if_neg hjn] at hj; cases hj
    obtain ⟨a1, a2, a3⟩ := flat3_at l k hk
    exact ⟨hat _ _ a1, hat _ _ a2, hat _ _ a3⟩
theorem info45 : (Try.prog.info? 45).map (fun i => (i.zero, i.size, i.bytes)) = some (some (.agg #[.int .i64 0, .int .i64 0, .int .i64 0]), 3, 24) := by kernel_rfl
structure Ss (w W : World) (B g m Bc gc bs : Nat) (gr gs : Gs) (ml : List Int) (s : Int) (n : Nat) (v15 : Value) (gv : List T3) : Prop extends St w W B g m Bc gc gr gs ml s where
  rb : RB gr
  r5 : gr.length = 5
  gb : GB gs
  cb : CB ml
  l5 : ml.length = 5
  s0 : 0 ≤ s
  s1 : s ≤ 1000
  tight : Tight ml s
  len : gs.length ≤ n
  base : B < bs ∧ g < bs ∧ m < bs ∧ Bc < bs ∧ gc < bs
  szb : bs ≤ W.heap.size
  own : W.ownsRow bs 45 3 v15 gv.length (flat3 gv)
  given : ∀ x ∈ gv, (x.2.1, x.2.2) ∈ gs ∧ 0 ≤ x.1 ∧ x.1 < 5
  glen : gv.length ≤ n
section
variable {w W W' : World} {B g m Bc gc bs : Nat} {gr gs : Gs} {ml : List Int} {s : Int} {n : Nat} {v15 : Value} {gv : List T3}
theorem Ss.below (H : Ss w W B g m Bc gc bs gr gs ml s n v15 gv) (hb : Below W.heap.size W W') : Ss w W' B g m Bc gc bs gr gs ml s n v15 gv :=
  { H with toSt := H.toSt.below hb, szb := Nat.le_trans H.szb hb.size, own := row_eq H.own (fun k hk => hb.block k (H.own.lt k hk).2) }
theorem ss_tick (H : Ss w W B g m Bc gc bs gr gs ml s n v15 gv) (a b : Int) (r : Bool) (l' : List Int) (ht : Tk ml s a b r l') :
    Calls Try.prog 11 #[.pointer (some ⟨Bc, 0, none⟩), .int .i64 a, .int .i64 b] W fun e W' => e = .returned (.bool r) ∧ Ss w W' B g m Bc gc bs gr gs l' s n v15 gv :=
  (tick W Bc gc ml s a b H.ck H.cb H.s0 H.s1).mono fun e W' ⟨r1, l1, he, ht1, hk, hb⟩ => by
    obtain ⟨rfl, rfl⟩ := ht1.unique ht
    have hc := ht.cb H.cb
    have hbase := H.base
    exact ⟨he, { H with toSt := H.toSt.clock hk hb, cb := hc.1, l5 := hc.2.trans H.l5, tight := ht.tight H.tight H.s0, szb := Nat.le_trans H.szb hb.size, own := row_eq H.own (fun k hk => hb.block k (H.own.lt k hk).2 (by have := (H.own.lt k hk).1; omega)) }⟩
theorem ss_give (H : Ss w W B g m Bc gc bs gr gs ml s n v15 gv) (hn : n < 1000000) (a v u : Int) (r : Bool) (gr' gs' : Gs) (hv : Gv gr gs a v u r gr' gs') :
    Calls Try.prog 19 #[.pointer (some ⟨B, 0, none⟩), .int .i64 a, .int .i64 v, .int .i64 u] W fun e W' => e = .returned (.bool r) ∧ Ss w W' B g m Bc gc bs gr' gs' ml s (n + 1) v15 gv :=
  (give W B g m gr gs a v u H.bk H.rb H.gb (Nat.lt_of_le_of_lt H.len hn)).mono fun e W' ⟨r1, gr1, gs1, he, hv1, hk, hb⟩ => by
    obtain ⟨rfl, rfl, rfl⟩ := hv1.unique hv
    have hkp := hv.keeps H.rb H.gb
    have hl := H.len
    have hgl := H.glen
    have hbase := H.base
    have hmem : ∀ p, p ∈ gs → p ∈ gs1 := fun p hp => by
      rcases hv with ⟨_, _, _, rfl⟩ | ⟨_, _, _, rfl⟩
      · exact List.mem_append_left _ hp
      · exact hp
    exact ⟨he, { H with toSt := H.toSt.book hk hb, rb := hkp.1, r5 := hkp.2.2.1.trans H.r5, gb := hkp.2.1, len := by omega, szb := Nat.le_trans H.szb hb.size, own := row_eq H.own (fun k hk => hb.block k (H.own.lt k hk).2 (by have := (H.own.lt k hk).1; omega)), given := fun x hx => ⟨hmem _ (H.given x hx).1, (H.given x hx).2⟩, glen := by omega }⟩
theorem ss_now (H : Ss w W B g m Bc gc bs gr gs ml s n v15 gv) (p x : Int) (hx : nowI ml p = x) :
    Calls Try.prog 13 #[.pointer (some ⟨Bc, 0, none⟩), .int .i64 p] W fun e W' => e = .returned (.int .i64 x) ∧ ∃ q, W' = W.drewN q :=
  (now W Bc gc ml s p H.ck H.cb.lo H.cb.hi).mono fun e W' ⟨he, hd⟩ => by
    rw [hx] at he
    exact ⟨he, hd.out⟩
theorem ss_nowB (H : Ss w W B g m Bc gc bs gr gs ml s n v15 gv) (p x : Int) (hx : nowI ml p = x) :
    Calls Try.prog 13 #[.pointer (some ⟨Bc, 0, none⟩), .int .i64 p] W fun e W' => e = .returned (.int .i64 x) ∧ Below W.heap.size W W' :=
  (ss_now H p x hx).mono fun e W' ⟨he, q, hq⟩ => ⟨he, by rw [hq]; exact below_drewN (Below.refl _ _) _⟩
theorem ss_may (H : Ss w W B g m Bc gc bs gr gs ml s n v15 gv) (hn : n < 1000000) (v now : Int) (c : Bool) (hx : MayIs gs v now c) :
    Calls Try.prog 25 #[.pointer (some ⟨B, 0, none⟩), .int .i64 v, .int .i64 now] W fun e W' => e = .returned (.bool c) ∧ Below W.heap.size W W' :=
  (may W B g m gr gs v now H.bk (Nat.lt_of_le_of_lt H.len hn)).mono fun e W' ⟨b1, he, hx1, hb⟩ => by
    obtain rfl := hx1.unique hx
    exact ⟨he, hb⟩
theorem ss_append (H : Ss w W B g m Bc gc bs gr gs ml s n v15 gv) {a b d : Int} {o : Obj} {v' : Value} (hg : (W.alloc o).grownBy W' v15.ownBlock) (ho : W'.ownsRow bs 45 3 v' (gv.length + 1) (flat3 gv ++ [.int .i64 a, .int .i64 b, .int .i64 d]))
    (hin : (b, d) ∈ gs ∧ 0 ≤ a ∧ a < 5) (hgl : gv.length + 1 ≤ n) : Ss w W' B g m Bc gc bs gr gs ml s n v' (gv ++ [(a, b, d)]) := by
  have hbase := H.base
  have hsz := hg.size
  have s1 : (W.alloc o).heap.size = W.heap.size + 1 := by simp
  have hblk : ∀ q, q < bs → W'.heap[q]? = W.heap[q]? := fun q hq => by
    have hlt : q < W.heap.size := Nat.lt_of_lt_of_le hq H.szb
    rw [hg.block q (by omega) (fun e => by have := (H.own.lt q e.symm).1; omega), heap_alloc_old _ _ hlt]
  have hgeb := H.ge
  have hbel : Below w.heap.size w W' := (H.bel.alloc H.bel.size o).grown hg (by rw [s1]; have := H.bel.size; omega) (fun k hk => by have := (H.own.lt k hk).1; omega)
  exact { H with
    bk := H.bk.of_eq (hblk _ hbase.1) (hblk _ hbase.2.1) (hblk _ hbase.2.2.1)
    ck := H.ck.of_eq (hblk _ hbase.2.2.2.1) (hblk _ hbase.2.2.2.2)
    bel := hbel
    szb := by have := H.szb; omega
    own := by rw [List.length_append, flat3_append]; exact ho
    given := fun x hx => by
      rcases List.mem_append.1 hx with hx | hx
      · exact H.given x hx
      · simp at hx; subst hx; exact hin
    glen := by simpa using hgl }
end
theorem tk_ex (l : List Int) (s n b : Int) : ∃ r l', Tk l s n b r l' := by
  by_cases h : TickOk l s n b
  · exact ⟨true, _, Or.inl ⟨h, rfl, rfl⟩⟩
  · exact ⟨false, _, Or.inr ⟨h, rfl, rfl⟩⟩
theorem gv_ex (gr gs : Gs) (n v u : Int) : ∃ r gr' gs', Gv gr gs n v u r gr' gs' := by
  by_cases h : GiveOk gr n v u
  · exact ⟨true, _, _, Or.inl ⟨h, rfl, rfl, rfl⟩⟩
  · exact ⟨false, _, _, Or.inr ⟨h, rfl, rfl, rfl⟩⟩
theorem gv_in {gr gs : Gs} {n v u : Int} {r : Bool} {a b : Gs} (h : Gv gr gs n v u r a b) (hr : r = true) (h5 : gr.length = 5) : (v, u) ∈ b ∧ 0 ≤ n ∧ n < 5 := by
  rcases h with ⟨⟨h0, h1, _⟩, _, _, rfl⟩ | ⟨_, rfl, _⟩
  · exact ⟨by simp, h0, by omega⟩
  · cases hr
theorem tight_rep5 (n : Nat) (s : Int) (h : 0 ≤ s) : Tight (List.replicate n 0) s := fun i k hi hk => by
  simp at hi hk
  simp [List.getD_eq_getElem?_getD, List.getElem?_replicate, hi, hk, h]
theorem ss_start {w w1 w2 w3 : World} {B g m Bc gc : Nat} {s : Int} (h3 : 0 ≤ s) (h4 : s ≤ 1000) (hb1 : Below w.heap.size w w1) (hbel : Below w1.heap.size w1 w2) (hbel2 : Below w2.heap.size w2 w3)
    (hBc : w1.heap.size ≤ Bc) (hgc : w1.heap.size ≤ gc) (hck : Clk 57 w2 Bc gc (List.replicate 5 0) s) (hB : w2.heap.size ≤ B) (hg : w2.heap.size ≤ g) (hm : w2.heap.size ≤ m) (hbk : Bk w3 B g m (List.replicate 5 (0, 0)) []) :
    Ss w (w3.alloc (.cells #[] 45)) B g m Bc gc w3.heap.size (List.replicate 5 (0, 0)) [] (List.replicate 5 0) s 0 (.slice (some ⟨w3.heap.size, 0, none⟩) 0 0) [] := by
  have hlt1 := lt_of_block hck.box
  have hlt2 := hck.row.lt
  have hz1 := hb1.size
  have hz2 := hbel.size
  have hz3 := hbel2.size
  have hl := hbk.lt
  have hlt1' : Bc < w3.heap.size := by omega
  have hlt2' : gc < w3.heap.size := by omega
  have t1 : St w (w3.alloc (.cells #[] 45)) B g m Bc gc (List.replicate 5 (0, 0)) [] (List.replicate 5 0) s :=
    ⟨hbk.below ((Below.refl _ _).alloc (Nat.le_refl _) _), hck.of_eq ((heap_alloc_old _ _ hlt1').trans (hbel2.block _ hlt1)) ((heap_alloc_old _ _ hlt2').trans (hbel2.block _ hlt2)), ((hb1.trans (hbel.mono hz1)).trans (hbel2.mono (by omega))).alloc (by omega) _, by omega, by omega⟩
  exact ⟨t1, rb_rep 5 (by omega) (by omega), by simp, a_gb0, cb_rep 5 (by omega) (by omega), by simp, h3, h4, tight_rep5 5 s h3, by simp, by omega, by simp, ⟨by simp [flat3], Or.inr ⟨w3.heap.size, 0, #[], rfl, Nat.le_refl _, heap_alloc_new _ _, by simp, by simp, by simp, by simp [flat3]⟩⟩, (fun x hx => by cases hx), by simp⟩
/-- Where the master's clock is at the end of a lease, it is valid by no clock. -/
theorem not_valid {ml : List Int} {s p a d : Int} (hl : ml.length = 5) (ht : Tight ml s) (hp : 0 ≤ p ∧ p ≤ 4) (ha : 0 ≤ a ∧ a < 5) (hd : d ≤ nowI ml p) : ValidB d (nowI ml a) s = false := by
  unfold nowI at *
  rw [if_pos (by omega)] at hd
  rw [if_pos (by omega)]
  have := ht p.toNat a.toNat (by omega) (by omega)
  simp only [ValidB, Bool.and_eq_false_iff, decide_eq_false_iff_not]
  right
  omega
end Go.Proofs.Ytfadanmfelbfiaa.L
