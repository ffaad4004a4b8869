/- Script: are two events one? -/
import Derived.Test.YtkogcobcjoojnaaGreatDoorPH
namespace Go.Proofs.YtkogcobcjoojnaaGreatDoor.Fl
open Go.RowKit Go.Maps
set_option linter.unusedVariables false
set_option linter.unusedSimpArgs false
theorem yl_all {P : Program} {ops : Array Oper} {S : World → Prop} {op : Oper} {a : Act} (hw : Region.wanted op (yielded ops a.tmps) = true) (ty : TypeId) (x : Operand) (ho : op.op = .load ty x)
    (b : Nat) (hx : a.eval x = .pointer (some ⟨b, 0, none⟩)) (T : TypeId) (cs : Array Value) (hS : ∀ w, S w → Bk b cs T w) (n : Nat) (hi : (P.info? ty).map (·.size) = some n) (hm : cs.size = n) (hu : ∃ d, P.underlying ty = some d ∧ d.isRow = true) : YieldsIf P ops S op (.agg cs) a := by
  obtain ⟨d, hu, hd⟩ := hu
  have := yieldsIf_load_mid (ops := ops) (S := S) hw ty x ho b 0 hx cs.toList d (fun w h j v hj => (hS w h).cell _ _ (by rw [Nat.zero_add]; simpa using hj)) hu hd (by rw [hi, ← hm]; simp)
  simpa using this
theorem yl_part {P : Program} {ops : Array Oper} {S : World → Prop} {op : Oper} {a : Act} (hw : Region.wanted op (yielded ops a.tmps) = true) (ty : TypeId) (x : Operand) (ho : op.op = .load ty x)
    (b o : Nat) (hx : a.eval x = .pointer (some ⟨b, o, none⟩)) (T : TypeId) (pre : List Value) (mid : Array Value) (post : List Value) (hS : ∀ w, S w → Bk b (pre ++ mid.toList ++ post).toArray T w) (hpo : pre.length = o) (n : Nat) (hi : (P.info? ty).map (·.size) = some n) (hm : mid.size = n) (hu : ∃ d, P.underlying ty = some d ∧ d.isRow = true) : YieldsIf P ops S op (.agg mid) a := by
  obtain ⟨d, hu, hd⟩ := hu
  subst hpo
  have := yieldsIf_load_mid (ops := ops) (S := S) hw ty x ho b pre.length hx mid.toList d (fun w h j v hj => (hS w h).cell _ _ (by
    have hl := (List.getElem?_eq_some_iff.1 hj).1
    rw [List.getElem?_toArray, List.append_assoc, List.getElem?_append_right (by omega), Nat.add_sub_cancel_left, List.getElem?_append_left hl]
    exact hj)) hu hd (by rw [hi, ← hm]; simp)
  simpa using this
theorem wp_store_all {P : Program} {o : Oper} {a : Act} {w : World} {K : Act → World → Prop} {Q : Exit → Act → World → Prop} (ty : TypeId) (x y : Operand) (ho : o.op = .store ty x y)
    (b : Nat) (cells : Array Value) (hx : a.eval x = .pointer (some ⟨b, 0, none⟩)) (hy : a.eval y = .agg cells)
    (T : TypeId) (cs : Array Value) (hg : Bk b cs T w) (n : Nat) (hi : (P.info? ty).map (·.size) = some n) (hn : cells.size = n) (hm : cs.size = n) (h1 : cells.all (·.oneCell') = true)
    (h : K (a.put o.dst undef) (w.setRow b cells)) : o.wp P a w K Q :=
  wp_store_row ty x y ho b cells hx hy T cs hg (by rw [hi, hn]) (by omega) h1 h
abbrev zQ : Array Value := #[.int .i64 0, .string ⟨#[]⟩, .string ⟨#[]⟩, .slice none 0 0, .string ⟨#[]⟩, .string ⟨#[]⟩, .int .i64 0, .int .i64 0, .string ⟨#[]⟩, .slice none 0 0, .string ⟨#[]⟩, .string ⟨#[]⟩, .int .i64 0, .int .i64 0, .int .i64 0, .int .i64 0]
/-- The state of 'same': both arguments' boxes, both requests'. -/
structure Sm (w : World) (A B X Y : Array Value) (p r : Nat) (W : World) : Prop where
  bel : Below w.heap.size w W
  a : Bk w.heap.size A 39 W
  b : Bk (w.heap.size + 1) B 39 W
  x : Bk p X 35 W
  y : Bk r Y 35 W
  np : w.heap.size + 1 + 1 ≤ p
  nr : w.heap.size + 1 + 1 ≤ r
  ne : p ≠ r
theorem Sm.next {w : World} {A B X Y : Array Value} {p r : Nat} {W W' : World} (h : Sm w A B X Y p r W) (hb : Below W.heap.size W W') : Sm w A B X Y p r W' :=
  ⟨h.bel.trans (hb.mono h.bel.size), h.a.next hb, h.b.next hb, h.x.next hb, h.y.next hb, h.np, h.nr, h.ne⟩
theorem zQ_one : zQ.all (·.oneCell') = true := qcells_one none 0 0 none 0 0 noReq
theorem zQ_n : zQ.size = 16 := rfl
theorem Sm.setA {w : World} {A B X Y A' : Array Value} {p r : Nat} {W : World} (h : Sm w A B X Y p r W) : Sm w A' B X Y p r (W.setRow w.heap.size A') :=
  ⟨below_row h.bel (Nat.le_refl _) _, h.a.row _, h.b.off (by omega) _, h.x.off (by have := h.np; omega) _, h.y.off (by have := h.nr; omega) _, h.np, h.nr, h.ne⟩
theorem Sm.setB {w : World} {A B X Y B' : Array Value} {p r : Nat} {W : World} (h : Sm w A B X Y p r W) : Sm w A B' X Y p r (W.setRow (w.heap.size + 1) B') :=
  ⟨below_row h.bel (by omega) _, h.a.off (by omega) _, h.b.row _, h.x.off (by have := h.np; omega) _, h.y.off (by have := h.nr; omega) _, h.np, h.nr, h.ne⟩
def NumEq (a b : EvE) : Prop := a.kind = b.kind ∧ a.node = b.node ∧ a.dst = b.dst ∧ a.log = b.log ∧ a.pos = b.pos ∧ a.by_ = b.by_ ∧ a.keep = b.keep ∧ a.client = b.client ∧ a.seq = b.seq ∧ a.stays = b.stays ∧ a.chg.kind = b.chg.kind ∧ a.chg.fam = b.chg.fam ∧ a.chg.qual = b.chg.qual ∧ a.chg.typ = b.chg.typ ∧ a.chg.group = b.chg.group ∧ a.chg.versions = b.chg.versions ∧ a.chg.life = b.chg.life
def FlatEq (a b : ReqE) : Prop := a.kind = b.kind ∧ a.fil.since = b.fil.since ∧ a.fil.til = b.fil.til ∧ a.fil.versions = b.fil.versions ∧ a.fil.rows = b.fil.rows ∧ a.row = b.row ∧ a.stop = b.stop ∧ a.fam = b.fam ∧ a.qual = b.qual ∧ a.fil.lo = b.fil.lo ∧ a.fil.hi = b.fil.hi ∧ a.vk = b.vk ∧ a.vn = b.vn ∧ a.vs = b.vs
theorem ev_eq {a b : EvE} (h1 : NumEq a b) (h2 : a.req.muts = b.req.muts) (h3 : a.req.fil.fams = b.req.fil.fams) (h4 : FlatEq a.req b.req) : a = b := by
  obtain ⟨k, n0, n1, n2, n3, n4, n5, n6, n7, st, ⟨qk, row, stop, ms, fam, qual, vk, vn, vs, ⟨fams, lo, up, s, t, v, rs⟩⟩, ⟨ck, cf, cq, ct, cg, cv, cl⟩⟩ := a
  obtain ⟨k', n0', n1', n2', n3', n4', n5', n6', n7', st', ⟨qk', row', stop', ms', fam', qual', vk', vn', vs', ⟨fams', lo', up', s', t', v', rs'⟩⟩, ⟨ck', cf', cq', ct', cg', cv', cl'⟩⟩ := b
  obtain ⟨rfl, rfl, rfl, rfl, rfl, rfl, rfl, rfl, rfl, rfl, rfl, rfl, rfl, rfl, rfl, rfl, rfl⟩ := h1
  obtain ⟨rfl, rfl, rfl, rfl, rfl, rfl, rfl, rfl, rfl, rfl, rfl, rfl, rfl, rfl⟩ := h4
  simp only at h2 h3
  subst h2
  subst h3
  rfl
theorem c_eqmutsB (v1 v2 : Value) (l1 l2 : List MutE) (b : Bool) (hb : b = true ↔ l1 = l2) (w : World) (h1 : HasM w v1 l1) (h2 : HasM w v2 l2) (hl1 : l1.length ≤ 1099511627776) (hl2 : l2.length ≤ 1099511627776) :
    Calls Tryz.prog 46 #[v1, v2] w fun e w' => e = .returned (.bool b) ∧ Below w.heap.size w w' :=
  (c_eqmuts v1 v2 l1 l2 w h1 h2 hl1 hl2).mono fun _ _ ⟨q, he, hq, hbl⟩ => ⟨by rw [he, show q = b from Bool.eq_iff_iff.2 (hq.trans hb.symm)], hbl⟩
theorem c_eqtextsB (v1 v2 : Value) (l1 l2 : List ByteArray) (b : Bool) (hb : b = true ↔ l1 = l2) (w : World) (h1 : HasS w v1 l1) (h2 : HasS w v2 l2) (hl1 : l1.length ≤ 1099511627776) (hl2 : l2.length ≤ 1099511627776) :
    Calls Tryz.prog 47 #[v1, v2] w fun e w' => e = .returned (.bool b) ∧ Below w.heap.size w w' :=
  (c_eqtexts v1 v2 l1 l2 w h1 h2 hl1 hl2).mono fun _ _ ⟨q, he, hq, hbl⟩ => ⟨by rw [he, show q = b from Bool.eq_iff_iff.2 (hq.trans hb.symm)], hbl⟩
theorem num_self {a b : EvE} (h : a = b) : NumEq a b := by subst h; exact ⟨rfl, rfl, rfl, rfl, rfl, rfl, rfl, rfl, rfl, rfl, rfl, rfl, rfl, rfl, rfl, rfl, rfl⟩
theorem flat_self {a b : EvE} (h : a = b) : FlatEq a.req b.req := by subst h; exact ⟨rfl, rfl, rfl, rfl, rfl, rfl, rfl, rfl, rfl, rfl, rfl, rfl, rfl, rfl⟩
set_option maxRecDepth 100000 in
set_option maxHeartbeats 8000000 in
theorem c_esame {w : World} (ma : Option Addr) (mn mc : Nat) (fa : Option Addr) (fn fc : Nat) (ma2 : Option Addr) (mn2 mc2 : Nat) (fa2 : Option Addr) (fn2 fc2 : Nat) (a b : EvE)
    (hm1 : HasM w (.slice ma mn mc) a.req.muts) (hm2 : HasM w (.slice ma2 mn2 mc2) b.req.muts) (hf1 : HasS w (.slice fa fn fc) a.req.fil.fams) (hf2 : HasS w (.slice fa2 fn2 fc2) b.req.fil.fams) (l1 : a.req.muts.length ≤ 1099511627776) (l2 : b.req.muts.length ≤ 1099511627776) (l3 : a.req.fil.fams.length ≤ 1099511627776) (l4 : b.req.fil.fams.length ≤ 1099511627776) (q0 : Bool) (hq0 : q0 = true ↔ a = b) :
    Calls Tryz.prog 22 #[.agg (ecells (.slice ma mn mc) (.slice fa fn fc) a), .agg (ecells (.slice ma2 mn2 mc2) (.slice fa2 fn2 fc2) b)] w fun e w' => e = .returned (.bool q0) ∧ Below w.heap.size w w' := by
  have HQ0 := Lib.hid hq0
  clear hq0
  have HM := Lib.hid (And.intro hm1 (And.intro hm2 (And.intro hf1 hf2)))
  have HLL := Lib.hid (And.intro l1 (And.intro l2 (And.intro l3 l4)))
  clear hm1 hm2 hf1 hf2 l1 l2 l3 l4
  obtain ⟨W1, hW1⟩ : ∃ W, w.alloc (.cells (ecells (.slice ma mn mc) (.slice fa fn fc) a) 39) = W := ⟨_, rfl⟩
  have hs1 : W1.heap.size = w.heap.size + 1 := by rw [← hW1]; show (w.heap.push _).size = _; simp
  have hb1 : Below w.heap.size w W1 := hW1 ▸ below_box _ _
  have hk1 : Bk w.heap.size (ecells (.slice ma mn mc) (.slice fa fn fc) a) 39 W1 := hW1 ▸ Bk.new _ _ _
  obtain ⟨W2, hW2⟩ : ∃ W, W1.alloc (.cells (ecells (.slice ma2 mn2 mc2) (.slice fa2 fn2 fc2) b) 39) = W := ⟨_, rfl⟩
  have hn2 : Below W1.heap.size W1 W2 := hW2 ▸ below_box (w := W1) (ecells (.slice ma2 mn2 mc2) (.slice fa2 fn2 fc2) b) 39
  have HA2 := Lib.hid ((hk1.next hn2).next (Below.refl _ _).drew)
  have HB2 := Lib.hid ((show Bk (w.heap.size + 1) (ecells (.slice ma2 mn2 mc2) (.slice fa2 fn2 fc2) b) 39 W2 by rw [← hs1]; exact hW2 ▸ Bk.new W1 (ecells (.slice ma2 mn2 mc2) (.slice fa2 fn2 fc2) b) 39).next (Below.refl _ _).drew)
  have HL2 := Lib.hid ((hb1.trans (hn2.mono hb1.size)).drew)
  clear hk1 hn2 hb1
  go_enter Tryz.func22, Tryz.ntmps22
  go_wp2_with fail
  go_cut [5, 6] (fun v5 v6 W => ∃ p r, v5 = .pointer (some ⟨p, 0, none⟩) ∧ v6 = .pointer (some ⟨r, 0, none⟩) ∧ Hid (Sm w (ecells (.slice ma mn mc) (.slice fa fn fc) a) (ecells (.slice ma2 mn2 mc2) (.slice fa2 fn2 fc2) b) (qcells (.slice ma mn mc) (.slice fa fn fc) a.req) (qcells (.slice ma2 mn2 mc2) (.slice fa2 fn2 fc2) b.req) p r W))
  case first =>
    have szQ := szQ
    have hSA : ∀ X, (Bk w.heap.size (ecells (.slice ma mn mc) (.slice fa fn fc) a) 39 X ∧ Bk (w.heap.size + 1) (ecells (.slice ma2 mn2 mc2) (.slice fa2 fn2 fc2) b) 39 X ∧ Below w.heap.size w X) → Bk w.heap.size (eHead a ++ (qcells (.slice ma mn mc) (.slice fa fn fc) a.req).toList ++ (ccells a.chg).toList).toArray 39 X := fun X h => h.1
    have hSB : ∀ X, (Bk w.heap.size (ecells (.slice ma mn mc) (.slice fa fn fc) a) 39 X ∧ Bk (w.heap.size + 1) (ecells (.slice ma2 mn2 mc2) (.slice fa2 fn2 fc2) b) 39 X ∧ Below w.heap.size w X) → Bk (w.heap.size + 1) (eHead b ++ (qcells (.slice ma2 mn2 mc2) (.slice fa2 fn2 fc2) b.req).toList ++ (ccells b.chg).toList).toArray 39 X := fun X h => h.2.1
    refine wp_region_held_drew (S := fun X => Bk w.heap.size (ecells (.slice ma mn mc) (.slice fa fn fc) a) 39 X ∧ Bk (w.heap.size + 1) (ecells (.slice ma2 mn2 mc2) (.slice fa2 fn2 fc2) b) 39 X ∧ Below w.heap.size w X) (by kernel_rfl) ⟨HA2.out, HB2.out, HL2.out⟩ (fun hHeld => ?_)
    refine tk 0 (v := ?v_1) ?y1 ?_; (case y1 => (refine Or.inl ⟨by rfl, ?_⟩; intro w hSw; go_simp; first | done | with_reducible rfl)); (try simp only [Act.put, List.setIfInBounds_toArray, List.set_cons_zero, List.set_cons_succ])
    refine tk 1 (v := .agg (qcells (.slice ma mn mc) (.slice fa fn fc) a.req)) ?y2 ?_; (case y2 => exact yl_part (by rfl) 35 _ rfl w.heap.size 10 rfl 39 (eHead a) (qcells (.slice ma mn mc) (.slice fa fn fc) a.req) (ccells a.chg).toList hSA (nH _) 16 szQ (nQ _ _ _) ruQ); (try simp only [Act.put, List.setIfInBounds_toArray, List.set_cons_zero, List.set_cons_succ])
    refine tk 2 (v := ?v_3) ?y3 ?_; (case y3 => (refine Or.inl ⟨by rfl, ?_⟩; intro w hSw; go_simp; first | done | with_reducible rfl)); (try simp only [Act.put, List.setIfInBounds_toArray, List.set_cons_zero, List.set_cons_succ])
    refine tk 3 (v := .agg (qcells (.slice ma2 mn2 mc2) (.slice fa2 fn2 fc2) b.req)) ?y4 ?_; (case y4 => exact yl_part (by rfl) 35 _ rfl (w.heap.size + 1) 10 rfl 39 (eHead b) (qcells (.slice ma2 mn2 mc2) (.slice fa2 fn2 fc2) b.req) (ccells b.chg).toList hSB (nH _) 16 szQ (nQ _ _ _) ruQ); (try simp only [Act.put, List.setIfInBounds_toArray, List.set_cons_zero, List.set_cons_succ])
    obtain ⟨HA0, HB0, HL0⟩ := hHeld
    generalize W2.drew = X0 at *
    refine wpAnyH_ready (rs := [4, 5]) (by kernel_rfl) (by simp) ?_
    refine AllReadyH.cons (o := ?o_5_0) ?hi_5_0 (fun K hK => ?m_5_0) (AllReadyH.cons (o := ?o_5_1) ?hi_5_1 (fun K hK => ?m_5_1) (AllReadyH.nil))
    case hi_5_0 => (simp only [List.getElem?_toArray, List.getElem?_cons_zero, List.getElem?_cons_succ]; rfl)
    case hi_5_1 => (simp only [List.getElem?_toArray, List.getElem?_cons_zero, List.getElem?_cons_succ]; rfl)
    case m_5_0 =>
      go_simp
      have hb1 := below_box (w := X0) zQ 35
      obtain ⟨X1, hX1⟩ : ∃ X, X0.alloc (.cells zQ 35) = X := ⟨_, rfl⟩
      have Hp1 : Bk X0.heap.size zQ 35 X1 := hX1 ▸ Bk.new X0 zQ 35
      rw [hX1] at hb1 ⊢
      have HA1 := HA0.next hb1
      have HB1 := HB0.next hb1
      have HL1 := HL0.trans (hb1.mono HL0.size)
      have hsp := HB0.lt
      generalize hGp : X0.heap.size = p at *
      clear hX1 hb1
      refine hK.out _ _ ⟨HA1, HB1, HL1⟩ (fun hHeld => ?_)
      clear hK K
      (try simp only [Act.put, List.setIfInBounds_toArray, List.set_cons_zero, List.set_cons_succ])
      refine wpAnyH_ready (rs := [5]) (by kernel_rfl) (by simp) ?_
      refine AllReadyH.cons (o := ?o_6_0) ?hi_6_0 (fun K hK => ?m_6_0) (AllReadyH.nil)
      case hi_6_0 => (simp only [List.getElem?_toArray, List.getElem?_cons_zero, List.getElem?_cons_succ]; rfl)
      case m_6_0 =>
        go_simp
        have hb2 := below_box (w := X1) zQ 35
        obtain ⟨X2, hX2⟩ : ∃ X, X1.alloc (.cells zQ 35) = X := ⟨_, rfl⟩
        have Hr2 : Bk X1.heap.size zQ 35 X2 := hX2 ▸ Bk.new X1 zQ 35
        rw [hX2] at hb2 ⊢
        have HA2 := HA1.next hb2
        have HB2 := HB1.next hb2
        have HL2 := HL1.trans (hb2.mono HL1.size)
        have Hp2 := Hp1.next hb2
        have hsr := HB1.lt
        have her := Hp1.lt
        generalize hGr : X1.heap.size = r at *
        clear hX2 hb2
        refine hK.out _ _ ⟨HA2, HB2, HL2⟩ (fun hHeld => ?_)
        clear hK K
        (try simp only [Act.put, List.setIfInBounds_toArray, List.set_cons_zero, List.set_cons_succ])
        refine wpAnyH_ready (rs := [6]) (by kernel_rfl) (by simp) ?_
        refine AllReadyH.cons (o := ?o_7_0) ?hi_7_0 (fun K hK => ?m_7_0) (AllReadyH.nil)
        case hi_7_0 => (simp only [List.getElem?_toArray, List.getElem?_cons_zero, List.getElem?_cons_succ]; rfl)
        case m_7_0 =>
          rw [if_pos (by rfl)]
          refine wp_store_all 35 _ _ rfl p (qcells (.slice ma mn mc) (.slice fa fn fc) a.req) rfl rfl 35 _ Hp2 16 szQ (nQ _ _ _) rfl (qcells_one _ _ _ _ _ _ _) ?_
          have Hp3 := Hp2.row (qcells (.slice ma mn mc) (.slice fa fn fc) a.req)
          have HA3 := HA2.off (show p ≠ w.heap.size by omega) (qcells (.slice ma mn mc) (.slice fa fn fc) a.req)
          have HB3 := HB2.off (show p ≠ w.heap.size + 1 by omega) (qcells (.slice ma mn mc) (.slice fa fn fc) a.req)
          have HL3 := below_row HL2 (show w.heap.size ≤ p by omega) (qcells (.slice ma mn mc) (.slice fa fn fc) a.req)
          have Hr3 := Hr2.off (show p ≠ r by omega) (qcells (.slice ma mn mc) (.slice fa fn fc) a.req)
          generalize X2.setRow p _ = X3 at *
          refine hK.out _ _ ⟨HA3, HB3, HL3⟩ (fun hHeld => ?_)
          clear hK K
          (try simp only [Act.put, List.setIfInBounds_toArray, List.set_cons_zero, List.set_cons_succ])
          refine wpAnyH_ready (rs := [7]) (by kernel_rfl) (by simp) ?_
          refine AllReadyH.cons (o := ?o_8_0) ?hi_8_0 (fun K hK => ?m_8_0) (AllReadyH.nil)
          case hi_8_0 => (simp only [List.getElem?_toArray, List.getElem?_cons_zero, List.getElem?_cons_succ]; rfl)
          case m_8_0 =>
            rw [if_pos (by rfl)]
            refine wp_store_all 35 _ _ rfl r (qcells (.slice ma2 mn2 mc2) (.slice fa2 fn2 fc2) b.req) rfl rfl 35 _ Hr3 16 szQ (nQ _ _ _) rfl (qcells_one _ _ _ _ _ _ _) ?_
            have Hr4 := Hr3.row (qcells (.slice ma2 mn2 mc2) (.slice fa2 fn2 fc2) b.req)
            have HA4 := HA3.off (show r ≠ w.heap.size by omega) (qcells (.slice ma2 mn2 mc2) (.slice fa2 fn2 fc2) b.req)
            have HB4 := HB3.off (show r ≠ w.heap.size + 1 by omega) (qcells (.slice ma2 mn2 mc2) (.slice fa2 fn2 fc2) b.req)
            have HL4 := below_row HL3 (show w.heap.size ≤ r by omega) (qcells (.slice ma2 mn2 mc2) (.slice fa2 fn2 fc2) b.req)
            have Hp4 := Hp3.off (show r ≠ p by omega) (qcells (.slice ma2 mn2 mc2) (.slice fa2 fn2 fc2) b.req)
            generalize X3.setRow r _ = X4 at *
            refine hK.out _ _ ⟨HA4, HB4, HL4⟩ (fun hHeld => ?_)
            clear hK K
            (try simp only [Act.put, List.setIfInBounds_toArray, List.set_cons_zero, List.set_cons_succ])
            refine wpAnyH_done (by kernel_rfl) ?_ _
            go_wp2_with fail
            go_meet
            case rel => exact ⟨p, r, rfl, rfl, Lib.hid ⟨HL4, HA4, HB4, Hp4, Hr4, by omega, by omega, by omega⟩⟩
    case m_5_1 =>
      go_simp
      have hb5 := below_box (w := X0) zQ 35
      obtain ⟨X5, hX5⟩ : ∃ X, X0.alloc (.cells zQ 35) = X := ⟨_, rfl⟩
      have Hr5 : Bk X0.heap.size zQ 35 X5 := hX5 ▸ Bk.new X0 zQ 35
      rw [hX5] at hb5 ⊢
      have HA5 := HA0.next hb5
      have HB5 := HB0.next hb5
      have HL5 := HL0.trans (hb5.mono HL0.size)
      have hsr := HB0.lt
      generalize hGr : X0.heap.size = r at *
      clear hX5 hb5
      refine hK.out _ _ ⟨HA5, HB5, HL5⟩ (fun hHeld => ?_)
      clear hK K
      (try simp only [Act.put, List.setIfInBounds_toArray, List.set_cons_zero, List.set_cons_succ])
      refine wpAnyH_ready (rs := [4]) (by kernel_rfl) (by simp) ?_
      refine AllReadyH.cons (o := ?o_9_0) ?hi_9_0 (fun K hK => ?m_9_0) (AllReadyH.nil)
      case hi_9_0 => (simp only [List.getElem?_toArray, List.getElem?_cons_zero, List.getElem?_cons_succ]; rfl)
      case m_9_0 =>
        go_simp
        have hb6 := below_box (w := X5) zQ 35
        obtain ⟨X6, hX6⟩ : ∃ X, X5.alloc (.cells zQ 35) = X := ⟨_, rfl⟩
        have Hp6 : Bk X5.heap.size zQ 35 X6 := hX6 ▸ Bk.new X5 zQ 35
        rw [hX6] at hb6 ⊢
        have HA6 := HA5.next hb6
        have HB6 := HB5.next hb6
        have HL6 := HL5.trans (hb6.mono HL5.size)
        have Hr6 := Hr5.next hb6
        have hsp := HB5.lt
        have hep := Hr5.lt
        generalize hGp : X5.heap.size = p at *
        clear hX6 hb6
        refine hK.out _ _ ⟨HA6, HB6, HL6⟩ (fun hHeld => ?_)
        clear hK K
        (try simp only [Act.put, List.setIfInBounds_toArray, List.set_cons_zero, List.set_cons_succ])
        refine wpAnyH_ready (rs := [6]) (by kernel_rfl) (by simp) ?_
        refine AllReadyH.cons (o := ?o_10_0) ?hi_10_0 (fun K hK => ?m_10_0) (AllReadyH.nil)
        case hi_10_0 => (simp only [List.getElem?_toArray, List.getElem?_cons_zero, List.getElem?_cons_succ]; rfl)
        case m_10_0 =>
          rw [if_pos (by rfl)]
          refine wp_store_all 35 _ _ rfl p (qcells (.slice ma mn mc) (.slice fa fn fc) a.req) rfl rfl 35 _ Hp6 16 szQ (nQ _ _ _) rfl (qcells_one _ _ _ _ _ _ _) ?_
          have Hp7 := Hp6.row (qcells (.slice ma mn mc) (.slice fa fn fc) a.req)
          have HA7 := HA6.off (show p ≠ w.heap.size by omega) (qcells (.slice ma mn mc) (.slice fa fn fc) a.req)
          have HB7 := HB6.off (show p ≠ w.heap.size + 1 by omega) (qcells (.slice ma mn mc) (.slice fa fn fc) a.req)
          have HL7 := below_row HL6 (show w.heap.size ≤ p by omega) (qcells (.slice ma mn mc) (.slice fa fn fc) a.req)
          have Hr7 := Hr6.off (show p ≠ r by omega) (qcells (.slice ma mn mc) (.slice fa fn fc) a.req)
          generalize X6.setRow p _ = X7 at *
          refine hK.out _ _ ⟨HA7, HB7, HL7⟩ (fun hHeld => ?_)
          clear hK K
          (try simp only [Act.put, List.setIfInBounds_toArray, List.set_cons_zero, List.set_cons_succ])
          refine wpAnyH_ready (rs := [7]) (by kernel_rfl) (by simp) ?_
          refine AllReadyH.cons (o := ?o_11_0) ?hi_11_0 (fun K hK => ?m_11_0) (AllReadyH.nil)
          case hi_11_0 => (simp only [List.getElem?_toArray, List.getElem?_cons_zero, List.getElem?_cons_succ]; rfl)
          case m_11_0 =>
            rw [if_pos (by rfl)]
            refine wp_store_all 35 _ _ rfl r (qcells (.slice ma2 mn2 mc2) (.slice fa2 fn2 fc2) b.req) rfl rfl 35 _ Hr7 16 szQ (nQ _ _ _) rfl (qcells_one _ _ _ _ _ _ _) ?_
            have Hr8 := Hr7.row (qcells (.slice ma2 mn2 mc2) (.slice fa2 fn2 fc2) b.req)
            have HA8 := HA7.off (show r ≠ w.heap.size by omega) (qcells (.slice ma2 mn2 mc2) (.slice fa2 fn2 fc2) b.req)
            have HB8 := HB7.off (show r ≠ w.heap.size + 1 by omega) (qcells (.slice ma2 mn2 mc2) (.slice fa2 fn2 fc2) b.req)
            have HL8 := below_row HL7 (show w.heap.size ≤ r by omega) (qcells (.slice ma2 mn2 mc2) (.slice fa2 fn2 fc2) b.req)
            have Hp8 := Hp7.off (show r ≠ p by omega) (qcells (.slice ma2 mn2 mc2) (.slice fa2 fn2 fc2) b.req)
            generalize X7.setRow r _ = X8 at *
            refine hK.out _ _ ⟨HA8, HB8, HL8⟩ (fun hHeld => ?_)
            clear hK K
            (try simp only [Act.put, List.setIfInBounds_toArray, List.set_cons_zero, List.set_cons_succ])
            refine wpAnyH_done (by kernel_rfl) ?_ _
            go_wp2_with fail
            go_meet
            case rel => exact ⟨p, r, rfl, rfl, Lib.hid ⟨HL8, HA8, HB8, Hp8, Hr8, by omega, by omega, by omega⟩⟩
  case rest =>
    obtain ⟨p, r, rfl, rfl, HS0⟩ := hcut
    clear HA2 HB2 HL2 hW1 hW2 hs1
    have szQ := szQ
    have KB : ∀ {X}, Hid (Sm w (eHead a ++ zQ.toList ++ (ccells a.chg).toList).toArray (ecells (.slice ma2 mn2 mc2) (.slice fa2 fn2 fc2) b) (qcells (.slice ma mn mc) (.slice fa fn fc) a.req) (qcells (.slice ma2 mn2 mc2) (.slice fa2 fn2 fc2) b.req) p r X) → Bk (w.heap.size + 1) (eHead b ++ (qcells (.slice ma2 mn2 mc2) (.slice fa2 fn2 fc2) b.req).toList ++ (ccells b.chg).toList).toArray 39 X := fun h => h.out.b
    have HSa := Lib.hid (show Bk w.heap.size (eHead a ++ (qcells (.slice ma mn mc) (.slice fa fn fc) a.req).toList ++ (ccells a.chg).toList).toArray 39 wc from HS0.out.a)
    go_wp2_with (first | (with_reducible show wpList _ _ _ ({ dst := _, op := Op.store _ _ _, type := _, pos := _, after := _, guard := _ } :: _) _ _; refine wpList_store_part rfl 35 _ _ rfl w.heap.size 10 zQ rfl rfl 39 (eHead a) (qcells (.slice ma mn mc) (.slice fa fn fc) a.req).toList (ccells a.chg).toList HSa.out (nH _) 16 szQ zQ_n (nQl _ _ _) zQ_one ?_; have HS1 := Lib.hid (HS0.out.setA (A' := (eHead a ++ zQ.toList ++ (ccells a.chg).toList).toArray)); generalize World.setRow _ w.heap.size _ = Wa at HS1 ⊢; clear HSa HS0; have HSb := Lib.hid (KB HS1)) | (with_reducible show wpList _ _ _ ({ dst := _, op := Op.store _ _ _, type := _, pos := _, after := _, guard := _ } :: _) _ _; refine wpList_store_part rfl 35 _ _ rfl (w.heap.size + 1) 10 zQ rfl rfl 39 (eHead b) (qcells (.slice ma2 mn2 mc2) (.slice fa2 fn2 fc2) b.req).toList (ccells b.chg).toList HSb.out (nH _) 16 szQ zQ_n (nQl _ _ _) zQ_one ?_; have HS2 := Lib.hid (HS1.out.setB (B' := (eHead b ++ zQ.toList ++ (ccells b.chg).toList).toArray)); generalize World.setRow _ (w.heap.size + 1) _ = Wb at HS2 ⊢; clear HSb HS1))
    have HS3 := Lib.hid (show Sm w (eHead a ++ zQ.toList ++ (ccells a.chg).toList).toArray (eHead b ++ zQ.toList ++ (ccells b.chg).toList).toArray (qcells (.slice ma mn mc) (.slice fa fn fc) a.req) (qcells (.slice ma2 mn2 mc2) (.slice fa2 fn2 fc2) b.req) p r Wb.drew from HS2.out.next (Below.refl _ _).drew)
    clear HS2
    generalize hG : Wb.drew = W3 at HS3
    have CP1 := Lib.hid (show ∀ W, Calls Tryz.prog 45 #[.agg (eHead a ++ zQ.toList ++ (ccells a.chg).toList).toArray] W fun e w' => e = .returned (.agg (ncells a)) ∧ Below W.heap.size W w' from fun W => c_nplain none 0 0 none 0 0 { a with req := noReq })
    have CP2 := Lib.hid (show ∀ W, Calls Tryz.prog 45 #[.agg (eHead b ++ zQ.toList ++ (ccells b.chg).toList).toArray] W fun e w' => e = .returned (.agg (ncells b)) ∧ Below W.heap.size W w' from fun W => c_nplain none 0 0 none 0 0 { b with req := noReq })
    have CF1 := Lib.hid (fun W => c_nflat (w := W) ma mn mc fa fn fc a.req)
    have CF2 := Lib.hid (fun W => c_nflat (w := W) ma2 mn2 mc2 fa2 fn2 fc2 b.req)
    have CM := Lib.hid (fun b0 hb0 W (h : Below w.heap.size w W) => c_eqmutsB (.slice ma mn mc) (.slice ma2 mn2 mc2) a.req.muts b.req.muts b0 hb0 W (HM.out.1.keep h) (HM.out.2.1.keep h) HLL.out.1 HLL.out.2.1)
    have CT := Lib.hid (fun b0 hb0 W (h : Below w.heap.size w W) => c_eqtextsB (.slice fa fn fc) (.slice fa2 fn2 fc2) a.req.fil.fams b.req.fil.fams b0 hb0 W (HM.out.2.2.1.keep h) (HM.out.2.2.2.keep h) HLL.out.2.2.1 HLL.out.2.2.2)
    have hSA : ∀ X, Sm w (eHead a ++ zQ.toList ++ (ccells a.chg).toList).toArray (eHead b ++ zQ.toList ++ (ccells b.chg).toList).toArray (qcells (.slice ma mn mc) (.slice fa fn fc) a.req) (qcells (.slice ma2 mn2 mc2) (.slice fa2 fn2 fc2) b.req) p r X → Bk w.heap.size (eHead a ++ zQ.toList ++ (ccells a.chg).toList).toArray 39 X := fun X h => h.a
    have hSB : ∀ X, Sm w (eHead a ++ zQ.toList ++ (ccells a.chg).toList).toArray (eHead b ++ zQ.toList ++ (ccells b.chg).toList).toArray (qcells (.slice ma mn mc) (.slice fa fn fc) a.req) (qcells (.slice ma2 mn2 mc2) (.slice fa2 fn2 fc2) b.req) p r X → Bk (w.heap.size + 1) (eHead b ++ zQ.toList ++ (ccells b.chg).toList).toArray 39 X := fun X h => h.b
    have hSX : ∀ X, Sm w (eHead a ++ zQ.toList ++ (ccells a.chg).toList).toArray (eHead b ++ zQ.toList ++ (ccells b.chg).toList).toArray (qcells (.slice ma mn mc) (.slice fa fn fc) a.req) (qcells (.slice ma2 mn2 mc2) (.slice fa2 fn2 fc2) b.req) p r X → Bk p (qcells (.slice ma mn mc) (.slice fa fn fc) a.req) 35 X := fun X h => h.x
    have hSY : ∀ X, Sm w (eHead a ++ zQ.toList ++ (ccells a.chg).toList).toArray (eHead b ++ zQ.toList ++ (ccells b.chg).toList).toArray (qcells (.slice ma mn mc) (.slice fa fn fc) a.req) (qcells (.slice ma2 mn2 mc2) (.slice fa2 fn2 fc2) b.req) p r X → Bk r (qcells (.slice ma2 mn2 mc2) (.slice fa2 fn2 fc2) b.req) 35 X := fun X h => h.y
    obtain ⟨q1, hq1, he1⟩ := eq_nums a b
    have HE1 := Lib.hid he1
    obtain ⟨q4, hq4, he4⟩ := eq_parts a.req b.req
    have HE4 := Lib.hid he4
    clear he1 he4
    cases q1
    case false =>
      refine wp_region_held_drew (S := fun X => Sm w (eHead a ++ zQ.toList ++ (ccells a.chg).toList).toArray (eHead b ++ zQ.toList ++ (ccells b.chg).toList).toArray (qcells (.slice ma mn mc) (.slice fa fn fc) a.req) (qcells (.slice ma2 mn2 mc2) (.slice fa2 fn2 fc2) b.req) p r X) (by kernel_rfl) (by rw [hG]; exact HS3.out) (fun hHeld => ?_)
      rw [hG]
      refine tk 0 (v := .agg (eHead a ++ zQ.toList ++ (ccells a.chg).toList).toArray) ?y12 ?_; (case y12 => exact yl_all (by rfl) 39 _ rfl w.heap.size rfl 39 (eHead a ++ zQ.toList ++ (ccells a.chg).toList).toArray hSA 33 szE rfl ruE); (try simp only [Act.put, List.setIfInBounds_toArray, List.set_cons_zero, List.set_cons_succ])
      refine tk 2 (v := .agg (eHead b ++ zQ.toList ++ (ccells b.chg).toList).toArray) ?y13 ?_; (case y13 => exact yl_all (by rfl) 39 _ rfl (w.heap.size + 1) rfl 39 (eHead b ++ zQ.toList ++ (ccells b.chg).toList).toArray hSB 33 szE rfl ruE); (try simp only [Act.put, List.setIfInBounds_toArray, List.set_cons_zero, List.set_cons_succ])
      refine wpAnyH_ready (rs := [1]) (by kernel_rfl) (by simp) ?_; refine AllReadyH.cons (o := ?o_14) ?hi_14 (fun K hK => ?_) AllReadyH.nil; (case hi_14 => (simp only [List.getElem?_toArray, List.getElem?_cons_zero, List.getElem?_cons_succ]; rfl)); go_simp; (go_at_call 45; (refine (CP1.out _).mono ?_; rintro e w4 ⟨rfl, hb⟩; have HS4 := Lib.hid (HS3.out.next hb); clear hb)); refine hK.out _ _ ?_ (fun hHeld => ?_); (· exact HS4.out); clear hK K; (try simp only [Act.put, List.setIfInBounds_toArray, List.set_cons_zero, List.set_cons_succ])
      refine wpAnyH_ready (rs := [3]) (by kernel_rfl) (by simp) ?_; refine AllReadyH.cons (o := ?o_15) ?hi_15 (fun K hK => ?_) AllReadyH.nil; (case hi_15 => (simp only [List.getElem?_toArray, List.getElem?_cons_zero, List.getElem?_cons_succ]; rfl)); go_simp; (go_at_call 45; (refine (CP2.out _).mono ?_; rintro e w5 ⟨rfl, hb⟩; have HS5 := Lib.hid (HS4.out.next hb); clear hb)); refine hK.out _ _ ?_ (fun hHeld => ?_); (· exact HS5.out); clear hK K; (try simp only [Act.put, List.setIfInBounds_toArray, List.set_cons_zero, List.set_cons_succ])
      refine tk 4 (v := ?v_16) ?y16 ?_; (case y16 => (refine Or.inl ⟨by rfl, ?_⟩; intro w hSw; go_simp; first | done | with_reducible rfl)); (try simp only [Act.put, List.setIfInBounds_toArray, List.set_cons_zero, List.set_cons_succ])
      refine tk 5 (v := ?v_17) ?y17 ?_; (case y17 => (refine Or.inl ⟨by rfl, ?_⟩; intro w hSw; go_simp; first | done | with_reducible rfl)); (try simp only [Act.put, List.setIfInBounds_toArray, List.set_cons_zero, List.set_cons_succ])
      refine tk 6 (v := undef) ?y18 ?_; (case y18 => exact Or.inr ⟨by rfl, rfl⟩); (try simp only [Act.put, List.setIfInBounds_toArray, List.set_cons_zero, List.set_cons_succ])
      refine tk 7 (v := undef) ?y19 ?_; (case y19 => exact Or.inr ⟨by rfl, rfl⟩); (try simp only [Act.put, List.setIfInBounds_toArray, List.set_cons_zero, List.set_cons_succ])
      refine tk 8 (v := undef) ?y20 ?_; (case y20 => exact Or.inr ⟨by rfl, rfl⟩); (try simp only [Act.put, List.setIfInBounds_toArray, List.set_cons_zero, List.set_cons_succ])
      refine tk 9 (v := undef) ?y21 ?_; (case y21 => exact Or.inr ⟨by rfl, rfl⟩); (try simp only [Act.put, List.setIfInBounds_toArray, List.set_cons_zero, List.set_cons_succ])
      refine tk 10 (v := undef) ?y22 ?_; (case y22 => exact Or.inr ⟨by rfl, rfl⟩); (try simp only [Act.put, List.setIfInBounds_toArray, List.set_cons_zero, List.set_cons_succ])
      refine tk 11 (v := ?v_23) ?y23 ?_; (case y23 => (refine Or.inl ⟨by rfl, ?_⟩; intro w hSw; go_simp; first | done | with_reducible rfl)); (try simp only [Act.put, List.setIfInBounds_toArray, List.set_cons_zero, List.set_cons_succ])
      refine tk 12 (v := ?v_24) ?y24 ?_; (case y24 => (refine Or.inl ⟨by rfl, ?_⟩; intro w hSw; go_simp; first | done | with_reducible rfl)); (try simp only [Act.put, List.setIfInBounds_toArray, List.set_cons_zero, List.set_cons_succ])
      refine tk 13 (v := undef) ?y25 ?_; (case y25 => exact Or.inr ⟨by rfl, rfl⟩); (try simp only [Act.put, List.setIfInBounds_toArray, List.set_cons_zero, List.set_cons_succ])
      refine tk 14 (v := undef) ?y26 ?_; (case y26 => exact Or.inr ⟨by rfl, rfl⟩); (try simp only [Act.put, List.setIfInBounds_toArray, List.set_cons_zero, List.set_cons_succ])
      refine tk 15 (v := undef) ?y27 ?_; (case y27 => exact Or.inr ⟨by rfl, rfl⟩); (try simp only [Act.put, List.setIfInBounds_toArray, List.set_cons_zero, List.set_cons_succ])
      refine tk 16 (v := undef) ?y28 ?_; (case y28 => exact Or.inr ⟨by rfl, rfl⟩); (try simp only [Act.put, List.setIfInBounds_toArray, List.set_cons_zero, List.set_cons_succ])
      refine tk 17 (v := undef) ?y29 ?_; (case y29 => exact Or.inr ⟨by rfl, rfl⟩); (try simp only [Act.put, List.setIfInBounds_toArray, List.set_cons_zero, List.set_cons_succ])
      refine tk 18 (v := undef) ?y30 ?_; (case y30 => exact Or.inr ⟨by rfl, rfl⟩); (try simp only [Act.put, List.setIfInBounds_toArray, List.set_cons_zero, List.set_cons_succ])
      refine tk 19 (v := undef) ?y31 ?_; (case y31 => exact Or.inr ⟨by rfl, rfl⟩); (try simp only [Act.put, List.setIfInBounds_toArray, List.set_cons_zero, List.set_cons_succ])
      refine tk 20 (v := ?v_32) ?y32 ?_; (case y32 => (refine Or.inl ⟨by rfl, ?_⟩; intro w hSw; go_simp; first | done | with_reducible rfl)); (try simp only [Act.put, List.setIfInBounds_toArray, List.set_cons_zero, List.set_cons_succ])
      refine tk 21 (v := ?v_33) ?y33 ?_; (case y33 => (refine Or.inl ⟨by rfl, ?_⟩; intro w hSw; go_simp; first | done | with_reducible rfl)); (try simp only [Act.put, List.setIfInBounds_toArray, List.set_cons_zero, List.set_cons_succ])
      refine tk 22 (v := undef) ?y34 ?_; (case y34 => exact Or.inr ⟨by rfl, rfl⟩); (try simp only [Act.put, List.setIfInBounds_toArray, List.set_cons_zero, List.set_cons_succ])
      refine tk 23 (v := undef) ?y35 ?_; (case y35 => exact Or.inr ⟨by rfl, rfl⟩); (try simp only [Act.put, List.setIfInBounds_toArray, List.set_cons_zero, List.set_cons_succ])
      refine tk 24 (v := undef) ?y36 ?_; (case y36 => exact Or.inr ⟨by rfl, rfl⟩); (try simp only [Act.put, List.setIfInBounds_toArray, List.set_cons_zero, List.set_cons_succ])
      refine tk 25 (v := undef) ?y37 ?_; (case y37 => exact Or.inr ⟨by rfl, rfl⟩); (try simp only [Act.put, List.setIfInBounds_toArray, List.set_cons_zero, List.set_cons_succ])
      refine tk 26 (v := undef) ?y38 ?_; (case y38 => exact Or.inr ⟨by rfl, rfl⟩); (try simp only [Act.put, List.setIfInBounds_toArray, List.set_cons_zero, List.set_cons_succ])
      refine tk 27 (v := ?v_39) ?y39 ?_; (case y39 => (refine Or.inl ⟨by rfl, ?_⟩; intro w hSw; go_simp; first | done | with_reducible rfl)); (try simp only [Act.put, List.setIfInBounds_toArray, List.set_cons_zero, List.set_cons_succ])
      refine tk 28 (v := ?v_40) ?y40 ?_; (case y40 => (refine Or.inl ⟨by rfl, ?_⟩; intro w hSw; go_simp; first | done | with_reducible rfl)); (try simp only [Act.put, List.setIfInBounds_toArray, List.set_cons_zero, List.set_cons_succ])
      refine wpAnyH_done (by kernel_rfl) ?_ _
      go_wp2
      go_ret
      exact ⟨by rw [show q0 = false from Bool.eq_false_iff.2 (fun h => (show ¬ a = b from fun h => (by cases HE1.out.2 (num_self h))) (HQ0.out.1 h))]; first | done | rfl, HS5.out.bel⟩
    by_cases hMu : a.req.muts = b.req.muts
    case neg =>
      refine wp_region_held_drew (S := fun X => Sm w (eHead a ++ zQ.toList ++ (ccells a.chg).toList).toArray (eHead b ++ zQ.toList ++ (ccells b.chg).toList).toArray (qcells (.slice ma mn mc) (.slice fa fn fc) a.req) (qcells (.slice ma2 mn2 mc2) (.slice fa2 fn2 fc2) b.req) p r X) (by kernel_rfl) (by rw [hG]; exact HS3.out) (fun hHeld => ?_)
      rw [hG]
      refine tk 0 (v := .agg (eHead a ++ zQ.toList ++ (ccells a.chg).toList).toArray) ?y41 ?_; (case y41 => exact yl_all (by rfl) 39 _ rfl w.heap.size rfl 39 (eHead a ++ zQ.toList ++ (ccells a.chg).toList).toArray hSA 33 szE rfl ruE); (try simp only [Act.put, List.setIfInBounds_toArray, List.set_cons_zero, List.set_cons_succ])
      refine tk 2 (v := .agg (eHead b ++ zQ.toList ++ (ccells b.chg).toList).toArray) ?y42 ?_; (case y42 => exact yl_all (by rfl) 39 _ rfl (w.heap.size + 1) rfl 39 (eHead b ++ zQ.toList ++ (ccells b.chg).toList).toArray hSB 33 szE rfl ruE); (try simp only [Act.put, List.setIfInBounds_toArray, List.set_cons_zero, List.set_cons_succ])
      refine wpAnyH_ready (rs := [1]) (by kernel_rfl) (by simp) ?_; refine AllReadyH.cons (o := ?o_43) ?hi_43 (fun K hK => ?_) AllReadyH.nil; (case hi_43 => (simp only [List.getElem?_toArray, List.getElem?_cons_zero, List.getElem?_cons_succ]; rfl)); go_simp; (go_at_call 45; (refine (CP1.out _).mono ?_; rintro e w4 ⟨rfl, hb⟩; have HS4 := Lib.hid (HS3.out.next hb); clear hb)); refine hK.out _ _ ?_ (fun hHeld => ?_); (· exact HS4.out); clear hK K; (try simp only [Act.put, List.setIfInBounds_toArray, List.set_cons_zero, List.set_cons_succ])
      refine wpAnyH_ready (rs := [3]) (by kernel_rfl) (by simp) ?_; refine AllReadyH.cons (o := ?o_44) ?hi_44 (fun K hK => ?_) AllReadyH.nil; (case hi_44 => (simp only [List.getElem?_toArray, List.getElem?_cons_zero, List.getElem?_cons_succ]; rfl)); go_simp; (go_at_call 45; (refine (CP2.out _).mono ?_; rintro e w5 ⟨rfl, hb⟩; have HS5 := Lib.hid (HS4.out.next hb); clear hb)); refine hK.out _ _ ?_ (fun hHeld => ?_); (· exact HS5.out); clear hK K; (try simp only [Act.put, List.setIfInBounds_toArray, List.set_cons_zero, List.set_cons_succ])
      refine tk 4 (v := ?v_45) ?y45 ?_; (case y45 => (refine Or.inl ⟨by rfl, ?_⟩; intro w hSw; go_simp; first | done | with_reducible rfl)); (try simp only [Act.put, List.setIfInBounds_toArray, List.set_cons_zero, List.set_cons_succ])
      refine tk 5 (v := ?v_46) ?y46 ?_; (case y46 => (refine Or.inl ⟨by rfl, ?_⟩; intro w hSw; go_simp; first | done | with_reducible rfl)); (try simp only [Act.put, List.setIfInBounds_toArray, List.set_cons_zero, List.set_cons_succ])
      refine tk 6 (v := ?v_47) ?y47 ?_; (case y47 => (refine Or.inl ⟨by rfl, ?_⟩; intro w hSw; have x3 := hSw.x.cell 3 (.slice ma mn mc) rfl; have y3 := hSw.y.cell 3 (.slice ma2 mn2 mc2) rfl; have x9 := hSw.x.cell 9 (.slice fa fn fc) rfl; have y9 := hSw.y.cell 9 (.slice fa2 fn2 fc2) rfl; go_simp; first | done | with_reducible rfl)); (try simp only [Act.put, List.setIfInBounds_toArray, List.set_cons_zero, List.set_cons_succ])
      refine tk 7 (v := ?v_48) ?y48 ?_; (case y48 => (refine Or.inl ⟨by rfl, ?_⟩; intro w hSw; have x3 := hSw.x.cell 3 (.slice ma mn mc) rfl; have y3 := hSw.y.cell 3 (.slice ma2 mn2 mc2) rfl; have x9 := hSw.x.cell 9 (.slice fa fn fc) rfl; have y9 := hSw.y.cell 9 (.slice fa2 fn2 fc2) rfl; go_simp; first | done | with_reducible rfl)); (try simp only [Act.put, List.setIfInBounds_toArray, List.set_cons_zero, List.set_cons_succ])
      refine tk 8 (v := ?v_49) ?y49 ?_; (case y49 => (refine Or.inl ⟨by rfl, ?_⟩; intro w hSw; have x3 := hSw.x.cell 3 (.slice ma mn mc) rfl; have y3 := hSw.y.cell 3 (.slice ma2 mn2 mc2) rfl; have x9 := hSw.x.cell 9 (.slice fa fn fc) rfl; have y9 := hSw.y.cell 9 (.slice fa2 fn2 fc2) rfl; go_simp; first | done | with_reducible rfl)); (try simp only [Act.put, List.setIfInBounds_toArray, List.set_cons_zero, List.set_cons_succ])
      refine tk 9 (v := ?v_50) ?y50 ?_; (case y50 => (refine Or.inl ⟨by rfl, ?_⟩; intro w hSw; have x3 := hSw.x.cell 3 (.slice ma mn mc) rfl; have y3 := hSw.y.cell 3 (.slice ma2 mn2 mc2) rfl; have x9 := hSw.x.cell 9 (.slice fa fn fc) rfl; have y9 := hSw.y.cell 9 (.slice fa2 fn2 fc2) rfl; go_simp; first | done | with_reducible rfl)); (try simp only [Act.put, List.setIfInBounds_toArray, List.set_cons_zero, List.set_cons_succ])
      refine wpAnyH_ready (rs := [10]) (by kernel_rfl) (by simp) ?_; refine AllReadyH.cons (o := ?o_51) ?hi_51 (fun K hK => ?_) AllReadyH.nil; (case hi_51 => (simp only [List.getElem?_toArray, List.getElem?_cons_zero, List.getElem?_cons_succ]; rfl)); go_simp; (go_at_call 46; (refine (CM.out false (by simp [hMu]) _ HS5.out.bel).mono ?_; rintro e w6 ⟨rfl, hb⟩; have HS6 := Lib.hid (HS5.out.next hb); clear hb)); refine hK.out _ _ ?_ (fun hHeld => ?_); (· exact HS6.out); clear hK K; (try simp only [Act.put, List.setIfInBounds_toArray, List.set_cons_zero, List.set_cons_succ])
      refine tk 11 (v := ?v_52) ?y52 ?_; (case y52 => (refine Or.inl ⟨by rfl, ?_⟩; intro w hSw; go_simp; first | done | with_reducible rfl)); (try simp only [Act.put, List.setIfInBounds_toArray, List.set_cons_zero, List.set_cons_succ])
      refine tk 12 (v := ?v_53) ?y53 ?_; (case y53 => (refine Or.inl ⟨by rfl, ?_⟩; intro w hSw; go_simp; first | done | with_reducible rfl)); (try simp only [Act.put, List.setIfInBounds_toArray, List.set_cons_zero, List.set_cons_succ])
      refine tk 13 (v := undef) ?y54 ?_; (case y54 => exact Or.inr ⟨by rfl, rfl⟩); (try simp only [Act.put, List.setIfInBounds_toArray, List.set_cons_zero, List.set_cons_succ])
      refine tk 14 (v := undef) ?y55 ?_; (case y55 => exact Or.inr ⟨by rfl, rfl⟩); (try simp only [Act.put, List.setIfInBounds_toArray, List.set_cons_zero, List.set_cons_succ])
      refine tk 15 (v := undef) ?y56 ?_; (case y56 => exact Or.inr ⟨by rfl, rfl⟩); (try simp only [Act.put, List.setIfInBounds_toArray, List.set_cons_zero, List.set_cons_succ])
      refine tk 16 (v := undef) ?y57 ?_; (case y57 => exact Or.inr ⟨by rfl, rfl⟩); (try simp only [Act.put, List.setIfInBounds_toArray, List.set_cons_zero, List.set_cons_succ])
      refine tk 17 (v := undef) ?y58 ?_; (case y58 => exact Or.inr ⟨by rfl, rfl⟩); (try simp only [Act.put, List.setIfInBounds_toArray, List.set_cons_zero, List.set_cons_succ])
      refine tk 18 (v := undef) ?y59 ?_; (case y59 => exact Or.inr ⟨by rfl, rfl⟩); (try simp only [Act.put, List.setIfInBounds_toArray, List.set_cons_zero, List.set_cons_succ])
      refine tk 19 (v := undef) ?y60 ?_; (case y60 => exact Or.inr ⟨by rfl, rfl⟩); (try simp only [Act.put, List.setIfInBounds_toArray, List.set_cons_zero, List.set_cons_succ])
      refine tk 20 (v := ?v_61) ?y61 ?_; (case y61 => (refine Or.inl ⟨by rfl, ?_⟩; intro w hSw; go_simp; first | done | with_reducible rfl)); (try simp only [Act.put, List.setIfInBounds_toArray, List.set_cons_zero, List.set_cons_succ])
      refine tk 21 (v := ?v_62) ?y62 ?_; (case y62 => (refine Or.inl ⟨by rfl, ?_⟩; intro w hSw; go_simp; first | done | with_reducible rfl)); (try simp only [Act.put, List.setIfInBounds_toArray, List.set_cons_zero, List.set_cons_succ])
      refine tk 22 (v := undef) ?y63 ?_; (case y63 => exact Or.inr ⟨by rfl, rfl⟩); (try simp only [Act.put, List.setIfInBounds_toArray, List.set_cons_zero, List.set_cons_succ])
      refine tk 23 (v := undef) ?y64 ?_; (case y64 => exact Or.inr ⟨by rfl, rfl⟩); (try simp only [Act.put, List.setIfInBounds_toArray, List.set_cons_zero, List.set_cons_succ])
      refine tk 24 (v := undef) ?y65 ?_; (case y65 => exact Or.inr ⟨by rfl, rfl⟩); (try simp only [Act.put, List.setIfInBounds_toArray, List.set_cons_zero, List.set_cons_succ])
      refine tk 25 (v := undef) ?y66 ?_; (case y66 => exact Or.inr ⟨by rfl, rfl⟩); (try simp only [Act.put, List.setIfInBounds_toArray, List.set_cons_zero, List.set_cons_succ])
      refine tk 26 (v := undef) ?y67 ?_; (case y67 => exact Or.inr ⟨by rfl, rfl⟩); (try simp only [Act.put, List.setIfInBounds_toArray, List.set_cons_zero, List.set_cons_succ])
      refine tk 27 (v := ?v_68) ?y68 ?_; (case y68 => (refine Or.inl ⟨by rfl, ?_⟩; intro w hSw; go_simp; first | done | with_reducible rfl)); (try simp only [Act.put, List.setIfInBounds_toArray, List.set_cons_zero, List.set_cons_succ])
      refine tk 28 (v := ?v_69) ?y69 ?_; (case y69 => (refine Or.inl ⟨by rfl, ?_⟩; intro w hSw; go_simp; first | done | with_reducible rfl)); (try simp only [Act.put, List.setIfInBounds_toArray, List.set_cons_zero, List.set_cons_succ])
      refine wpAnyH_done (by kernel_rfl) ?_ _
      go_wp2
      go_ret
      exact ⟨by rw [show q0 = false from Bool.eq_false_iff.2 (fun h => (show ¬ a = b from fun h => hMu (by rw [h])) (HQ0.out.1 h))]; first | done | rfl, HS6.out.bel⟩
    by_cases hFa : a.req.fil.fams = b.req.fil.fams
    case neg =>
      refine wp_region_held_drew (S := fun X => Sm w (eHead a ++ zQ.toList ++ (ccells a.chg).toList).toArray (eHead b ++ zQ.toList ++ (ccells b.chg).toList).toArray (qcells (.slice ma mn mc) (.slice fa fn fc) a.req) (qcells (.slice ma2 mn2 mc2) (.slice fa2 fn2 fc2) b.req) p r X) (by kernel_rfl) (by rw [hG]; exact HS3.out) (fun hHeld => ?_)
      rw [hG]
      refine tk 0 (v := .agg (eHead a ++ zQ.toList ++ (ccells a.chg).toList).toArray) ?y70 ?_; (case y70 => exact yl_all (by rfl) 39 _ rfl w.heap.size rfl 39 (eHead a ++ zQ.toList ++ (ccells a.chg).toList).toArray hSA 33 szE rfl ruE); (try simp only [Act.put, List.setIfInBounds_toArray, List.set_cons_zero, List.set_cons_succ])
      refine tk 2 (v := .agg (eHead b ++ zQ.toList ++ (ccells b.chg).toList).toArray) ?y71 ?_; (case y71 => exact yl_all (by rfl) 39 _ rfl (w.heap.size + 1) rfl 39 (eHead b ++ zQ.toList ++ (ccells b.chg).toList).toArray hSB 33 szE rfl ruE); (try simp only [Act.put, List.setIfInBounds_toArray, List.set_cons_zero, List.set_cons_succ])
      refine wpAnyH_ready (rs := [1]) (by kernel_rfl) (by simp) ?_; refine AllReadyH.cons (o := ?o_72) ?hi_72 (fun K hK => ?_) AllReadyH.nil; (case hi_72 => (simp only [List.getElem?_toArray, List.getElem?_cons_zero, List.getElem?_cons_succ]; rfl)); go_simp; (go_at_call 45; (refine (CP1.out _).mono ?_; rintro e w4 ⟨rfl, hb⟩; have HS4 := Lib.hid (HS3.out.next hb); clear hb)); refine hK.out _ _ ?_ (fun hHeld => ?_); (· exact HS4.out); clear hK K; (try simp only [Act.put, List.setIfInBounds_toArray, List.set_cons_zero, List.set_cons_succ])
      refine wpAnyH_ready (rs := [3]) (by kernel_rfl) (by simp) ?_; refine AllReadyH.cons (o := ?o_73) ?hi_73 (fun K hK => ?_) AllReadyH.nil; (case hi_73 => (simp only [List.getElem?_toArray, List.getElem?_cons_zero, List.getElem?_cons_succ]; rfl)); go_simp; (go_at_call 45; (refine (CP2.out _).mono ?_; rintro e w5 ⟨rfl, hb⟩; have HS5 := Lib.hid (HS4.out.next hb); clear hb)); refine hK.out _ _ ?_ (fun hHeld => ?_); (· exact HS5.out); clear hK K; (try simp only [Act.put, List.setIfInBounds_toArray, List.set_cons_zero, List.set_cons_succ])
      refine tk 4 (v := ?v_74) ?y74 ?_; (case y74 => (refine Or.inl ⟨by rfl, ?_⟩; intro w hSw; go_simp; first | done | with_reducible rfl)); (try simp only [Act.put, List.setIfInBounds_toArray, List.set_cons_zero, List.set_cons_succ])
      refine tk 5 (v := ?v_75) ?y75 ?_; (case y75 => (refine Or.inl ⟨by rfl, ?_⟩; intro w hSw; go_simp; first | done | with_reducible rfl)); (try simp only [Act.put, List.setIfInBounds_toArray, List.set_cons_zero, List.set_cons_succ])
      refine tk 6 (v := ?v_76) ?y76 ?_; (case y76 => (refine Or.inl ⟨by rfl, ?_⟩; intro w hSw; have x3 := hSw.x.cell 3 (.slice ma mn mc) rfl; have y3 := hSw.y.cell 3 (.slice ma2 mn2 mc2) rfl; have x9 := hSw.x.cell 9 (.slice fa fn fc) rfl; have y9 := hSw.y.cell 9 (.slice fa2 fn2 fc2) rfl; go_simp; first | done | with_reducible rfl)); (try simp only [Act.put, List.setIfInBounds_toArray, List.set_cons_zero, List.set_cons_succ])
      refine tk 7 (v := ?v_77) ?y77 ?_; (case y77 => (refine Or.inl ⟨by rfl, ?_⟩; intro w hSw; have x3 := hSw.x.cell 3 (.slice ma mn mc) rfl; have y3 := hSw.y.cell 3 (.slice ma2 mn2 mc2) rfl; have x9 := hSw.x.cell 9 (.slice fa fn fc) rfl; have y9 := hSw.y.cell 9 (.slice fa2 fn2 fc2) rfl; go_simp; first | done | with_reducible rfl)); (try simp only [Act.put, List.setIfInBounds_toArray, List.set_cons_zero, List.set_cons_succ])
      refine tk 8 (v := ?v_78) ?y78 ?_; (case y78 => (refine Or.inl ⟨by rfl, ?_⟩; intro w hSw; have x3 := hSw.x.cell 3 (.slice ma mn mc) rfl; have y3 := hSw.y.cell 3 (.slice ma2 mn2 mc2) rfl; have x9 := hSw.x.cell 9 (.slice fa fn fc) rfl; have y9 := hSw.y.cell 9 (.slice fa2 fn2 fc2) rfl; go_simp; first | done | with_reducible rfl)); (try simp only [Act.put, List.setIfInBounds_toArray, List.set_cons_zero, List.set_cons_succ])
      refine tk 9 (v := ?v_79) ?y79 ?_; (case y79 => (refine Or.inl ⟨by rfl, ?_⟩; intro w hSw; have x3 := hSw.x.cell 3 (.slice ma mn mc) rfl; have y3 := hSw.y.cell 3 (.slice ma2 mn2 mc2) rfl; have x9 := hSw.x.cell 9 (.slice fa fn fc) rfl; have y9 := hSw.y.cell 9 (.slice fa2 fn2 fc2) rfl; go_simp; first | done | with_reducible rfl)); (try simp only [Act.put, List.setIfInBounds_toArray, List.set_cons_zero, List.set_cons_succ])
      refine wpAnyH_ready (rs := [10]) (by kernel_rfl) (by simp) ?_; refine AllReadyH.cons (o := ?o_80) ?hi_80 (fun K hK => ?_) AllReadyH.nil; (case hi_80 => (simp only [List.getElem?_toArray, List.getElem?_cons_zero, List.getElem?_cons_succ]; rfl)); go_simp; (go_at_call 46; (refine (CM.out true (by simp [hMu]) _ HS5.out.bel).mono ?_; rintro e w6 ⟨rfl, hb⟩; have HS6 := Lib.hid (HS5.out.next hb); clear hb)); refine hK.out _ _ ?_ (fun hHeld => ?_); (· exact HS6.out); clear hK K; (try simp only [Act.put, List.setIfInBounds_toArray, List.set_cons_zero, List.set_cons_succ])
      refine tk 11 (v := ?v_81) ?y81 ?_; (case y81 => (refine Or.inl ⟨by rfl, ?_⟩; intro w hSw; go_simp; first | done | with_reducible rfl)); (try simp only [Act.put, List.setIfInBounds_toArray, List.set_cons_zero, List.set_cons_succ])
      refine tk 12 (v := ?v_82) ?y82 ?_; (case y82 => (refine Or.inl ⟨by rfl, ?_⟩; intro w hSw; go_simp; first | done | with_reducible rfl)); (try simp only [Act.put, List.setIfInBounds_toArray, List.set_cons_zero, List.set_cons_succ])
      refine tk 13 (v := ?v_83) ?y83 ?_; (case y83 => (refine Or.inl ⟨by rfl, ?_⟩; intro w hSw; have x3 := hSw.x.cell 3 (.slice ma mn mc) rfl; have y3 := hSw.y.cell 3 (.slice ma2 mn2 mc2) rfl; have x9 := hSw.x.cell 9 (.slice fa fn fc) rfl; have y9 := hSw.y.cell 9 (.slice fa2 fn2 fc2) rfl; go_simp; first | done | with_reducible rfl)); (try simp only [Act.put, List.setIfInBounds_toArray, List.set_cons_zero, List.set_cons_succ])
      refine tk 14 (v := ?v_84) ?y84 ?_; (case y84 => (refine Or.inl ⟨by rfl, ?_⟩; intro w hSw; have x3 := hSw.x.cell 3 (.slice ma mn mc) rfl; have y3 := hSw.y.cell 3 (.slice ma2 mn2 mc2) rfl; have x9 := hSw.x.cell 9 (.slice fa fn fc) rfl; have y9 := hSw.y.cell 9 (.slice fa2 fn2 fc2) rfl; go_simp; first | done | with_reducible rfl)); (try simp only [Act.put, List.setIfInBounds_toArray, List.set_cons_zero, List.set_cons_succ])
      refine tk 15 (v := ?v_85) ?y85 ?_; (case y85 => (refine Or.inl ⟨by rfl, ?_⟩; intro w hSw; have x3 := hSw.x.cell 3 (.slice ma mn mc) rfl; have y3 := hSw.y.cell 3 (.slice ma2 mn2 mc2) rfl; have x9 := hSw.x.cell 9 (.slice fa fn fc) rfl; have y9 := hSw.y.cell 9 (.slice fa2 fn2 fc2) rfl; go_simp; first | done | with_reducible rfl)); (try simp only [Act.put, List.setIfInBounds_toArray, List.set_cons_zero, List.set_cons_succ])
      refine tk 16 (v := ?v_86) ?y86 ?_; (case y86 => (refine Or.inl ⟨by rfl, ?_⟩; intro w hSw; have x3 := hSw.x.cell 3 (.slice ma mn mc) rfl; have y3 := hSw.y.cell 3 (.slice ma2 mn2 mc2) rfl; have x9 := hSw.x.cell 9 (.slice fa fn fc) rfl; have y9 := hSw.y.cell 9 (.slice fa2 fn2 fc2) rfl; go_simp; first | done | with_reducible rfl)); (try simp only [Act.put, List.setIfInBounds_toArray, List.set_cons_zero, List.set_cons_succ])
      refine tk 17 (v := ?v_87) ?y87 ?_; (case y87 => (refine Or.inl ⟨by rfl, ?_⟩; intro w hSw; have x3 := hSw.x.cell 3 (.slice ma mn mc) rfl; have y3 := hSw.y.cell 3 (.slice ma2 mn2 mc2) rfl; have x9 := hSw.x.cell 9 (.slice fa fn fc) rfl; have y9 := hSw.y.cell 9 (.slice fa2 fn2 fc2) rfl; go_simp; first | done | with_reducible rfl)); (try simp only [Act.put, List.setIfInBounds_toArray, List.set_cons_zero, List.set_cons_succ])
      refine tk 18 (v := ?v_88) ?y88 ?_; (case y88 => (refine Or.inl ⟨by rfl, ?_⟩; intro w hSw; have x3 := hSw.x.cell 3 (.slice ma mn mc) rfl; have y3 := hSw.y.cell 3 (.slice ma2 mn2 mc2) rfl; have x9 := hSw.x.cell 9 (.slice fa fn fc) rfl; have y9 := hSw.y.cell 9 (.slice fa2 fn2 fc2) rfl; go_simp; first | done | with_reducible rfl)); (try simp only [Act.put, List.setIfInBounds_toArray, List.set_cons_zero, List.set_cons_succ])
      refine wpAnyH_ready (rs := [19]) (by kernel_rfl) (by simp) ?_; refine AllReadyH.cons (o := ?o_89) ?hi_89 (fun K hK => ?_) AllReadyH.nil; (case hi_89 => (simp only [List.getElem?_toArray, List.getElem?_cons_zero, List.getElem?_cons_succ]; rfl)); go_simp; (go_at_call 47; (refine (CT.out false (by simp [hFa]) _ HS6.out.bel).mono ?_; rintro e w7 ⟨rfl, hb⟩; have HS7 := Lib.hid (HS6.out.next hb); clear hb)); refine hK.out _ _ ?_ (fun hHeld => ?_); (· exact HS7.out); clear hK K; (try simp only [Act.put, List.setIfInBounds_toArray, List.set_cons_zero, List.set_cons_succ])
      refine tk 20 (v := ?v_90) ?y90 ?_; (case y90 => (refine Or.inl ⟨by rfl, ?_⟩; intro w hSw; go_simp; first | done | with_reducible rfl)); (try simp only [Act.put, List.setIfInBounds_toArray, List.set_cons_zero, List.set_cons_succ])
      refine tk 21 (v := ?v_91) ?y91 ?_; (case y91 => (refine Or.inl ⟨by rfl, ?_⟩; intro w hSw; go_simp; first | done | with_reducible rfl)); (try simp only [Act.put, List.setIfInBounds_toArray, List.set_cons_zero, List.set_cons_succ])
      refine tk 22 (v := undef) ?y92 ?_; (case y92 => exact Or.inr ⟨by rfl, rfl⟩); (try simp only [Act.put, List.setIfInBounds_toArray, List.set_cons_zero, List.set_cons_succ])
      refine tk 23 (v := undef) ?y93 ?_; (case y93 => exact Or.inr ⟨by rfl, rfl⟩); (try simp only [Act.put, List.setIfInBounds_toArray, List.set_cons_zero, List.set_cons_succ])
      refine tk 24 (v := undef) ?y94 ?_; (case y94 => exact Or.inr ⟨by rfl, rfl⟩); (try simp only [Act.put, List.setIfInBounds_toArray, List.set_cons_zero, List.set_cons_succ])
      refine tk 25 (v := undef) ?y95 ?_; (case y95 => exact Or.inr ⟨by rfl, rfl⟩); (try simp only [Act.put, List.setIfInBounds_toArray, List.set_cons_zero, List.set_cons_succ])
      refine tk 26 (v := undef) ?y96 ?_; (case y96 => exact Or.inr ⟨by rfl, rfl⟩); (try simp only [Act.put, List.setIfInBounds_toArray, List.set_cons_zero, List.set_cons_succ])
      refine tk 27 (v := ?v_97) ?y97 ?_; (case y97 => (refine Or.inl ⟨by rfl, ?_⟩; intro w hSw; go_simp; first | done | with_reducible rfl)); (try simp only [Act.put, List.setIfInBounds_toArray, List.set_cons_zero, List.set_cons_succ])
      refine tk 28 (v := ?v_98) ?y98 ?_; (case y98 => (refine Or.inl ⟨by rfl, ?_⟩; intro w hSw; go_simp; first | done | with_reducible rfl)); (try simp only [Act.put, List.setIfInBounds_toArray, List.set_cons_zero, List.set_cons_succ])
      refine wpAnyH_done (by kernel_rfl) ?_ _
      go_wp2
      go_ret
      exact ⟨by rw [show q0 = false from Bool.eq_false_iff.2 (fun h => (show ¬ a = b from fun h => hFa (by rw [h])) (HQ0.out.1 h))]; first | done | rfl, HS7.out.bel⟩
    cases q4
    case false =>
      refine wp_region_held_drew (S := fun X => Sm w (eHead a ++ zQ.toList ++ (ccells a.chg).toList).toArray (eHead b ++ zQ.toList ++ (ccells b.chg).toList).toArray (qcells (.slice ma mn mc) (.slice fa fn fc) a.req) (qcells (.slice ma2 mn2 mc2) (.slice fa2 fn2 fc2) b.req) p r X) (by kernel_rfl) (by rw [hG]; exact HS3.out) (fun hHeld => ?_)
      rw [hG]
      refine tk 0 (v := .agg (eHead a ++ zQ.toList ++ (ccells a.chg).toList).toArray) ?y99 ?_; (case y99 => exact yl_all (by rfl) 39 _ rfl w.heap.size rfl 39 (eHead a ++ zQ.toList ++ (ccells a.chg).toList).toArray hSA 33 szE rfl ruE); (try simp only [Act.put, List.setIfInBounds_toArray, List.set_cons_zero, List.set_cons_succ])
      refine tk 2 (v := .agg (eHead b ++ zQ.toList ++ (ccells b.chg).toList).toArray) ?y100 ?_; (case y100 => exact yl_all (by rfl) 39 _ rfl (w.heap.size + 1) rfl 39 (eHead b ++ zQ.toList ++ (ccells b.chg).toList).toArray hSB 33 szE rfl ruE); (try simp only [Act.put, List.setIfInBounds_toArray, List.set_cons_zero, List.set_cons_succ])
      refine wpAnyH_ready (rs := [1]) (by kernel_rfl) (by simp) ?_; refine AllReadyH.cons (o := ?o_101) ?hi_101 (fun K hK => ?_) AllReadyH.nil; (case hi_101 => (simp only [List.getElem?_toArray, List.getElem?_cons_zero, List.getElem?_cons_succ]; rfl)); go_simp; (go_at_call 45; (refine (CP1.out _).mono ?_; rintro e w4 ⟨rfl, hb⟩; have HS4 := Lib.hid (HS3.out.next hb); clear hb)); refine hK.out _ _ ?_ (fun hHeld => ?_); (· exact HS4.out); clear hK K; (try simp only [Act.put, List.setIfInBounds_toArray, List.set_cons_zero, List.set_cons_succ])
      refine wpAnyH_ready (rs := [3]) (by kernel_rfl) (by simp) ?_; refine AllReadyH.cons (o := ?o_102) ?hi_102 (fun K hK => ?_) AllReadyH.nil; (case hi_102 => (simp only [List.getElem?_toArray, List.getElem?_cons_zero, List.getElem?_cons_succ]; rfl)); go_simp; (go_at_call 45; (refine (CP2.out _).mono ?_; rintro e w5 ⟨rfl, hb⟩; have HS5 := Lib.hid (HS4.out.next hb); clear hb)); refine hK.out _ _ ?_ (fun hHeld => ?_); (· exact HS5.out); clear hK K; (try simp only [Act.put, List.setIfInBounds_toArray, List.set_cons_zero, List.set_cons_succ])
      refine tk 4 (v := ?v_103) ?y103 ?_; (case y103 => (refine Or.inl ⟨by rfl, ?_⟩; intro w hSw; go_simp; first | done | with_reducible rfl)); (try simp only [Act.put, List.setIfInBounds_toArray, List.set_cons_zero, List.set_cons_succ])
      refine tk 5 (v := ?v_104) ?y104 ?_; (case y104 => (refine Or.inl ⟨by rfl, ?_⟩; intro w hSw; go_simp; first | done | with_reducible rfl)); (try simp only [Act.put, List.setIfInBounds_toArray, List.set_cons_zero, List.set_cons_succ])
      refine tk 6 (v := ?v_105) ?y105 ?_; (case y105 => (refine Or.inl ⟨by rfl, ?_⟩; intro w hSw; have x3 := hSw.x.cell 3 (.slice ma mn mc) rfl; have y3 := hSw.y.cell 3 (.slice ma2 mn2 mc2) rfl; have x9 := hSw.x.cell 9 (.slice fa fn fc) rfl; have y9 := hSw.y.cell 9 (.slice fa2 fn2 fc2) rfl; go_simp; first | done | with_reducible rfl)); (try simp only [Act.put, List.setIfInBounds_toArray, List.set_cons_zero, List.set_cons_succ])
      refine tk 7 (v := ?v_106) ?y106 ?_; (case y106 => (refine Or.inl ⟨by rfl, ?_⟩; intro w hSw; have x3 := hSw.x.cell 3 (.slice ma mn mc) rfl; have y3 := hSw.y.cell 3 (.slice ma2 mn2 mc2) rfl; have x9 := hSw.x.cell 9 (.slice fa fn fc) rfl; have y9 := hSw.y.cell 9 (.slice fa2 fn2 fc2) rfl; go_simp; first | done | with_reducible rfl)); (try simp only [Act.put, List.setIfInBounds_toArray, List.set_cons_zero, List.set_cons_succ])
      refine tk 8 (v := ?v_107) ?y107 ?_; (case y107 => (refine Or.inl ⟨by rfl, ?_⟩; intro w hSw; have x3 := hSw.x.cell 3 (.slice ma mn mc) rfl; have y3 := hSw.y.cell 3 (.slice ma2 mn2 mc2) rfl; have x9 := hSw.x.cell 9 (.slice fa fn fc) rfl; have y9 := hSw.y.cell 9 (.slice fa2 fn2 fc2) rfl; go_simp; first | done | with_reducible rfl)); (try simp only [Act.put, List.setIfInBounds_toArray, List.set_cons_zero, List.set_cons_succ])
      refine tk 9 (v := ?v_108) ?y108 ?_; (case y108 => (refine Or.inl ⟨by rfl, ?_⟩; intro w hSw; have x3 := hSw.x.cell 3 (.slice ma mn mc) rfl; have y3 := hSw.y.cell 3 (.slice ma2 mn2 mc2) rfl; have x9 := hSw.x.cell 9 (.slice fa fn fc) rfl; have y9 := hSw.y.cell 9 (.slice fa2 fn2 fc2) rfl; go_simp; first | done | with_reducible rfl)); (try simp only [Act.put, List.setIfInBounds_toArray, List.set_cons_zero, List.set_cons_succ])
      refine wpAnyH_ready (rs := [10]) (by kernel_rfl) (by simp) ?_; refine AllReadyH.cons (o := ?o_109) ?hi_109 (fun K hK => ?_) AllReadyH.nil; (case hi_109 => (simp only [List.getElem?_toArray, List.getElem?_cons_zero, List.getElem?_cons_succ]; rfl)); go_simp; (go_at_call 46; (refine (CM.out true (by simp [hMu]) _ HS5.out.bel).mono ?_; rintro e w6 ⟨rfl, hb⟩; have HS6 := Lib.hid (HS5.out.next hb); clear hb)); refine hK.out _ _ ?_ (fun hHeld => ?_); (· exact HS6.out); clear hK K; (try simp only [Act.put, List.setIfInBounds_toArray, List.set_cons_zero, List.set_cons_succ])
      refine tk 11 (v := ?v_110) ?y110 ?_; (case y110 => (refine Or.inl ⟨by rfl, ?_⟩; intro w hSw; go_simp; first | done | with_reducible rfl)); (try simp only [Act.put, List.setIfInBounds_toArray, List.set_cons_zero, List.set_cons_succ])
      refine tk 12 (v := ?v_111) ?y111 ?_; (case y111 => (refine Or.inl ⟨by rfl, ?_⟩; intro w hSw; go_simp; first | done | with_reducible rfl)); (try simp only [Act.put, List.setIfInBounds_toArray, List.set_cons_zero, List.set_cons_succ])
      refine tk 13 (v := ?v_112) ?y112 ?_; (case y112 => (refine Or.inl ⟨by rfl, ?_⟩; intro w hSw; have x3 := hSw.x.cell 3 (.slice ma mn mc) rfl; have y3 := hSw.y.cell 3 (.slice ma2 mn2 mc2) rfl; have x9 := hSw.x.cell 9 (.slice fa fn fc) rfl; have y9 := hSw.y.cell 9 (.slice fa2 fn2 fc2) rfl; go_simp; first | done | with_reducible rfl)); (try simp only [Act.put, List.setIfInBounds_toArray, List.set_cons_zero, List.set_cons_succ])
      refine tk 14 (v := ?v_113) ?y113 ?_; (case y113 => (refine Or.inl ⟨by rfl, ?_⟩; intro w hSw; have x3 := hSw.x.cell 3 (.slice ma mn mc) rfl; have y3 := hSw.y.cell 3 (.slice ma2 mn2 mc2) rfl; have x9 := hSw.x.cell 9 (.slice fa fn fc) rfl; have y9 := hSw.y.cell 9 (.slice fa2 fn2 fc2) rfl; go_simp; first | done | with_reducible rfl)); (try simp only [Act.put, List.setIfInBounds_toArray, List.set_cons_zero, List.set_cons_succ])
      refine tk 15 (v := ?v_114) ?y114 ?_; (case y114 => (refine Or.inl ⟨by rfl, ?_⟩; intro w hSw; have x3 := hSw.x.cell 3 (.slice ma mn mc) rfl; have y3 := hSw.y.cell 3 (.slice ma2 mn2 mc2) rfl; have x9 := hSw.x.cell 9 (.slice fa fn fc) rfl; have y9 := hSw.y.cell 9 (.slice fa2 fn2 fc2) rfl; go_simp; first | done | with_reducible rfl)); (try simp only [Act.put, List.setIfInBounds_toArray, List.set_cons_zero, List.set_cons_succ])
      refine tk 16 (v := ?v_115) ?y115 ?_; (case y115 => (refine Or.inl ⟨by rfl, ?_⟩; intro w hSw; have x3 := hSw.x.cell 3 (.slice ma mn mc) rfl; have y3 := hSw.y.cell 3 (.slice ma2 mn2 mc2) rfl; have x9 := hSw.x.cell 9 (.slice fa fn fc) rfl; have y9 := hSw.y.cell 9 (.slice fa2 fn2 fc2) rfl; go_simp; first | done | with_reducible rfl)); (try simp only [Act.put, List.setIfInBounds_toArray, List.set_cons_zero, List.set_cons_succ])
      refine tk 17 (v := ?v_116) ?y116 ?_; (case y116 => (refine Or.inl ⟨by rfl, ?_⟩; intro w hSw; have x3 := hSw.x.cell 3 (.slice ma mn mc) rfl; have y3 := hSw.y.cell 3 (.slice ma2 mn2 mc2) rfl; have x9 := hSw.x.cell 9 (.slice fa fn fc) rfl; have y9 := hSw.y.cell 9 (.slice fa2 fn2 fc2) rfl; go_simp; first | done | with_reducible rfl)); (try simp only [Act.put, List.setIfInBounds_toArray, List.set_cons_zero, List.set_cons_succ])
      refine tk 18 (v := ?v_117) ?y117 ?_; (case y117 => (refine Or.inl ⟨by rfl, ?_⟩; intro w hSw; have x3 := hSw.x.cell 3 (.slice ma mn mc) rfl; have y3 := hSw.y.cell 3 (.slice ma2 mn2 mc2) rfl; have x9 := hSw.x.cell 9 (.slice fa fn fc) rfl; have y9 := hSw.y.cell 9 (.slice fa2 fn2 fc2) rfl; go_simp; first | done | with_reducible rfl)); (try simp only [Act.put, List.setIfInBounds_toArray, List.set_cons_zero, List.set_cons_succ])
      refine wpAnyH_ready (rs := [19]) (by kernel_rfl) (by simp) ?_; refine AllReadyH.cons (o := ?o_118) ?hi_118 (fun K hK => ?_) AllReadyH.nil; (case hi_118 => (simp only [List.getElem?_toArray, List.getElem?_cons_zero, List.getElem?_cons_succ]; rfl)); go_simp; (go_at_call 47; (refine (CT.out true (by simp [hFa]) _ HS6.out.bel).mono ?_; rintro e w7 ⟨rfl, hb⟩; have HS7 := Lib.hid (HS6.out.next hb); clear hb)); refine hK.out _ _ ?_ (fun hHeld => ?_); (· exact HS7.out); clear hK K; (try simp only [Act.put, List.setIfInBounds_toArray, List.set_cons_zero, List.set_cons_succ])
      refine tk 20 (v := ?v_119) ?y119 ?_; (case y119 => (refine Or.inl ⟨by rfl, ?_⟩; intro w hSw; go_simp; first | done | with_reducible rfl)); (try simp only [Act.put, List.setIfInBounds_toArray, List.set_cons_zero, List.set_cons_succ])
      refine tk 21 (v := ?v_120) ?y120 ?_; (case y120 => (refine Or.inl ⟨by rfl, ?_⟩; intro w hSw; go_simp; first | done | with_reducible rfl)); (try simp only [Act.put, List.setIfInBounds_toArray, List.set_cons_zero, List.set_cons_succ])
      refine tk 22 (v := .agg (qcells (.slice ma mn mc) (.slice fa fn fc) a.req)) ?y121 ?_; (case y121 => exact yl_all (by rfl) 35 _ rfl p rfl 35 (qcells (.slice ma mn mc) (.slice fa fn fc) a.req) hSX 16 szQ (nQ _ _ _) ruQ); (try simp only [Act.put, List.setIfInBounds_toArray, List.set_cons_zero, List.set_cons_succ])
      refine tk 24 (v := .agg (qcells (.slice ma2 mn2 mc2) (.slice fa2 fn2 fc2) b.req)) ?y122 ?_; (case y122 => exact yl_all (by rfl) 35 _ rfl r rfl 35 (qcells (.slice ma2 mn2 mc2) (.slice fa2 fn2 fc2) b.req) hSY 16 szQ (nQ _ _ _) ruQ); (try simp only [Act.put, List.setIfInBounds_toArray, List.set_cons_zero, List.set_cons_succ])
      refine wpAnyH_ready (rs := [23]) (by kernel_rfl) (by simp) ?_; refine AllReadyH.cons (o := ?o_123) ?hi_123 (fun K hK => ?_) AllReadyH.nil; (case hi_123 => (simp only [List.getElem?_toArray, List.getElem?_cons_zero, List.getElem?_cons_succ]; rfl)); go_simp; (go_at_call 48; (refine (CF1.out _).mono ?_; rintro e w8 ⟨rfl, hb⟩; have HS8 := Lib.hid (HS7.out.next hb); clear hb)); refine hK.out _ _ ?_ (fun hHeld => ?_); (· exact HS8.out); clear hK K; (try simp only [Act.put, List.setIfInBounds_toArray, List.set_cons_zero, List.set_cons_succ])
      refine wpAnyH_ready (rs := [25]) (by kernel_rfl) (by simp) ?_; refine AllReadyH.cons (o := ?o_124) ?hi_124 (fun K hK => ?_) AllReadyH.nil; (case hi_124 => (simp only [List.getElem?_toArray, List.getElem?_cons_zero, List.getElem?_cons_succ]; rfl)); go_simp; (go_at_call 48; (refine (CF2.out _).mono ?_; rintro e w9 ⟨rfl, hb⟩; have HS9 := Lib.hid (HS8.out.next hb); clear hb)); refine hK.out _ _ ?_ (fun hHeld => ?_); (· exact HS9.out); clear hK K; (try simp only [Act.put, List.setIfInBounds_toArray, List.set_cons_zero, List.set_cons_succ])
      refine tk 26 (v := ?v_125) ?y125 ?_; (case y125 => (refine Or.inl ⟨by rfl, ?_⟩; intro w hSw; go_simp; first | done | with_reducible rfl)); (try simp only [Act.put, List.setIfInBounds_toArray, List.set_cons_zero, List.set_cons_succ])
      refine tk 27 (v := ?v_126) ?y126 ?_; (case y126 => (refine Or.inl ⟨by rfl, ?_⟩; intro w hSw; go_simp; first | done | with_reducible rfl)); (try simp only [Act.put, List.setIfInBounds_toArray, List.set_cons_zero, List.set_cons_succ])
      refine tk 28 (v := ?v_127) ?y127 ?_; (case y127 => (refine Or.inl ⟨by rfl, ?_⟩; intro w hSw; go_simp; first | done | with_reducible rfl)); (try simp only [Act.put, List.setIfInBounds_toArray, List.set_cons_zero, List.set_cons_succ])
      refine wpAnyH_done (by kernel_rfl) ?_ _
      go_wp2
      go_ret
      exact ⟨by rw [show q0 = false from Bool.eq_false_iff.2 (fun h => (show ¬ a = b from fun h => (by cases HE4.out.2 (flat_self h))) (HQ0.out.1 h))]; first | done | rfl, HS9.out.bel⟩
    refine wp_region_held_drew (S := fun X => Sm w (eHead a ++ zQ.toList ++ (ccells a.chg).toList).toArray (eHead b ++ zQ.toList ++ (ccells b.chg).toList).toArray (qcells (.slice ma mn mc) (.slice fa fn fc) a.req) (qcells (.slice ma2 mn2 mc2) (.slice fa2 fn2 fc2) b.req) p r X) (by kernel_rfl) (by rw [hG]; exact HS3.out) (fun hHeld => ?_)
    rw [hG]
    refine tk 0 (v := .agg (eHead a ++ zQ.toList ++ (ccells a.chg).toList).toArray) ?y128 ?_; (case y128 => exact yl_all (by rfl) 39 _ rfl w.heap.size rfl 39 (eHead a ++ zQ.toList ++ (ccells a.chg).toList).toArray hSA 33 szE rfl ruE); (try simp only [Act.put, List.setIfInBounds_toArray, List.set_cons_zero, List.set_cons_succ])
    refine tk 2 (v := .agg (eHead b ++ zQ.toList ++ (ccells b.chg).toList).toArray) ?y129 ?_; (case y129 => exact yl_all (by rfl) 39 _ rfl (w.heap.size + 1) rfl 39 (eHead b ++ zQ.toList ++ (ccells b.chg).toList).toArray hSB 33 szE rfl ruE); (try simp only [Act.put, List.setIfInBounds_toArray, List.set_cons_zero, List.set_cons_succ])
    refine wpAnyH_ready (rs := [1]) (by kernel_rfl) (by simp) ?_; refine AllReadyH.cons (o := ?o_130) ?hi_130 (fun K hK => ?_) AllReadyH.nil; (case hi_130 => (simp only [List.getElem?_toArray, List.getElem?_cons_zero, List.getElem?_cons_succ]; rfl)); go_simp; (go_at_call 45; (refine (CP1.out _).mono ?_; rintro e w4 ⟨rfl, hb⟩; have HS4 := Lib.hid (HS3.out.next hb); clear hb)); refine hK.out _ _ ?_ (fun hHeld => ?_); (· exact HS4.out); clear hK K; (try simp only [Act.put, List.setIfInBounds_toArray, List.set_cons_zero, List.set_cons_succ])
    refine wpAnyH_ready (rs := [3]) (by kernel_rfl) (by simp) ?_; refine AllReadyH.cons (o := ?o_131) ?hi_131 (fun K hK => ?_) AllReadyH.nil; (case hi_131 => (simp only [List.getElem?_toArray, List.getElem?_cons_zero, List.getElem?_cons_succ]; rfl)); go_simp; (go_at_call 45; (refine (CP2.out _).mono ?_; rintro e w5 ⟨rfl, hb⟩; have HS5 := Lib.hid (HS4.out.next hb); clear hb)); refine hK.out _ _ ?_ (fun hHeld => ?_); (· exact HS5.out); clear hK K; (try simp only [Act.put, List.setIfInBounds_toArray, List.set_cons_zero, List.set_cons_succ])
    refine tk 4 (v := ?v_132) ?y132 ?_; (case y132 => (refine Or.inl ⟨by rfl, ?_⟩; intro w hSw; go_simp; first | done | with_reducible rfl)); (try simp only [Act.put, List.setIfInBounds_toArray, List.set_cons_zero, List.set_cons_succ])
    refine tk 5 (v := ?v_133) ?y133 ?_; (case y133 => (refine Or.inl ⟨by rfl, ?_⟩; intro w hSw; go_simp; first | done | with_reducible rfl)); (try simp only [Act.put, List.setIfInBounds_toArray, List.set_cons_zero, List.set_cons_succ])
    refine tk 6 (v := ?v_134) ?y134 ?_; (case y134 => (refine Or.inl ⟨by rfl, ?_⟩; intro w hSw; have x3 := hSw.x.cell 3 (.slice ma mn mc) rfl; have y3 := hSw.y.cell 3 (.slice ma2 mn2 mc2) rfl; have x9 := hSw.x.cell 9 (.slice fa fn fc) rfl; have y9 := hSw.y.cell 9 (.slice fa2 fn2 fc2) rfl; go_simp; first | done | with_reducible rfl)); (try simp only [Act.put, List.setIfInBounds_toArray, List.set_cons_zero, List.set_cons_succ])
    refine tk 7 (v := ?v_135) ?y135 ?_; (case y135 => (refine Or.inl ⟨by rfl, ?_⟩; intro w hSw; have x3 := hSw.x.cell 3 (.slice ma mn mc) rfl; have y3 := hSw.y.cell 3 (.slice ma2 mn2 mc2) rfl; have x9 := hSw.x.cell 9 (.slice fa fn fc) rfl; have y9 := hSw.y.cell 9 (.slice fa2 fn2 fc2) rfl; go_simp; first | done | with_reducible rfl)); (try simp only [Act.put, List.setIfInBounds_toArray, List.set_cons_zero, List.set_cons_succ])
    refine tk 8 (v := ?v_136) ?y136 ?_; (case y136 => (refine Or.inl ⟨by rfl, ?_⟩; intro w hSw; have x3 := hSw.x.cell 3 (.slice ma mn mc) rfl; have y3 := hSw.y.cell 3 (.slice ma2 mn2 mc2) rfl; have x9 := hSw.x.cell 9 (.slice fa fn fc) rfl; have y9 := hSw.y.cell 9 (.slice fa2 fn2 fc2) rfl; go_simp; first | done | with_reducible rfl)); (try simp only [Act.put, List.setIfInBounds_toArray, List.set_cons_zero, List.set_cons_succ])
    refine tk 9 (v := ?v_137) ?y137 ?_; (case y137 => (refine Or.inl ⟨by rfl, ?_⟩; intro w hSw; have x3 := hSw.x.cell 3 (.slice ma mn mc) rfl; have y3 := hSw.y.cell 3 (.slice ma2 mn2 mc2) rfl; have x9 := hSw.x.cell 9 (.slice fa fn fc) rfl; have y9 := hSw.y.cell 9 (.slice fa2 fn2 fc2) rfl; go_simp; first | done | with_reducible rfl)); (try simp only [Act.put, List.setIfInBounds_toArray, List.set_cons_zero, List.set_cons_succ])
    refine wpAnyH_ready (rs := [10]) (by kernel_rfl) (by simp) ?_; refine AllReadyH.cons (o := ?o_138) ?hi_138 (fun K hK => ?_) AllReadyH.nil; (case hi_138 => (simp only [List.getElem?_toArray, List.getElem?_cons_zero, List.getElem?_cons_succ]; rfl)); go_simp; (go_at_call 46; (refine (CM.out true (by simp [hMu]) _ HS5.out.bel).mono ?_; rintro e w6 ⟨rfl, hb⟩; have HS6 := Lib.hid (HS5.out.next hb); clear hb)); refine hK.out _ _ ?_ (fun hHeld => ?_); (· exact HS6.out); clear hK K; (try simp only [Act.put, List.setIfInBounds_toArray, List.set_cons_zero, List.set_cons_succ])
    refine tk 11 (v := ?v_139) ?y139 ?_; (case y139 => (refine Or.inl ⟨by rfl, ?_⟩; intro w hSw; go_simp; first | done | with_reducible rfl)); (try simp only [Act.put, List.setIfInBounds_toArray, List.set_cons_zero, List.set_cons_succ])
    refine tk 12 (v := ?v_140) ?y140 ?_; (case y140 => (refine Or.inl ⟨by rfl, ?_⟩; intro w hSw; go_simp; first | done | with_reducible rfl)); (try simp only [Act.put, List.setIfInBounds_toArray, List.set_cons_zero, List.set_cons_succ])
    refine tk 13 (v := ?v_141) ?y141 ?_; (case y141 => (refine Or.inl ⟨by rfl, ?_⟩; intro w hSw; have x3 := hSw.x.cell 3 (.slice ma mn mc) rfl; have y3 := hSw.y.cell 3 (.slice ma2 mn2 mc2) rfl; have x9 := hSw.x.cell 9 (.slice fa fn fc) rfl; have y9 := hSw.y.cell 9 (.slice fa2 fn2 fc2) rfl; go_simp; first | done | with_reducible rfl)); (try simp only [Act.put, List.setIfInBounds_toArray, List.set_cons_zero, List.set_cons_succ])
    refine tk 14 (v := ?v_142) ?y142 ?_; (case y142 => (refine Or.inl ⟨by rfl, ?_⟩; intro w hSw; have x3 := hSw.x.cell 3 (.slice ma mn mc) rfl; have y3 := hSw.y.cell 3 (.slice ma2 mn2 mc2) rfl; have x9 := hSw.x.cell 9 (.slice fa fn fc) rfl; have y9 := hSw.y.cell 9 (.slice fa2 fn2 fc2) rfl; go_simp; first | done | with_reducible rfl)); (try simp only [Act.put, List.setIfInBounds_toArray, List.set_cons_zero, List.set_cons_succ])
    refine tk 15 (v := ?v_143) ?y143 ?_; (case y143 => (refine Or.inl ⟨by rfl, ?_⟩; intro w hSw; have x3 := hSw.x.cell 3 (.slice ma mn mc) rfl; have y3 := hSw.y.cell 3 (.slice ma2 mn2 mc2) rfl; have x9 := hSw.x.cell 9 (.slice fa fn fc) rfl; have y9 := hSw.y.cell 9 (.slice fa2 fn2 fc2) rfl; go_simp; first | done | with_reducible rfl)); (try simp only [Act.put, List.setIfInBounds_toArray, List.set_cons_zero, List.set_cons_succ])
    refine tk 16 (v := ?v_144) ?y144 ?_; (case y144 => (refine Or.inl ⟨by rfl, ?_⟩; intro w hSw; have x3 := hSw.x.cell 3 (.slice ma mn mc) rfl; have y3 := hSw.y.cell 3 (.slice ma2 mn2 mc2) rfl; have x9 := hSw.x.cell 9 (.slice fa fn fc) rfl; have y9 := hSw.y.cell 9 (.slice fa2 fn2 fc2) rfl; go_simp; first | done | with_reducible rfl)); (try simp only [Act.put, List.setIfInBounds_toArray, List.set_cons_zero, List.set_cons_succ])
    refine tk 17 (v := ?v_145) ?y145 ?_; (case y145 => (refine Or.inl ⟨by rfl, ?_⟩; intro w hSw; have x3 := hSw.x.cell 3 (.slice ma mn mc) rfl; have y3 := hSw.y.cell 3 (.slice ma2 mn2 mc2) rfl; have x9 := hSw.x.cell 9 (.slice fa fn fc) rfl; have y9 := hSw.y.cell 9 (.slice fa2 fn2 fc2) rfl; go_simp; first | done | with_reducible rfl)); (try simp only [Act.put, List.setIfInBounds_toArray, List.set_cons_zero, List.set_cons_succ])
    refine tk 18 (v := ?v_146) ?y146 ?_; (case y146 => (refine Or.inl ⟨by rfl, ?_⟩; intro w hSw; have x3 := hSw.x.cell 3 (.slice ma mn mc) rfl; have y3 := hSw.y.cell 3 (.slice ma2 mn2 mc2) rfl; have x9 := hSw.x.cell 9 (.slice fa fn fc) rfl; have y9 := hSw.y.cell 9 (.slice fa2 fn2 fc2) rfl; go_simp; first | done | with_reducible rfl)); (try simp only [Act.put, List.setIfInBounds_toArray, List.set_cons_zero, List.set_cons_succ])
    refine wpAnyH_ready (rs := [19]) (by kernel_rfl) (by simp) ?_; refine AllReadyH.cons (o := ?o_147) ?hi_147 (fun K hK => ?_) AllReadyH.nil; (case hi_147 => (simp only [List.getElem?_toArray, List.getElem?_cons_zero, List.getElem?_cons_succ]; rfl)); go_simp; (go_at_call 47; (refine (CT.out true (by simp [hFa]) _ HS6.out.bel).mono ?_; rintro e w7 ⟨rfl, hb⟩; have HS7 := Lib.hid (HS6.out.next hb); clear hb)); refine hK.out _ _ ?_ (fun hHeld => ?_); (· exact HS7.out); clear hK K; (try simp only [Act.put, List.setIfInBounds_toArray, List.set_cons_zero, List.set_cons_succ])
    refine tk 20 (v := ?v_148) ?y148 ?_; (case y148 => (refine Or.inl ⟨by rfl, ?_⟩; intro w hSw; go_simp; first | done | with_reducible rfl)); (try simp only [Act.put, List.setIfInBounds_toArray, List.set_cons_zero, List.set_cons_succ])
    refine tk 21 (v := ?v_149) ?y149 ?_; (case y149 => (refine Or.inl ⟨by rfl, ?_⟩; intro w hSw; go_simp; first | done | with_reducible rfl)); (try simp only [Act.put, List.setIfInBounds_toArray, List.set_cons_zero, List.set_cons_succ])
    refine tk 22 (v := .agg (qcells (.slice ma mn mc) (.slice fa fn fc) a.req)) ?y150 ?_; (case y150 => exact yl_all (by rfl) 35 _ rfl p rfl 35 (qcells (.slice ma mn mc) (.slice fa fn fc) a.req) hSX 16 szQ (nQ _ _ _) ruQ); (try simp only [Act.put, List.setIfInBounds_toArray, List.set_cons_zero, List.set_cons_succ])
    refine tk 24 (v := .agg (qcells (.slice ma2 mn2 mc2) (.slice fa2 fn2 fc2) b.req)) ?y151 ?_; (case y151 => exact yl_all (by rfl) 35 _ rfl r rfl 35 (qcells (.slice ma2 mn2 mc2) (.slice fa2 fn2 fc2) b.req) hSY 16 szQ (nQ _ _ _) ruQ); (try simp only [Act.put, List.setIfInBounds_toArray, List.set_cons_zero, List.set_cons_succ])
    refine wpAnyH_ready (rs := [23]) (by kernel_rfl) (by simp) ?_; refine AllReadyH.cons (o := ?o_152) ?hi_152 (fun K hK => ?_) AllReadyH.nil; (case hi_152 => (simp only [List.getElem?_toArray, List.getElem?_cons_zero, List.getElem?_cons_succ]; rfl)); go_simp; (go_at_call 48; (refine (CF1.out _).mono ?_; rintro e w8 ⟨rfl, hb⟩; have HS8 := Lib.hid (HS7.out.next hb); clear hb)); refine hK.out _ _ ?_ (fun hHeld => ?_); (· exact HS8.out); clear hK K; (try simp only [Act.put, List.setIfInBounds_toArray, List.set_cons_zero, List.set_cons_succ])
    refine wpAnyH_ready (rs := [25]) (by kernel_rfl) (by simp) ?_; refine AllReadyH.cons (o := ?o_153) ?hi_153 (fun K hK => ?_) AllReadyH.nil; (case hi_153 => (simp only [List.getElem?_toArray, List.getElem?_cons_zero, List.getElem?_cons_succ]; rfl)); go_simp; (go_at_call 48; (refine (CF2.out _).mono ?_; rintro e w9 ⟨rfl, hb⟩; have HS9 := Lib.hid (HS8.out.next hb); clear hb)); refine hK.out _ _ ?_ (fun hHeld => ?_); (· exact HS9.out); clear hK K; (try simp only [Act.put, List.setIfInBounds_toArray, List.set_cons_zero, List.set_cons_succ])
    refine tk 26 (v := ?v_154) ?y154 ?_; (case y154 => (refine Or.inl ⟨by rfl, ?_⟩; intro w hSw; go_simp; first | done | with_reducible rfl)); (try simp only [Act.put, List.setIfInBounds_toArray, List.set_cons_zero, List.set_cons_succ])
    refine tk 27 (v := ?v_155) ?y155 ?_; (case y155 => (refine Or.inl ⟨by rfl, ?_⟩; intro w hSw; go_simp; first | done | with_reducible rfl)); (try simp only [Act.put, List.setIfInBounds_toArray, List.set_cons_zero, List.set_cons_succ])
    refine tk 28 (v := ?v_156) ?y156 ?_; (case y156 => (refine Or.inl ⟨by rfl, ?_⟩; intro w hSw; go_simp; first | done | with_reducible rfl)); (try simp only [Act.put, List.setIfInBounds_toArray, List.set_cons_zero, List.set_cons_succ])
    refine wpAnyH_done (by kernel_rfl) ?_ _
    go_wp2
    go_ret
    exact ⟨by rw [HQ0.out.2 (ev_eq (HE1.out.1 (by trivial)) hMu hFa (HE4.out.1 (by trivial)))]; first | done | rfl, HS9.out.bel⟩
end Go.Proofs.YtkogcobcjoojnaaGreatDoor.Fl

namespace Go.Proofs.YtkogcobcjoojnaaGreatDoor.Fl
open Go.RowKit Go.Maps
set_option linter.unusedVariables false
set_option linter.unusedSimpArgs false
theorem leq_cmp : ∀ a b : List UInt8, (Op.bytesLess a b || a == b) = decide (Lib.compareBytes a b ≤ 0)
  | [], [] => by simp [Op.bytesLess, Lib.compareBytes]
  | [], _ :: _ => by simp [Op.bytesLess, Lib.compareBytes]
  | _ :: _, [] => by simp [Op.bytesLess, Lib.compareBytes]
  | a :: x, b :: y => by
    have ih := leq_cmp x y
    rw [Op.bytesLess, Lib.compareBytes]
    by_cases h1 : a < b
    · simp [h1]
    · by_cases h2 : b < a
      · have h3 : ¬ a = b := fun e => by subst e; exact h1 h2
        simp [h1, h2, h3]
      · have h3 : a = b := UInt8.le_antisymm (UInt8.not_lt.1 h2) (UInt8.not_lt.1 h1)
        subst h3
        rw [if_neg h1, if_neg h1, ← ih]
        simp [h1]
theorem leq_str (a b : ByteArray) : (Op.bytesLess a.toList b.toList || a.toList == b.toList) = decide (cmpB a b ≤ 0) := by
  rw [show a.toList = a.data.toList from Lib.toList_data a, show b.toList = b.data.toList from Lib.toList_data b]
  exact leq_cmp _ _
theorem cast_le (n m : Nat) (k : Int) (hk : k = m) : decide ((n : Int) ≤ k) = decide (n ≤ m) := decide_eq_decide.2 (by omega)
theorem pRight_eq (f : FilE) : pRight f.fams f.lo f.hi f.since f.til f.versions f.rows = filOk f := by
  unfold pRight filOk
  rw [cast_le _ 6 6 rfl, cast_le _ 12 12 rfl, cast_le _ 12 12 rfl]
  simp only [Bool.and_assoc]
theorem pEmpty_eq (f : FilE) : pEmpty f.fams f.lo f.hi f.since f.til f.versions f.rows = filNo f := by
  unfold pEmpty filNo
  rw [isE, isE]
  have h1 : decide (f.fams.length = 0) = f.fams.isEmpty := by cases f.fams <;> simp
  have h2 : ∀ x : Int, decide (x = 0) = (x == 0) := fun x => rfl
  rw [h1, h2, h2, h2, h2]
  simp only [Bool.and_assoc]
theorem pWrite_eq (q : ReqE) : pWrite q.row q.stop q.muts q.fil.fams q.fil.lo q.fil.hi q.fil.since q.fil.til q.fil.versions q.fil.rows = writeOk q := by
  unfold pWrite writeOk
  rw [pEmpty_eq, isE, isE, cast_le _ 16 16 rfl, cast_le _ 8 8 rfl]
  have h1 : (!decide (q.row = noB)) = decide (1 ≤ q.row.size) := by
    by_cases h : q.row = noB
    · rw [h]; rfl
    · have : ¬ q.row.size = 0 := fun e => h (byt_inj (by rw [show byt q.row = [] from List.length_eq_zero_iff.1 (by rw [byt_len]; exact e)]; rfl))
      simp [h]; omega
  have h2 : decide (0 < q.muts.length) = decide (1 ≤ q.muts.length) := rfl
  rw [h1, h2]
  simp only [Bool.and_assoc]
/-- What a machine holds of a request. -/
structure QW (w : World) (a : Option Addr) (c : Nat) (fa : Option Addr) (fc : Nat) (q : ReqE) : Prop where
  m : HasM w (.slice a q.muts.length c) q.muts
  f : HasS w (.slice fa q.fil.fams.length fc) q.fil.fams
  ml : q.muts.length ≤ 1099511627776
  fl : q.fil.fams.length ≤ 1099511627776
  mv : ∀ m ∈ q.muts, VW m.vn m.vs
  v : VW q.vn q.vs
  n : ReqW q
theorem QW.keep {w w' : World} {a : Option Addr} {c : Nat} {fa : Option Addr} {fc : Nat} {q : ReqE} (h : QW w a c fa fc q) (hb : Below w.heap.size w w') : QW w' a c fa fc q := ⟨h.m.keep hb, h.f.keep hb, h.ml, h.fl, h.mv, h.v, h.n⟩
set_option maxHeartbeats 4000000 in
set_option maxRecDepth 100000 in
theorem c_pread (k : Int) (q : ReqE) (a : Option Addr) (c : Nat) (fa : Option Addr) (fc : Nat) (w : World) (h : QW w a c fa fc q) :
    Calls Tryz.prog 49 #[.agg #[.int .i64 k, .string q.row, .string q.stop, .slice a q.muts.length c, .string q.fam, .string q.qual, .int .i64 q.vk, .int .i64 q.vn, .string q.vs, .slice fa q.fil.fams.length fc, .string q.fil.lo, .string q.fil.hi, .int .i64 q.fil.since, .int .i64 q.fil.til, .int .i64 q.fil.versions, .int .i64 q.fil.rows]] w fun e w' =>
      e = .returned (.bool (decide (q.row.size ≤ 16) && decide (q.stop.size ≤ 16) && (decide (q.stop = noB) || decide (cmpB q.row q.stop ≤ 0)) && q.muts.isEmpty && decide (q.fam = noB) && decide (q.qual = noB) && noVal q.vk q.vn q.vs && filOk q.fil)) ∧ Below w.heap.size w w' := by
  have hm : q.muts.isEmpty = decide (q.muts.length = 0) := by cases q.muts <;> simp
  rw [← pRight_eq, hm]
  by_cases hs : q.stop = noB
  · rw [hs]
    refine (c_pread_a k q.row a c q.muts.length q.fam q.qual q.vk q.vn q.vs fa fc q.fil.fams q.fil.lo q.fil.hi q.fil.since q.fil.til q.fil.versions q.fil.rows h.fl w h.f).mono ?_
    rintro e w' ⟨rfl, hb⟩
    refine ⟨?_, hb⟩
    rw [isE, isE, cast_le _ 16 16 rfl, show decide (noB.size ≤ 16) = true from by decide, show decide (noB = noB) = true from decide_eq_true rfl]
    simp only [Bool.and_assoc, Bool.true_or, Bool.true_and, Bool.and_true]
  · have hs2 : ¬ q.stop.toList = [] := fun e => hs (by have := isE q.stop; rw [e] at this; exact of_decide_eq_true this.symm)
    refine (c_pread_b k q.row q.stop a c q.muts.length q.fam q.qual q.vk q.vn q.vs fa fc q.fil.fams q.fil.lo q.fil.hi q.fil.since q.fil.til q.fil.versions q.fil.rows h.fl hs2 w h.f).mono ?_
    rintro e w' ⟨rfl, hb⟩
    refine ⟨?_, hb⟩
    rw [isE, isE, cast_le _ 16 16 rfl, cast_le _ 16 16 rfl, leq_str, show decide (q.stop = noB) = false from decide_eq_false hs]
    simp only [Bool.and_assoc, Bool.false_or]
set_option maxHeartbeats 4000000 in
set_option maxRecDepth 100000 in
theorem c_formed (q : ReqE) (a : Option Addr) (c : Nat) (fa : Option Addr) (fc : Nat) (w : World) (hg : Gv w) (h : QW w a c fa fc q) :
    Calls Tryz.prog 25 #[.agg (qcells (.slice a q.muts.length c) (.slice fa q.fil.fams.length fc) q)] w fun e w' => e = .returned (.bool (reqOk q)) ∧ Below w.heap.size w w' := by
  unfold reqOk qcells
  by_cases h3 : q.kind = 3
  · rw [if_pos h3, h3]
    have C := Lib.hid (fun W (hb : Below w.heap.size w W) => c_pread 3 q a c fa fc W (h.keep hb))
    generalize (decide (q.row.size ≤ 16) && decide (q.stop.size ≤ 16) && (decide (q.stop = noB) || decide (cmpB q.row q.stop ≤ 0)) && q.muts.isEmpty && decide (q.fam = noB) && decide (q.qual = noB) && noVal q.vk q.vn q.vs && filOk q.fil) = r at C ⊢
    have HX0 := Lib.hid (Bx.start w #[.int .i64 3, .string q.row, .string q.stop, .slice a q.muts.length c, .string q.fam, .string q.qual, .int .i64 q.vk, .int .i64 q.vn, .string q.vs, .slice fa q.fil.fams.length fc, .string q.fil.lo, .string q.fil.hi, .int .i64 q.fil.since, .int .i64 q.fil.til, .int .i64 q.fil.versions, .int .i64 q.fil.rows] 35)
    obtain ⟨x0, x1, x2, x3, x4, x5, x6, x7, x8, x9, x10, x11, x12, x13, x14, x15⟩ := HX0.out.c16
    go_enter Tryz.func25, Tryz.ntmps25
    go_wp2_with fail
    refine (C.out _ HX0.out.bel).mono ?_
    rintro e w1 ⟨rfl, hb⟩
    have HX1 := Lib.hid (HX0.out.next hb)
    clear hb x0 x1 x2 x3 x4 x5 x6 x7 x8 x9 x10 x11 x12 x13 x14 x15
    go_wp2
    go_ret
    exact ⟨rfl, HX1.out.bel⟩
  rw [if_neg h3]
  by_cases h1 : q.kind = 1
  · rw [if_pos h1, h1]
    refine (c_pform1 q.row q.stop a c q.muts q.fam q.qual q.vk q.vn q.vs fa fc q.fil.fams q.fil.lo q.fil.hi q.fil.since q.fil.til q.fil.versions q.fil.rows h.mv h.ml h.v w hg h.m).mono ?_
    rintro e w' ⟨rfl, hb⟩
    refine ⟨?_, hb⟩
    rw [pWrite_eq, isE, isE]
    simp only [Bool.and_assoc]
  rw [if_neg h1]
  by_cases h2 : q.kind = 2
  · rw [if_pos h2, h2]
    cases hn : noVal q.vk q.vn q.vs with
    | true =>
      refine (c_pform2a q.row q.stop a c q.muts q.fam q.qual q.vk q.vn q.vs fa fc q.fil.fams q.fil.lo q.fil.hi q.fil.since q.fil.til q.fil.versions q.fil.rows h.mv h.ml h.v hn w hg h.m).mono ?_
      rintro e w' ⟨rfl, hb⟩
      refine ⟨?_, hb⟩
      rw [pWrite_eq, cast_le _ 12 12 rfl]
      simp only [Bool.and_assoc, Bool.true_or, Bool.and_true]
    | false =>
      refine (c_pform2b q.row q.stop a c q.muts q.fam q.qual q.vk q.vn q.vs fa fc q.fil.fams q.fil.lo q.fil.hi q.fil.since q.fil.til q.fil.versions q.fil.rows h.mv h.ml h.v hn w hg h.m).mono ?_
      rintro e w' ⟨rfl, hb⟩
      refine ⟨?_, hb⟩
      rw [pWrite_eq, cast_le _ 12 12 rfl]
      simp only [Bool.and_assoc, Bool.false_or]
  rw [if_neg h2]
  have HX0 := Lib.hid (Bx.start w #[.int .i64 q.kind, .string q.row, .string q.stop, .slice a q.muts.length c, .string q.fam, .string q.qual, .int .i64 q.vk, .int .i64 q.vn, .string q.vs, .slice fa q.fil.fams.length fc, .string q.fil.lo, .string q.fil.hi, .int .i64 q.fil.since, .int .i64 q.fil.til, .int .i64 q.fil.versions, .int .i64 q.fil.rows] 35)
  have x0 := HX0.out.cell 0 (.int .i64 q.kind) rfl
  go_enter Tryz.func25, Tryz.ntmps25
  go_wp2
  go_ret
  exact ⟨rfl, HX0.out.bel⟩
end Go.Proofs.YtkogcobcjoojnaaGreatDoor.Fl
