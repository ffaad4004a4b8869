/- Values out of bytes: Decode. -/
import Derived.Test.YtikpmlginojnhaaGreatDoorVF
namespace Go.Proofs.YtikpmlginojnhaaGreatDoor.Fl
open Go.RowKit Go.Maps
set_option linter.unusedVariables false
set_option linter.unusedSimpArgs false
/-- The result's box. -/
structure Zb (w W : World) (a0 a1 a2 : Value) : Prop where
  z : W.heap[w.heap.size]? = some (.cells #[a0, a1, a2] 23 (0, 0))
  bel : Below w.heap.size w W
theorem Zb.start (w : World) (a0 a1 a2 : Value) : Zb w (w.alloc (.cells #[a0, a1, a2] 23)) a0 a1 a2 := ⟨heap_alloc_new _ _, (Below.refl _ _).alloc (Nat.le_refl _) _⟩
theorem Zb.below {w W W' : World} {a0 a1 a2 : Value} (h : Zb w W a0 a1 a2) (hb : Below W.heap.size W W') : Zb w W' a0 a1 a2 := ⟨(hb.block _ (lt_block h.z)).trans h.z, h.bel.trans (hb.mono h.bel.size)⟩
theorem Zb.facts {w W : World} {a0 a1 a2 : Value} (h : Zb w W a0 a1 a2) : W.cell? ⟨w.heap.size, 0, none⟩ = some a0 ∧ W.cell? ⟨w.heap.size, 1, none⟩ = some a1 ∧ W.cell? ⟨w.heap.size, 2, none⟩ = some a2 ∧ W.frozen? ⟨w.heap.size, 0, none⟩ = false ∧ W.frozen? ⟨w.heap.size, 1, none⟩ = false ∧ W.frozen? ⟨w.heap.size, 2, none⟩ = false := by
  obtain ⟨x0, x1, x2⟩ := cells3 h.z
  refine ⟨x0, x1, x2, ?_, ?_, ?_⟩ <;> simp [World.frozen?, h.z]
theorem Zb.put {w W : World} {a0 a1 a2 : Value} (h : Zb w W a0 a1 a2) (v0 v1 v2 : Value) : Zb w (((W.setCell ⟨w.heap.size, 0, none⟩ v0).setCell ⟨w.heap.size, 1, none⟩ v1).setCell ⟨w.heap.size, 2, none⟩ v2) v0 v1 v2 := by
  have e1 := setCell_eq_setRow W w.heap.size 0 #[a0, a1, a2] 23 (0, 0) v0 h.z
  have h1 := setRow_heap W w.heap.size #[a0, a1, a2] (#[a0, a1, a2].setIfInBounds 0 v0) 23 (0, 0) h.z
  have e2 := setCell_eq_setRow _ w.heap.size 1 _ 23 (0, 0) v1 h1
  have h2 := setRow_heap _ w.heap.size _ ((#[a0, a1, a2].setIfInBounds 0 v0).setIfInBounds 1 v1) 23 (0, 0) h1
  have e3 := setCell_eq_setRow _ w.heap.size 2 _ 23 (0, 0) v2 h2
  have h3 := setRow_heap _ w.heap.size _ (((#[a0, a1, a2].setIfInBounds 0 v0).setIfInBounds 1 v1).setIfInBounds 2 v2) 23 (0, 0) h2
  refine ⟨?_, ?_⟩
  · rw [e1, e2, e3, h3]
    rfl
  · exact ((h.bel.setCell (p := ⟨w.heap.size, 0, none⟩) (Nat.le_refl _) v0).setCell (p := ⟨w.heap.size, 1, none⟩) (Nat.le_refl _) v1).setCell (p := ⟨w.heap.size, 2, none⟩) (Nat.le_refl _) v2
theorem keepS {X Y : World} {ad : Addr} {v : Value} {g : Nat} {o : Obj} (hb : Below X.heap.size X Y) (h : X.cell? ad = some v ∧ X.heap[g]? = some o) : Y.cell? ad = some v ∧ Y.heap[g]? = some o := ⟨(hb.cell (World.block_lt_of_cell? X _ h.1)).trans h.1, (hb.block _ (lt_block h.2)).trans h.2⟩
theorem below_new3 (X : World) (o : Obj) (v0 v1 v2 : Value) : Below X.heap.size X ((((X.alloc o).setCell ⟨X.heap.size, 0, none⟩ v0).setCell ⟨X.heap.size, 1, none⟩ v1).setCell ⟨X.heap.size, 2, none⟩ v2) :=
  ((((Below.refl _ _).alloc (Nat.le_refl _) o).setCell (p := ⟨X.heap.size, 0, none⟩) (Nat.le_refl _) v0).setCell (p := ⟨X.heap.size, 1, none⟩) (Nat.le_refl _) v1).setCell (p := ⟨X.heap.size, 2, none⟩) (Nat.le_refl _) v2
theorem keepT {w W : World} {ad : Addr} {v : Value} {o : Obj} (ha : ad.block < w.heap.size) (h : W.cell? ad = some v ∧ W.heap[w.heap.size]? = some o) (v0 v1 v2 : Value) : (((W.setCell ⟨w.heap.size + 1, 0, none⟩ v0).setCell ⟨w.heap.size + 1, 1, none⟩ v1).setCell ⟨w.heap.size + 1, 2, none⟩ v2).cell? ad = some v ∧ (((W.setCell ⟨w.heap.size + 1, 0, none⟩ v0).setCell ⟨w.heap.size + 1, 1, none⟩ v1).setCell ⟨w.heap.size + 1, 2, none⟩ v2).heap[w.heap.size]? = some o := by
  have hb : Below (w.heap.size + 1) W (((W.setCell ⟨w.heap.size + 1, 0, none⟩ v0).setCell ⟨w.heap.size + 1, 1, none⟩ v1).setCell ⟨w.heap.size + 1, 2, none⟩ v2) := (((Below.refl _ _).setCell (p := ⟨w.heap.size + 1, 0, none⟩) (Nat.le_refl _) v0).setCell (p := ⟨w.heap.size + 1, 1, none⟩) (Nat.le_refl _) v1).setCell (p := ⟨w.heap.size + 1, 2, none⟩) (Nat.le_refl _) v2
  exact ⟨(hb.cell (p := ad) (Nat.lt_succ_of_lt ha)).trans h.1, (hb.block _ (Nat.lt_succ_self _)).trans h.2⟩
theorem fr3 {W : World} {g : Nat} {e : TypeId} {a0 a1 a2 : Value} (h : W.heap[g]? = some (.cells #[a0, a1, a2] e (0, 0))) : W.frozen? ⟨g, 0, none⟩ = false ∧ W.frozen? ⟨g, 1, none⟩ = false ∧ W.frozen? ⟨g, 2, none⟩ = false := by
  refine ⟨?_, ?_, ?_⟩ <;> simp [World.frozen?, h]
theorem put3 {W : World} {g : Nat} {a0 a1 a2 : Value} (hz : W.heap[g]? = some (.cells #[a0, a1, a2] 23 (0, 0))) (v0 v1 v2 : Value) : (((W.setCell ⟨g, 0, none⟩ v0).setCell ⟨g, 1, none⟩ v1).setCell ⟨g, 2, none⟩ v2).heap[g]? = some (.cells #[v0, v1, v2] 23 (0, 0)) := by
  have e1 := setCell_eq_setRow W g 0 #[a0, a1, a2] 23 (0, 0) v0 hz
  have h1 := setRow_heap W g #[a0, a1, a2] (#[a0, a1, a2].setIfInBounds 0 v0) 23 (0, 0) hz
  have e2 := setCell_eq_setRow _ g 1 _ 23 (0, 0) v1 h1
  have h2 := setRow_heap _ g _ ((#[a0, a1, a2].setIfInBounds 0 v0).setIfInBounds 1 v1) 23 (0, 0) h1
  have e3 := setCell_eq_setRow _ g 2 _ 23 (0, 0) v2 h2
  have h3 := setRow_heap _ g _ (((#[a0, a1, a2].setIfInBounds 0 v0).setIfInBounds 1 v1).setIfInBounds 2 v2) 23 (0, 0) h2
  rw [e1, e2, e3, h3]
  rfl
theorem dec_cons {x : Int} {t : List Int} {n' : Int} {s' : ByteArray} {ok : Bool} (ht : TkIs x t n' s' ok) {k n : Int} {s : ByteArray} {b : Bool} (hd : DecIs (x :: t) k n s b) : (ok = true ∧ b = true ∧ k = x ∧ n = n' ∧ s = s') ∨ (ok = false ∧ b = false ∧ k = 0 ∧ n = 0 ∧ s = ⟨#[]⟩) := by
  obtain ⟨h1, h2, h3⟩ := ht
  cases ok with
  | true =>
    obtain ⟨a1, a2⟩ := h2 rfl
    obtain ⟨r1, r2, r3, r4⟩ := dec_yes hd h1 a1 (by rw [encV_right a1, a2])
    exact Or.inl ⟨rfl, r1, r2, r3, r4⟩
  | false =>
    obtain ⟨r1, r2, r3, r4⟩ := dec_no hd (fun k' n2 s2 a1 a2 a3 => by
      rw [encV_right a2] at a3
      obtain ⟨rfl, e⟩ := List.cons_eq_cons.1 a3
      have := (h3 n2 s2 a1 a2 e).1
      cases this)
    exact Or.inr ⟨rfl, r1, r2, r3, r4⟩
theorem dec_nil {k n : Int} {s : ByteArray} {b : Bool} (hd : DecIs [] k n s b) : b = false ∧ k = 0 ∧ n = 0 ∧ s = ⟨#[]⟩ := dec_no hd (fun k' n2 s2 a1 a2 a3 => by rw [encV_right a2] at a3; cases a3)
set_option maxHeartbeats 4000000 in
set_option maxRecDepth 100000 in
theorem c_vdecode (w : World) (v : Value) (l : List Int) (hv : HasB w v l) (hb : Byts l) (hm : l.length ≤ 1000000) (hg : Gv w) (k n : Int) (s : ByteArray) (b : Bool) (hd : DecIs l k n s b) :
    Calls Tryz.prog 20 #[v] w fun e w' => e = .returned (.tuple #[vv k n s, .bool b]) ∧ Below w.heap.size w w' := by
  obtain ⟨A, c, rfl, hc, hk⟩ := hv
  have HZ0 := Lib.hid (Zb.start w (.int .i64 0) (.int .i64 0) (.string ⟨#[]⟩))
  have HG := Lib.hid hg
  cases l with
  | nil =>
    obtain ⟨rfl, rfl, rfl, rfl⟩ := dec_nil hd
    have t0 : (([] : List Int).length : Int) = 0 := rfl
    clear hd hk hg hb hm
    obtain ⟨x0, x1, x2, f0, f1, f2⟩ := HZ0.out.facts
    go_enter Tryz.func20, Tryz.ntmps20
    go_wp2
    exact bodyPost_ret (ret_cell rfl _ _ w.heap.size 0 0 ⟨#[]⟩ false (0, 0) rfl rfl HZ0.out.z) rfl ⟨rfl, HZ0.out.bel⟩
  | cons x t =>
    obtain ⟨ad, rfl, c0⟩ := hk 0 (by simp)
    have hk2 : ∀ j, j < (x :: t).length → w.cell? (ad.add j) = some (.int .u8 ((x :: t).getD j 0)) := fun j hj => by
      obtain ⟨ad2, e, h⟩ := hk j hj
      obtain rfl := Option.some.inj e
      exact h
    have c0' : w.cell? ad = some (.int .u8 x) := by simpa [Addr.add] using c0
    have y0 := (HZ0.out.bel.cell (World.block_lt_of_cell? w _ c0')).trans c0'
    have hxb := hb x (by simp)
    have hwx : IntKind.i64.wrap x = x := by rw [IntKind.wrap_i64]; omega
    have hwx2 : wrap64 x = x := by unfold wrap64; omega
    have hlen : (x :: t).length = t.length + 1 := rfl
    have hbt : Byts t := fun z hz => hb z (by simp [hz])
    have hmt : t.length ≤ 1000000 := by have := hm; rw [hlen] at this; omega
    have hct : t.length + 1 ≤ c := by have := hc; rw [hlen] at this; exact this
    rw [hlen]
    have t0 : (((t.length + 1 : Nat) : Int) == 0) = false := by simp; omega
    have hd' := Lib.hid hd
    have HC := Lib.hid (fun W (hW : Below w.heap.size w W) (a' : Addr) c' (hc' : t.length ≤ c') (ha : ∀ j, j < t.length → a'.add j = ad.add (j + 1)) => c_taken x a' c' t hc' hbt hmt W (fun j hj => by
      rw [ha j hj, (hW.cell (World.block_lt_of_cell? w _ (hk2 (j + 1) (by rw [hlen]; omega)))), hk2 (j + 1) (by rw [hlen]; omega)]
      rfl))
    have C0 := Lib.hid c0'
    have HAD := Lib.hid (World.block_lt_of_cell? w _ c0')
    simp only [vv] at HC ⊢
    clear hk hk2 hb hg hd hxb c0 c0' hbt hm hc hlen
    go_enter Tryz.func20, Tryz.ntmps20
    by_cases hcc : c = 1
    · subst hcc
      obtain rfl : t = [] := List.length_eq_zero_iff.1 (by omega)
      have hS0 := HZ0.out.z
      go_wp2_with fail
      go_region_held3 (fun X => X.cell? ad = some (.int .u8 x) ∧ X.heap[w.heap.size]? = some (.cells #[.int .i64 0, .int .i64 0, .string ⟨#[]⟩] 23 (0, 0))) (first | exact ⟨y0, hS0⟩ | exact hS2 | exact keepS ((Below.refl _ _).alloc (Nat.le_refl _) _) hS2 | exact keepS (below_new3 _ _ _ _ _) hS2 | exact keepS ((Below.refl _ _).alloc (Nat.le_refl _) _) ⟨y0, hS0⟩ | exact keepS ((Below.refl _ _).alloc (Nat.le_refl _) _).drew ⟨y0, hS0⟩ | exact keepT HAD.out hS2 _ _ _ | go_keep) (first | (go_at_call 47; ((refine (HC.out _ (by first | exact HZ0.out.bel.drew | exact (HZ0.out.bel.alloc HZ0.out.bel.size _).drew | exact HZ0.out.bel.drew.alloc HZ0.out.bel.size _) ad 0 (Nat.le_refl _) (fun j h => by cases h) (HG.out.below (by first | exact HZ0.out.bel.drew | exact (HZ0.out.bel.alloc HZ0.out.bel.size _).drew | exact HZ0.out.bel.drew.alloc HZ0.out.bel.size _))).mono ?_); rintro e w2 ⟨n', s', ok, ht, rfl, hb⟩; have HT := Lib.hid ht; have HZ2 := Lib.hid (show Zb w w2 (.int .i64 0) (.int .i64 0) (.string ⟨#[]⟩) by first | exact (HZ0.out.below (Below.refl _ _).drew).below hb | exact (HZ0.out.below ((Below.refl _ _).alloc (Nat.le_refl _) _).drew).below hb | exact (HZ0.out.below ((Below.refl _ _).drew.alloc (Nat.le_refl _) _)).below hb); have hS2 : w2.cell? ad = some (.int .u8 x) ∧ w2.heap[w.heap.size]? = some (.cells #[.int .i64 0, .int .i64 0, .string ⟨#[]⟩] 23 (0, 0)) := ⟨(HZ2.out.bel.cell (World.block_lt_of_cell? w _ C0.out)).trans C0.out, HZ2.out.z⟩; (first | (have hN : w2.heap[w.heap.size + 1]? = some (.cells #[.int .i64 0, .int .i64 0, .string ⟨#[]⟩] 23 (0, 0)) := (hb.block (w.heap.size + 1) (by simp)).trans (box_a w _ _).2; obtain ⟨n0, n1, n2⟩ := cells3 hN; obtain ⟨m0, m1, m2⟩ := fr3 hN; have HN := Lib.hid hN; clear hN) | skip); clear ht hb)))
      · have HY := Lib.hid (HZ2.out.below ((Below.refl _ _).alloc (Nat.le_refl _) (.cells #[.int .i64 x, .int .i64 n', .string s'] 23)))
        have HV := Lib.hid (heap_alloc_new w2 (.cells #[.int .i64 x, .int .i64 n', .string s'] 23))
        clear hS2
        generalize w2.alloc (.cells #[.int .i64 x, .int .i64 n', .string s'] 23) = Y at HY HV ⊢
        have hy := HY.out.facts
        obtain ⟨p0, p1, p2, r0, r1, r2⟩ := hy
        obtain ⟨q0, q1, q2⟩ := cells3 HV.out
        rcases dec_cons HT.out hd'.out with ⟨rfl, rfl, rfl, rfl, rfl⟩ | ⟨rfl, rfl, rfl, rfl, rfl⟩
        · go_wp2
          exact bodyPost_ret (ret_cell rfl _ _ w.heap.size k n s true (0, 0) rfl rfl (HY.out.put _ _ _).z) rfl ⟨rfl, (HY.out.put _ _ _).bel⟩
        · go_wp2
          exact bodyPost_ret (ret_cell rfl _ _ w.heap.size 0 0 ⟨#[]⟩ false (0, 0) rfl rfl (HY.out.put _ _ _).z) rfl ⟨rfl, (HY.out.put _ _ _).bel⟩
      · have HY := Lib.hid (show Zb w (((w2.setCell ⟨w.heap.size + 1, 0, none⟩ (.int .i64 x)).setCell ⟨w.heap.size + 1, 1, none⟩ (.int .i64 n')).setCell ⟨w.heap.size + 1, 2, none⟩ (.string s')) (.int .i64 0) (.int .i64 0) (.string ⟨#[]⟩) from ⟨(keepT HAD.out hS2 _ _ _).2, ((HZ2.out.bel.setCell (p := ⟨w.heap.size + 1, 0, none⟩) (Nat.le_succ _) _).setCell (p := ⟨w.heap.size + 1, 1, none⟩) (Nat.le_succ _) _).setCell (p := ⟨w.heap.size + 1, 2, none⟩) (Nat.le_succ _) _⟩)
        have HV := Lib.hid (put3 HN.out (.int .i64 x) (.int .i64 n') (.string s'))
        clear hS2 n0 n1 n2 m0 m1 m2
        generalize ((w2.setCell ⟨w.heap.size + 1, 0, none⟩ (.int .i64 x)).setCell ⟨w.heap.size + 1, 1, none⟩ (.int .i64 n')).setCell ⟨w.heap.size + 1, 2, none⟩ (.string s') = Y at HY HV ⊢
        have hy := HY.out.facts
        obtain ⟨p0, p1, p2, r0, r1, r2⟩ := hy
        obtain ⟨q0, q1, q2⟩ := cells3 HV.out
        rcases dec_cons HT.out hd'.out with ⟨rfl, rfl, rfl, rfl, rfl⟩ | ⟨rfl, rfl, rfl, rfl, rfl⟩
        · go_wp2
          exact bodyPost_ret (ret_cell rfl _ _ w.heap.size k n s true (0, 0) rfl rfl (HY.out.put _ _ _).z) rfl ⟨rfl, (HY.out.put _ _ _).bel⟩
        · go_wp2
          exact bodyPost_ret (ret_cell rfl _ _ w.heap.size 0 0 ⟨#[]⟩ false (0, 0) rfl rfl (HY.out.put _ _ _).z) rfl ⟨rfl, (HY.out.put _ _ _).bel⟩
    · have HADD := Lib.hid (show ∀ j, j < t.length → (⟨ad.block, ad.off + 1, none⟩ : Addr).add j = ad.add (j + 1) from fun j hj => by
        unfold Addr.add
        rw [if_neg (by simp : ¬ j + 1 = 0)]
        by_cases h0 : j = 0
        · subst h0; simp
        · simp [h0]; omega)
      have g1 : (1 : Int) ≤ (c : Int) := by omega
      have g2 : (1 : Int) ≤ (t.length : Int) + 1 := by omega
      have hS0 := HZ0.out.z
      go_wp2_with fail
      go_region_held3 (fun X => X.cell? ad = some (.int .u8 x) ∧ X.heap[w.heap.size]? = some (.cells #[.int .i64 0, .int .i64 0, .string ⟨#[]⟩] 23 (0, 0))) (first | exact ⟨y0, hS0⟩ | exact hS2 | exact keepS ((Below.refl _ _).alloc (Nat.le_refl _) _) hS2 | exact keepS (below_new3 _ _ _ _ _) hS2 | exact keepS ((Below.refl _ _).alloc (Nat.le_refl _) _) ⟨y0, hS0⟩ | exact keepS ((Below.refl _ _).alloc (Nat.le_refl _) _).drew ⟨y0, hS0⟩ | exact keepT HAD.out hS2 _ _ _ | go_keep) (first | (go_at_call 47; ((refine (HC.out _ (by first | exact HZ0.out.bel.drew | exact (HZ0.out.bel.alloc HZ0.out.bel.size _).drew | exact HZ0.out.bel.drew.alloc HZ0.out.bel.size _) ⟨ad.block, ad.off + 1, none⟩ (c - 1) (by omega) HADD.out (HG.out.below (by first | exact HZ0.out.bel.drew | exact (HZ0.out.bel.alloc HZ0.out.bel.size _).drew | exact HZ0.out.bel.drew.alloc HZ0.out.bel.size _))).mono ?_); rintro e w2 ⟨n', s', ok, ht, rfl, hb⟩; have HT := Lib.hid ht; have HZ2 := Lib.hid (show Zb w w2 (.int .i64 0) (.int .i64 0) (.string ⟨#[]⟩) by first | exact (HZ0.out.below (Below.refl _ _).drew).below hb | exact (HZ0.out.below ((Below.refl _ _).alloc (Nat.le_refl _) _).drew).below hb | exact (HZ0.out.below ((Below.refl _ _).drew.alloc (Nat.le_refl _) _)).below hb); have hS2 : w2.cell? ad = some (.int .u8 x) ∧ w2.heap[w.heap.size]? = some (.cells #[.int .i64 0, .int .i64 0, .string ⟨#[]⟩] 23 (0, 0)) := ⟨(HZ2.out.bel.cell (World.block_lt_of_cell? w _ C0.out)).trans C0.out, HZ2.out.z⟩; (first | (have hN : w2.heap[w.heap.size + 1]? = some (.cells #[.int .i64 0, .int .i64 0, .string ⟨#[]⟩] 23 (0, 0)) := (hb.block (w.heap.size + 1) (by simp)).trans (box_a w _ _).2; obtain ⟨n0, n1, n2⟩ := cells3 hN; obtain ⟨m0, m1, m2⟩ := fr3 hN; have HN := Lib.hid hN; clear hN) | skip); clear ht hb)))
      · have HY := Lib.hid (HZ2.out.below ((Below.refl _ _).alloc (Nat.le_refl _) (.cells #[.int .i64 x, .int .i64 n', .string s'] 23)))
        have HV := Lib.hid (heap_alloc_new w2 (.cells #[.int .i64 x, .int .i64 n', .string s'] 23))
        clear hS2
        generalize w2.alloc (.cells #[.int .i64 x, .int .i64 n', .string s'] 23) = Y at HY HV ⊢
        have hy := HY.out.facts
        obtain ⟨p0, p1, p2, r0, r1, r2⟩ := hy
        obtain ⟨q0, q1, q2⟩ := cells3 HV.out
        rcases dec_cons HT.out hd'.out with ⟨rfl, rfl, rfl, rfl, rfl⟩ | ⟨rfl, rfl, rfl, rfl, rfl⟩
        · go_wp2
          exact bodyPost_ret (ret_cell rfl _ _ w.heap.size k n s true (0, 0) rfl rfl (HY.out.put _ _ _).z) rfl ⟨rfl, (HY.out.put _ _ _).bel⟩
        · go_wp2
          exact bodyPost_ret (ret_cell rfl _ _ w.heap.size 0 0 ⟨#[]⟩ false (0, 0) rfl rfl (HY.out.put _ _ _).z) rfl ⟨rfl, (HY.out.put _ _ _).bel⟩
      · have HY := Lib.hid (show Zb w (((w2.setCell ⟨w.heap.size + 1, 0, none⟩ (.int .i64 x)).setCell ⟨w.heap.size + 1, 1, none⟩ (.int .i64 n')).setCell ⟨w.heap.size + 1, 2, none⟩ (.string s')) (.int .i64 0) (.int .i64 0) (.string ⟨#[]⟩) from ⟨(keepT HAD.out hS2 _ _ _).2, ((HZ2.out.bel.setCell (p := ⟨w.heap.size + 1, 0, none⟩) (Nat.le_succ _) _).setCell (p := ⟨w.heap.size + 1, 1, none⟩) (Nat.le_succ _) _).setCell (p := ⟨w.heap.size + 1, 2, none⟩) (Nat.le_succ _) _⟩)
        have HV := Lib.hid (put3 HN.out (.int .i64 x) (.int .i64 n') (.string s'))
        clear hS2 n0 n1 n2 m0 m1 m2
        generalize ((w2.setCell ⟨w.heap.size + 1, 0, none⟩ (.int .i64 x)).setCell ⟨w.heap.size + 1, 1, none⟩ (.int .i64 n')).setCell ⟨w.heap.size + 1, 2, none⟩ (.string s') = Y at HY HV ⊢
        have hy := HY.out.facts
        obtain ⟨p0, p1, p2, r0, r1, r2⟩ := hy
        obtain ⟨q0, q1, q2⟩ := cells3 HV.out
        rcases dec_cons HT.out hd'.out with ⟨rfl, rfl, rfl, rfl, rfl⟩ | ⟨rfl, rfl, rfl, rfl, rfl⟩
        · go_wp2
          exact bodyPost_ret (ret_cell rfl _ _ w.heap.size k n s true (0, 0) rfl rfl (HY.out.put _ _ _).z) rfl ⟨rfl, (HY.out.put _ _ _).bel⟩
        · go_wp2
          exact bodyPost_ret (ret_cell rfl _ _ w.heap.size 0 0 ⟨#[]⟩ false (0, 0) rfl rfl (HY.out.put _ _ _).z) rfl ⟨rfl, (HY.out.put _ _ _).bel⟩
end Go.Proofs.YtikpmlginojnhaaGreatDoor.Fl
