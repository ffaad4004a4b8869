/- A clock goes on (the program's). -/
import Derived.Test.YtfadanmfelbfiaaA6
namespace Go.Proofs.Ytfadanmfelbfiaa.L
open Go.RowKit Go.Maps Go.Proofs.YtfadanmfelbfiaaW.PrintWords Go.Proofs.YtfadanmfelbfiaaW.PrintLast Go.Proofs.YtfadanmfelbfiaaW.PrintMore
set_option linter.unusedVariables false
set_option linter.unusedSimpArgs false
theorem cell_al {w : World} {a : Addr} {u : Value} (h : w.cell? a = some u) (o : Obj) : (w.alloc o).cell? a = some u := by
  rw [World.cell?_alloc_some _ _ _ (by rw [h]; rfl), h]
theorem C_ints {w : World} {g : Nat} {l : List Int} (h : HasInts w g l) (hb : l.length ≤ 9223372036854775807) (off m : Nat) (A : Option Addr) (hA : m ≠ 0 → A = some ⟨g, off, none⟩) (hm : off + m ≤ l.length) :
    Kd.C (Kd.int .i64) w A m ((l.drop off).take m) := by
  have hl : ((l.drop off).take m).length = m := by simp; omega
  refine ⟨hl, by omega, fun hne => ⟨⟨g, off, none⟩, hA (by omega), fun j p hj => ?_⟩⟩
  have hjl := (List.getElem?_eq_some_iff.1 hj).1
  rw [hl] at hjl
  have hp : l.getD (off + j) 0 = p := by
    rw [List.getElem?_take, if_pos hjl, List.getElem?_drop] at hj
    simp [List.getD_eq_getElem?_getD, hj]
  refine ⟨[.int .i64 p], rfl, rfl, fun i u hi => ?_⟩
  have hi0 : i = 0 := by have := (List.getElem?_eq_some_iff.1 hi).1; simp at this; exact this
  subst hi0
  simp at hi
  subst hi
  have := h.cell (off + j) (by omega)
  rw [hp] at this
  have e : (Addr.add ⟨g, off, none⟩ (j * 1 + 0) : Addr) = ⟨g, off + j, none⟩ := by unfold Addr.add; by_cases h0 : j * 1 + 0 = 0 <;> simp [h0] <;> omega
  show w.cell? (Addr.add ⟨g, off, none⟩ (j * 1 + 0)) = _
  rw [e]
  exact this
theorem concat2 (w : World) (b T n1 n2 c1 c2 : Nat) (A1 A2 : Option Addr) (x1 x2 : List Int) (e1 : n1 = x1.length) (e2 : n2 = x2.length) (h1 : Kd.C (Kd.int .i64) w A1 n1 x1) (h2 : Kd.C (Kd.int .i64) w A2 n2 x2) (hc1 : n1 ≤ c1) (hc2 : n2 ≤ c2)
    (hb : w.heap[b]? = some (.cells #[.slice A1 n1 c1, .slice A2 n2 c2] T (0, 0))) (hl : n1 + n2 < 17592186044416) :
    Calls Try.prog 32 #[.slice (some ⟨b, 0, none⟩) 2 2] w fun e w' => ∃ v, e = .returned v ∧ Kd.R (Kd.int .i64) 3 w' w.heap.size (fun _ => True) v (x1 ++ x2) ∧ Below w.heap.size w w' := by
  subst e1 e2
  have hC : Kd.C (Kd.slice 3 (Kd.int .i64)) w (some ⟨b, 0, none⟩) [x1, x2].length [x1, x2] := by
    refine ⟨rfl, by simp, fun _ => ⟨_, rfl, fun j p hj => ?_⟩⟩
    have hjl := (List.getElem?_eq_some_iff.1 hj).1
    match j, hjl with
    | 0, _ =>
      obtain rfl : x1 = p := by simpa using hj
      refine ⟨[.slice A1 x1.length c1], rfl, ⟨A1, c1, rfl, hc1, h1⟩, fun i u hi => ?_⟩
      have hi0 : i = 0 := by have := (List.getElem?_eq_some_iff.1 hi).1; simp at this; exact this
      subst hi0
      simp at hi
      subst hi
      show w.cell? (Addr.add ⟨b, 0, none⟩ (0 * 1 + 0)) = _
      simp [Addr.add, World.cell?, hb]
    | 1, _ =>
      obtain rfl : x2 = p := by simpa using hj
      refine ⟨[.slice A2 x2.length c2], rfl, ⟨A2, c2, rfl, hc2, h2⟩, fun i u hi => ?_⟩
      have hi0 : i = 0 := by have := (List.getElem?_eq_some_iff.1 hi).1; simp at this; exact this
      subst hi0
      simp at hi
      subst hi
      show w.cell? (Addr.add ⟨b, 0, none⟩ (1 * 1 + 0)) = _
      simp [Addr.add, World.cell?, hb]
  have := slConcat.calls (some ⟨b, 0, none⟩) 2 [x1, x2] (x1 ++ x2) w hC (by simp) (by unfold slConcat.f; rw [if_pos (by simp; omega)]; simp)
  exact this

theorem others_mem (l : List Int) (k : Nat) (x : Int) : x ∈ (l.drop 0).take k ++ (l.drop (k + 1)).take (l.length - (k + 1)) ↔ ∃ i, i < l.length ∧ i ≠ k ∧ x = l.getD i 0 := by
  rw [List.mem_append, List.drop_zero, List.take_of_length_le (l := l.drop (k + 1)) (by simp)]
  constructor
  · rintro (h | h)
    · obtain ⟨i, hi, rfl⟩ := List.getElem_of_mem h
      simp at hi
      exact ⟨i, by omega, by omega, by simp [List.getD_eq_getElem?_getD, List.getElem?_eq_getElem (show i < l.length by omega)]⟩
    · obtain ⟨i, hi, rfl⟩ := List.getElem_of_mem h
      simp at hi
      exact ⟨k + 1 + i, by omega, by omega, by simp [List.getD_eq_getElem?_getD, (by omega : k + 1 + i < l.length)]⟩
  · rintro ⟨i, hi, hne, rfl⟩
    rw [List.getD_eq_getElem?_getD, List.getElem?_eq_getElem hi]
    rcases Nat.lt_or_ge i k with h | h
    · exact Or.inl (List.mem_take_iff_getElem.2 ⟨i, by omega, rfl⟩)
    · exact Or.inr (List.mem_drop_iff_getElem.2 ⟨i - (k + 1), by omega, by congr 1; omega⟩)
theorem others_far (l : List Int) (k : Nat) (t s : Int) : anyFar t s ((l.drop 0).take k ++ (l.drop (k + 1)).take (l.length - (k + 1))) = false ↔ Near l s k t l.length := by
  unfold anyFar Near
  rw [List.any_eq_false]
  constructor
  · intro h i hi hne
    have := h _ ((others_mem l k _).2 ⟨i, hi, hne, rfl⟩)
    generalize l.getD i 0 = z at *
    simp at this
    omega
  · intro h x hx
    obtain ⟨i, hi, hne, rfl⟩ := (others_mem l k x).1 hx
    have := h i hi hne
    generalize l.getD i 0 = z at *
    simp
    omega
theorem others_rd (l : List Int) (hb : CB l) (k j : Nat) : 0 ≤ rd ((l.drop 0).take k ++ (l.drop (k + 1)).take (l.length - (k + 1))) j ∧ rd ((l.drop 0).take k ++ (l.drop (k + 1)).take (l.length - (k + 1))) j ≤ 2199023255552 := by
  generalize hX : (l.drop 0).take k ++ (l.drop (k + 1)).take (l.length - (k + 1)) = X
  unfold rd
  rw [Int.toNat_natCast, List.getD_eq_getElem?_getD]
  rcases hq : X[j]? with _ | x
  · simp
  · have := List.mem_of_getElem? hq
    rw [← hX, others_mem] at this
    obtain ⟨i, _, _, rfl⟩ := this
    have := hb.val i
    generalize l.getD i 0 = z at *
    simp
    omega
set_option maxHeartbeats 4000000 in
theorem tick_in (w : World) (B g : Nat) (l : List Int) (s b : Int) (k : Nat) (h : Clk 57 w B g l s) (hb : CB l) (h0 : 0 ≤ s) (h1 : s ≤ 1000) (hk : k < l.length) (hb0 : 1 ≤ b) (hb1 : b ≤ 1000) :
    Calls Try.prog 11 #[.pointer (some ⟨B, 0, none⟩), .int .i64 k, .int .i64 b] w (TickPost 57 B g l s k b w) := by
  have hc0 := h.c0
  have hc1 := h.c1
  have hlen := hb.hi
  have hlo := hb.lo
  have hlB := lt_of_block h.box
  have hlg := h.row.lt
  have HCLK := Lib.hid h
  have HB := Lib.hid hb
  have hv := h.row.cell k hk
  have hf := h.row.free k
  obtain ⟨y, hy⟩ : ∃ y, l.getD k 0 = y := ⟨_, rfl⟩
  rw [hy] at hv
  have hby : 0 ≤ y ∧ y ≤ 1099511627776 := by have := hb.val k; omega
  have HY := Lib.hid hy
  clear hy h hb
  have c1 := fun w => within k 0 (l.length - 1) w
  rw [show withinB (k : Int) 0 ((l.length : Int) - 1) = true from by simp [withinB]; omega] at c1
  have c2 := fun w => within b 1 1000 w
  rw [show withinB b 1 1000 = true from by simp [withinB]; omega] at c2
  obtain ⟨i0, hi0, hz0, hz1, hz2⟩ := info_parts info3
  have cut1 := cut_to (P := Try.prog) 55 3 .i64 Try.underlying55 hi0 (some ⟨g, 0, none⟩) l.length l.length (k : Int) (by omega) (by omega) (by omega)
  have cut2' := cut_from (P := Try.prog) 55 3 .i64 Try.underlying55 hi0 1 hz1 (some ⟨g, 0, none⟩) l.length l.length ((k : Int) + 1) (by omega) (by omega)
  clear hi0 hz0 hz1 hz2
  obtain ⟨A2, hA2⟩ : ∃ A2, A2 = (if l.length = ((k : Int) + 1).toNat then (some ⟨g, 0, none⟩ : Option Addr) else Option.map (fun x => x.add (((k : Int) + 1).toNat * 1)) (some (⟨g, 0, none⟩ : Addr))) := ⟨_, rfl⟩
  rw [← hA2] at cut2'
  have hk1 : ((k : Int) + 1).toNat = k + 1 := by omega
  rw [hk1] at cut2' hA2
  rw [Int.toNat_natCast] at cut1
  have hA : l.length - (k + 1) ≠ 0 → A2 = some ⟨g, k + 1, none⟩ := fun hne => by rw [hA2, if_neg (by omega)]; simp [Addr.add]
  have HA := Lib.hid hA
  clear hA hA2 hk1
  have cut2 : ∀ (W : World), (Instr.slice 55 (Value.slice (some ⟨g, 0, none⟩) l.length l.length) (some (Value.int IntKind.i64 ((k : Int) + 1))) none none).run Try.prog W = .ok (.slice A2 (l.length - (k + 1)) (l.length - (k + 1))) W := cut2'
  clear cut2'
  have hwk : IntKind.i64.wrap ((k : Int) + 1) = (k : Int) + 1 := IntWalk.i64_in _ (by omega)
  have CC := Lib.hid (fun (w' : World) (bb : Nat) (hh : w'.heap[g]? = w.heap[g]?) (hbb : w'.heap[bb]? = some (.cells #[.slice (some ⟨g, 0, none⟩) k l.length, .slice A2 (l.length - (k + 1)) (l.length - (k + 1))] 55 (0, 0))) =>
    concat2 w' bb 55 k (l.length - (k + 1)) l.length (l.length - (k + 1)) (some ⟨g, 0, none⟩) A2 ((l.drop 0).take k) ((l.drop (k + 1)).take (l.length - (k + 1))) (by simp; omega) (by simp)
      (C_ints (HCLK.out.row.of_eq hh) (by omega) 0 k _ (fun _ => rfl) (by omega)) (C_ints (HCLK.out.row.of_eq hh) (by omega) (k + 1) (l.length - (k + 1)) A2 HA.out (by omega)) (by omega) (by omega) hbb (by omega))
  have hS : ∀ o1 o2 o3 : Obj, (((w.alloc o1).alloc o2).alloc o3).cell? ⟨B, 0, none⟩ = some (.slice (some ⟨g, 0, none⟩) l.length l.length) := fun o1 o2 o3 => cell_al (cell_al (cell_al hc0 _) _) _
  have hG : ∀ o1 o2 o3 : Obj, (((w.alloc o1).alloc o2).alloc o3).heap[g]? = w.heap[g]? := fun o1 o2 o3 => by rw [heap_alloc_old _ _ (by simp; omega), heap_alloc_old _ _ (by simp; omega), heap_alloc_old _ _ hlg]
  have hN : ∀ o1 o2 o3 : Obj, (((w.alloc o1).alloc o2).alloc o3).heap[w.heap.size + 2]? = some o3 := fun o1 o2 o3 => by have := heap_alloc_new ((w.alloc o1).alloc o2) o3; simpa using this
  have hL : ∀ o1 o2 o3 : Obj, ∀ q, q ≤ w.heap.size + 1 → q < (((w.alloc o1).alloc o2).alloc o3).heap.size := fun o1 o2 o3 q hq => by simp; omega
  have hCB : ∀ o2 o3 : Obj, (((w.alloc (.cells #[.pointer (some ⟨B, 0, none⟩)] 24)).alloc o2).alloc o3).cell? ⟨w.heap.size, 0, none⟩ = some (.pointer (some ⟨B, 0, none⟩)) := fun o2 o3 => cell_al (cell_al (cell_of_one (heap_alloc_new w _)) _) _
  have hTO : ∀ o1 o3 : Obj, (((w.alloc o1).alloc (.cells #[.int .i64 (y + b)] 3)).alloc o3).cell? ⟨w.heap.size + 1, 0, none⟩ = some (.int .i64 (y + b)) := fun o1 o3 => cell_al (cell_of_one (t := 3) (by have := heap_alloc_new (w.alloc o1) (.cells #[.int .i64 (y + b)] 3); simpa using this)) _
  have HL3 := Lib.hid hL
  have HCB := Lib.hid hCB
  have HTO := Lib.hid hTO
  have HSS := Lib.hid hS
  clear hL hCB hTO hS
  have HG := Lib.hid hG
  have HN := Lib.hid hN
  clear hG hN
  obtain ⟨X, hX⟩ : ∃ X, X = (l.drop 0).take k ++ (l.drop (k + 1)).take (l.length - (k + 1)) := ⟨_, rfl⟩
  have XF := Lib.hid (others_far l k (y + b) s)
  have XR := Lib.hid (others_rd l HB.out k)
  rw [← hX] at XF XR CC
  have XE := Lib.hid hX
  clear hX
  go_enter Try.func11, Try.ntmps11
  go_wp2_with (first | (go_at_call 30; ((with_reducible refine (c1 _).mono ?_); rintro e w' ⟨rfl, rfl⟩)) | (go_at_call 30; ((with_reducible refine (c2 _).mono ?_); rintro e w' ⟨rfl, rfl⟩)))
  go_region_held3 (fun w' => w'.cell? ⟨B, 0, none⟩ = some (.slice (some ⟨g, 0, none⟩) l.length l.length) ∧ w'.cell? ⟨w.heap.size, 0, none⟩ = some (.pointer (some ⟨B, 0, none⟩))) (first | (with_reducible exact ⟨HSS.out _ _ _, HCB.out _ _⟩) | exact ⟨HSS.out _ _ _, HCB.out _ _⟩ | go_keep | (go_split_ands; exact ⟨(hBel.cell (p := ⟨B, 0, none⟩) (HL3.out _ _ _ B (by omega))).trans (HSS.out _ _ _), (hBel.cell (p := ⟨w.heap.size, 0, none⟩) (HL3.out _ _ _ w.heap.size (by omega))).trans (HCB.out _ _)⟩)) ((go_at_call 32; refine (CC.out _ (w.heap.size + 2) ?hh ?hbb).mono ?_; (case hh => exact HG.out _ _ _); (case hbb => exact HN.out _ _ _); rintro e w' ⟨v, rfl, hR, hBel⟩))
  obtain ⟨hHc, hHb⟩ : w'.cell? ⟨B, 0, none⟩ = some (.slice (some ⟨g, 0, none⟩) l.length l.length) ∧ w'.cell? ⟨w.heap.size, 0, none⟩ = some (.pointer (some ⟨B, 0, none⟩)) := by assumption
  have kto : w'.cell? ⟨w.heap.size + 1, 0, none⟩ = some (.int .i64 (y + b)) := (hBel.cell (p := ⟨w.heap.size + 1, 0, none⟩) (HL3.out _ _ _ (w.heap.size + 1) (by omega))).trans (HTO.out _ _)
  have ks : w'.cell? ⟨B, 1, none⟩ = some (.int .i64 s) := (hBel.cell (p := ⟨B, 1, none⟩) (HL3.out _ _ _ B (by omega))).trans (cell_al (cell_al (cell_al hc1 _) _) _)
  have hbel2 : Below w.heap.size w w' := (((((Below.refl w.heap.size w).alloc (Nat.le_refl _) _).alloc (by simp) _).alloc (by simp; omega) _).drew).trans (hBel.mono (by simp; omega))
  have kv : w'.cell? ⟨g, k, none⟩ = some (.int .i64 y) := (hbel2.cell (p := ⟨g, k, none⟩) hlg).trans hv
  have kf : w'.frozen? ⟨g, k, none⟩ = false := (hbel2.frozen (p := ⟨g, k, none⟩) hlg).trans hf
  have hclk : Clk 57 w' B g l s := HCLK.out.of_eq (hbel2.block _ hlB) (hbel2.block _ hlg)
  obtain ⟨A3, c3, rfl⟩ := Kd.R_slice hR
  have CL := late_contains A3 c3 X w' (Kd.R_reads' hR).2.2 (w.heap.size + 1) w.heap.size B (y + b) s kto hHb ks (by omega) (by omega) XR.out
  have HCK := Lib.hid hclk
  have HB2 := Lib.hid hbel2
  have hcg : g ≠ B := hclk.ne
  have hn1 : g ≠ w.heap.size := by omega
  have hn2 : g ≠ w.heap.size + 1 := by omega
  clear hclk hbel2 hR hBel
  clear hv hf hc0 hc1 cut1 cut2 hwk CC HG HN HSS HCB HTO HL3 c1 c2
  by_cases ht : y + b ≤ 1099511627776
  · cases hF : anyFar (y + b) s X with
    | true =>
      rw [hF] at CL
      have HF := Lib.hid hF
      clear hF
      go_wp2_with (go_at_call 33; refine CL.mono ?_; rintro e w2 ⟨rfl, ⟨m, rfl⟩⟩)
      go_ret
      exact tickPost_no HCLK.out (fun hok => by
        have hne := hok.2.2.2.2.2
        rw [Int.toNat_natCast, HY.out] at hne
        have := XF.out.2 hne
        rw [HF.out] at this
        cases this) (below_drewN HB2.out _)
    | false =>
      rw [hF] at CL
      have HF := Lib.hid hF
      clear hF
      go_wp2_with (go_at_call 33; refine CL.mono ?_; rintro e w2 ⟨rfl, ⟨m, rfl⟩⟩)
      go_region_held3 (fun w2 => w2.cell? ⟨B, 0, none⟩ = some (.slice (some ⟨g, 0, none⟩) l.length l.length) ∧ w2.cell? ⟨w.heap.size, 0, none⟩ = some (.pointer (some ⟨B, 0, none⟩)) ∧ w2.cell? ⟨w.heap.size + 1, 0, none⟩ = some (.int .i64 (y + b))) (go_keep) (fail)
      go_wp2
      go_ret
      refine ⟨true, _, rfl, Or.inl ⟨⟨by omega, by omega, hb0, hb1, by rw [Int.toNat_natCast, HY.out]; exact ht, by rw [Int.toNat_natCast, HY.out]; exact XF.out.1 HF.out⟩, rfl, rfl⟩, ?_, ?_⟩
      · rw [Int.toNat_natCast, HY.out]
        have hq : Clk 57 (w'.drewN (m + 1)) B g l s := HCK.out.of_eq rfl rfl
        exact ⟨by simpa using (Below.heap_setCell _ _ _ _ (Ne.symm hq.ne)).trans hq.box, hq.row.set k (y + b), hq.ne⟩
      · exact But.setCell (S := fun k => k = g) (But.drewN (But.below HB2.out) _) (fun _ => rfl) _
  · go_wp2
    go_ret
    exact tickPost_no HCLK.out (fun hok => by have := hok.2.2.2.2.1; rw [Int.toNat_natCast, HY.out] at this; omega) HB2.out
theorem tick (w : World) (B g : Nat) (l : List Int) (s n b : Int) (h : Clk 57 w B g l s) (hb : CB l) (h0 : 0 ≤ s) (h1 : s ≤ 1000) :
    Calls Try.prog 11 #[.pointer (some ⟨B, 0, none⟩), .int .i64 n, .int .i64 b] w (TickPost 57 B g l s n b w) := by
  by_cases hn : 0 ≤ n ∧ n < l.length
  · obtain ⟨k, rfl⟩ := Int.eq_ofNat_of_zero_le hn.1
    by_cases hbb : 1 ≤ b ∧ b ≤ 1000
    · exact tick_in w B g l s b k h hb h0 h1 (by omega) hbb.1 hbb.2
    · have hc0 := h.c0
      have hlen := hb.hi
      have hlo := hb.lo
      have HCLK := Lib.hid h
      have HN := Lib.hid hbb
      have c1 := fun w => within k 0 (l.length - 1) w
      rw [show withinB (k : Int) 0 ((l.length : Int) - 1) = true from by simp [withinB]; omega] at c1
      have c2 := fun w => within b 1 1000 w
      rw [show withinB b 1 1000 = false from by simp [withinB]; omega] at c2
      clear hbb hn h
      have hlB := lt_of_block HCLK.out.box
      go_enter Try.func11, Try.ntmps11
      go_wp2_with (first | (go_at_call 30; ((with_reducible refine (c1 _).mono ?_); rintro e w' ⟨rfl, rfl⟩)) | (go_at_call 30; ((with_reducible refine (c2 _).mono ?_); rintro e w' ⟨rfl, rfl⟩)))
      go_ret
      exact tickPost_no HCLK.out (fun hok => HN.out ⟨hok.2.2.1, hok.2.2.2.1⟩) ((Below.refl _ _).alloc (Nat.le_refl _) _)
  · have hc0 := h.c0
    have hlen := hb.hi
    have hlo := hb.lo
    have HCLK := Lib.hid h
    have HN := Lib.hid hn
    have c1 := fun w => within n 0 (l.length - 1) w
    rw [show withinB n 0 ((l.length : Int) - 1) = false from by simp [withinB]; omega] at c1
    clear hn h
    have hlB := lt_of_block HCLK.out.box
    go_enter Try.func11, Try.ntmps11
    go_wp2_with (go_at_call 30; ((with_reducible refine (c1 _).mono ?_); rintro e w' ⟨rfl, rfl⟩))
    go_ret
    exact tickPost_no HCLK.out (fun hok => HN.out ⟨hok.1, hok.2.1⟩) ((Below.refl _ _).alloc (Nat.le_refl _) _)
end Go.Proofs.Ytfadanmfelbfiaa.L
