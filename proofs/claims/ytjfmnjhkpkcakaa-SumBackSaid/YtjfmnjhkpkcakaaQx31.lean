-- Written by a program of this session, out of Lean's print of the loaded program (a patched copy of the kit's print).
import Derived.Test.YtjfmnjhkpkcakaaQx0
import Derived.Test.YtjfmnjhkpkcakaaQx6
import Derived.Test.YtjfmnjhkpkcakaaQx15
import Derived.Test.YtjfmnjhkpkcakaaQx26
import Derived.Test.YtjfmnjhkpkcakaaQx28
import Derived.Test.YtjfmnjhkpkcakaaQx30
namespace Go.Proofs.Ytjfmnjhkpkcakaa.Q
open Go.RowKit Go.Proofs.YtjfmnjhkpkcakaaW.PrintWords Go.Proofs.YtjfmnjhkpkcakaaW.PrintLast Go.Proofs.YtjfmnjhkpkcakaaW.PrintMore
attribute [local go_sem] max2_int min2_int max_two min_two max_three min_three max_four min_four   -- for this text's walks alone
set_option linter.unusedVariables false
set_option linter.unusedSimpArgs false

/-! ### joistlaw04_SumBack: function 6 -/
mutual
def joistlaw04_SumBack.l0 : Nat → List (List Int) → Int → List Int → List Int → Int → Option (Bool)
  | 0, _, _, _, _, _ => none
  | k + 1, x0, x1, x5, x6, x7 => if x7 < (x0.length : Int) then (if 0 ≤ x7 then ((sum_Frame.f k (rd_L1 x0 x7)).bind fun bt354 => (if bt354.2 = true then (if x5.length + bt354.1.length < 140737488355328 then ((some (x5 ++ bt354.1 : List Int)).bind fun y358 => (if x6.length < 17592186044416 then (joistlaw04_SumBack.l0 k x0 x1 y358 (x6 ++ [(y358.length : Int)]) (wrap64 (x7 + 1))) else (none))) else (none)) else (some false))) else (none)) else (if x1 < 0 then (joistlaw04_SumBack.j1 k x0 x1 x5 x6 true) else (joistlaw04_SumBack.j1 k x0 x1 x5 x6 (decide (x1 > (x5.length : Int)))))
def joistlaw04_SumBack.j1 : Nat → List (List Int) → Int → List Int → List Int → Bool → Option (Bool)
  | 0, _, _, _, _, _ => none
  | k + 1, x0, x1, x5, x6, x53 => if x53 = true then (joistlaw04_SumBack.j2 k x0 (x5.length : Int) x5 x6) else (joistlaw04_SumBack.j2 k x0 x1 x5 x6)
def joistlaw04_SumBack.j2 : Nat → List (List Int) → Int → List Int → List Int → Option (Bool)
  | 0, _, _, _, _ => none
  | k + 1, x0, x1, x5, x6 => joistlaw04_SumBack.l1 k x0 x1 x5 x6 0
def joistlaw04_SumBack.j4 : Nat → List (List Int) → Int → List Int → List Int → Int → Option (Bool)
  | 0, _, _, _, _, _ => none
  | k + 1, x0, x1, x5, x6, x10 => if 0 ≤ x1 then (if x1 ≤ (x5.length : Int) then ((sum_All.f k (x5.take (x1 : Int).toNat)).bind fun bt370 => (if 0 ≤ x10 then (if x10 < (x6.length : Int) then (if (rd x6 x10) = x1 then (if x10 ≤ (x0.length : Int) then ((joistref00_SameLists.f k bt370.1 (x0.take (x10 : Int).toNat)).bind fun t380 => (if t380 = true then (if bt370.2.1 = (rd x6 x10) then (some (bt370.2.2 == 0)) else (some false)) else (some false))) else (none)) else (if x10 ≤ (x0.length : Int) then ((joistref00_SameLists.f k bt370.1 (x0.take (x10 : Int).toNat)).bind fun t386 => (if t386 = true then (if bt370.2.1 = (rd x6 x10) then (some (bt370.2.2 == 1)) else (some false)) else (some false))) else (none))) else (none)) else (none))) else (none)) else (none)
def joistlaw04_SumBack.l1 : Nat → List (List Int) → Int → List Int → List Int → Int → Option (Bool)
  | 0, _, _, _, _, _ => none
  | k + 1, x0, x1, x5, x6, x10 => if x10 < (x0.length : Int) then (if 0 ≤ (wrap64 (x10 + 1)) then (if (wrap64 (x10 + 1)) < (x6.length : Int) then (if (rd x6 (wrap64 (x10 + 1))) ≤ x1 then (joistlaw04_SumBack.l1 k x0 x1 x5 x6 (wrap64 (x10 + 1))) else (joistlaw04_SumBack.j4 k x0 x1 x5 x6 x10)) else (none)) else (none)) else (joistlaw04_SumBack.j4 k x0 x1 x5 x6 x10)
end
def joistlaw04_SumBack.f (k : Nat) (l0 : List (List Int)) (a1 : Int) : Option (Bool) := (joistlaw04_alive.f).bind fun t345 => (if t345 = true then ((joistref00_Weigh.f k l0 3000).bind fun t346 => (if t346 > 3000 then (some true) else (joistlaw04_SumBack.l0 k l0 a1 (([] : List Int)) (([0] : List Int)) 0))) else (some false))
theorem joistlaw04_SumBack.mono_l : ∀ k, (∀ y0 y1 y2 y3 y4, LeO (joistlaw04_SumBack.l0 k y0 y1 y2 y3 y4) (joistlaw04_SumBack.l0 (k + 1) y0 y1 y2 y3 y4)) ∧ (∀ y0 y1 y2 y3 y4, LeO (joistlaw04_SumBack.j1 k y0 y1 y2 y3 y4) (joistlaw04_SumBack.j1 (k + 1) y0 y1 y2 y3 y4)) ∧ (∀ y0 y1 y2 y3, LeO (joistlaw04_SumBack.j2 k y0 y1 y2 y3) (joistlaw04_SumBack.j2 (k + 1) y0 y1 y2 y3)) ∧ (∀ y0 y1 y2 y3 y4, LeO (joistlaw04_SumBack.j4 k y0 y1 y2 y3 y4) (joistlaw04_SumBack.j4 (k + 1) y0 y1 y2 y3 y4)) ∧ (∀ y0 y1 y2 y3 y4, LeO (joistlaw04_SumBack.l1 k y0 y1 y2 y3 y4) (joistlaw04_SumBack.l1 (k + 1) y0 y1 y2 y3 y4))
  | 0 => ⟨fun _ _ _ _ _ r h => by simp [joistlaw04_SumBack.l0] at h, fun _ _ _ _ _ r h => by simp [joistlaw04_SumBack.j1] at h, fun _ _ _ _ r h => by simp [joistlaw04_SumBack.j2] at h, fun _ _ _ _ _ r h => by simp [joistlaw04_SumBack.j4] at h, fun _ _ _ _ _ r h => by simp [joistlaw04_SumBack.l1] at h⟩
  | k + 1 => by
    obtain ⟨ih0, ih1, ih2, ih3, ih4⟩ := joistlaw04_SumBack.mono_l k
    refine ⟨?_, ?_, ?_, ?_, ?_⟩
    · intro y0 y1 y2 y3 y4
      unfold joistlaw04_SumBack.l0
      repeat' first
      | (with_reducible exact ih0 _ _ _ _ _)
      | (with_reducible exact ih1 _ _ _ _ _)
      | (with_reducible exact ih2 _ _ _ _)
      | (with_reducible exact ih3 _ _ _ _ _)
      | (with_reducible exact ih4 _ _ _ _ _)
      | (with_reducible exact joistref00_SameLists.mono _ _ _)
      | (with_reducible exact joistref00_Weigh.mono _ _ _)
      | (with_reducible exact sum_All.mono _ _)
      | (with_reducible exact sum_Frame.mono _ _)
      | (with_reducible exact LeO.refl _)
      | (with_reducible exact LeO.none _)
      | (with_reducible refine LeO.ite ?_ ?_)
      | (with_reducible refine LeO.bind ?_ (fun _ => ?_))
      | exact ih0 _ _ _ _ _
      | exact ih1 _ _ _ _ _
      | exact ih2 _ _ _ _
      | exact ih3 _ _ _ _ _
      | exact ih4 _ _ _ _ _
      | exact joistref00_SameLists.mono _ _ _
      | exact joistref00_Weigh.mono _ _ _
      | exact sum_All.mono _ _
      | exact sum_Frame.mono _ _
      | exact LeO.none _
      | refine LeO.ite ?_ ?_
      | refine LeO.bind ?_ (fun _ => ?_)
    · intro y0 y1 y2 y3 y4
      unfold joistlaw04_SumBack.j1
      repeat' first
      | (with_reducible exact ih0 _ _ _ _ _)
      | (with_reducible exact ih1 _ _ _ _ _)
      | (with_reducible exact ih2 _ _ _ _)
      | (with_reducible exact ih3 _ _ _ _ _)
      | (with_reducible exact ih4 _ _ _ _ _)
      | (with_reducible exact joistref00_SameLists.mono _ _ _)
      | (with_reducible exact joistref00_Weigh.mono _ _ _)
      | (with_reducible exact sum_All.mono _ _)
      | (with_reducible exact sum_Frame.mono _ _)
      | (with_reducible exact LeO.refl _)
      | (with_reducible exact LeO.none _)
      | (with_reducible refine LeO.ite ?_ ?_)
      | (with_reducible refine LeO.bind ?_ (fun _ => ?_))
      | exact ih0 _ _ _ _ _
      | exact ih1 _ _ _ _ _
      | exact ih2 _ _ _ _
      | exact ih3 _ _ _ _ _
      | exact ih4 _ _ _ _ _
      | exact joistref00_SameLists.mono _ _ _
      | exact joistref00_Weigh.mono _ _ _
      | exact sum_All.mono _ _
      | exact sum_Frame.mono _ _
      | exact LeO.none _
      | refine LeO.ite ?_ ?_
      | refine LeO.bind ?_ (fun _ => ?_)
    · intro y0 y1 y2 y3
      unfold joistlaw04_SumBack.j2
      repeat' first
      | (with_reducible exact ih0 _ _ _ _ _)
      | (with_reducible exact ih1 _ _ _ _ _)
      | (with_reducible exact ih2 _ _ _ _)
      | (with_reducible exact ih3 _ _ _ _ _)
      | (with_reducible exact ih4 _ _ _ _ _)
      | (with_reducible exact joistref00_SameLists.mono _ _ _)
      | (with_reducible exact joistref00_Weigh.mono _ _ _)
      | (with_reducible exact sum_All.mono _ _)
      | (with_reducible exact sum_Frame.mono _ _)
      | (with_reducible exact LeO.refl _)
      | (with_reducible exact LeO.none _)
      | (with_reducible refine LeO.ite ?_ ?_)
      | (with_reducible refine LeO.bind ?_ (fun _ => ?_))
      | exact ih0 _ _ _ _ _
      | exact ih1 _ _ _ _ _
      | exact ih2 _ _ _ _
      | exact ih3 _ _ _ _ _
      | exact ih4 _ _ _ _ _
      | exact joistref00_SameLists.mono _ _ _
      | exact joistref00_Weigh.mono _ _ _
      | exact sum_All.mono _ _
      | exact sum_Frame.mono _ _
      | exact LeO.none _
      | refine LeO.ite ?_ ?_
      | refine LeO.bind ?_ (fun _ => ?_)
    · intro y0 y1 y2 y3 y4
      unfold joistlaw04_SumBack.j4
      repeat' first
      | (with_reducible exact ih0 _ _ _ _ _)
      | (with_reducible exact ih1 _ _ _ _ _)
      | (with_reducible exact ih2 _ _ _ _)
      | (with_reducible exact ih3 _ _ _ _ _)
      | (with_reducible exact ih4 _ _ _ _ _)
      | (with_reducible exact joistref00_SameLists.mono _ _ _)
      | (with_reducible exact joistref00_Weigh.mono _ _ _)
      | (with_reducible exact sum_All.mono _ _)
      | (with_reducible exact sum_Frame.mono _ _)
      | (with_reducible exact LeO.refl _)
      | (with_reducible exact LeO.none _)
      | (with_reducible refine LeO.ite ?_ ?_)
      | (with_reducible refine LeO.bind ?_ (fun _ => ?_))
      | exact ih0 _ _ _ _ _
      | exact ih1 _ _ _ _ _
      | exact ih2 _ _ _ _
      | exact ih3 _ _ _ _ _
      | exact ih4 _ _ _ _ _
      | exact joistref00_SameLists.mono _ _ _
      | exact joistref00_Weigh.mono _ _ _
      | exact sum_All.mono _ _
      | exact sum_Frame.mono _ _
      | exact LeO.none _
      | refine LeO.ite ?_ ?_
      | refine LeO.bind ?_ (fun _ => ?_)
    · intro y0 y1 y2 y3 y4
      unfold joistlaw04_SumBack.l1
      repeat' first
      | (with_reducible exact ih0 _ _ _ _ _)
      | (with_reducible exact ih1 _ _ _ _ _)
      | (with_reducible exact ih2 _ _ _ _)
      | (with_reducible exact ih3 _ _ _ _ _)
      | (with_reducible exact ih4 _ _ _ _ _)
      | (with_reducible exact joistref00_SameLists.mono _ _ _)
      | (with_reducible exact joistref00_Weigh.mono _ _ _)
      | (with_reducible exact sum_All.mono _ _)
      | (with_reducible exact sum_Frame.mono _ _)
      | (with_reducible exact LeO.refl _)
      | (with_reducible exact LeO.none _)
      | (with_reducible refine LeO.ite ?_ ?_)
      | (with_reducible refine LeO.bind ?_ (fun _ => ?_))
      | exact ih0 _ _ _ _ _
      | exact ih1 _ _ _ _ _
      | exact ih2 _ _ _ _
      | exact ih3 _ _ _ _ _
      | exact ih4 _ _ _ _ _
      | exact joistref00_SameLists.mono _ _ _
      | exact joistref00_Weigh.mono _ _ _
      | exact sum_All.mono _ _
      | exact sum_Frame.mono _ _
      | exact LeO.none _
      | refine LeO.ite ?_ ?_
      | refine LeO.bind ?_ (fun _ => ?_)
theorem joistlaw04_SumBack.mono : ∀ a0 a1 k, LeO (joistlaw04_SumBack.f k a0 a1) (joistlaw04_SumBack.f (k + 1) a0 a1) := by
  intro a0 a1 k
  obtain ⟨ih0, ih1, ih2, ih3, ih4⟩ := joistlaw04_SumBack.mono_l k
  unfold joistlaw04_SumBack.f
  repeat' first
      | (with_reducible exact ih0 _ _ _ _ _)
      | (with_reducible exact ih1 _ _ _ _ _)
      | (with_reducible exact ih2 _ _ _ _)
      | (with_reducible exact ih3 _ _ _ _ _)
      | (with_reducible exact ih4 _ _ _ _ _)
      | (with_reducible exact joistref00_SameLists.mono _ _ _)
      | (with_reducible exact joistref00_Weigh.mono _ _ _)
      | (with_reducible exact sum_All.mono _ _)
      | (with_reducible exact sum_Frame.mono _ _)
      | (with_reducible exact LeO.refl _)
      | (with_reducible exact LeO.none _)
      | (with_reducible refine LeO.ite ?_ ?_)
      | (with_reducible refine LeO.bind ?_ (fun _ => ?_))
      | exact ih0 _ _ _ _ _
      | exact ih1 _ _ _ _ _
      | exact ih2 _ _ _ _
      | exact ih3 _ _ _ _ _
      | exact ih4 _ _ _ _ _
      | exact joistref00_SameLists.mono _ _ _
      | exact joistref00_Weigh.mono _ _ _
      | exact sum_All.mono _ _
      | exact sum_Frame.mono _ _
      | exact LeO.none _
      | refine LeO.ite ?_ ?_
      | refine LeO.bind ?_ (fun _ => ?_)
set_option maxHeartbeats 8000000 in
set_option maxRecDepth 100000 in
theorem joistlaw04_SumBack.calls (k : Nat) (A0 : Option Addr) (c0 : Nat) (l0 : List (List Int)) (a1 : Int) (r : Bool) (w : World) (hr0 : Kd.C (Kd.slice 5 (Kd.int .u8)) w A0 l0.length l0) (hc0 : l0.length ≤ c0) (h : joistlaw04_SumBack.f k l0 a1 = some r) :
    Calls Try.prog 6 #[.slice A0 l0.length c0, .int .i64 a1] w fun e w' => e = .returned (.bool r) ∧ Below w.heap.size w w' := by
  have HR0 := Aside0.mk hr0
  have HC0 := Aside0.mk hc0
  clear hr0 hc0
  have HB := Aside0.mk (Below.refl w.heap.size w)
  have H : ((joistlaw04_alive.f).bind fun t345 => (if t345 = true then ((joistref00_Weigh.f k l0 3000).bind fun t346 => (if t346 > 3000 then (some true) else (joistlaw04_SumBack.l0 k l0 a1 (([] : List Int)) (([0] : List Int)) 0))) else (some false))) = some r := h
  clear h
  replace H := Option.bind_eq_some_iff.mp H
  obtain ⟨t345, A30, H⟩ := H
  replace H : (if t345 = true then ((joistref00_Weigh.f k l0 3000).bind fun t346 => (if t346 > 3000 then (some true) else (joistlaw04_SumBack.l0 k l0 a1 (([] : List Int)) (([0] : List Int)) 0))) else (some false)) = some r := H
  have A3 := Aside0.mk A30
  clear A30
  by_cases c4 : t345 = true
  · subst c4
    have H1 : ((joistref00_Weigh.f k l0 3000).bind fun t346 => (if t346 > 3000 then (some true) else (joistlaw04_SumBack.l0 k l0 a1 (([] : List Int)) (([0] : List Int)) 0))) = some r := by rw [if_pos rfl] at H; exact H
    clear H
    have H := H1
    clear H1
    replace H := Option.bind_eq_some_iff.mp H
    obtain ⟨t346, A50, H⟩ := H
    replace H : (if t346 > 3000 then (some true) else (joistlaw04_SumBack.l0 k l0 a1 (([] : List Int)) (([0] : List Int)) 0)) = some r := H
    have A5 := Aside0.mk A50
    clear A50
    by_cases c6 : t346 > 3000
    · rw [if_pos c6] at H
      have c6b0 : decide (3000 < t346) = true := decide_eq_true c6
      clear c6
      obtain rfl := Option.some.inj H
      go_enter Try.func6, Try.ntmps6
      go_wp2_with (first | ((with_reducible refine gate_callee (f := 8) rfl ?_); refine goesL_ (some 15) rfl rfl Try.func8 (by kernel_rfl) rfl #[] rfl (by (try simp only [List.map_toArray, List.map_cons, List.map_nil]); first | done | rfl | (simp only [List.length_drop, List.length_take]; rfl)) ?_; (with_reducible refine (joistlaw04_alive.calls  true _ A3.out).mono ?_); rintro e w7 ⟨rfl, hb⟩; refine ⟨_, rfl, ?_⟩; have n0_ := Aside0.mk (below_step (by repeat (first | (with_reducible first | exact HB.out | apply below_alloc | apply pw_below_drewN | apply below_drew1) | exact HB.out)) hb); clear HB; have HB := n0_; clear n0_; (try clear hb); (try clear hb2); (try clear hk); (try clear hi)) | ((with_reducible refine gate_callee (f := 20) rfl ?_); refine goesL_ (some 18) rfl rfl Try.func20 (by kernel_rfl) rfl #[.slice A0 l0.length c0, .int .i64 3000] rfl (by (try simp only [List.map_toArray, List.map_cons, List.map_nil]); first | done | rfl | (simp only [List.length_drop, List.length_take]; rfl)) ?_; (with_reducible refine (joistref00_Weigh.calls k _ _ l0 3000 t346 _ ?side1 ?side2 A5.out).mono ?_); (case side1 => repeat (first | exact (Kd.C_below HR0.out HB.out) | (with_reducible refine Kd.C_alloc ?_ _) | (with_reducible refine Kd.C_drewN ?_ _) | (with_reducible refine Kd.C_drew ?_))); (case side2 => exact HC0.out); rintro e w' ⟨rfl, ⟨nd, rfl⟩⟩; refine ⟨_, rfl, ?_⟩))
      go_ret
      exact ⟨by first | rfl | (simp [errW_none, errW_some] <;> rfl) | (simp [*, errW_none, errW_some] <;> rfl), by repeat (first | (with_reducible first | exact HB.out | apply below_alloc | apply pw_below_drewN | apply below_drew1) | exact HB.out)⟩
    · rw [if_neg c6] at H
      have c6b0 : decide (3000 < t346) = false := decide_eq_false c6
      clear c6
      obtain ⟨y347, hy347⟩ : ∃ y_ : List Int, y_ = (([] : List Int)) := ⟨_, rfl⟩
      replace H : (joistlaw04_SumBack.l0 k l0 a1 y347 (([0] : List Int)) 0) = some r := by first | (rw [hy347]; with_reducible exact H) | (have H2_ := (Option.bind_some _ _).symm.trans H; rw [hy347]; with_reducible exact H2_) | (have H2_ := (Option.bind_some _ _).symm.trans H; with_reducible exact H2_) | with_reducible exact H | (rw [hy347]; exact H) | exact H
      have Ny347 := Aside0.mk hy347
      clear hy347
      obtain ⟨y350, hy350⟩ : ∃ y_ : List Int, y_ = (([0] : List Int)) := ⟨_, rfl⟩
      replace H : (joistlaw04_SumBack.l0 k l0 a1 y347 y350 0) = some r := by first | (rw [hy350]; with_reducible exact H) | (have H2_ := (Option.bind_some _ _).symm.trans H; rw [hy350]; with_reducible exact H2_) | (have H2_ := (Option.bind_some _ _).symm.trans H; with_reducible exact H2_) | with_reducible exact H | (rw [hy350]; exact H) | exact H
      have Ny350 := Aside0.mk hy350
      clear hy350
      have H' := Aside0.mk H
      clear H
      go_enter Try.func6, Try.ntmps6
      go_wp2_with (first | ((with_reducible refine gate_callee (f := 8) rfl ?_); refine goesL_ (some 15) rfl rfl Try.func8 (by kernel_rfl) rfl #[] rfl (by (try simp only [List.map_toArray, List.map_cons, List.map_nil]); first | done | rfl | (simp only [List.length_drop, List.length_take]; rfl)) ?_; (with_reducible refine (joistlaw04_alive.calls  true _ A3.out).mono ?_); rintro e w8 ⟨rfl, hb⟩; refine ⟨_, rfl, ?_⟩; have n0_ := Aside0.mk (below_step (by repeat (first | (with_reducible first | exact HB.out | apply below_alloc | apply pw_below_drewN | apply below_drew1) | exact HB.out)) hb); clear HB; have HB := n0_; clear n0_; (try clear hb); (try clear hb2); (try clear hk); (try clear hi)) | ((with_reducible refine gate_callee (f := 20) rfl ?_); refine goesL_ (some 18) rfl rfl Try.func20 (by kernel_rfl) rfl #[.slice A0 l0.length c0, .int .i64 3000] rfl (by (try simp only [List.map_toArray, List.map_cons, List.map_nil]); first | done | rfl | (simp only [List.length_drop, List.length_take]; rfl)) ?_; (with_reducible refine (joistref00_Weigh.calls k _ _ l0 3000 t346 _ ?side1 ?side2 A5.out).mono ?_); (case side1 => repeat (first | exact (Kd.C_below HR0.out HB.out) | (with_reducible refine Kd.C_alloc ?_ _) | (with_reducible refine Kd.C_drewN ?_ _) | (with_reducible refine Kd.C_drew ?_))); (case side2 => exact HC0.out); rintro e w' ⟨rfl, ⟨nd, rfl⟩⟩; refine ⟨_, rfl, ?_⟩) | ((with_reducible refine gate_dst (N := 20) rfl ?_); (try (refine gate_guard (by rfl) ?_; dsimp only)); refine Kd.R_lit (Kd.int .u8) _ 5 ?hg (N := 20) ?hd (xs := ([] : List Int)) (inner := []) (ok := fun _ => True) (okp := fun _ => True) ?hr ?hp (fun _ hk => hk) trivial (Below.refl _ _) (Nat.le_refl _) (by simp) ?_; (case hd => rfl); (case hg => rfl); (case hr => first | (go_simp; done) | (go_simp; rfl)); (case hp => exact (Reps.none _ _)); intro v348 w9 ho10 hb hg_ hnew_; clear hg_ hnew_; (first | rw [← Ny347.out] at ho10 | (simp only [Int.reduceToNat] at ho10; rw [← Ny347.out] at ho10)); have n0_ := Aside0.mk (Kd.R_lower ho10 (below_size (by repeat (first | (with_reducible first | exact HB.out | apply below_alloc | apply pw_below_drewN | apply below_drew1) | exact HB.out)))); have n1_ := Aside0.mk (below_step (by repeat (first | (with_reducible first | exact HB.out | apply below_alloc | apply pw_below_drewN | apply below_drew1) | exact HB.out)) hb); clear HB; have HO349 := n0_; have HB := n1_; clear n0_ n1_; clear hb ho10) | ((with_reducible refine gate_dst (N := 21) rfl ?_); (try (refine gate_guard (by rfl) ?_; dsimp only)); refine Kd.R_lit (Kd.int .i64) _ 3 ?hg (N := 21) ?hd (xs := ([0] : List Int)) (inner := [.int .i64 0]) (ok := fun _ => True) (okp := fun _ => True) ?hr ?hp (fun _ hk => hk) trivial (Below.refl _ _) (Nat.le_refl _) (by simp) ?_; (case hd => rfl); (case hg => rfl); (case hr => first | (go_simp; done) | (go_simp; rfl)); (case hp => exact (Reps.one (show Kd.M (Kd.int .i64) _ _ _ 0 [.int .i64 0] from rfl) (Reps.none _ _))); intro v351 w11 ho12 hb hg_ hnew_; clear hg_ hnew_; (first | rw [← Ny350.out] at ho12 | (simp only [Int.reduceToNat] at ho12; rw [← Ny350.out] at ho12)); have n0_ := Aside0.mk (Kd.R_below (by (with_reducible repeat (first | apply Kd.R_alloc | apply Kd.R_drewN | apply Kd.R_drew)); exact HO349.out) hb); have n1_ := Aside0.mk (Kd.R_lower ho12 (below_size (by repeat (first | (with_reducible first | exact HB.out | apply below_alloc | apply pw_below_drewN | apply below_drew1) | exact HB.out)))); have n2_ := Aside0.mk (below_step (by repeat (first | (with_reducible first | exact HB.out | apply below_alloc | apply pw_below_drewN | apply below_drew1) | exact HB.out)) hb); clear HO349; clear HB; have HO349 := n0_; have HO352 := n1_; have HB := n2_; clear n0_ n1_ n2_; clear hb ho12))
      go_loopg [5, 6, 7] k (fun kq v5 v6 v7 w' => ∃ (x5_1 : List Int) (x6_1 : List Int) (x7_1 : Int), v7 = .int .i64 x7_1 ∧ Aside0 (joistlaw04_SumBack.l0 kq l0 a1 x5_1 x6_1 x7_1 = some r) ∧ Aside0 (kq ≤ k) ∧ Aside0 (Kd.R (Kd.int .u8) 5 w' w.heap.size (fun _ => True) v5 x5_1) ∧ Aside0 (Kd.R (Kd.int .i64) 3 w' w.heap.size (fun _ => True) v6 x6_1) ∧ Aside0 (Below w.heap.size w w'))
      case atStart => exact ⟨(y347), (y350), (0), (by first | rfl | (simp; done) | (simp [*]; done)), H', ⟨Nat.le_refl _⟩, ⟨by (with_reducible repeat (first | apply Kd.R_alloc | apply Kd.R_drewN | apply Kd.R_drew)); exact HO349.out⟩, ⟨by (with_reducible repeat (first | apply Kd.R_alloc | apply Kd.R_drewN | apply Kd.R_drew)); exact HO352.out⟩, ⟨by repeat (first | (with_reducible first | exact HB.out | apply below_alloc | apply pw_below_drewN | apply below_drew1) | exact HB.out)⟩⟩
      case round =>
        clear H'
        try clear c2
        try clear p2
        try clear c4
        try clear c6
        try clear c6b0
        try clear c8
        obtain ⟨x5_1, x6_1, x7_1, rfl, HA, HK1, HO_5, HO_6, HB⟩ := hrel
        cases gk with
        | zero => exact absurd HA.out (by simp [joistlaw04_SumBack.l0])
        | succ k1 =>
          have H := HA.out
          clear HA
          simp only [joistlaw04_SumBack.l0] at H
          by_cases c13 : x7_1 < (l0.length : Int)
          · rw [if_pos c13] at H
            have c13b0 : decide (x7_1 < (l0.length : Int)) = true := decide_eq_true c13
            clear c13
            by_cases c14 : 0 ≤ x7_1
            · rw [if_pos c14] at H
              have c14b0 : decide (0 ≤ x7_1) = true := decide_eq_true c14
              clear c14
              replace H := Option.bind_eq_some_iff.mp H
              obtain ⟨⟨t354, t357⟩, A150, H⟩ := H
              replace H : (if t357 = true then (if x5_1.length + t354.length < 140737488355328 then ((some (x5_1 ++ t354 : List Int)).bind fun y358 => (if x6_1.length < 17592186044416 then (joistlaw04_SumBack.l0 k1 l0 a1 y358 (x6_1 ++ [(y358.length : Int)]) (wrap64 (x7_1 + 1))) else (none))) else (none)) else (some false)) = some r := H
              have A15 := Aside0.mk A150
              clear A150
              by_cases c16 : t357 = true
              · subst c16
                have H1 : (if x5_1.length + t354.length < 140737488355328 then ((some (x5_1 ++ t354 : List Int)).bind fun y358 => (if x6_1.length < 17592186044416 then (joistlaw04_SumBack.l0 k1 l0 a1 y358 (x6_1 ++ [(y358.length : Int)]) (wrap64 (x7_1 + 1))) else (none))) else (none)) = some r := by rw [if_pos rfl] at H; exact H
                clear H
                have H := H1
                clear H1
                by_cases c17 : x5_1.length + t354.length < 140737488355328
                · rw [if_pos c17] at H
                  have LMc17 := Aside0.mk c17
                  clear c17
                  obtain ⟨y358, hy358⟩ : ∃ y_ : List Int, y_ = (x5_1 ++ t354) := ⟨_, rfl⟩
                  replace H : (if x6_1.length < 17592186044416 then (joistlaw04_SumBack.l0 k1 l0 a1 y358 (x6_1 ++ [(y358.length : Int)]) (wrap64 (x7_1 + 1))) else (none)) = some r := by first | (rw [hy358]; with_reducible exact H) | (have H2_ := (Option.bind_some _ _).symm.trans H; rw [hy358]; with_reducible exact H2_) | (have H2_ := (Option.bind_some _ _).symm.trans H; with_reducible exact H2_) | with_reducible exact H | (rw [hy358]; exact H) | exact H
                  have Ny358 := Aside0.mk hy358
                  clear hy358
                  by_cases c18 : x6_1.length < 17592186044416
                  · rw [if_pos c18] at H
                    have LMc18 := Aside0.mk c18
                    clear c18
                    obtain ⟨y361, hy361⟩ : ∃ y_ : List Int, y_ = (x6_1 ++ [(y358.length : Int)]) := ⟨_, rfl⟩
                    replace H : (joistlaw04_SumBack.l0 k1 l0 a1 y358 y361 (wrap64 (x7_1 + 1))) = some r := by first | (rw [hy361]; with_reducible exact H) | (have H2_ := (Option.bind_some _ _).symm.trans H; rw [hy361]; with_reducible exact H2_) | (have H2_ := (Option.bind_some _ _).symm.trans H; with_reducible exact H2_) | with_reducible exact H | (rw [hy361]; exact H) | exact H
                    have Ny361 := Aside0.mk hy361
                    clear hy361
                    have H' := Aside0.mk H
                    clear H
                    have p353 : 0 ≤ (x7_1 : Int) := of_decide_eq_true (by first | (with_reducible assumption) | assumption)
                    have q353 : x7_1 < (l0.length : Int) := of_decide_eq_true (by first | (with_reducible assumption) | assumption)
                    obtain ⟨ad353, A353_0, c353_0, e353, hx353_0, hl353_0, hi353_0⟩ := at_L1 HR0.out x7_1 p353 q353
                    cases e353
                    replace hx353_0 := (HB.out.cell (World.block_lt_of_cell? w _ hx353_0)).trans hx353_0
                    have HR353_0 := Aside0.mk hi353_0
                    have HC353_0 := Aside0.mk hl353_0
                    clear hi353_0 hl353_0
                    replace p353 := eq_true p353
                    replace q353 := eq_true q353
                    go_wp2_with (first | ((with_reducible refine gate_callee (f := 9) rfl ?_); refine goesL_ (some 33) rfl rfl Try.func9 (by kernel_rfl) rfl #[.slice A353_0 (rd_L1 l0 x7_1).length c353_0] rfl (by (try simp only [List.map_toArray, List.map_cons, List.map_nil]); first | done | rfl | (simp only [List.length_drop, List.length_take]; rfl)) ?_; (with_reducible refine (sum_Frame.calls k1 (fun k_ => k_ < w.heap.size) _ _ (rd_L1 l0 x7_1) t354 true _ ?side1 A15.out).mono ?_); (case side1 => exact Kd.V_mk HC353_0.out (Kd.F_below (Kd.C_F (Kd.heap_int .u8) HR353_0.out) (by repeat (first | (with_reducible first | exact HB.out | apply below_alloc | apply pw_below_drewN | apply below_drew1) | exact HB.out)))); rintro e w19 ⟨v355, rfl, ho0, hb⟩; refine ⟨_, rfl, ?_⟩; have n0_ := Aside0.mk (Kd.R_elder' (by (with_reducible repeat (first | apply Kd.R_alloc | apply Kd.R_drewN | apply Kd.R_drew)); exact HO_5.out) (Kd.R_base ho0) hb); have n1_ := Aside0.mk (Kd.R_below (by (with_reducible repeat (first | apply Kd.R_alloc | apply Kd.R_drewN | apply Kd.R_drew)); exact HO_6.out) hb); have n2_ := Aside0.mk (Kd.R_lower (Kd.R_new' (Kd.R_mono (ok' := fun k_ => True) ho0 (fun _ hk_ => trivial)) (Kd.R_lt (by (with_reducible repeat (first | apply Kd.R_alloc | apply Kd.R_drewN | apply Kd.R_drew)); exact HO_5.out))) (below_size (by repeat (first | (with_reducible first | exact HB.out | apply below_alloc | apply pw_below_drewN | apply below_drew1) | exact HB.out)))); have n3_ := Aside0.mk (below_step (by repeat (first | (with_reducible first | exact HB.out | apply below_alloc | apply pw_below_drewN | apply below_drew1) | exact HB.out)) hb); clear HO_5; clear HO_6; clear HB; have HO_5 := n0_; have HO_6 := n1_; have HO356 := n2_; have HB := n3_; clear n0_ n1_ n2_ n3_; (try clear hb); (try clear hb2); (try clear hk); (try clear hi); (try clear ho0); obtain ⟨Ao21, co21, eo21⟩ := Kd.R_slice HO356.out; subst eo21) | ((with_reducible refine gate_builtin (b := .append) (xs := #[.tmp 38, .tmp 39]) rfl ?_); (try (refine gate_guard (by rfl) ?_; dsimp only)); at_builtin; refine Kd.R_append_rows (Kd.int .u8) (w0 := w) w.heap.size rfl (.tmp 38) (.tmp 39) 22 5 (.int .u8 0) 1 rfl Try.underlying22 info5 rfl (by decide) (by omega) u5 x5_1 t354 _ _ _ (fun k_ => some k_ ≠ (.slice Ao21 t354.length co21 : Value).ownBlock) (fun _ => False) rfl rfl ?aO ?aR (fun _ _ h => h) (fun _ h => h.elim) ?aF ?aB ?aS ?aL ?_; (case aR => repeat (first | exact (Kd.R_reads' HO356.out).2.2 | (with_reducible refine Kd.C_alloc ?_ _) | (with_reducible refine Kd.C_drewN ?_ _) | (with_reducible refine Kd.C_drew ?_))); (case aB => exact (by repeat (first | (with_reducible first | exact HB.out | apply below_alloc | apply pw_below_drewN | apply below_drew1) | exact HB.out))); (case aF => exact (fun k_ hk => Kd.fresh' (Kd.R_lt (by (with_reducible repeat (first | apply Kd.R_alloc | apply Kd.R_drewN | apply Kd.R_drew)); exact HO356.out)) k_ hk)); (case aO => exact (by (with_reducible repeat (first | apply Kd.R_alloc | apply Kd.R_drewN | apply Kd.R_drew)); exact Kd.R_mono HO_5.out (fun _ hk => hk.2))); (case aS => exact (below_size (by repeat (first | (with_reducible first | exact HB.out | apply below_alloc | apply pw_below_drewN | apply below_drew1) | exact HB.out)))); (case aL => have := LMc17.out; omega); intro v359 w20 ho hb hg hat; rw [← Ny358.out] at ho; have n0_ := Aside0.mk (Kd.R_over' (by (with_reducible repeat (first | apply Kd.R_alloc | apply Kd.R_drewN | apply Kd.R_drew)); exact HO_6.out) (Kd.R_typed (by (with_reducible repeat (first | apply Kd.R_alloc | apply Kd.R_drewN | apply Kd.R_drew)); exact HO_5.out)) (by decide) hg); have n1_ := Aside0.mk (Kd.R_after (ok := (fun _ => True)) (by (with_reducible repeat (first | apply Kd.R_alloc | apply Kd.R_drewN | apply Kd.R_drew)); exact HO356.out) hg hat); have n2_ := Aside0.mk (hb); have n3_ := Aside0.mk (ho); clear HO_6; clear HO356; clear HB; clear HO_5; have HO_6 := n0_; have HO356 := n1_; have HB := n2_; have HO360 := n3_; clear n0_ n1_ n2_ n3_; clear ho hb hg hat; obtain ⟨Ao22, co22, eo22⟩ := Kd.R_slice HO360.out; subst eo22) | ((with_reducible refine gate_builtin (b := .append) (xs := #[.tmp 41, .tmp 44]) rfl ?_); (try (refine gate_guard (by rfl) ?_; dsimp only)); at_builtin; refine Kd.R_append (Kd.int .i64) (w0 := w) w.heap.size rfl (.tmp 41) (.tmp 44) 39 3 (.int .i64 0) 8 rfl Try.underlying39 info3 rfl (by decide) (by omega) u6 x6_1 (y358.length : Int) [.int .i64 (y358.length : Int)] (fun _ => True) (fun _ => False) rfl rfl ?aP (fun _ hk => hk.elim) ?aF ?aO ?aB ?aS ?aL ?_; (case aP => exact rfl); (case aB => exact (by repeat (first | (with_reducible first | exact HB.out | apply below_alloc | apply pw_below_drewN | apply below_drew1) | exact HB.out))); (case aF => exact (fun _ _ => trivial)); (case aO => exact (by (with_reducible repeat (first | apply Kd.R_alloc | apply Kd.R_drewN | apply Kd.R_drew)); exact HO_6.out)); (case aS => exact (below_size (by repeat (first | (with_reducible first | exact HB.out | apply below_alloc | apply pw_below_drewN | apply below_drew1) | exact HB.out)))); (case aL => have := LMc18.out; omega); intro v362 w23 ho hb hg hat; rw [← Ny361.out] at ho; have n0_ := Aside0.mk (Kd.R_over' (by (with_reducible repeat (first | apply Kd.R_alloc | apply Kd.R_drewN | apply Kd.R_drew)); exact HO356.out) (Kd.R_typed (by (with_reducible repeat (first | apply Kd.R_alloc | apply Kd.R_drewN | apply Kd.R_drew)); exact HO_6.out)) (by decide) hg); have n1_ := Aside0.mk (Kd.R_over' (by (with_reducible repeat (first | apply Kd.R_alloc | apply Kd.R_drewN | apply Kd.R_drew)); exact HO360.out) (Kd.R_typed (by (with_reducible repeat (first | apply Kd.R_alloc | apply Kd.R_drewN | apply Kd.R_drew)); exact HO_6.out)) (by decide) hg); have n2_ := Aside0.mk (hb); have n3_ := Aside0.mk (ho); clear HO356; clear HO360; clear HB; clear HO_6; have HO356 := n0_; have HO360 := n1_; have HB := n2_; have HO363 := n3_; clear n0_ n1_ n2_ n3_; clear ho hb hg hat))
                    go_roundg k1
                    case measure => have := HK1.out; omega
                    case rel => exact ⟨(y358), (y361), (wrap64 (x7_1 + 1)), (by first | rfl | (simp; done) | (simp [*]; done)), H', ⟨by have := HK1.out; omega⟩, ⟨by (with_reducible repeat (first | apply Kd.R_alloc | apply Kd.R_drewN | apply Kd.R_drew)); exact Kd.R_mono HO360.out (fun _ hk => trivial)⟩, ⟨by (with_reducible repeat (first | apply Kd.R_alloc | apply Kd.R_drewN | apply Kd.R_drew)); exact HO363.out⟩, ⟨by repeat (first | (with_reducible first | exact HB.out | apply below_alloc | apply pw_below_drewN | apply below_drew1) | exact HB.out)⟩⟩
                  · rw [if_neg c18] at H
                    exact absurd H (by simp)
                · rw [if_neg c17] at H
                  exact absurd H (by simp)
              · replace c16 := Bool.eq_false_iff.mpr c16
                subst c16
                have H1 : (some false) = some r := by rw [if_neg (show ¬ (false = true) by decide)] at H; exact H
                clear H
                have H := H1
                clear H1
                obtain rfl := Option.some.inj H
                have p353 : 0 ≤ (x7_1 : Int) := of_decide_eq_true (by first | (with_reducible assumption) | assumption)
                have q353 : x7_1 < (l0.length : Int) := of_decide_eq_true (by first | (with_reducible assumption) | assumption)
                obtain ⟨ad353, A353_0, c353_0, e353, hx353_0, hl353_0, hi353_0⟩ := at_L1 HR0.out x7_1 p353 q353
                cases e353
                replace hx353_0 := (HB.out.cell (World.block_lt_of_cell? w _ hx353_0)).trans hx353_0
                have HR353_0 := Aside0.mk hi353_0
                have HC353_0 := Aside0.mk hl353_0
                clear hi353_0 hl353_0
                replace p353 := eq_true p353
                replace q353 := eq_true q353
                go_wp2_with (first | ((with_reducible refine gate_callee (f := 9) rfl ?_); refine goesL_ (some 33) rfl rfl Try.func9 (by kernel_rfl) rfl #[.slice A353_0 (rd_L1 l0 x7_1).length c353_0] rfl (by (try simp only [List.map_toArray, List.map_cons, List.map_nil]); first | done | rfl | (simp only [List.length_drop, List.length_take]; rfl)) ?_; (with_reducible refine (sum_Frame.calls k1 (fun k_ => k_ < w.heap.size) _ _ (rd_L1 l0 x7_1) t354 false _ ?side1 A15.out).mono ?_); (case side1 => exact Kd.V_mk HC353_0.out (Kd.F_below (Kd.C_F (Kd.heap_int .u8) HR353_0.out) (by repeat (first | (with_reducible first | exact HB.out | apply below_alloc | apply pw_below_drewN | apply below_drew1) | exact HB.out)))); rintro e w24 ⟨v355, rfl, ho0, hb⟩; refine ⟨_, rfl, ?_⟩; have n0_ := Aside0.mk (Kd.R_elder' (by (with_reducible repeat (first | apply Kd.R_alloc | apply Kd.R_drewN | apply Kd.R_drew)); exact HO_5.out) (Kd.R_base ho0) hb); have n1_ := Aside0.mk (Kd.R_below (by (with_reducible repeat (first | apply Kd.R_alloc | apply Kd.R_drewN | apply Kd.R_drew)); exact HO_6.out) hb); have n2_ := Aside0.mk (Kd.R_lower (Kd.R_new' (Kd.R_mono (ok' := fun k_ => True) ho0 (fun _ hk_ => trivial)) (Kd.R_lt (by (with_reducible repeat (first | apply Kd.R_alloc | apply Kd.R_drewN | apply Kd.R_drew)); exact HO_5.out))) (below_size (by repeat (first | (with_reducible first | exact HB.out | apply below_alloc | apply pw_below_drewN | apply below_drew1) | exact HB.out)))); have n3_ := Aside0.mk (below_step (by repeat (first | (with_reducible first | exact HB.out | apply below_alloc | apply pw_below_drewN | apply below_drew1) | exact HB.out)) hb); clear HO_5; clear HO_6; clear HB; have HO_5 := n0_; have HO_6 := n1_; have HO356 := n2_; have HB := n3_; clear n0_ n1_ n2_ n3_; (try clear hb); (try clear hb2); (try clear hk); (try clear hi); (try clear ho0)))
                go_ret
                exact ⟨by first | rfl | (simp [errW_none, errW_some] <;> rfl) | (simp [*, errW_none, errW_some] <;> rfl), by repeat (first | (with_reducible first | exact HB.out | apply below_alloc | apply pw_below_drewN | apply below_drew1) | exact HB.out)⟩
            · rw [if_neg c14] at H
              exact absurd H (by simp)
          · rw [if_neg c13] at H
            have c13b0 : decide (x7_1 < (l0.length : Int)) = false := decide_eq_false c13
            clear c13
            have HC25 := Aside0.mk H
            clear H
            go_upto_region 15 with (fail)
            go_cut [53] (fun v53 wc => ∃ (kq : Nat) (x53_24 : Bool), v53 = .bool x53_24 ∧ Aside0 (joistlaw04_SumBack.j1 kq l0 a1 x5_1 x6_1 x53_24 = some r) ∧ Aside0 (kq ≤ k1) ∧ Aside0 (Kd.R (Kd.int .u8) 5 wc w.heap.size (fun _ => True) u5 x5_1) ∧ Aside0 (Kd.R (Kd.int .i64) 3 wc w.heap.size (fun _ => True) u6 x6_1) ∧ Aside0 (Below w.heap.size w wc))
            case first =>
              have H := HC25.out
              clear HC25
              by_cases c26 : a1 < 0
              · rw [if_pos c26] at H
                have c26b0 : decide (a1 < 0) = true := decide_eq_true c26
                clear c26
                (first | rw [c26b0] | (simp only [i64_w, i32_w]; rw [c26b0]) | skip)
                have H' := Aside0.mk H
                clear H
                go_wp2
                go_meet
                case rel => exact ⟨_, (true), (by first | rfl | (simp; done) | (simp [*]; done)), H', ⟨by have := HK1.out; first | omega | exact Nat.le_refl _⟩, ⟨by (with_reducible repeat (first | apply Kd.R_alloc | apply Kd.R_drewN | apply Kd.R_drew)); exact HO_5.out⟩, ⟨by (with_reducible repeat (first | apply Kd.R_alloc | apply Kd.R_drewN | apply Kd.R_drew)); exact HO_6.out⟩, ⟨by repeat (first | (with_reducible first | exact HB.out | apply below_alloc | apply pw_below_drewN | apply below_drew1) | exact HB.out)⟩⟩
              · rw [if_neg c26] at H
                have c26b0 : decide (a1 < 0) = false := decide_eq_false c26
                clear c26
                (first | rw [c26b0] | (simp only [i64_w, i32_w]; rw [c26b0]) | skip)
                have H' := Aside0.mk H
                clear H
                obtain ⟨Ao27, co27, eo27⟩ := Kd.R_slice HO_5.out
                subst eo27
                go_wp2
                go_meet
                case rel => exact ⟨_, (decide (a1 > (x5_1.length : Int))), (by first | rfl | (simp; done) | (simp [*]; done)), H', ⟨by have := HK1.out; first | omega | exact Nat.le_refl _⟩, ⟨by (with_reducible repeat (first | apply Kd.R_alloc | apply Kd.R_drewN | apply Kd.R_drew)); exact HO_5.out⟩, ⟨by (with_reducible repeat (first | apply Kd.R_alloc | apply Kd.R_drewN | apply Kd.R_drew)); exact HO_6.out⟩, ⟨by repeat (first | (with_reducible first | exact HB.out | apply below_alloc | apply pw_below_drewN | apply below_drew1) | exact HB.out)⟩⟩
            case rest =>
              clear HC25
              try clear c1
              try clear c2
              try clear p2
              try clear c3
              try clear p3
              try clear q3
              try clear hx3
              try clear c4
              try clear c6
              try clear c6b0
              try clear p6
              try clear c8
              try clear c9
              try clear c13
              try clear c13b0
              try clear c14
              try clear c14b0
              try clear c16
              try clear c17
              try clear c18
              try clear c20
              try clear c26
              try clear c26b0
              try clear hx353_0
              try clear p2
              try clear p353
              try clear q353
              obtain ⟨kq, x53_24, rfl, HA, HJ24, HO_5, HO_6, HB⟩ := hcut
              cases kq with
              | zero => exact absurd HA.out (by simp [joistlaw04_SumBack.j1])
              | succ kj24 =>
                have H := HA.out
                clear HA
                simp only [joistlaw04_SumBack.j1] at H
                have HC28 := Aside0.mk H
                clear H
                go_upto_if 53 with (fail)
                go_cut [1] (fun v1 wc => ∃ (kq : Nat) (x1_27 : Int), v1 = .int .i64 x1_27 ∧ Aside0 (joistlaw04_SumBack.j2 kq l0 x1_27 x5_1 x6_1 = some r) ∧ Aside0 (kq ≤ kj24) ∧ Aside0 (Kd.R (Kd.int .u8) 5 wc w.heap.size (fun _ => True) u5 x5_1) ∧ Aside0 (Kd.R (Kd.int .i64) 3 wc w.heap.size (fun _ => True) u6 x6_1) ∧ Aside0 (Below w.heap.size w wc))
                case first =>
                  have H := HC28.out
                  clear HC28
                  by_cases c29 : x53_24 = true
                  · subst c29
                    have H1 : (joistlaw04_SumBack.j2 kj24 l0 (x5_1.length : Int) x5_1 x6_1) = some r := by rw [if_pos rfl] at H; exact H
                    clear H
                    have H := H1
                    clear H1
                    have H' := Aside0.mk H
                    clear H
                    obtain ⟨Ao30, co30, eo30⟩ := Kd.R_slice HO_5.out
                    subst eo30
                    go_wp2
                    go_meet
                    case rel => exact ⟨_, ((x5_1.length : Int)), (by first | rfl | (simp; done) | (simp [*]; done)), H', ⟨by have := HK1.out; have := HJ24.out; first | omega | exact Nat.le_refl _⟩, ⟨by (with_reducible repeat (first | apply Kd.R_alloc | apply Kd.R_drewN | apply Kd.R_drew)); exact HO_5.out⟩, ⟨by (with_reducible repeat (first | apply Kd.R_alloc | apply Kd.R_drewN | apply Kd.R_drew)); exact HO_6.out⟩, ⟨by repeat (first | (with_reducible first | exact HB.out | apply below_alloc | apply pw_below_drewN | apply below_drew1) | exact HB.out)⟩⟩
                  · replace c29 := Bool.eq_false_iff.mpr c29
                    subst c29
                    have H1 : (joistlaw04_SumBack.j2 kj24 l0 a1 x5_1 x6_1) = some r := by rw [if_neg (show ¬ (false = true) by decide)] at H; exact H
                    clear H
                    have H := H1
                    clear H1
                    have H' := Aside0.mk H
                    clear H
                    go_wp2
                    go_meet
                    case rel => exact ⟨_, (a1), (by first | rfl | (simp; done) | (simp [*]; done)), H', ⟨by have := HK1.out; have := HJ24.out; first | omega | exact Nat.le_refl _⟩, ⟨by (with_reducible repeat (first | apply Kd.R_alloc | apply Kd.R_drewN | apply Kd.R_drew)); exact HO_5.out⟩, ⟨by (with_reducible repeat (first | apply Kd.R_alloc | apply Kd.R_drewN | apply Kd.R_drew)); exact HO_6.out⟩, ⟨by repeat (first | (with_reducible first | exact HB.out | apply below_alloc | apply pw_below_drewN | apply below_drew1) | exact HB.out)⟩⟩
                case rest =>
                  clear HC28
                  try clear c1
                  try clear c2
                  try clear p2
                  try clear c3
                  try clear p3
                  try clear q3
                  try clear hx3
                  try clear c4
                  try clear c6
                  try clear c6b0
                  try clear p6
                  try clear c8
                  try clear c9
                  try clear c13
                  try clear c13b0
                  try clear c14
                  try clear c14b0
                  try clear c16
                  try clear c17
                  try clear c18
                  try clear c20
                  try clear c26
                  try clear c26b0
                  try clear c29
                  try clear hx353_0
                  try clear p2
                  try clear p3
                  try clear p353
                  try clear p6
                  try clear q3
                  try clear q353
                  obtain ⟨kq, x1_27, rfl, HA, HJ27, HO_5, HO_6, HB⟩ := hcut
                  cases kq with
                  | zero => exact absurd HA.out (by simp [joistlaw04_SumBack.j2])
                  | succ kj27 =>
                    have H := HA.out
                    clear HA
                    simp only [joistlaw04_SumBack.j2] at H
                    have HC31 := Aside0.mk H
                    clear H
                    go_upto_block 2 with (fail)
                    go_cut [10] (fun v10 wc => ∃ (kq : Nat) (x10_30 : Int), v10 = .int .i64 x10_30 ∧ Aside0 (joistlaw04_SumBack.j4 kq l0 x1_27 x5_1 x6_1 x10_30 = some r) ∧ Aside0 (kq ≤ kj27) ∧ Aside0 (Kd.R (Kd.int .u8) 5 wc w.heap.size (fun _ => True) u5 x5_1) ∧ Aside0 (Kd.R (Kd.int .i64) 3 wc w.heap.size (fun _ => True) u6 x6_1) ∧ Aside0 (Below w.heap.size w wc))
                    case first =>
                      have H := HC31.out
                      clear HC31
                      have H' := Aside0.mk H
                      clear H
                      go_wp2
                      go_loopg [10] kj27 (fun kq v10 w' => ∃ (x10_4 : Int), v10 = .int .i64 x10_4 ∧ Aside0 (joistlaw04_SumBack.l1 kq l0 x1_27 x5_1 x6_1 x10_4 = some r) ∧ Aside0 (kq ≤ kj27) ∧ Aside0 (Kd.R (Kd.int .u8) 5 w' w.heap.size (fun _ => True) u5 x5_1) ∧ Aside0 (Kd.R (Kd.int .i64) 3 w' w.heap.size (fun _ => True) u6 x6_1) ∧ Aside0 (Below w.heap.size w w'))
                      case atStart => exact ⟨(0), (by first | rfl | (simp; done) | (simp [*]; done)), H', ⟨Nat.le_refl _⟩, ⟨by (with_reducible repeat (first | apply Kd.R_alloc | apply Kd.R_drewN | apply Kd.R_drew)); exact HO_5.out⟩, ⟨by (with_reducible repeat (first | apply Kd.R_alloc | apply Kd.R_drewN | apply Kd.R_drew)); exact HO_6.out⟩, ⟨by repeat (first | (with_reducible first | exact HB.out | apply below_alloc | apply pw_below_drewN | apply below_drew1) | exact HB.out)⟩⟩
                      case round =>
                        clear H'
                        try clear c1
                        try clear c2
                        try clear p2
                        try clear c3
                        try clear p3
                        try clear q3
                        try clear hx3
                        try clear c4
                        try clear c6
                        try clear c6b0
                        try clear p6
                        try clear c8
                        try clear c9
                        try clear c13
                        try clear c13b0
                        try clear c14
                        try clear c14b0
                        try clear c16
                        try clear c17
                        try clear c18
                        try clear c20
                        try clear c26
                        try clear c26b0
                        try clear c29
                        try clear hx353_0
                        try clear p2
                        try clear p3
                        try clear p353
                        try clear p6
                        try clear q3
                        try clear q353
                        obtain ⟨x10_4, rfl, HA, HK4, HO_5, HO_6, HB⟩ := hrel
                        cases gk with
                        | zero => exact absurd HA.out (by simp [joistlaw04_SumBack.l1])
                        | succ k4 =>
                          have H := HA.out
                          clear HA
                          simp only [joistlaw04_SumBack.l1] at H
                          by_cases c32 : x10_4 < (l0.length : Int)
                          · rw [if_pos c32] at H
                            have c32b0 : decide (x10_4 < (l0.length : Int)) = true := decide_eq_true c32
                            clear c32
                            (first | rw [c32b0] | (simp only [i64_w, i32_w]; rw [c32b0]) | skip)
                            obtain ⟨ji33, hji33⟩ : ∃ j_ : Int, (wrap64 (x10_4 + 1)) = j_ := ⟨_, rfl⟩
                            replace H : (if 0 ≤ (ji33) then (if (ji33) < (x6_1.length : Int) then (if (rd x6_1 (ji33)) ≤ x1_27 then (joistlaw04_SumBack.l1 k4 l0 x1_27 x5_1 x6_1 ji33) else (joistlaw04_SumBack.j4 k4 l0 x1_27 x5_1 x6_1 x10_4)) else (none)) else (none)) = some r := by first | (rw [hji33] at H; exact H) | (simp only [hji33] at H ⊢; exact H)
                            have hji33w : (IntKind.i64.wrap (x10_4 + 1)) = ji33 := (i64_w _).trans hji33
                            by_cases c34 : 0 ≤ (ji33)
                            · rw [if_pos c34] at H
                              have c34b0 : decide (0 ≤ (ji33)) = true := decide_eq_true c34
                              clear c34
                              by_cases c35 : (ji33) < (x6_1.length : Int)
                              · rw [if_pos c35] at H
                                have c35b0 : decide ((ji33) < (x6_1.length : Int)) = true := decide_eq_true c35
                                clear c35
                                by_cases c36 : (rd x6_1 (ji33)) ≤ x1_27
                                · rw [if_pos c36] at H
                                  have c36b0 : decide ((rd x6_1 (ji33)) ≤ x1_27) = true := decide_eq_true c36
                                  clear c36
                                  have H' := Aside0.mk H
                                  clear H
                                  obtain ⟨Ao37, co37, eo37⟩ := Kd.R_slice HO_6.out
                                  subst eo37
                                  have p364 : 0 ≤ ((ji33) : Int) := of_decide_eq_true (by first | (with_reducible assumption) | assumption)
                                  have q364 : (ji33) < (x6_1.length : Int) := of_decide_eq_true (by first | (with_reducible assumption) | assumption)
                                  obtain ⟨ad364, e364, hx364_0⟩ := Kd.at_int (Kd.R_reads' HO_6.out).2.2 (ji33) p364 q364
                                  cases e364
                                  replace p364 := eq_true p364
                                  replace q364 := eq_true q364
                                  go_wp2
                                  go_roundg k4
                                  case measure => have := HK1.out; have := HJ24.out; have := HJ27.out; have := HK4.out; omega
                                  case rel => exact ⟨(ji33), (by first | rfl | (simp; done) | (simp only [← hji33] <;> (first | rfl | simp)) | (simp [*]; done)), H', ⟨by have := HK1.out; have := HJ24.out; have := HJ27.out; have := HK4.out; omega⟩, ⟨by (with_reducible repeat (first | apply Kd.R_alloc | apply Kd.R_drewN | apply Kd.R_drew)); exact HO_5.out⟩, ⟨by (with_reducible repeat (first | apply Kd.R_alloc | apply Kd.R_drewN | apply Kd.R_drew)); exact HO_6.out⟩, ⟨by repeat (first | (with_reducible first | exact HB.out | apply below_alloc | apply pw_below_drewN | apply below_drew1) | exact HB.out)⟩⟩
                                · rw [if_neg c36] at H
                                  have c36b0 : decide ((rd x6_1 (ji33)) ≤ x1_27) = false := decide_eq_false c36
                                  clear c36
                                  have H' := Aside0.mk H
                                  clear H
                                  obtain ⟨Ao38, co38, eo38⟩ := Kd.R_slice HO_6.out
                                  subst eo38
                                  have p364 : 0 ≤ ((ji33) : Int) := of_decide_eq_true (by first | (with_reducible assumption) | assumption)
                                  have q364 : (ji33) < (x6_1.length : Int) := of_decide_eq_true (by first | (with_reducible assumption) | assumption)
                                  obtain ⟨ad364, e364, hx364_0⟩ := Kd.at_int (Kd.R_reads' HO_6.out).2.2 (ji33) p364 q364
                                  cases e364
                                  replace p364 := eq_true p364
                                  replace q364 := eq_true q364
                                  go_wp2
                                  go_meet
                                  case rel => exact ⟨_, (x10_4), (by first | rfl | (simp; done) | (simp [*]; done)), H', ⟨by have := HK1.out; have := HJ24.out; have := HJ27.out; have := HK4.out; first | omega | exact Nat.le_refl _⟩, ⟨by (with_reducible repeat (first | apply Kd.R_alloc | apply Kd.R_drewN | apply Kd.R_drew)); exact HO_5.out⟩, ⟨by (with_reducible repeat (first | apply Kd.R_alloc | apply Kd.R_drewN | apply Kd.R_drew)); exact HO_6.out⟩, ⟨by repeat (first | (with_reducible first | exact HB.out | apply below_alloc | apply pw_below_drewN | apply below_drew1) | exact HB.out)⟩⟩
                              · rw [if_neg c35] at H
                                exact absurd H (by simp)
                            · rw [if_neg c34] at H
                              exact absurd H (by simp)
                          · rw [if_neg c32] at H
                            have c32b0 : decide (x10_4 < (l0.length : Int)) = false := decide_eq_false c32
                            clear c32
                            (first | rw [c32b0] | (simp only [i64_w, i32_w]; rw [c32b0]) | skip)
                            have H' := Aside0.mk H
                            clear H
                            go_wp2
                            go_meet
                            case rel => exact ⟨_, (x10_4), (by first | rfl | (simp; done) | (simp [*]; done)), H', ⟨by have := HK1.out; have := HJ24.out; have := HJ27.out; have := HK4.out; first | omega | exact Nat.le_refl _⟩, ⟨by (with_reducible repeat (first | apply Kd.R_alloc | apply Kd.R_drewN | apply Kd.R_drew)); exact HO_5.out⟩, ⟨by (with_reducible repeat (first | apply Kd.R_alloc | apply Kd.R_drewN | apply Kd.R_drew)); exact HO_6.out⟩, ⟨by repeat (first | (with_reducible first | exact HB.out | apply below_alloc | apply pw_below_drewN | apply below_drew1) | exact HB.out)⟩⟩
                    case rest =>
                      clear HC31
                      try clear c1
                      try clear c2
                      try clear p2
                      try clear c3
                      try clear p3
                      try clear q3
                      try clear hx3
                      try clear c4
                      try clear c6
                      try clear c6b0
                      try clear p6
                      try clear c8
                      try clear c9
                      try clear c13
                      try clear c13b0
                      try clear c14
                      try clear c14b0
                      try clear c16
                      try clear c17
                      try clear c18
                      try clear c20
                      try clear c26
                      try clear c26b0
                      try clear c29
                      try clear c32
                      try clear c32b0
                      try clear c34
                      try clear c34b0
                      try clear c35
                      try clear c35b0
                      try clear p35
                      try clear q35
                      try clear hx35
                      try clear c36
                      try clear c36b0
                      try clear p36
                      try clear q36
                      try clear hx36
                      try clear hx353_0
                      try clear hx364_0
                      try clear p2
                      try clear p3
                      try clear p353
                      try clear p364
                      try clear p6
                      try clear q3
                      try clear q353
                      try clear q364
                      obtain ⟨kq, x10_30, rfl, HA, HJ30, HO_5, HO_6, HB⟩ := hcut
                      cases kq with
                      | zero => exact absurd HA.out (by simp [joistlaw04_SumBack.j4])
                      | succ kj30 =>
                        have H := HA.out
                        clear HA
                        simp only [joistlaw04_SumBack.j4] at H
                        by_cases c39 : 0 ≤ x1_27
                        · rw [if_pos c39] at H
                          have c39b0 := eq_true c39
                          have c39b1 : decide (0 ≤ x1_27) = true := decide_eq_true c39
                          clear c39
                          by_cases c40 : x1_27 ≤ (x5_1.length : Int)
                          · rw [if_pos c40] at H
                            have c40b0 := eq_true c40
                            have c40b1 : decide (x1_27 ≤ (x5_1.length : Int)) = true := decide_eq_true c40
                            clear c40
                            obtain ⟨y365, hy365⟩ : ∃ y_ : List Int, y_ = (x5_1.take (x1_27 : Int).toNat) := ⟨_, rfl⟩
                            replace H : ((sum_All.f kj30 y365).bind fun bt370 => (if 0 ≤ x10_30 then (if x10_30 < (x6_1.length : Int) then (if (rd x6_1 x10_30) = x1_27 then (if x10_30 ≤ (l0.length : Int) then ((joistref00_SameLists.f kj30 bt370.1 (l0.take (x10_30 : Int).toNat)).bind fun t380 => (if t380 = true then (if bt370.2.1 = (rd x6_1 x10_30) then (some (bt370.2.2 == 0)) else (some false)) else (some false))) else (none)) else (if x10_30 ≤ (l0.length : Int) then ((joistref00_SameLists.f kj30 bt370.1 (l0.take (x10_30 : Int).toNat)).bind fun t386 => (if t386 = true then (if bt370.2.1 = (rd x6_1 x10_30) then (some (bt370.2.2 == 1)) else (some false)) else (some false))) else (none))) else (none)) else (none))) = some r := by first | (rw [hy365]; with_reducible exact H) | (have H2_ := (Option.bind_some _ _).symm.trans H; rw [hy365]; with_reducible exact H2_) | (have H2_ := (Option.bind_some _ _).symm.trans H; with_reducible exact H2_) | with_reducible exact H | (rw [hy365]; exact H) | exact H
                            have Ny365 := Aside0.mk hy365
                            clear hy365
                            replace H := Option.bind_eq_some_iff.mp H
                            obtain ⟨⟨t370, t373, t374⟩, A410, H⟩ := H
                            replace H : (if 0 ≤ x10_30 then (if x10_30 < (x6_1.length : Int) then (if (rd x6_1 x10_30) = x1_27 then (if x10_30 ≤ (l0.length : Int) then ((joistref00_SameLists.f kj30 t370 (l0.take (x10_30 : Int).toNat)).bind fun t380 => (if t380 = true then (if t373 = (rd x6_1 x10_30) then (some (t374 == 0)) else (some false)) else (some false))) else (none)) else (if x10_30 ≤ (l0.length : Int) then ((joistref00_SameLists.f kj30 t370 (l0.take (x10_30 : Int).toNat)).bind fun t386 => (if t386 = true then (if t373 = (rd x6_1 x10_30) then (some (t374 == 1)) else (some false)) else (some false))) else (none))) else (none)) else (none)) = some r := H
                            have A41 := Aside0.mk A410
                            clear A410
                            by_cases c42 : 0 ≤ x10_30
                            · rw [if_pos c42] at H
                              have c42b0 : decide (0 ≤ x10_30) = true := decide_eq_true c42
                              clear c42
                              by_cases c43 : x10_30 < (x6_1.length : Int)
                              · rw [if_pos c43] at H
                                have c43b0 : decide (x10_30 < (x6_1.length : Int)) = true := decide_eq_true c43
                                clear c43
                                by_cases c44 : (rd x6_1 x10_30) = x1_27
                                · rw [if_pos c44] at H
                                  have c44b0 : ((rd x6_1 x10_30) == x1_27) = true := beq_iff_eq.mpr c44
                                  have c44b1 : ((rd x6_1 x10_30) != x1_27) = false := bne_eq_false_iff_eq.mpr c44
                                  clear c44
                                  have c45b0 := eq_true (of_decide_eq_true (by first | (with_reducible assumption) | assumption) : 0 ≤ x10_30)
                                  by_cases c46 : x10_30 ≤ (l0.length : Int)
                                  · rw [if_pos c46] at H
                                    have c46b0 := eq_true c46
                                    have c46b1 : decide (x10_30 ≤ (l0.length : Int)) = true := decide_eq_true c46
                                    clear c46
                                    obtain ⟨y376, hy376⟩ : ∃ y_ : List (List Int), y_ = (l0.take (x10_30 : Int).toNat) := ⟨_, rfl⟩
                                    replace H : ((joistref00_SameLists.f kj30 t370 y376).bind fun t380 => (if t380 = true then (if t373 = (rd x6_1 x10_30) then (some (t374 == 0)) else (some false)) else (some false))) = some r := by first | (rw [hy376]; with_reducible exact H) | (have H2_ := (Option.bind_some _ _).symm.trans H; rw [hy376]; with_reducible exact H2_) | (have H2_ := (Option.bind_some _ _).symm.trans H; with_reducible exact H2_) | with_reducible exact H | (rw [hy376]; exact H) | exact H
                                    have Ny376 := Aside0.mk hy376
                                    clear hy376
                                    replace H := Option.bind_eq_some_iff.mp H
                                    obtain ⟨t380, A470, H⟩ := H
                                    replace H : (if t380 = true then (if t373 = (rd x6_1 x10_30) then (some (t374 == 0)) else (some false)) else (some false)) = some r := H
                                    have A47 := Aside0.mk A470
                                    clear A470
                                    by_cases c48 : t380 = true
                                    · subst c48
                                      have H1 : (if t373 = (rd x6_1 x10_30) then (some (t374 == 0)) else (some false)) = some r := by rw [if_pos rfl] at H; exact H
                                      clear H
                                      have H := H1
                                      clear H1
                                      by_cases c49 : t373 = (rd x6_1 x10_30)
                                      · rw [if_pos c49] at H
                                        have c49b0 : (t373 == (rd x6_1 x10_30)) = true := beq_iff_eq.mpr c49
                                        have c49b1 : (t373 != (rd x6_1 x10_30)) = false := bne_eq_false_iff_eq.mpr c49
                                        clear c49
                                        obtain rfl := Option.some.inj H
                                        obtain ⟨Ao51, co51, eo51⟩ := Kd.R_slice HO_5.out
                                        subst eo51
                                        have q50 : (x1_27 : Int) ≤ ((x5_1.length : Int) : Int) := of_decide_eq_true (by first | (with_reducible assumption) | assumption)
                                        obtain ⟨i050, hi050, _, hsz50, _⟩ := info_parts info5
                                        have hroom50 : x5_1.length ≤ co51 := (Kd.R_reads' HO_5.out).2.1
                                        have hC50 : Kd.F (Kd.int .u8) _ _ Ao51 x5_1.length x5_1 := (Kd.V_at (base := w.heap.size) (Kd.R_V (Kd.R_apart' (HO_5.out) (Kd.R_typed HO_6.out) (by decide)))).2.2
                                        have hcut50 := cut_to (P := Try.prog) 22 5 .i64 Try.underlying22 hi050 Ao51 x5_1.length co51 x1_27 (of_decide_eq_true (by first | (with_reducible assumption) | assumption)) q50 hroom50
                                        have hr50 := Kd.F_take (m := (x1_27 : Int).toNat) hC50 (by omega)
                                        have hy50 : y365.length = (x1_27 : Int).toNat := (by rw [Ny365.out, List.length_take]; omega)
                                        rw [← Ny365.out] at hr50
                                        rw [← hy50] at hcut50
                                        have HO369 := Aside0.mk (show Kd.V (Kd.int .u8) 5 _ w.heap.size _ (.slice Ao51 y365.length co51) y365 from Kd.V_mk (by omega) hr50)
                                        have HC369 := Aside0.mk (show y365.length ≤ co51 from by omega)
                                        clear hr50 hC50 hroom50 hi050 hsz50
                                        have KY50 := Aside0.mk hy50
                                        clear hy50
                                        replace q50 := eq_true q50
                                        go_wp2_with (first | ((with_reducible refine gate_callee (f := 15) rfl ?_); refine goesL_ (some 75) rfl rfl Try.func15 (by kernel_rfl) rfl #[.slice Ao51 y365.length co51] rfl (by (try simp only [List.map_toArray, List.map_cons, List.map_nil]); first | done | rfl | (simp only [List.length_drop, List.length_take]; rfl)) ?_; (with_reducible refine (sum_All.calls kj30 (fun k_ => (True ∧ some k_ ≠ (u6 : Value).ownBlock)) _ _ y365 t370 t373 t374 _ ?side1 A41.out).mono ?_); (case side1 => exact HO369.out); rintro e w52 ⟨v371, rfl, ho0, hb⟩; refine ⟨_, rfl, ?_⟩; have n0_ := Aside0.mk (Kd.R_below (by (with_reducible repeat (first | apply Kd.R_alloc | apply Kd.R_drewN | apply Kd.R_drew)); exact HO_5.out) hb); have n1_ := Aside0.mk (Kd.R_below (by (with_reducible repeat (first | apply Kd.R_alloc | apply Kd.R_drewN | apply Kd.R_drew)); exact HO_6.out) hb); have n2_ := Aside0.mk (Kd.V_elder' (by (with_reducible repeat (first | apply Kd.V_alloc | apply Kd.V_drewN | apply Kd.V_drew)); exact HO369.out) (Kd.N_base ho0) hb); have n3_ := Aside0.mk (Kd.N_lower (Kd.N_mono (ok' := fun k_ => some k_ ≠ (u6 : Value).ownBlock) ho0 (fun k_ hk_ => Or.elim hk_ (fun hs_ => hs_.2) (fun hn_ => (Kd.fresh' (Kd.R_lt (by (with_reducible repeat (first | apply Kd.R_alloc | apply Kd.R_drewN | apply Kd.R_drew)); exact HO_6.out)) k_ hn_)))) (below_size (by repeat (first | (with_reducible first | exact HB.out | apply below_alloc | apply pw_below_drewN | apply below_drew1) | exact HB.out)))); have n4_ := Aside0.mk (below_step (by repeat (first | (with_reducible first | exact HB.out | apply below_alloc | apply pw_below_drewN | apply below_drew1) | exact HB.out)) hb); clear HO_5; clear HO_6; clear HO369; clear HB; have HO_5 := n0_; have HO_6 := n1_; have HO369 := n2_; have HO372 := n3_; have HB := n4_; clear n0_ n1_ n2_ n3_ n4_; (try clear hb); (try clear hb2); (try clear hk); (try clear hi); (try clear ho0); obtain ⟨Ao53, co53, eo53⟩ := Kd.R_slice HO_6.out; subst eo53; have p375 : 0 ≤ (x10_30 : Int) := of_decide_eq_true (by first | (with_reducible assumption) | assumption); have q375 : x10_30 < (x6_1.length : Int) := of_decide_eq_true (by first | (with_reducible assumption) | assumption); obtain ⟨ad375, e375, hx375_0⟩ := Kd.at_int (Kd.R_reads' HO_6.out).2.2 x10_30 p375 q375; cases e375; replace p375 := eq_true p375; replace q375 := eq_true q375; have q54 : (x10_30 : Int) ≤ ((l0.length : Int) : Int) := of_decide_eq_true (by first | (with_reducible assumption) | assumption); obtain ⟨i054, hi054, _, hsz54, _⟩ := info_parts info22; have hroom54 : l0.length ≤ c0 := HC0.out; have hC54 : Kd.C (Kd.slice 5 (Kd.int .u8)) _ A0 l0.length l0 := HR0.out; have hcut54 := cut_to (P := Try.prog) 33 22 .i64 Try.underlying33 hi054 A0 l0.length c0 x10_30 (of_decide_eq_true (by first | (with_reducible assumption) | assumption)) q54 hroom54; have hr54 := Kd.C_take (m := (x10_30 : Int).toNat) hC54 (by omega); have hy54 : y376.length = (x10_30 : Int).toNat := (by rw [Ny376.out, List.length_take]; omega); rw [← Ny376.out] at hr54; rw [← hy54] at hcut54; have HR379 := Aside0.mk hr54; have HC379 := Aside0.mk (show y376.length ≤ c0 from by omega); clear hr54 hC54 hroom54 hi054 hsz54; have KY54 := Aside0.mk hy54; clear hy54; replace q54 := eq_true q54; obtain ⟨Ao55, co55, eo55⟩ := Kd.N_slice HO372.out; subst eo55) | ((with_reducible refine gate_callee (f := 19) rfl ?_); refine goesL_ (some 89) rfl rfl Try.func19 (by kernel_rfl) rfl #[.slice Ao55 t370.length co55, .slice A0 y376.length c0] rfl (by (try simp only [List.map_toArray, List.map_cons, List.map_nil]); first | done | rfl | (simp only [List.length_drop, List.length_take]; rfl)) ?_; (with_reducible refine (joistref00_SameLists.calls kj30 _ _ t370 _ _ y376 true _ ?side1 ?side2 ?side3 ?side4 A47.out).mono ?_); (case side1 => repeat (first | exact (Kd.N_reads' HO372.out).2.2 | (with_reducible refine Kd.C_alloc ?_ _) | (with_reducible refine Kd.C_drewN ?_ _) | (with_reducible refine Kd.C_drew ?_))); (case side2 => exact (Kd.N_reads' HO372.out).2.1); (case side3 => repeat (first | exact (Kd.C_below HR379.out HB.out) | (with_reducible refine Kd.C_alloc ?_ _) | (with_reducible refine Kd.C_drewN ?_ _) | (with_reducible refine Kd.C_drew ?_))); (case side4 => exact HC379.out); rintro e w' ⟨rfl, ⟨nd, rfl⟩⟩; refine ⟨_, rfl, ?_⟩; have p381 : 0 ≤ (x10_30 : Int) := of_decide_eq_true (by first | (with_reducible assumption) | assumption); have q381 : x10_30 < (x6_1.length : Int) := of_decide_eq_true (by first | (with_reducible assumption) | assumption); obtain ⟨ad381, e381, hx381_0⟩ := Kd.at_int (Kd.R_reads' HO_6.out).2.2 x10_30 p381 q381; obtain rfl : ad375 = ad381 := (by injection e381); replace p381 := eq_true p381; replace q381 := eq_true q381))
                                        go_ret
                                        exact ⟨by first | rfl | (simp [errW_none, errW_some] <;> rfl) | (simp [*, errW_none, errW_some] <;> rfl), by repeat (first | (with_reducible first | exact HB.out | apply below_alloc | apply pw_below_drewN | apply below_drew1) | exact HB.out)⟩
                                      · rw [if_neg c49] at H
                                        have c49b0 : (t373 == (rd x6_1 x10_30)) = false := beq_eq_false_iff_ne.mpr c49
                                        have c49b1 : (t373 != (rd x6_1 x10_30)) = true := bne_iff_ne.mpr c49
                                        obtain rfl := Option.some.inj H
                                        obtain ⟨Ao57, co57, eo57⟩ := Kd.R_slice HO_5.out
                                        subst eo57
                                        have q56 : (x1_27 : Int) ≤ ((x5_1.length : Int) : Int) := of_decide_eq_true (by first | (with_reducible assumption) | assumption)
                                        obtain ⟨i056, hi056, _, hsz56, _⟩ := info_parts info5
                                        have hroom56 : x5_1.length ≤ co57 := (Kd.R_reads' HO_5.out).2.1
                                        have hC56 : Kd.F (Kd.int .u8) _ _ Ao57 x5_1.length x5_1 := (Kd.V_at (base := w.heap.size) (Kd.R_V (Kd.R_apart' (HO_5.out) (Kd.R_typed HO_6.out) (by decide)))).2.2
                                        have hcut56 := cut_to (P := Try.prog) 22 5 .i64 Try.underlying22 hi056 Ao57 x5_1.length co57 x1_27 (of_decide_eq_true (by first | (with_reducible assumption) | assumption)) q56 hroom56
                                        have hr56 := Kd.F_take (m := (x1_27 : Int).toNat) hC56 (by omega)
                                        have hy56 : y365.length = (x1_27 : Int).toNat := (by rw [Ny365.out, List.length_take]; omega)
                                        rw [← Ny365.out] at hr56
                                        rw [← hy56] at hcut56
                                        have HO369 := Aside0.mk (show Kd.V (Kd.int .u8) 5 _ w.heap.size _ (.slice Ao57 y365.length co57) y365 from Kd.V_mk (by omega) hr56)
                                        have HC369 := Aside0.mk (show y365.length ≤ co57 from by omega)
                                        clear hr56 hC56 hroom56 hi056 hsz56
                                        have KY56 := Aside0.mk hy56
                                        clear hy56
                                        replace q56 := eq_true q56
                                        go_wp2_with (first | ((with_reducible refine gate_callee (f := 15) rfl ?_); refine goesL_ (some 75) rfl rfl Try.func15 (by kernel_rfl) rfl #[.slice Ao57 y365.length co57] rfl (by (try simp only [List.map_toArray, List.map_cons, List.map_nil]); first | done | rfl | (simp only [List.length_drop, List.length_take]; rfl)) ?_; (with_reducible refine (sum_All.calls kj30 (fun k_ => (True ∧ some k_ ≠ (u6 : Value).ownBlock)) _ _ y365 t370 t373 t374 _ ?side1 A41.out).mono ?_); (case side1 => exact HO369.out); rintro e w58 ⟨v371, rfl, ho0, hb⟩; refine ⟨_, rfl, ?_⟩; have n0_ := Aside0.mk (Kd.R_below (by (with_reducible repeat (first | apply Kd.R_alloc | apply Kd.R_drewN | apply Kd.R_drew)); exact HO_5.out) hb); have n1_ := Aside0.mk (Kd.R_below (by (with_reducible repeat (first | apply Kd.R_alloc | apply Kd.R_drewN | apply Kd.R_drew)); exact HO_6.out) hb); have n2_ := Aside0.mk (Kd.V_elder' (by (with_reducible repeat (first | apply Kd.V_alloc | apply Kd.V_drewN | apply Kd.V_drew)); exact HO369.out) (Kd.N_base ho0) hb); have n3_ := Aside0.mk (Kd.N_lower (Kd.N_mono (ok' := fun k_ => some k_ ≠ (u6 : Value).ownBlock) ho0 (fun k_ hk_ => Or.elim hk_ (fun hs_ => hs_.2) (fun hn_ => (Kd.fresh' (Kd.R_lt (by (with_reducible repeat (first | apply Kd.R_alloc | apply Kd.R_drewN | apply Kd.R_drew)); exact HO_6.out)) k_ hn_)))) (below_size (by repeat (first | (with_reducible first | exact HB.out | apply below_alloc | apply pw_below_drewN | apply below_drew1) | exact HB.out)))); have n4_ := Aside0.mk (below_step (by repeat (first | (with_reducible first | exact HB.out | apply below_alloc | apply pw_below_drewN | apply below_drew1) | exact HB.out)) hb); clear HO_5; clear HO_6; clear HO369; clear HB; have HO_5 := n0_; have HO_6 := n1_; have HO369 := n2_; have HO372 := n3_; have HB := n4_; clear n0_ n1_ n2_ n3_ n4_; (try clear hb); (try clear hb2); (try clear hk); (try clear hi); (try clear ho0); obtain ⟨Ao59, co59, eo59⟩ := Kd.R_slice HO_6.out; subst eo59; have p375 : 0 ≤ (x10_30 : Int) := of_decide_eq_true (by first | (with_reducible assumption) | assumption); have q375 : x10_30 < (x6_1.length : Int) := of_decide_eq_true (by first | (with_reducible assumption) | assumption); obtain ⟨ad375, e375, hx375_0⟩ := Kd.at_int (Kd.R_reads' HO_6.out).2.2 x10_30 p375 q375; cases e375; replace p375 := eq_true p375; replace q375 := eq_true q375; have q60 : (x10_30 : Int) ≤ ((l0.length : Int) : Int) := of_decide_eq_true (by first | (with_reducible assumption) | assumption); obtain ⟨i060, hi060, _, hsz60, _⟩ := info_parts info22; have hroom60 : l0.length ≤ c0 := HC0.out; have hC60 : Kd.C (Kd.slice 5 (Kd.int .u8)) _ A0 l0.length l0 := HR0.out; have hcut60 := cut_to (P := Try.prog) 33 22 .i64 Try.underlying33 hi060 A0 l0.length c0 x10_30 (of_decide_eq_true (by first | (with_reducible assumption) | assumption)) q60 hroom60; have hr60 := Kd.C_take (m := (x10_30 : Int).toNat) hC60 (by omega); have hy60 : y376.length = (x10_30 : Int).toNat := (by rw [Ny376.out, List.length_take]; omega); rw [← Ny376.out] at hr60; rw [← hy60] at hcut60; have HR379 := Aside0.mk hr60; have HC379 := Aside0.mk (show y376.length ≤ c0 from by omega); clear hr60 hC60 hroom60 hi060 hsz60; have KY60 := Aside0.mk hy60; clear hy60; replace q60 := eq_true q60; obtain ⟨Ao61, co61, eo61⟩ := Kd.N_slice HO372.out; subst eo61) | ((with_reducible refine gate_callee (f := 19) rfl ?_); refine goesL_ (some 89) rfl rfl Try.func19 (by kernel_rfl) rfl #[.slice Ao61 t370.length co61, .slice A0 y376.length c0] rfl (by (try simp only [List.map_toArray, List.map_cons, List.map_nil]); first | done | rfl | (simp only [List.length_drop, List.length_take]; rfl)) ?_; (with_reducible refine (joistref00_SameLists.calls kj30 _ _ t370 _ _ y376 true _ ?side1 ?side2 ?side3 ?side4 A47.out).mono ?_); (case side1 => repeat (first | exact (Kd.N_reads' HO372.out).2.2 | (with_reducible refine Kd.C_alloc ?_ _) | (with_reducible refine Kd.C_drewN ?_ _) | (with_reducible refine Kd.C_drew ?_))); (case side2 => exact (Kd.N_reads' HO372.out).2.1); (case side3 => repeat (first | exact (Kd.C_below HR379.out HB.out) | (with_reducible refine Kd.C_alloc ?_ _) | (with_reducible refine Kd.C_drewN ?_ _) | (with_reducible refine Kd.C_drew ?_))); (case side4 => exact HC379.out); rintro e w' ⟨rfl, ⟨nd, rfl⟩⟩; refine ⟨_, rfl, ?_⟩; have p381 : 0 ≤ (x10_30 : Int) := of_decide_eq_true (by first | (with_reducible assumption) | assumption); have q381 : x10_30 < (x6_1.length : Int) := of_decide_eq_true (by first | (with_reducible assumption) | assumption); obtain ⟨ad381, e381, hx381_0⟩ := Kd.at_int (Kd.R_reads' HO_6.out).2.2 x10_30 p381 q381; obtain rfl : ad375 = ad381 := (by injection e381); replace p381 := eq_true p381; replace q381 := eq_true q381))
                                        go_ret
                                        exact ⟨by first | rfl | (simp [errW_none, errW_some] <;> rfl) | (simp [*, errW_none, errW_some] <;> rfl), by repeat (first | (with_reducible first | exact HB.out | apply below_alloc | apply pw_below_drewN | apply below_drew1) | exact HB.out)⟩
                                    · replace c48 := Bool.eq_false_iff.mpr c48
                                      subst c48
                                      have H1 : (some false) = some r := by rw [if_neg (show ¬ (false = true) by decide)] at H; exact H
                                      clear H
                                      have H := H1
                                      clear H1
                                      obtain rfl := Option.some.inj H
                                      obtain ⟨Ao63, co63, eo63⟩ := Kd.R_slice HO_5.out
                                      subst eo63
                                      have q62 : (x1_27 : Int) ≤ ((x5_1.length : Int) : Int) := of_decide_eq_true (by first | (with_reducible assumption) | assumption)
                                      obtain ⟨i062, hi062, _, hsz62, _⟩ := info_parts info5
                                      have hroom62 : x5_1.length ≤ co63 := (Kd.R_reads' HO_5.out).2.1
                                      have hC62 : Kd.F (Kd.int .u8) _ _ Ao63 x5_1.length x5_1 := (Kd.V_at (base := w.heap.size) (Kd.R_V (Kd.R_apart' (HO_5.out) (Kd.R_typed HO_6.out) (by decide)))).2.2
                                      have hcut62 := cut_to (P := Try.prog) 22 5 .i64 Try.underlying22 hi062 Ao63 x5_1.length co63 x1_27 (of_decide_eq_true (by first | (with_reducible assumption) | assumption)) q62 hroom62
                                      have hr62 := Kd.F_take (m := (x1_27 : Int).toNat) hC62 (by omega)
                                      have hy62 : y365.length = (x1_27 : Int).toNat := (by rw [Ny365.out, List.length_take]; omega)
                                      rw [← Ny365.out] at hr62
                                      rw [← hy62] at hcut62
                                      have HO369 := Aside0.mk (show Kd.V (Kd.int .u8) 5 _ w.heap.size _ (.slice Ao63 y365.length co63) y365 from Kd.V_mk (by omega) hr62)
                                      have HC369 := Aside0.mk (show y365.length ≤ co63 from by omega)
                                      clear hr62 hC62 hroom62 hi062 hsz62
                                      have KY62 := Aside0.mk hy62
                                      clear hy62
                                      replace q62 := eq_true q62
                                      go_wp2_with (first | ((with_reducible refine gate_callee (f := 15) rfl ?_); refine goesL_ (some 75) rfl rfl Try.func15 (by kernel_rfl) rfl #[.slice Ao63 y365.length co63] rfl (by (try simp only [List.map_toArray, List.map_cons, List.map_nil]); first | done | rfl | (simp only [List.length_drop, List.length_take]; rfl)) ?_; (with_reducible refine (sum_All.calls kj30 (fun k_ => (True ∧ some k_ ≠ (u6 : Value).ownBlock)) _ _ y365 t370 t373 t374 _ ?side1 A41.out).mono ?_); (case side1 => exact HO369.out); rintro e w64 ⟨v371, rfl, ho0, hb⟩; refine ⟨_, rfl, ?_⟩; have n0_ := Aside0.mk (Kd.R_below (by (with_reducible repeat (first | apply Kd.R_alloc | apply Kd.R_drewN | apply Kd.R_drew)); exact HO_5.out) hb); have n1_ := Aside0.mk (Kd.R_below (by (with_reducible repeat (first | apply Kd.R_alloc | apply Kd.R_drewN | apply Kd.R_drew)); exact HO_6.out) hb); have n2_ := Aside0.mk (Kd.V_elder' (by (with_reducible repeat (first | apply Kd.V_alloc | apply Kd.V_drewN | apply Kd.V_drew)); exact HO369.out) (Kd.N_base ho0) hb); have n3_ := Aside0.mk (Kd.N_lower (Kd.N_mono (ok' := fun k_ => some k_ ≠ (u6 : Value).ownBlock) ho0 (fun k_ hk_ => Or.elim hk_ (fun hs_ => hs_.2) (fun hn_ => (Kd.fresh' (Kd.R_lt (by (with_reducible repeat (first | apply Kd.R_alloc | apply Kd.R_drewN | apply Kd.R_drew)); exact HO_6.out)) k_ hn_)))) (below_size (by repeat (first | (with_reducible first | exact HB.out | apply below_alloc | apply pw_below_drewN | apply below_drew1) | exact HB.out)))); have n4_ := Aside0.mk (below_step (by repeat (first | (with_reducible first | exact HB.out | apply below_alloc | apply pw_below_drewN | apply below_drew1) | exact HB.out)) hb); clear HO_5; clear HO_6; clear HO369; clear HB; have HO_5 := n0_; have HO_6 := n1_; have HO369 := n2_; have HO372 := n3_; have HB := n4_; clear n0_ n1_ n2_ n3_ n4_; (try clear hb); (try clear hb2); (try clear hk); (try clear hi); (try clear ho0); obtain ⟨Ao65, co65, eo65⟩ := Kd.R_slice HO_6.out; subst eo65; have p375 : 0 ≤ (x10_30 : Int) := of_decide_eq_true (by first | (with_reducible assumption) | assumption); have q375 : x10_30 < (x6_1.length : Int) := of_decide_eq_true (by first | (with_reducible assumption) | assumption); obtain ⟨ad375, e375, hx375_0⟩ := Kd.at_int (Kd.R_reads' HO_6.out).2.2 x10_30 p375 q375; cases e375; replace p375 := eq_true p375; replace q375 := eq_true q375; have q66 : (x10_30 : Int) ≤ ((l0.length : Int) : Int) := of_decide_eq_true (by first | (with_reducible assumption) | assumption); obtain ⟨i066, hi066, _, hsz66, _⟩ := info_parts info22; have hroom66 : l0.length ≤ c0 := HC0.out; have hC66 : Kd.C (Kd.slice 5 (Kd.int .u8)) _ A0 l0.length l0 := HR0.out; have hcut66 := cut_to (P := Try.prog) 33 22 .i64 Try.underlying33 hi066 A0 l0.length c0 x10_30 (of_decide_eq_true (by first | (with_reducible assumption) | assumption)) q66 hroom66; have hr66 := Kd.C_take (m := (x10_30 : Int).toNat) hC66 (by omega); have hy66 : y376.length = (x10_30 : Int).toNat := (by rw [Ny376.out, List.length_take]; omega); rw [← Ny376.out] at hr66; rw [← hy66] at hcut66; have HR379 := Aside0.mk hr66; have HC379 := Aside0.mk (show y376.length ≤ c0 from by omega); clear hr66 hC66 hroom66 hi066 hsz66; have KY66 := Aside0.mk hy66; clear hy66; replace q66 := eq_true q66; obtain ⟨Ao67, co67, eo67⟩ := Kd.N_slice HO372.out; subst eo67) | ((with_reducible refine gate_callee (f := 19) rfl ?_); refine goesL_ (some 89) rfl rfl Try.func19 (by kernel_rfl) rfl #[.slice Ao67 t370.length co67, .slice A0 y376.length c0] rfl (by (try simp only [List.map_toArray, List.map_cons, List.map_nil]); first | done | rfl | (simp only [List.length_drop, List.length_take]; rfl)) ?_; (with_reducible refine (joistref00_SameLists.calls kj30 _ _ t370 _ _ y376 false _ ?side1 ?side2 ?side3 ?side4 A47.out).mono ?_); (case side1 => repeat (first | exact (Kd.N_reads' HO372.out).2.2 | (with_reducible refine Kd.C_alloc ?_ _) | (with_reducible refine Kd.C_drewN ?_ _) | (with_reducible refine Kd.C_drew ?_))); (case side2 => exact (Kd.N_reads' HO372.out).2.1); (case side3 => repeat (first | exact (Kd.C_below HR379.out HB.out) | (with_reducible refine Kd.C_alloc ?_ _) | (with_reducible refine Kd.C_drewN ?_ _) | (with_reducible refine Kd.C_drew ?_))); (case side4 => exact HC379.out); rintro e w' ⟨rfl, ⟨nd, rfl⟩⟩; refine ⟨_, rfl, ?_⟩))
                                      go_ret
                                      exact ⟨by first | rfl | (simp [errW_none, errW_some] <;> rfl) | (simp [*, errW_none, errW_some] <;> rfl), by repeat (first | (with_reducible first | exact HB.out | apply below_alloc | apply pw_below_drewN | apply below_drew1) | exact HB.out)⟩
                                  · rw [if_neg c46] at H
                                    exact absurd H (by simp)
                                · rw [if_neg c44] at H
                                  have c44b0 : ((rd x6_1 x10_30) == x1_27) = false := beq_eq_false_iff_ne.mpr c44
                                  have c44b1 : ((rd x6_1 x10_30) != x1_27) = true := bne_iff_ne.mpr c44
                                  have c68b0 := eq_true (of_decide_eq_true (by first | (with_reducible assumption) | assumption) : 0 ≤ x10_30)
                                  by_cases c69 : x10_30 ≤ (l0.length : Int)
                                  · rw [if_pos c69] at H
                                    have c69b0 := eq_true c69
                                    have c69b1 : decide (x10_30 ≤ (l0.length : Int)) = true := decide_eq_true c69
                                    clear c69
                                    obtain ⟨y382, hy382⟩ : ∃ y_ : List (List Int), y_ = (l0.take (x10_30 : Int).toNat) := ⟨_, rfl⟩
                                    replace H : ((joistref00_SameLists.f kj30 t370 y382).bind fun t386 => (if t386 = true then (if t373 = (rd x6_1 x10_30) then (some (t374 == 1)) else (some false)) else (some false))) = some r := by first | (rw [hy382]; with_reducible exact H) | (have H2_ := (Option.bind_some _ _).symm.trans H; rw [hy382]; with_reducible exact H2_) | (have H2_ := (Option.bind_some _ _).symm.trans H; with_reducible exact H2_) | with_reducible exact H | (rw [hy382]; exact H) | exact H
                                    have Ny382 := Aside0.mk hy382
                                    clear hy382
                                    replace H := Option.bind_eq_some_iff.mp H
                                    obtain ⟨t386, A700, H⟩ := H
                                    replace H : (if t386 = true then (if t373 = (rd x6_1 x10_30) then (some (t374 == 1)) else (some false)) else (some false)) = some r := H
                                    have A70 := Aside0.mk A700
                                    clear A700
                                    by_cases c71 : t386 = true
                                    · subst c71
                                      have H1 : (if t373 = (rd x6_1 x10_30) then (some (t374 == 1)) else (some false)) = some r := by rw [if_pos rfl] at H; exact H
                                      clear H
                                      have H := H1
                                      clear H1
                                      by_cases c72 : t373 = (rd x6_1 x10_30)
                                      · rw [if_pos c72] at H
                                        have c72b0 : (t373 == (rd x6_1 x10_30)) = true := beq_iff_eq.mpr c72
                                        have c72b1 : (t373 != (rd x6_1 x10_30)) = false := bne_eq_false_iff_eq.mpr c72
                                        clear c72
                                        obtain rfl := Option.some.inj H
                                        obtain ⟨Ao74, co74, eo74⟩ := Kd.R_slice HO_5.out
                                        subst eo74
                                        have q73 : (x1_27 : Int) ≤ ((x5_1.length : Int) : Int) := of_decide_eq_true (by first | (with_reducible assumption) | assumption)
                                        obtain ⟨i073, hi073, _, hsz73, _⟩ := info_parts info5
                                        have hroom73 : x5_1.length ≤ co74 := (Kd.R_reads' HO_5.out).2.1
                                        have hC73 : Kd.F (Kd.int .u8) _ _ Ao74 x5_1.length x5_1 := (Kd.V_at (base := w.heap.size) (Kd.R_V (Kd.R_apart' (HO_5.out) (Kd.R_typed HO_6.out) (by decide)))).2.2
                                        have hcut73 := cut_to (P := Try.prog) 22 5 .i64 Try.underlying22 hi073 Ao74 x5_1.length co74 x1_27 (of_decide_eq_true (by first | (with_reducible assumption) | assumption)) q73 hroom73
                                        have hr73 := Kd.F_take (m := (x1_27 : Int).toNat) hC73 (by omega)
                                        have hy73 : y365.length = (x1_27 : Int).toNat := (by rw [Ny365.out, List.length_take]; omega)
                                        rw [← Ny365.out] at hr73
                                        rw [← hy73] at hcut73
                                        have HO369 := Aside0.mk (show Kd.V (Kd.int .u8) 5 _ w.heap.size _ (.slice Ao74 y365.length co74) y365 from Kd.V_mk (by omega) hr73)
                                        have HC369 := Aside0.mk (show y365.length ≤ co74 from by omega)
                                        clear hr73 hC73 hroom73 hi073 hsz73
                                        have KY73 := Aside0.mk hy73
                                        clear hy73
                                        replace q73 := eq_true q73
                                        go_wp2_with (first | ((with_reducible refine gate_callee (f := 15) rfl ?_); refine goesL_ (some 75) rfl rfl Try.func15 (by kernel_rfl) rfl #[.slice Ao74 y365.length co74] rfl (by (try simp only [List.map_toArray, List.map_cons, List.map_nil]); first | done | rfl | (simp only [List.length_drop, List.length_take]; rfl)) ?_; (with_reducible refine (sum_All.calls kj30 (fun k_ => (True ∧ some k_ ≠ (u6 : Value).ownBlock)) _ _ y365 t370 t373 t374 _ ?side1 A41.out).mono ?_); (case side1 => exact HO369.out); rintro e w75 ⟨v371, rfl, ho0, hb⟩; refine ⟨_, rfl, ?_⟩; have n0_ := Aside0.mk (Kd.R_below (by (with_reducible repeat (first | apply Kd.R_alloc | apply Kd.R_drewN | apply Kd.R_drew)); exact HO_5.out) hb); have n1_ := Aside0.mk (Kd.R_below (by (with_reducible repeat (first | apply Kd.R_alloc | apply Kd.R_drewN | apply Kd.R_drew)); exact HO_6.out) hb); have n2_ := Aside0.mk (Kd.V_elder' (by (with_reducible repeat (first | apply Kd.V_alloc | apply Kd.V_drewN | apply Kd.V_drew)); exact HO369.out) (Kd.N_base ho0) hb); have n3_ := Aside0.mk (Kd.N_lower (Kd.N_mono (ok' := fun k_ => some k_ ≠ (u6 : Value).ownBlock) ho0 (fun k_ hk_ => Or.elim hk_ (fun hs_ => hs_.2) (fun hn_ => (Kd.fresh' (Kd.R_lt (by (with_reducible repeat (first | apply Kd.R_alloc | apply Kd.R_drewN | apply Kd.R_drew)); exact HO_6.out)) k_ hn_)))) (below_size (by repeat (first | (with_reducible first | exact HB.out | apply below_alloc | apply pw_below_drewN | apply below_drew1) | exact HB.out)))); have n4_ := Aside0.mk (below_step (by repeat (first | (with_reducible first | exact HB.out | apply below_alloc | apply pw_below_drewN | apply below_drew1) | exact HB.out)) hb); clear HO_5; clear HO_6; clear HO369; clear HB; have HO_5 := n0_; have HO_6 := n1_; have HO369 := n2_; have HO372 := n3_; have HB := n4_; clear n0_ n1_ n2_ n3_ n4_; (try clear hb); (try clear hb2); (try clear hk); (try clear hi); (try clear ho0); obtain ⟨Ao76, co76, eo76⟩ := Kd.R_slice HO_6.out; subst eo76; have p375 : 0 ≤ (x10_30 : Int) := of_decide_eq_true (by first | (with_reducible assumption) | assumption); have q375 : x10_30 < (x6_1.length : Int) := of_decide_eq_true (by first | (with_reducible assumption) | assumption); obtain ⟨ad375, e375, hx375_0⟩ := Kd.at_int (Kd.R_reads' HO_6.out).2.2 x10_30 p375 q375; cases e375; replace p375 := eq_true p375; replace q375 := eq_true q375; have q77 : (x10_30 : Int) ≤ ((l0.length : Int) : Int) := of_decide_eq_true (by first | (with_reducible assumption) | assumption); obtain ⟨i077, hi077, _, hsz77, _⟩ := info_parts info22; have hroom77 : l0.length ≤ c0 := HC0.out; have hC77 : Kd.C (Kd.slice 5 (Kd.int .u8)) _ A0 l0.length l0 := HR0.out; have hcut77 := cut_to (P := Try.prog) 33 22 .i64 Try.underlying33 hi077 A0 l0.length c0 x10_30 (of_decide_eq_true (by first | (with_reducible assumption) | assumption)) q77 hroom77; have hr77 := Kd.C_take (m := (x10_30 : Int).toNat) hC77 (by omega); have hy77 : y382.length = (x10_30 : Int).toNat := (by rw [Ny382.out, List.length_take]; omega); rw [← Ny382.out] at hr77; rw [← hy77] at hcut77; have HR385 := Aside0.mk hr77; have HC385 := Aside0.mk (show y382.length ≤ c0 from by omega); clear hr77 hC77 hroom77 hi077 hsz77; have KY77 := Aside0.mk hy77; clear hy77; replace q77 := eq_true q77; obtain ⟨Ao78, co78, eo78⟩ := Kd.N_slice HO372.out; subst eo78) | ((with_reducible refine gate_callee (f := 19) rfl ?_); refine goesL_ (some 89) rfl rfl Try.func19 (by kernel_rfl) rfl #[.slice Ao78 t370.length co78, .slice A0 y382.length c0] rfl (by (try simp only [List.map_toArray, List.map_cons, List.map_nil]); first | done | rfl | (simp only [List.length_drop, List.length_take]; rfl)) ?_; (with_reducible refine (joistref00_SameLists.calls kj30 _ _ t370 _ _ y382 true _ ?side1 ?side2 ?side3 ?side4 A70.out).mono ?_); (case side1 => repeat (first | exact (Kd.N_reads' HO372.out).2.2 | (with_reducible refine Kd.C_alloc ?_ _) | (with_reducible refine Kd.C_drewN ?_ _) | (with_reducible refine Kd.C_drew ?_))); (case side2 => exact (Kd.N_reads' HO372.out).2.1); (case side3 => repeat (first | exact (Kd.C_below HR385.out HB.out) | (with_reducible refine Kd.C_alloc ?_ _) | (with_reducible refine Kd.C_drewN ?_ _) | (with_reducible refine Kd.C_drew ?_))); (case side4 => exact HC385.out); rintro e w' ⟨rfl, ⟨nd, rfl⟩⟩; refine ⟨_, rfl, ?_⟩; have p387 : 0 ≤ (x10_30 : Int) := of_decide_eq_true (by first | (with_reducible assumption) | assumption); have q387 : x10_30 < (x6_1.length : Int) := of_decide_eq_true (by first | (with_reducible assumption) | assumption); obtain ⟨ad387, e387, hx387_0⟩ := Kd.at_int (Kd.R_reads' HO_6.out).2.2 x10_30 p387 q387; obtain rfl : ad375 = ad387 := (by injection e387); replace p387 := eq_true p387; replace q387 := eq_true q387))
                                        go_ret
                                        exact ⟨by first | rfl | (simp [errW_none, errW_some] <;> rfl) | (simp [*, errW_none, errW_some] <;> rfl), by repeat (first | (with_reducible first | exact HB.out | apply below_alloc | apply pw_below_drewN | apply below_drew1) | exact HB.out)⟩
                                      · rw [if_neg c72] at H
                                        have c72b0 : (t373 == (rd x6_1 x10_30)) = false := beq_eq_false_iff_ne.mpr c72
                                        have c72b1 : (t373 != (rd x6_1 x10_30)) = true := bne_iff_ne.mpr c72
                                        obtain rfl := Option.some.inj H
                                        obtain ⟨Ao80, co80, eo80⟩ := Kd.R_slice HO_5.out
                                        subst eo80
                                        have q79 : (x1_27 : Int) ≤ ((x5_1.length : Int) : Int) := of_decide_eq_true (by first | (with_reducible assumption) | assumption)
                                        obtain ⟨i079, hi079, _, hsz79, _⟩ := info_parts info5
                                        have hroom79 : x5_1.length ≤ co80 := (Kd.R_reads' HO_5.out).2.1
                                        have hC79 : Kd.F (Kd.int .u8) _ _ Ao80 x5_1.length x5_1 := (Kd.V_at (base := w.heap.size) (Kd.R_V (Kd.R_apart' (HO_5.out) (Kd.R_typed HO_6.out) (by decide)))).2.2
                                        have hcut79 := cut_to (P := Try.prog) 22 5 .i64 Try.underlying22 hi079 Ao80 x5_1.length co80 x1_27 (of_decide_eq_true (by first | (with_reducible assumption) | assumption)) q79 hroom79
                                        have hr79 := Kd.F_take (m := (x1_27 : Int).toNat) hC79 (by omega)
                                        have hy79 : y365.length = (x1_27 : Int).toNat := (by rw [Ny365.out, List.length_take]; omega)
                                        rw [← Ny365.out] at hr79
                                        rw [← hy79] at hcut79
                                        have HO369 := Aside0.mk (show Kd.V (Kd.int .u8) 5 _ w.heap.size _ (.slice Ao80 y365.length co80) y365 from Kd.V_mk (by omega) hr79)
                                        have HC369 := Aside0.mk (show y365.length ≤ co80 from by omega)
                                        clear hr79 hC79 hroom79 hi079 hsz79
                                        have KY79 := Aside0.mk hy79
                                        clear hy79
                                        replace q79 := eq_true q79
                                        go_wp2_with (first | ((with_reducible refine gate_callee (f := 15) rfl ?_); refine goesL_ (some 75) rfl rfl Try.func15 (by kernel_rfl) rfl #[.slice Ao80 y365.length co80] rfl (by (try simp only [List.map_toArray, List.map_cons, List.map_nil]); first | done | rfl | (simp only [List.length_drop, List.length_take]; rfl)) ?_; (with_reducible refine (sum_All.calls kj30 (fun k_ => (True ∧ some k_ ≠ (u6 : Value).ownBlock)) _ _ y365 t370 t373 t374 _ ?side1 A41.out).mono ?_); (case side1 => exact HO369.out); rintro e w81 ⟨v371, rfl, ho0, hb⟩; refine ⟨_, rfl, ?_⟩; have n0_ := Aside0.mk (Kd.R_below (by (with_reducible repeat (first | apply Kd.R_alloc | apply Kd.R_drewN | apply Kd.R_drew)); exact HO_5.out) hb); have n1_ := Aside0.mk (Kd.R_below (by (with_reducible repeat (first | apply Kd.R_alloc | apply Kd.R_drewN | apply Kd.R_drew)); exact HO_6.out) hb); have n2_ := Aside0.mk (Kd.V_elder' (by (with_reducible repeat (first | apply Kd.V_alloc | apply Kd.V_drewN | apply Kd.V_drew)); exact HO369.out) (Kd.N_base ho0) hb); have n3_ := Aside0.mk (Kd.N_lower (Kd.N_mono (ok' := fun k_ => some k_ ≠ (u6 : Value).ownBlock) ho0 (fun k_ hk_ => Or.elim hk_ (fun hs_ => hs_.2) (fun hn_ => (Kd.fresh' (Kd.R_lt (by (with_reducible repeat (first | apply Kd.R_alloc | apply Kd.R_drewN | apply Kd.R_drew)); exact HO_6.out)) k_ hn_)))) (below_size (by repeat (first | (with_reducible first | exact HB.out | apply below_alloc | apply pw_below_drewN | apply below_drew1) | exact HB.out)))); have n4_ := Aside0.mk (below_step (by repeat (first | (with_reducible first | exact HB.out | apply below_alloc | apply pw_below_drewN | apply below_drew1) | exact HB.out)) hb); clear HO_5; clear HO_6; clear HO369; clear HB; have HO_5 := n0_; have HO_6 := n1_; have HO369 := n2_; have HO372 := n3_; have HB := n4_; clear n0_ n1_ n2_ n3_ n4_; (try clear hb); (try clear hb2); (try clear hk); (try clear hi); (try clear ho0); obtain ⟨Ao82, co82, eo82⟩ := Kd.R_slice HO_6.out; subst eo82; have p375 : 0 ≤ (x10_30 : Int) := of_decide_eq_true (by first | (with_reducible assumption) | assumption); have q375 : x10_30 < (x6_1.length : Int) := of_decide_eq_true (by first | (with_reducible assumption) | assumption); obtain ⟨ad375, e375, hx375_0⟩ := Kd.at_int (Kd.R_reads' HO_6.out).2.2 x10_30 p375 q375; cases e375; replace p375 := eq_true p375; replace q375 := eq_true q375; have q83 : (x10_30 : Int) ≤ ((l0.length : Int) : Int) := of_decide_eq_true (by first | (with_reducible assumption) | assumption); obtain ⟨i083, hi083, _, hsz83, _⟩ := info_parts info22; have hroom83 : l0.length ≤ c0 := HC0.out; have hC83 : Kd.C (Kd.slice 5 (Kd.int .u8)) _ A0 l0.length l0 := HR0.out; have hcut83 := cut_to (P := Try.prog) 33 22 .i64 Try.underlying33 hi083 A0 l0.length c0 x10_30 (of_decide_eq_true (by first | (with_reducible assumption) | assumption)) q83 hroom83; have hr83 := Kd.C_take (m := (x10_30 : Int).toNat) hC83 (by omega); have hy83 : y382.length = (x10_30 : Int).toNat := (by rw [Ny382.out, List.length_take]; omega); rw [← Ny382.out] at hr83; rw [← hy83] at hcut83; have HR385 := Aside0.mk hr83; have HC385 := Aside0.mk (show y382.length ≤ c0 from by omega); clear hr83 hC83 hroom83 hi083 hsz83; have KY83 := Aside0.mk hy83; clear hy83; replace q83 := eq_true q83; obtain ⟨Ao84, co84, eo84⟩ := Kd.N_slice HO372.out; subst eo84) | ((with_reducible refine gate_callee (f := 19) rfl ?_); refine goesL_ (some 89) rfl rfl Try.func19 (by kernel_rfl) rfl #[.slice Ao84 t370.length co84, .slice A0 y382.length c0] rfl (by (try simp only [List.map_toArray, List.map_cons, List.map_nil]); first | done | rfl | (simp only [List.length_drop, List.length_take]; rfl)) ?_; (with_reducible refine (joistref00_SameLists.calls kj30 _ _ t370 _ _ y382 true _ ?side1 ?side2 ?side3 ?side4 A70.out).mono ?_); (case side1 => repeat (first | exact (Kd.N_reads' HO372.out).2.2 | (with_reducible refine Kd.C_alloc ?_ _) | (with_reducible refine Kd.C_drewN ?_ _) | (with_reducible refine Kd.C_drew ?_))); (case side2 => exact (Kd.N_reads' HO372.out).2.1); (case side3 => repeat (first | exact (Kd.C_below HR385.out HB.out) | (with_reducible refine Kd.C_alloc ?_ _) | (with_reducible refine Kd.C_drewN ?_ _) | (with_reducible refine Kd.C_drew ?_))); (case side4 => exact HC385.out); rintro e w' ⟨rfl, ⟨nd, rfl⟩⟩; refine ⟨_, rfl, ?_⟩; have p387 : 0 ≤ (x10_30 : Int) := of_decide_eq_true (by first | (with_reducible assumption) | assumption); have q387 : x10_30 < (x6_1.length : Int) := of_decide_eq_true (by first | (with_reducible assumption) | assumption); obtain ⟨ad387, e387, hx387_0⟩ := Kd.at_int (Kd.R_reads' HO_6.out).2.2 x10_30 p387 q387; obtain rfl : ad375 = ad387 := (by injection e387); replace p387 := eq_true p387; replace q387 := eq_true q387))
                                        go_ret
                                        exact ⟨by first | rfl | (simp [errW_none, errW_some] <;> rfl) | (simp [*, errW_none, errW_some] <;> rfl), by repeat (first | (with_reducible first | exact HB.out | apply below_alloc | apply pw_below_drewN | apply below_drew1) | exact HB.out)⟩
                                    · replace c71 := Bool.eq_false_iff.mpr c71
                                      subst c71
                                      have H1 : (some false) = some r := by rw [if_neg (show ¬ (false = true) by decide)] at H; exact H
                                      clear H
                                      have H := H1
                                      clear H1
                                      obtain rfl := Option.some.inj H
                                      obtain ⟨Ao86, co86, eo86⟩ := Kd.R_slice HO_5.out
                                      subst eo86
                                      have q85 : (x1_27 : Int) ≤ ((x5_1.length : Int) : Int) := of_decide_eq_true (by first | (with_reducible assumption) | assumption)
                                      obtain ⟨i085, hi085, _, hsz85, _⟩ := info_parts info5
                                      have hroom85 : x5_1.length ≤ co86 := (Kd.R_reads' HO_5.out).2.1
                                      have hC85 : Kd.F (Kd.int .u8) _ _ Ao86 x5_1.length x5_1 := (Kd.V_at (base := w.heap.size) (Kd.R_V (Kd.R_apart' (HO_5.out) (Kd.R_typed HO_6.out) (by decide)))).2.2
                                      have hcut85 := cut_to (P := Try.prog) 22 5 .i64 Try.underlying22 hi085 Ao86 x5_1.length co86 x1_27 (of_decide_eq_true (by first | (with_reducible assumption) | assumption)) q85 hroom85
                                      have hr85 := Kd.F_take (m := (x1_27 : Int).toNat) hC85 (by omega)
                                      have hy85 : y365.length = (x1_27 : Int).toNat := (by rw [Ny365.out, List.length_take]; omega)
                                      rw [← Ny365.out] at hr85
                                      rw [← hy85] at hcut85
                                      have HO369 := Aside0.mk (show Kd.V (Kd.int .u8) 5 _ w.heap.size _ (.slice Ao86 y365.length co86) y365 from Kd.V_mk (by omega) hr85)
                                      have HC369 := Aside0.mk (show y365.length ≤ co86 from by omega)
                                      clear hr85 hC85 hroom85 hi085 hsz85
                                      have KY85 := Aside0.mk hy85
                                      clear hy85
                                      replace q85 := eq_true q85
                                      go_wp2_with (first | ((with_reducible refine gate_callee (f := 15) rfl ?_); refine goesL_ (some 75) rfl rfl Try.func15 (by kernel_rfl) rfl #[.slice Ao86 y365.length co86] rfl (by (try simp only [List.map_toArray, List.map_cons, List.map_nil]); first | done | rfl | (simp only [List.length_drop, List.length_take]; rfl)) ?_; (with_reducible refine (sum_All.calls kj30 (fun k_ => (True ∧ some k_ ≠ (u6 : Value).ownBlock)) _ _ y365 t370 t373 t374 _ ?side1 A41.out).mono ?_); (case side1 => exact HO369.out); rintro e w87 ⟨v371, rfl, ho0, hb⟩; refine ⟨_, rfl, ?_⟩; have n0_ := Aside0.mk (Kd.R_below (by (with_reducible repeat (first | apply Kd.R_alloc | apply Kd.R_drewN | apply Kd.R_drew)); exact HO_5.out) hb); have n1_ := Aside0.mk (Kd.R_below (by (with_reducible repeat (first | apply Kd.R_alloc | apply Kd.R_drewN | apply Kd.R_drew)); exact HO_6.out) hb); have n2_ := Aside0.mk (Kd.V_elder' (by (with_reducible repeat (first | apply Kd.V_alloc | apply Kd.V_drewN | apply Kd.V_drew)); exact HO369.out) (Kd.N_base ho0) hb); have n3_ := Aside0.mk (Kd.N_lower (Kd.N_mono (ok' := fun k_ => some k_ ≠ (u6 : Value).ownBlock) ho0 (fun k_ hk_ => Or.elim hk_ (fun hs_ => hs_.2) (fun hn_ => (Kd.fresh' (Kd.R_lt (by (with_reducible repeat (first | apply Kd.R_alloc | apply Kd.R_drewN | apply Kd.R_drew)); exact HO_6.out)) k_ hn_)))) (below_size (by repeat (first | (with_reducible first | exact HB.out | apply below_alloc | apply pw_below_drewN | apply below_drew1) | exact HB.out)))); have n4_ := Aside0.mk (below_step (by repeat (first | (with_reducible first | exact HB.out | apply below_alloc | apply pw_below_drewN | apply below_drew1) | exact HB.out)) hb); clear HO_5; clear HO_6; clear HO369; clear HB; have HO_5 := n0_; have HO_6 := n1_; have HO369 := n2_; have HO372 := n3_; have HB := n4_; clear n0_ n1_ n2_ n3_ n4_; (try clear hb); (try clear hb2); (try clear hk); (try clear hi); (try clear ho0); obtain ⟨Ao88, co88, eo88⟩ := Kd.R_slice HO_6.out; subst eo88; have p375 : 0 ≤ (x10_30 : Int) := of_decide_eq_true (by first | (with_reducible assumption) | assumption); have q375 : x10_30 < (x6_1.length : Int) := of_decide_eq_true (by first | (with_reducible assumption) | assumption); obtain ⟨ad375, e375, hx375_0⟩ := Kd.at_int (Kd.R_reads' HO_6.out).2.2 x10_30 p375 q375; cases e375; replace p375 := eq_true p375; replace q375 := eq_true q375; have q89 : (x10_30 : Int) ≤ ((l0.length : Int) : Int) := of_decide_eq_true (by first | (with_reducible assumption) | assumption); obtain ⟨i089, hi089, _, hsz89, _⟩ := info_parts info22; have hroom89 : l0.length ≤ c0 := HC0.out; have hC89 : Kd.C (Kd.slice 5 (Kd.int .u8)) _ A0 l0.length l0 := HR0.out; have hcut89 := cut_to (P := Try.prog) 33 22 .i64 Try.underlying33 hi089 A0 l0.length c0 x10_30 (of_decide_eq_true (by first | (with_reducible assumption) | assumption)) q89 hroom89; have hr89 := Kd.C_take (m := (x10_30 : Int).toNat) hC89 (by omega); have hy89 : y382.length = (x10_30 : Int).toNat := (by rw [Ny382.out, List.length_take]; omega); rw [← Ny382.out] at hr89; rw [← hy89] at hcut89; have HR385 := Aside0.mk hr89; have HC385 := Aside0.mk (show y382.length ≤ c0 from by omega); clear hr89 hC89 hroom89 hi089 hsz89; have KY89 := Aside0.mk hy89; clear hy89; replace q89 := eq_true q89; obtain ⟨Ao90, co90, eo90⟩ := Kd.N_slice HO372.out; subst eo90) | ((with_reducible refine gate_callee (f := 19) rfl ?_); refine goesL_ (some 89) rfl rfl Try.func19 (by kernel_rfl) rfl #[.slice Ao90 t370.length co90, .slice A0 y382.length c0] rfl (by (try simp only [List.map_toArray, List.map_cons, List.map_nil]); first | done | rfl | (simp only [List.length_drop, List.length_take]; rfl)) ?_; (with_reducible refine (joistref00_SameLists.calls kj30 _ _ t370 _ _ y382 false _ ?side1 ?side2 ?side3 ?side4 A70.out).mono ?_); (case side1 => repeat (first | exact (Kd.N_reads' HO372.out).2.2 | (with_reducible refine Kd.C_alloc ?_ _) | (with_reducible refine Kd.C_drewN ?_ _) | (with_reducible refine Kd.C_drew ?_))); (case side2 => exact (Kd.N_reads' HO372.out).2.1); (case side3 => repeat (first | exact (Kd.C_below HR385.out HB.out) | (with_reducible refine Kd.C_alloc ?_ _) | (with_reducible refine Kd.C_drewN ?_ _) | (with_reducible refine Kd.C_drew ?_))); (case side4 => exact HC385.out); rintro e w' ⟨rfl, ⟨nd, rfl⟩⟩; refine ⟨_, rfl, ?_⟩))
                                      go_ret
                                      exact ⟨by first | rfl | (simp [errW_none, errW_some] <;> rfl) | (simp [*, errW_none, errW_some] <;> rfl), by repeat (first | (with_reducible first | exact HB.out | apply below_alloc | apply pw_below_drewN | apply below_drew1) | exact HB.out)⟩
                                  · rw [if_neg c69] at H
                                    exact absurd H (by simp)
                              · rw [if_neg c43] at H
                                exact absurd H (by simp)
                            · rw [if_neg c42] at H
                              exact absurd H (by simp)
                          · rw [if_neg c40] at H
                            exact absurd H (by simp)
                        · rw [if_neg c39] at H
                          exact absurd H (by simp)
  · replace c4 := Bool.eq_false_iff.mpr c4
    subst c4
    have H1 : (some false) = some r := by rw [if_neg (show ¬ (false = true) by decide)] at H; exact H
    clear H
    have H := H1
    clear H1
    obtain rfl := Option.some.inj H
    go_enter Try.func6, Try.ntmps6
    go_wp2_with (first | ((with_reducible refine gate_callee (f := 8) rfl ?_); refine goesL_ (some 15) rfl rfl Try.func8 (by kernel_rfl) rfl #[] rfl (by (try simp only [List.map_toArray, List.map_cons, List.map_nil]); first | done | rfl | (simp only [List.length_drop, List.length_take]; rfl)) ?_; (with_reducible refine (joistlaw04_alive.calls  false _ A3.out).mono ?_); rintro e w91 ⟨rfl, hb⟩; refine ⟨_, rfl, ?_⟩; have n0_ := Aside0.mk (below_step (by repeat (first | (with_reducible first | exact HB.out | apply below_alloc | apply pw_below_drewN | apply below_drew1) | exact HB.out)) hb); clear HB; have HB := n0_; clear n0_; (try clear hb); (try clear hb2); (try clear hk); (try clear hi)))
    go_ret
    exact ⟨by first | rfl | (simp [errW_none, errW_some] <;> rfl) | (simp [*, errW_none, errW_some] <;> rfl), by repeat (first | (with_reducible first | exact HB.out | apply below_alloc | apply pw_below_drewN | apply below_drew1) | exact HB.out)⟩

end Go.Proofs.Ytjfmnjhkpkcakaa.Q
