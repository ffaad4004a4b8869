/- Values out of bytes: taken of numbers; Decode. -/
import Derived.Test.YtikpmlginojnhaaGreatDoorVE
namespace Go.Proofs.YtikpmlginojnhaaGreatDoor.Fl
open Go.RowKit Go.Maps
set_option linter.unusedVariables false
set_option linter.unusedSimpArgs false
theorem right1 (n : Int) : rightV 1 n ⟨#[]⟩ = true := by
  unfold rightV
  rw [if_pos rfl, ByteArray.toList_eq]
  rfl
theorem tk_int_yes {t : List Int} (hb : Byts t) (h : t.length = 8) : TkIs 1 t (val t - 9223372036854775808) ⟨#[]⟩ true := by
  have h8 := val8_bd hb h
  refine ⟨by unfold Wf; omega, fun _ => ⟨right1 _, ?_⟩, fun n' s' h1 h2 h3 => ?_⟩
  · show b8 (val t - 9223372036854775808 + 9223372036854775808) = t
    rw [Int.sub_add_cancel, b8_val h hb]
  · have h3 : b8 (n' + 9223372036854775808) = t := h3
    have e := val_b8 (n' + 9223372036854775808) (by unfold Wf at h1; omega)
    rw [h3] at e
    rcases right_kinds h2 with ⟨_, c⟩ | ⟨e', c, c2⟩ | ⟨e', c, c2⟩ | ⟨e', e2, c⟩ | ⟨e', e2, c, c2⟩ <;> first | (exfalso; omega) | skip
    exact ⟨rfl, by omega, (size0 c).symm⟩
theorem tk_int_no {t : List Int} (h : ¬ t.length = 8) (n : Int) (hn : Wf n) : TkIs 1 t n ⟨#[]⟩ false := by
  refine ⟨hn, (fun e => by cases e), fun n' s' h1 h2 h3 => ?_⟩
  have h3 : b8 (n' + 9223372036854775808) = t := h3
  rw [← h3] at h
  exact absurd rfl h
theorem b_xorU (u : Int) (h0 : 0 ≤ u) (h1 : u < 18446744073709551616) : wrap64 (bits .xor .u64 u 9223372036854775808) = u - 9223372036854775808 := by
  have h := b_flip (wrap64 u) (by unfold Wf wrap64; omega)
  rw [U_wrap ⟨h0, h1⟩] at h
  rw [h]
  unfold wrap64
  omega
theorem wf_wrap (x : Int) : Wf (wrap64 x) := by unfold Wf wrap64; omega
set_option maxHeartbeats 4000000 in
set_option maxRecDepth 100000 in
theorem c_taken1 (ad : Addr) (c : Nat) (t : List Int) (hc : t.length ≤ c) (hb : Byts t) (hm : t.length ≤ 1000000) (w : World) (hk : ∀ k, k < t.length → w.cell? (ad.add k) = some (.int .u8 (t.getD k 0))) (hg : Gv w) :
    Calls Tryz.prog 47 #[.int .i64 1, .slice (some ad) t.length c] w fun e w' => ∃ n s ok, TkIs 1 t n s ok ∧ e = .returned (.tuple #[vv 1 n s, .bool ok]) ∧ Below w.heap.size w w' := by
  have HG := Lib.hid hg
  have HTK0 := Lib.hid (Tk.start w (.int .i64 0) (.int .i64 0) (.string ⟨#[]⟩) 1 0 ⟨#[]⟩)
  have HK := Lib.hid (fun W (hb : Below w.heap.size w W) j (hj : j < t.length) => (hb.cell (World.block_lt_of_cell? w _ (hk j hj))).trans (hk j hj))
  have HBY := Lib.hid hb
  unfold vv
  by_cases h8 : t.length = 8
  · have HL := Lib.hid h8
    have HT := Lib.hid (tk_int_yes hb h8)
    have C1 := Lib.hid (fun W hg => c_vright 1 (val t - 9223372036854775808) ⟨#[]⟩ HT.out.1 (by decide) true (right1 _) W hg)
    have HX := Lib.hid (b_xorU (val t) (val8_bd hb h8).1 (val8_bd hb h8).2)
    unfold vv at C1
    have hq8 : ((t.length : Int) == 8) = true := by simp [h8]
    have h80 : (t.length : Int) ≤ 8 := by omega
    clear hg hk hb h8
    go_enter Tryz.func47, Tryz.ntmps47
    go_wp2
    generalize (w.alloc (.cells #[.int .i64 0, .int .i64 0, .string ⟨#[]⟩] 23)).alloc (.cells #[.int .i64 1, .int .i64 0, .string ⟨#[]⟩] 23) = W0 at HTK0 ⊢
    go_loopw [8, 10, 24] (fun v8 v10 v24 W => ∃ (k : Nat) (q : Int), k ≤ t.length ∧ v8 = .int .u64 q ∧ v24 = .int .i64 k ∧ Hid (q = val (t.take k)) ∧ ∃ n, W = W0.drewN n) (fun _ _ v24 _ => t.length - (intOf v24).toNat)
    case atStart => exact ⟨0, 0, by omega, rfl, rfl, rfl, 0, rfl⟩
    case round =>
      obtain ⟨k, q, hk, rfl, rfl, HQ, m, rfl⟩ := hrel
      by_cases hlt : k < t.length
      · have x1 := HK.out W0 HTK0.out.bel k hlt
        have hx := byts_at HBY.out k hlt
        have hqb := val_take_bd HBY.out k (by have := HL.out; omega) HL.out
        rw [← HQ.out] at hqb
        have hor := or_byte q (t.getD k 0) hqb.1 hqb.2 hx.1 hx.2
        have hws : IntKind.u64.wrap (q * 256) = q * 256 := wraps_u64 _ (by omega) (by simp only [Int.reducePow]; omega)
        have hwx : IntKind.u64.wrap (t.getD k 0) = t.getD k 0 := wraps_u64 _ (by omega) (by simp only [Int.reducePow]; omega)
        have HN := Lib.hid (show q * 256 + t.getD k 0 = val (t.take (k + 1)) by rw [take_snoc t k hlt, val_snoc, HQ.out])
        generalize t.getD k 0 = x at x1 hor hwx HN
        generalize q * 256 + x = q2 at hor HN
        clear hx hqb
        have hk0 : (0 : Int) ≤ (k : Int) := by omega
        have hk1 : (k : Int) < (t.length : Int) := by omega
        go_wp2
        go_roundw
        case rel => exact ⟨k + 1, q2, by omega, rfl, by go_num, HN, _, rfl⟩
        case measure => simp [intOf]; omega
      · have hk' : k = t.length := by omega
        subst hk'
        rw [List.take_length] at HQ
        have HQ2 := HQ.out
        subst HQ2
        have hx := HX.out
        have HTK1 := Lib.hid (HTK0.out.below (below_drewN W0 m))
        obtain ⟨z0, z1, z2, y0, y1, y2⟩ := HTK0.out.cells
        obtain ⟨f0, f1, f2⟩ := HTK0.out.frozenv
        generalize val t = q at *
        go_wp2
        have HTK := Lib.hid (HTK1.out.setN (q - 9223372036854775808))
        have HGW := Lib.hid (HG.out.below HTK.out.bel)
        generalize (W0.drewN m).setCell ⟨w.heap.size + 1, 1, none⟩ (.int .i64 (q - 9223372036854775808)) = W at HTK HGW ⊢
        generalize q - 9223372036854775808 = n at *
        refine wp_region_held_drew (S := fun X => ∃ b0 b1 b2, Tk w X b0 b1 b2 1 n ⟨#[]⟩) (by kernel_rfl) ⟨_, _, _, HTK.out.below (Below.refl _ _).drew⟩ (fun hHeld => ?_)
        refine wpAnyH_take (i := 0) (oi := ?o_603) (v := ?v_603) ?hi_603 ?hs_603 ?hf_603 ?hr_603 ?hQ_603 ?hy_603 ?hS_603 ?rest_603; (case hi_603 => (simp only [List.getElem?_toArray, List.getElem?_cons_zero, List.getElem?_cons_succ]; rfl)); (case hs_603 => kernel_rfl); (case hf_603 => kernel_rfl); (case hr_603 => kernel_rfl); (case hQ_603 => exact fun _ _ _ h => h); (case hS_603 => assumption); (case hy_603 => (refine Or.inl ⟨by rfl, ?_⟩; intro w hSw; obtain ⟨_, _, _, hT⟩ := hSw; obtain ⟨z0, z1, z2, y0, y1, y2⟩ := hT.cells; go_simp; first | done | with_reducible rfl)); (try simp only [Act.put, List.setIfInBounds_toArray, List.set_cons_zero, List.set_cons_succ])
        refine wpAnyH_take (i := 1) (oi := ?o_604) (v := ?v_604) ?hi_604 ?hs_604 ?hf_604 ?hr_604 ?hQ_604 ?hy_604 ?hS_604 ?rest_604; (case hi_604 => (simp only [List.getElem?_toArray, List.getElem?_cons_zero, List.getElem?_cons_succ]; rfl)); (case hs_604 => kernel_rfl); (case hf_604 => kernel_rfl); (case hr_604 => kernel_rfl); (case hQ_604 => exact fun _ _ _ h => h); (case hS_604 => assumption); (case hy_604 => (refine Or.inl ⟨by rfl, ?_⟩; intro w hSw; go_simp; first | done | with_reducible rfl)); (try simp only [Act.put, List.setIfInBounds_toArray, List.set_cons_zero, List.set_cons_succ])
        refine wpAnyH_take (i := 2) (oi := ?o_605) (v := ?v_605) ?hi_605 ?hs_605 ?hf_605 ?hr_605 ?hQ_605 ?hy_605 ?hS_605 ?rest_605; (case hi_605 => (simp only [List.getElem?_toArray, List.getElem?_cons_zero, List.getElem?_cons_succ]; rfl)); (case hs_605 => kernel_rfl); (case hf_605 => kernel_rfl); (case hr_605 => kernel_rfl); (case hQ_605 => exact fun _ _ _ h => h); (case hS_605 => assumption); (case hy_605 => (refine Or.inl ⟨by rfl, ?_⟩; intro w hSw; go_simp; first | done | with_reducible rfl)); (try simp only [Act.put, List.setIfInBounds_toArray, List.set_cons_zero, List.set_cons_succ])
        refine wpAnyH_take (i := 3) (oi := ?o_606) (v := ?v_606) ?hi_606 ?hs_606 ?hf_606 ?hr_606 ?hQ_606 ?hy_606 ?hS_606 ?rest_606; (case hi_606 => (simp only [List.getElem?_toArray, List.getElem?_cons_zero, List.getElem?_cons_succ]; rfl)); (case hs_606 => kernel_rfl); (case hf_606 => kernel_rfl); (case hr_606 => kernel_rfl); (case hQ_606 => exact fun _ _ _ h => h); (case hS_606 => assumption); (case hy_606 => (refine Or.inl ⟨by rfl, ?_⟩; intro w hSw; obtain ⟨_, _, _, hT⟩ := hSw; obtain ⟨z0, z1, z2, y0, y1, y2⟩ := hT.cells; go_simp; first | done | with_reducible rfl)); (try simp only [Act.put, List.setIfInBounds_toArray, List.set_cons_zero, List.set_cons_succ])
        refine wpAnyH_ready (rs := [4]) (by kernel_rfl) (by simp) ?_; refine AllReadyH.cons (o := ?o_607) ?hi_607 (fun K hK => ?_) AllReadyH.nil; (case hi_607 => (simp only [List.getElem?_toArray, List.getElem?_cons_zero, List.getElem?_cons_succ]; rfl)); go_simp; (go_at_call 13; ((refine (C1.out _ (HGW.out.below (Below.refl _ _).drew)).mono ?_); rintro e w2 ⟨rfl, hb⟩; have HTK2 := Lib.hid (HTK.out.below ((Below.refl _ _).drew.trans hb)); clear hb)); refine hK.out _ _ ?_ (fun hHeld => ?_); (· exact ⟨_, _, _, HTK2.out⟩); clear hK K; (try simp only [Act.put, List.setIfInBounds_toArray, List.set_cons_zero, List.set_cons_succ])
        refine wpAnyH_take (i := 5) (oi := ?o_608) (v := ?v_608) ?hi_608 ?hs_608 ?hf_608 ?hr_608 ?hQ_608 ?hy_608 ?hS_608 ?rest_608; (case hi_608 => (simp only [List.getElem?_toArray, List.getElem?_cons_zero, List.getElem?_cons_succ]; rfl)); (case hs_608 => kernel_rfl); (case hf_608 => kernel_rfl); (case hr_608 => kernel_rfl); (case hQ_608 => exact fun _ _ _ h => h); (case hS_608 => assumption); (case hy_608 => (refine Or.inl ⟨by rfl, ?_⟩; intro w hSw; go_simp; first | done | with_reducible rfl)); (try simp only [Act.put, List.setIfInBounds_toArray, List.set_cons_zero, List.set_cons_succ])
        obtain ⟨z0, z1, z2, y0, y1, y2⟩ := HTK2.out.cells
        obtain ⟨f0, f1, f2⟩ := HTK2.out.frozen
        refine wpAnyH_ready (rs := [6]) (by kernel_rfl) (by simp) ?_; refine AllReadyH.cons (o := ?o_601) ?hi_601 (fun K hK => ?_) AllReadyH.nil; (case hi_601 => (simp only [List.getElem?_toArray, List.getElem?_cons_zero, List.getElem?_cons_succ]; rfl)); go_simp; skip; refine hK.out _ _ ?_ (fun hHeld => ?_); (· exact ⟨_, _, _, HTK2.out.put (.int .i64 1) (.int .i64 n) (.string ⟨#[]⟩)⟩); clear hK K; (try simp only [Act.put, List.setIfInBounds_toArray, List.set_cons_zero, List.set_cons_succ])
        refine wpAnyH_take (i := 7) (oi := ?o_602) (v := ?v_602) ?hi_602 ?hs_602 ?hf_602 ?hr_602 ?hQ_602 ?hy_602 ?hS_602 ?rest_602; (case hi_602 => (simp only [List.getElem?_toArray, List.getElem?_cons_zero, List.getElem?_cons_succ]; rfl)); (case hs_602 => kernel_rfl); (case hf_602 => kernel_rfl); (case hr_602 => kernel_rfl); (case hQ_602 => exact fun _ _ _ h => h); (case hS_602 => assumption); (case hy_602 => (refine Or.inl ⟨by rfl, ?_⟩; intro w hSw; go_simp; first | done | with_reducible rfl)); (try simp only [Act.put, List.setIfInBounds_toArray, List.set_cons_zero, List.set_cons_succ])
        refine wpAnyH_done (by kernel_rfl) ?_ _
        go_wp2_with fail
        exact bodyPost_ret (ret_cell rfl _ _ w.heap.size 1 n ⟨#[]⟩ true (0, 0) rfl rfl (HTK2.out.put (.int .i64 1) (.int .i64 n) (.string ⟨#[]⟩)).z) rfl ⟨n, ⟨#[]⟩, true, HT.out, rfl, (HTK2.out.put (.int .i64 1) (.int .i64 n) (.string ⟨#[]⟩)).bel⟩
  · have HT := Lib.hid (fun n hn => tk_int_no h8 n hn)
    have hq8 : ((t.length : Int) == 8) = false := by simp; omega
    clear hg hk hb h8
    go_enter Tryz.func47, Tryz.ntmps47
    go_wp2
    generalize (w.alloc (.cells #[.int .i64 0, .int .i64 0, .string ⟨#[]⟩] 23)).alloc (.cells #[.int .i64 1, .int .i64 0, .string ⟨#[]⟩] 23) = W0 at HTK0 ⊢
    go_loopw [8, 10, 24] (fun v8 v10 v24 W => ∃ (k : Nat) (q : Int), k ≤ t.length ∧ v8 = .int .u64 q ∧ v24 = .int .i64 k ∧ ∃ n, W = W0.drewN n) (fun _ _ v24 _ => t.length - (intOf v24).toNat)
    case atStart => exact ⟨0, 0, by omega, rfl, rfl, 0, rfl⟩
    case round =>
      obtain ⟨k, q, hk, rfl, rfl, m, rfl⟩ := hrel
      by_cases hlt : k < t.length
      · have x1 := HK.out W0 HTK0.out.bel k hlt
        generalize t.getD k 0 = x at x1
        have hk0 : (0 : Int) ≤ (k : Int) := by omega
        have hk1 : (k : Int) < (t.length : Int) := by omega
        go_wp2
        go_roundw
        case rel => exact ⟨k + 1, _, by omega, rfl, by go_num, _, rfl⟩
        case measure => simp [intOf]; omega
      · have hk' : k = t.length := by omega
        subst hk'
        have HTK1 := Lib.hid (HTK0.out.below (below_drewN W0 m))
        obtain ⟨z0, z1, z2, y0, y1, y2⟩ := HTK0.out.cells
        obtain ⟨f0, f1, f2⟩ := HTK0.out.frozenv
        obtain ⟨n, hn⟩ : ∃ n, wrap64 (bits .xor .u64 q 9223372036854775808) = n := ⟨_, rfl⟩
        have HWF := Lib.hid (show Wf n by rw [← hn]; exact wf_wrap _)
        go_wp2
        have HTK := Lib.hid (HTK1.out.setN n)
        generalize (W0.drewN m).setCell ⟨w.heap.size + 1, 1, none⟩ (.int .i64 n) = W at HTK ⊢
        refine wp_region_held_drew (S := fun X => ∃ b0 b1 b2, Tk w X b0 b1 b2 1 n ⟨#[]⟩) (by kernel_rfl) ⟨_, _, _, HTK.out.below (Below.refl _ _).drew⟩ (fun hHeld => ?_)
        refine wpAnyH_take (i := 0) (oi := ?o_703) (v := ?v_703) ?hi_703 ?hs_703 ?hf_703 ?hr_703 ?hQ_703 ?hy_703 ?hS_703 ?rest_703; (case hi_703 => (simp only [List.getElem?_toArray, List.getElem?_cons_zero, List.getElem?_cons_succ]; rfl)); (case hs_703 => kernel_rfl); (case hf_703 => kernel_rfl); (case hr_703 => kernel_rfl); (case hQ_703 => exact fun _ _ _ h => h); (case hS_703 => assumption); (case hy_703 => (refine Or.inl ⟨by rfl, ?_⟩; intro w hSw; obtain ⟨_, _, _, hT⟩ := hSw; obtain ⟨z0, z1, z2, y0, y1, y2⟩ := hT.cells; go_simp; first | done | with_reducible rfl)); (try simp only [Act.put, List.setIfInBounds_toArray, List.set_cons_zero, List.set_cons_succ])
        refine wpAnyH_take (i := 1) (oi := ?o_704) (v := ?v_704) ?hi_704 ?hs_704 ?hf_704 ?hr_704 ?hQ_704 ?hy_704 ?hS_704 ?rest_704; (case hi_704 => (simp only [List.getElem?_toArray, List.getElem?_cons_zero, List.getElem?_cons_succ]; rfl)); (case hs_704 => kernel_rfl); (case hf_704 => kernel_rfl); (case hr_704 => kernel_rfl); (case hQ_704 => exact fun _ _ _ h => h); (case hS_704 => assumption); (case hy_704 => (refine Or.inl ⟨by rfl, ?_⟩; intro w hSw; go_simp; first | done | with_reducible rfl)); (try simp only [Act.put, List.setIfInBounds_toArray, List.set_cons_zero, List.set_cons_succ])
        refine wpAnyH_take (i := 2) (oi := ?o_705) (v := ?v_705) ?hi_705 ?hs_705 ?hf_705 ?hr_705 ?hQ_705 ?hy_705 ?hS_705 ?rest_705; (case hi_705 => (simp only [List.getElem?_toArray, List.getElem?_cons_zero, List.getElem?_cons_succ]; rfl)); (case hs_705 => kernel_rfl); (case hf_705 => kernel_rfl); (case hr_705 => kernel_rfl); (case hQ_705 => exact fun _ _ _ h => h); (case hS_705 => assumption); (case hy_705 => (refine Or.inl ⟨by rfl, ?_⟩; intro w hSw; go_simp; first | done | with_reducible rfl)); (try simp only [Act.put, List.setIfInBounds_toArray, List.set_cons_zero, List.set_cons_succ])
        refine wpAnyH_take (i := 3) (oi := ?o_706) (v := undef) ?hi_706 ?hs_706 ?hf_706 ?hr_706 ?hQ_706 ?hy_706 ?hS_706 ?rest_706; (case hi_706 => (simp only [List.getElem?_toArray, List.getElem?_cons_zero, List.getElem?_cons_succ]; rfl)); (case hs_706 => kernel_rfl); (case hf_706 => kernel_rfl); (case hr_706 => kernel_rfl); (case hQ_706 => exact fun _ _ _ h => h); (case hS_706 => assumption); (case hy_706 => exact Or.inr ⟨by rfl, rfl⟩); (try simp only [Act.put, List.setIfInBounds_toArray, List.set_cons_zero, List.set_cons_succ])
        refine wpAnyH_take (i := 4) (oi := ?o_707) (v := undef) ?hi_707 ?hs_707 ?hf_707 ?hr_707 ?hQ_707 ?hy_707 ?hS_707 ?rest_707; (case hi_707 => (simp only [List.getElem?_toArray, List.getElem?_cons_zero, List.getElem?_cons_succ]; rfl)); (case hs_707 => kernel_rfl); (case hf_707 => kernel_rfl); (case hr_707 => kernel_rfl); (case hQ_707 => exact fun _ _ _ h => h); (case hS_707 => assumption); (case hy_707 => exact Or.inr ⟨by rfl, rfl⟩); (try simp only [Act.put, List.setIfInBounds_toArray, List.set_cons_zero, List.set_cons_succ])
        refine wpAnyH_take (i := 5) (oi := ?o_708) (v := ?v_708) ?hi_708 ?hs_708 ?hf_708 ?hr_708 ?hQ_708 ?hy_708 ?hS_708 ?rest_708; (case hi_708 => (simp only [List.getElem?_toArray, List.getElem?_cons_zero, List.getElem?_cons_succ]; rfl)); (case hs_708 => kernel_rfl); (case hf_708 => kernel_rfl); (case hr_708 => kernel_rfl); (case hQ_708 => exact fun _ _ _ h => h); (case hS_708 => assumption); (case hy_708 => (refine Or.inl ⟨by rfl, ?_⟩; intro w hSw; go_simp; first | done | with_reducible rfl)); (try simp only [Act.put, List.setIfInBounds_toArray, List.set_cons_zero, List.set_cons_succ])
        obtain ⟨z0, z1, z2, y0, y1, y2⟩ := HTK.out.cells
        obtain ⟨f0, f1, f2⟩ := HTK.out.frozen
        refine wpAnyH_ready (rs := [6]) (by kernel_rfl) (by simp) ?_; refine AllReadyH.cons (o := ?o_701) ?hi_701 (fun K hK => ?_) AllReadyH.nil; (case hi_701 => (simp only [List.getElem?_toArray, List.getElem?_cons_zero, List.getElem?_cons_succ]; rfl)); go_simp; skip; refine hK.out _ _ ?_ (fun hHeld => ?_); (· exact ⟨_, _, _, (HTK.out.put (.int .i64 1) (.int .i64 n) (.string ⟨#[]⟩)).below (Below.refl _ _).drew⟩); clear hK K; (try simp only [Act.put, List.setIfInBounds_toArray, List.set_cons_zero, List.set_cons_succ])
        refine wpAnyH_take (i := 7) (oi := ?o_702) (v := ?v_702) ?hi_702 ?hs_702 ?hf_702 ?hr_702 ?hQ_702 ?hy_702 ?hS_702 ?rest_702; (case hi_702 => (simp only [List.getElem?_toArray, List.getElem?_cons_zero, List.getElem?_cons_succ]; rfl)); (case hs_702 => kernel_rfl); (case hf_702 => kernel_rfl); (case hr_702 => kernel_rfl); (case hQ_702 => exact fun _ _ _ h => h); (case hS_702 => assumption); (case hy_702 => (refine Or.inl ⟨by rfl, ?_⟩; intro w hSw; go_simp; first | done | with_reducible rfl)); (try simp only [Act.put, List.setIfInBounds_toArray, List.set_cons_zero, List.set_cons_succ])
        refine wpAnyH_done (by kernel_rfl) ?_ _
        go_wp2_with fail
        exact bodyPost_ret (ret_cell rfl _ _ w.heap.size 1 n ⟨#[]⟩ false (0, 0) rfl rfl ((HTK.out.put (.int .i64 1) (.int .i64 n) (.string ⟨#[]⟩)).below (Below.refl _ _).drew).z) rfl ⟨n, ⟨#[]⟩, false, HT.out n HWF.out, rfl, ((HTK.out.put (.int .i64 1) (.int .i64 n) (.string ⟨#[]⟩)).below (Below.refl _ _).drew).bel⟩
theorem c_taken (k : Int) (ad : Addr) (c : Nat) (t : List Int) (hc : t.length ≤ c) (hb : Byts t) (hm : t.length ≤ 1000000) (w : World) (hk : ∀ k, k < t.length → w.cell? (ad.add k) = some (.int .u8 (t.getD k 0))) (hg : Gv w) :
    Calls Tryz.prog 47 #[.int .i64 k, .slice (some ad) t.length c] w fun e w' => ∃ n s ok, TkIs k t n s ok ∧ e = .returned (.tuple #[vv k n s, .bool ok]) ∧ Below w.heap.size w w' := by
  by_cases h1 : k = 1
  · subst h1; exact c_taken1 ad c t hc hb hm w hk hg
  by_cases h4 : k = 4
  · subst h4; exact c_taken4 ad c t hc hb hm w hk hg
  by_cases h5 : k = 5
  · subst h5; exact c_taken5 ad c t hc hb hm w hk hg
  exact c_takenT k h1 h4 h5 ad c t hc hb hm w hk hg
end Go.Proofs.YtikpmlginojnhaaGreatDoor.Fl
