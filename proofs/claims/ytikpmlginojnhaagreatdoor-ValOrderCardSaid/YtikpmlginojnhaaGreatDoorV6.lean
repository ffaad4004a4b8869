/- Values as bytes: the parts. -/
import Derived.Test.YtikpmlginojnhaaGreatDoorV5
namespace Go.Proofs.YtikpmlginojnhaaGreatDoor.Fl
open Go.RowKit Go.Maps
set_option linter.unusedVariables false
set_option linter.unusedSimpArgs false
/-- Each 0 is 0, 255. -/
def zz : List Int → List Int
  | [] => []
  | x :: t => if x = 0 then 0 :: 255 :: zz t else x :: zz t
/-- With the end. -/
def esc (l : List Int) : List Int := zz l ++ [0, 1]
def zzB : List UInt8 → List UInt8
  | [] => []
  | b :: t => if b = 0 then 0 :: 255 :: zzB t else b :: zzB t
theorem replK : ∀ (l : List UInt8), Lib.replaceK [0] [0, 255] (Lib.count l [0]) l = zzB l
  | [] => by
    show Lib.replaceK [0] [0, 255] (Lib.count [] [0]) [] = []
    cases Lib.count [] [0] with
    | zero => rfl
    | succ k =>
      rw [Lib.replaceK]
      rfl
  | b :: t => by
    have ih := replK t
    by_cases hb : b = 0
    · subst hb
      rw [Lib.count_cons_eq, Nat.add_comm, Lib.replaceK_hit [0] [0, 255] _ (0 :: t) 0 rfl]
      show [] ++ [0, 255] ++ Lib.replaceK [0] [0, 255] (Lib.count t [0]) t = _
      rw [ih, zzB, if_pos rfl]
      rfl
    · rw [Lib.count_cons_ne b 0 t hb, zzB, if_neg hb, ← ih]
      have hne : ¬ ([(0 : UInt8)].isPrefixOf (b :: t)) = true := by
        intro h
        have h2 : ((0 : UInt8) == b) = true := by simpa [List.isPrefixOf] using h
        exact hb (by simpa using (beq_iff_eq.1 h2).symm)
      cases hk : Lib.count t [0] with
      | zero => rfl
      | succ k =>
        obtain ⟨i, hi⟩ := Lib.index_of_count (s := t) (old := [0]) (by omega)
        have hi2 : Lib.index (b :: t) [0] = ((i + 1 : Nat) : Int) := by
          rw [Lib.index, if_neg hne, hi, if_neg (fun h => by have := beq_iff_eq.1 h; omega)]
          omega
        rw [Lib.replaceK_hit _ _ k _ _ hi2, Lib.replaceK_hit _ _ k _ _ hi]
        rfl
theorem repl_eq (l : List UInt8) : Lib.replaceAll l [0] [0, 255] = zzB l := by
  unfold Lib.replaceAll Lib.replace
  rw [if_neg (by decide)]
  unfold Lib.replaceNum
  rw [if_pos (Or.inl (by decide))]
  exact replK l
theorem zz_eq : ∀ (l : List UInt8), (zzB l).map (fun b => (b.toNat : Int)) = zz (l.map fun b => (b.toNat : Int))
  | [] => rfl
  | b :: t => by
    rw [zzB, List.map_cons, zz]
    by_cases hb : b = 0
    · subst hb
      rw [if_pos rfl, if_pos (by rfl), List.map_cons, List.map_cons, zz_eq t]
      rfl
    · have : ¬ ((b.toNat : Int) = 0) := fun h => hb (by
        apply UInt8.toNat_inj.1
        have h0 : (0 : UInt8).toNat = 0 := rfl
        omega)
      rw [if_neg hb, if_neg this, List.map_cons, zz_eq t]
theorem zz_len (l : List Int) : l.length ≤ (zz l).length ∧ (zz l).length ≤ 2 * l.length := by
  induction l with
  | nil => simp [zz]
  | cons x t ih =>
    rw [zz]
    split <;> simp <;> omega
theorem zz_append (a b : List Int) : zz (a ++ b) = zz a ++ zz b := by
  induction a with
  | nil => rfl
  | cons x t ih =>
    rw [List.cons_append, zz, zz, ih]
    split <;> rfl
theorem esc_len (s : ByteArray) (h : s.size ≤ 1000000) : 2 ≤ (esc (byt s)).length ∧ (esc (byt s)).length ≤ 2000002 := by
  have := zz_len (byt s)
  rw [byt_len] at this
  unfold esc
  rw [List.length_append]
  simp
  omega
set_option maxHeartbeats 4000000 in
set_option maxRecDepth 100000 in
theorem c_eight (r : Int) (h0 : 0 ≤ r) (h1 : r < 18446744073709551616) (w : World) :
    Calls Tryz.prog 53 #[.int .u64 r] w fun e w' => ∃ v, e = .returned v ∧ HasB w' v (b8 r) ∧ Below w.heap.size w w' := by
  have hU := Tryz.underlying26
  obtain ⟨i0, hi, hz0, hz1, hz2⟩ := info_parts info5
  clear h0 h1
  go_enter Tryz.func53, Tryz.ntmps53
  go_wp2
  go_loopw [3, 4] (fun v s W => ∃ j : Nat, j ≤ 8 ∧ s = .int .i64 (56 - 8 * (j : Int)) ∧ Hid (W.ownsRow w.heap.size 5 1 v j (((b8 r).take j).map (.int .u8))) ∧ Hid (Below w.heap.size w W)) (fun _ s _ => (intOf s + 8).toNat)
  case atStart => exact ⟨0, by omega, by go_num, World.ownsRow_nil _ _ _ _, Below.refl _ _⟩
  case round =>
    obtain ⟨j, hj, rfl, HO, HW⟩ := hrel
    obtain rfl | rfl | rfl | rfl | rfl | rfl | rfl | rfl | rfl : j = 0 ∨ j = 1 ∨ j = 2 ∨ j = 3 ∨ j = 4 ∨ j = 5 ∨ j = 6 ∨ j = 7 ∨ j = 8 := by omega
    · go_wp2_with (at_builtin; refine wpList_append_own_at _ rfl (.tmp 9) (.tmp 14) 26 rfl w.heap.size 5 i0 (.int .u8 0) 1 1 hU hi hz0 hz1 hz2 rfl (by decide) u3 _ _ rfl (HO.out.alloc _) ⟨wr.heap.size, 0, none⟩ 1 1 [.int .u8 (r / 72057594037927936 % 256)] rfl rfl ?c1 ?c2 ?c3 ?c4 ?c5 ?_; (case c1 => exact World.news_of_block (heap_alloc_new _ _)); (case c2 => simp [Value.oneCell']); (case c3 => unfold maxLen; omega); (case c4 => omega); (case c5 => have := HW.out.size; simp; omega); intro v2 w2 hown2 hgrow2 hnil2 hloc2)
      have HO2 := Lib.hid hown2
      have HW2 := Lib.hid (own_below HW.out HO.out hgrow2)
      clear hown2 hgrow2 hnil2 hloc2 HO HW
      go_wp2
      go_roundw
      case rel => exact ⟨1, by omega, by go_num, HO2.out, HW2.out⟩
      case measure => simp [intOf]
    · go_wp2_with (at_builtin; refine wpList_append_own_at _ rfl (.tmp 9) (.tmp 14) 26 rfl w.heap.size 5 i0 (.int .u8 0) 1 1 hU hi hz0 hz1 hz2 rfl (by decide) u3 _ _ rfl (HO.out.alloc _) ⟨wr.heap.size, 0, none⟩ 1 1 [.int .u8 (r / 281474976710656 % 256)] rfl rfl ?c1 ?c2 ?c3 ?c4 ?c5 ?_; (case c1 => exact World.news_of_block (heap_alloc_new _ _)); (case c2 => simp [Value.oneCell']); (case c3 => unfold maxLen; omega); (case c4 => omega); (case c5 => have := HW.out.size; simp; omega); intro v2 w2 hown2 hgrow2 hnil2 hloc2)
      have HO2 := Lib.hid hown2
      have HW2 := Lib.hid (own_below HW.out HO.out hgrow2)
      clear hown2 hgrow2 hnil2 hloc2 HO HW
      go_wp2
      go_roundw
      case rel => exact ⟨2, by omega, by go_num, HO2.out, HW2.out⟩
      case measure => simp [intOf]
    · go_wp2_with (at_builtin; refine wpList_append_own_at _ rfl (.tmp 9) (.tmp 14) 26 rfl w.heap.size 5 i0 (.int .u8 0) 1 1 hU hi hz0 hz1 hz2 rfl (by decide) u3 _ _ rfl (HO.out.alloc _) ⟨wr.heap.size, 0, none⟩ 1 1 [.int .u8 (r / 1099511627776 % 256)] rfl rfl ?c1 ?c2 ?c3 ?c4 ?c5 ?_; (case c1 => exact World.news_of_block (heap_alloc_new _ _)); (case c2 => simp [Value.oneCell']); (case c3 => unfold maxLen; omega); (case c4 => omega); (case c5 => have := HW.out.size; simp; omega); intro v2 w2 hown2 hgrow2 hnil2 hloc2)
      have HO2 := Lib.hid hown2
      have HW2 := Lib.hid (own_below HW.out HO.out hgrow2)
      clear hown2 hgrow2 hnil2 hloc2 HO HW
      go_wp2
      go_roundw
      case rel => exact ⟨3, by omega, by go_num, HO2.out, HW2.out⟩
      case measure => simp [intOf]
    · go_wp2_with (at_builtin; refine wpList_append_own_at _ rfl (.tmp 9) (.tmp 14) 26 rfl w.heap.size 5 i0 (.int .u8 0) 1 1 hU hi hz0 hz1 hz2 rfl (by decide) u3 _ _ rfl (HO.out.alloc _) ⟨wr.heap.size, 0, none⟩ 1 1 [.int .u8 (r / 4294967296 % 256)] rfl rfl ?c1 ?c2 ?c3 ?c4 ?c5 ?_; (case c1 => exact World.news_of_block (heap_alloc_new _ _)); (case c2 => simp [Value.oneCell']); (case c3 => unfold maxLen; omega); (case c4 => omega); (case c5 => have := HW.out.size; simp; omega); intro v2 w2 hown2 hgrow2 hnil2 hloc2)
      have HO2 := Lib.hid hown2
      have HW2 := Lib.hid (own_below HW.out HO.out hgrow2)
      clear hown2 hgrow2 hnil2 hloc2 HO HW
      go_wp2
      go_roundw
      case rel => exact ⟨4, by omega, by go_num, HO2.out, HW2.out⟩
      case measure => simp [intOf]
    · go_wp2_with (at_builtin; refine wpList_append_own_at _ rfl (.tmp 9) (.tmp 14) 26 rfl w.heap.size 5 i0 (.int .u8 0) 1 1 hU hi hz0 hz1 hz2 rfl (by decide) u3 _ _ rfl (HO.out.alloc _) ⟨wr.heap.size, 0, none⟩ 1 1 [.int .u8 (r / 16777216 % 256)] rfl rfl ?c1 ?c2 ?c3 ?c4 ?c5 ?_; (case c1 => exact World.news_of_block (heap_alloc_new _ _)); (case c2 => simp [Value.oneCell']); (case c3 => unfold maxLen; omega); (case c4 => omega); (case c5 => have := HW.out.size; simp; omega); intro v2 w2 hown2 hgrow2 hnil2 hloc2)
      have HO2 := Lib.hid hown2
      have HW2 := Lib.hid (own_below HW.out HO.out hgrow2)
      clear hown2 hgrow2 hnil2 hloc2 HO HW
      go_wp2
      go_roundw
      case rel => exact ⟨5, by omega, by go_num, HO2.out, HW2.out⟩
      case measure => simp [intOf]
    · go_wp2_with (at_builtin; refine wpList_append_own_at _ rfl (.tmp 9) (.tmp 14) 26 rfl w.heap.size 5 i0 (.int .u8 0) 1 1 hU hi hz0 hz1 hz2 rfl (by decide) u3 _ _ rfl (HO.out.alloc _) ⟨wr.heap.size, 0, none⟩ 1 1 [.int .u8 (r / 65536 % 256)] rfl rfl ?c1 ?c2 ?c3 ?c4 ?c5 ?_; (case c1 => exact World.news_of_block (heap_alloc_new _ _)); (case c2 => simp [Value.oneCell']); (case c3 => unfold maxLen; omega); (case c4 => omega); (case c5 => have := HW.out.size; simp; omega); intro v2 w2 hown2 hgrow2 hnil2 hloc2)
      have HO2 := Lib.hid hown2
      have HW2 := Lib.hid (own_below HW.out HO.out hgrow2)
      clear hown2 hgrow2 hnil2 hloc2 HO HW
      go_wp2
      go_roundw
      case rel => exact ⟨6, by omega, by go_num, HO2.out, HW2.out⟩
      case measure => simp [intOf]
    · go_wp2_with (at_builtin; refine wpList_append_own_at _ rfl (.tmp 9) (.tmp 14) 26 rfl w.heap.size 5 i0 (.int .u8 0) 1 1 hU hi hz0 hz1 hz2 rfl (by decide) u3 _ _ rfl (HO.out.alloc _) ⟨wr.heap.size, 0, none⟩ 1 1 [.int .u8 (r / 256 % 256)] rfl rfl ?c1 ?c2 ?c3 ?c4 ?c5 ?_; (case c1 => exact World.news_of_block (heap_alloc_new _ _)); (case c2 => simp [Value.oneCell']); (case c3 => unfold maxLen; omega); (case c4 => omega); (case c5 => have := HW.out.size; simp; omega); intro v2 w2 hown2 hgrow2 hnil2 hloc2)
      have HO2 := Lib.hid hown2
      have HW2 := Lib.hid (own_below HW.out HO.out hgrow2)
      clear hown2 hgrow2 hnil2 hloc2 HO HW
      go_wp2
      go_roundw
      case rel => exact ⟨7, by omega, by go_num, HO2.out, HW2.out⟩
      case measure => simp [intOf]
    · go_wp2_with (at_builtin; refine wpList_append_own_at _ rfl (.tmp 9) (.tmp 14) 26 rfl w.heap.size 5 i0 (.int .u8 0) 1 1 hU hi hz0 hz1 hz2 rfl (by decide) u3 _ _ rfl (HO.out.alloc _) ⟨wr.heap.size, 0, none⟩ 1 1 [.int .u8 (r % 256)] rfl rfl ?c1 ?c2 ?c3 ?c4 ?c5 ?_; (case c1 => exact World.news_of_block (heap_alloc_new _ _)); (case c2 => simp [Value.oneCell']); (case c3 => unfold maxLen; omega); (case c4 => omega); (case c5 => have := HW.out.size; simp; omega); intro v2 w2 hown2 hgrow2 hnil2 hloc2)
      have HO2 := Lib.hid hown2
      have HW2 := Lib.hid (own_below HW.out HO.out hgrow2)
      clear hown2 hgrow2 hnil2 hloc2 HO HW
      go_wp2
      go_roundw
      case rel => exact ⟨8, by omega, by go_num, HO2.out, HW2.out⟩
      case measure => simp [intOf]
    · go_wp2
      go_ret
      exact ⟨_, rfl, HasB.own HO.out, HW.out⟩
set_option maxHeartbeats 4000000 in
set_option maxRecDepth 100000 in
theorem c_reight (r : Int) (h0 : 0 ≤ r) (h1 : r < 18446744073709551616) (w : World) :
    Calls Tryz.prog 26 #[.int .u64 r] w fun e w' => ∃ v, e = .returned v ∧ HasB w' v (b8 r) ∧ Below w.heap.size w w' := by
  have HBD := Lib.hid (And.intro h0 h1)
  have hmk := make8 w
  clear h0 h1
  go_enter Tryz.func26, Tryz.ntmps26
  go_wp2
  go_loopw [0, 4] (fun v0 v4 W => ∃ (j : Nat) (u : Int), j ≤ 8 ∧ v0 = .int .u64 u ∧ v4 = .int .i64 (7 - (j : Int)) ∧ Hid (u = r / 256 ^ j) ∧ W = w.alloc (.cells ((st8 r j).map (Value.int .u8)).toArray 5)) (fun _ v4 _ => (intOf v4 + 1).toNat)
  case atStart => exact ⟨0, r, by omega, rfl, by go_num, Lib.hid (by simp), rfl⟩
  case round =>
    obtain ⟨j, u, hj, rfl, rfl, HQ, rfl⟩ := hrel
    obtain rfl | rfl | rfl | rfl | rfl | rfl | rfl | rfl | rfl : j = 0 ∨ j = 1 ∨ j = 2 ∨ j = 3 ∨ j = 4 ∨ j = 5 ∨ j = 6 ∨ j = 7 ∨ j = 8 := by omega
    · have hu0 : 0 ≤ u := by have h := HQ.out; have := HBD.out; simp only [Int.reducePow] at h; omega
      have hm1 : Int.tmod u 256 = u % 256 := Int.tmod_eq_emod_of_nonneg hu0
      have hm2 : Int.tdiv u 256 = u / 256 := Int.tdiv_eq_ediv_of_nonneg hu0
      have hm3 : IntKind.u64.wrap (u / 256) = u / 256 := wraps_u64 _ (by omega) (by have h := HQ.out; have := HBD.out; simp only [Int.reducePow] at h; show u / 256 < 18446744073709551616; omega)
      have HS := Lib.hid (show st8 r 1 = [0, 0, 0, 0, 0, 0, 0, u % 256] by rw [HQ.out]; simp [st8, b8])
      rw [show st8 r 0 = [0, 0, 0, 0, 0, 0, 0, 0] by simp [st8, b8]]
      simp only [List.map]
      go_wp2
      go_roundw
      case rel => exact ⟨1, u / 256, by omega, rfl, by go_num, Lib.hid (by rw [HQ.out]; exact pow_next r 0), by rw [HS.out]; rfl⟩
      case measure => simp [intOf]
    · have hu0 : 0 ≤ u := by have h := HQ.out; have := HBD.out; simp only [Int.reducePow] at h; omega
      have hm1 : Int.tmod u 256 = u % 256 := Int.tmod_eq_emod_of_nonneg hu0
      have hm2 : Int.tdiv u 256 = u / 256 := Int.tdiv_eq_ediv_of_nonneg hu0
      have hm3 : IntKind.u64.wrap (u / 256) = u / 256 := wraps_u64 _ (by omega) (by have h := HQ.out; have := HBD.out; simp only [Int.reducePow] at h; show u / 256 < 18446744073709551616; omega)
      have HS := Lib.hid (show st8 r 2 = [0, 0, 0, 0, 0, 0, u % 256, r % 256] by rw [HQ.out]; simp [st8, b8])
      rw [show st8 r 1 = [0, 0, 0, 0, 0, 0, 0, r % 256] by simp [st8, b8]]
      simp only [List.map]
      go_wp2
      go_roundw
      case rel => exact ⟨2, u / 256, by omega, rfl, by go_num, Lib.hid (by rw [HQ.out]; exact pow_next r 1), by rw [HS.out]; rfl⟩
      case measure => simp [intOf]
    · have hu0 : 0 ≤ u := by have h := HQ.out; have := HBD.out; simp only [Int.reducePow] at h; omega
      have hm1 : Int.tmod u 256 = u % 256 := Int.tmod_eq_emod_of_nonneg hu0
      have hm2 : Int.tdiv u 256 = u / 256 := Int.tdiv_eq_ediv_of_nonneg hu0
      have hm3 : IntKind.u64.wrap (u / 256) = u / 256 := wraps_u64 _ (by omega) (by have h := HQ.out; have := HBD.out; simp only [Int.reducePow] at h; show u / 256 < 18446744073709551616; omega)
      have HS := Lib.hid (show st8 r 3 = [0, 0, 0, 0, 0, u % 256, r / 256 % 256, r % 256] by rw [HQ.out]; simp [st8, b8])
      rw [show st8 r 2 = [0, 0, 0, 0, 0, 0, r / 256 % 256, r % 256] by simp [st8, b8]]
      simp only [List.map]
      go_wp2
      go_roundw
      case rel => exact ⟨3, u / 256, by omega, rfl, by go_num, Lib.hid (by rw [HQ.out]; exact pow_next r 2), by rw [HS.out]; rfl⟩
      case measure => simp [intOf]
    · have hu0 : 0 ≤ u := by have h := HQ.out; have := HBD.out; simp only [Int.reducePow] at h; omega
      have hm1 : Int.tmod u 256 = u % 256 := Int.tmod_eq_emod_of_nonneg hu0
      have hm2 : Int.tdiv u 256 = u / 256 := Int.tdiv_eq_ediv_of_nonneg hu0
      have hm3 : IntKind.u64.wrap (u / 256) = u / 256 := wraps_u64 _ (by omega) (by have h := HQ.out; have := HBD.out; simp only [Int.reducePow] at h; show u / 256 < 18446744073709551616; omega)
      have HS := Lib.hid (show st8 r 4 = [0, 0, 0, 0, u % 256, r / 65536 % 256, r / 256 % 256, r % 256] by rw [HQ.out]; simp [st8, b8])
      rw [show st8 r 3 = [0, 0, 0, 0, 0, r / 65536 % 256, r / 256 % 256, r % 256] by simp [st8, b8]]
      simp only [List.map]
      go_wp2
      go_roundw
      case rel => exact ⟨4, u / 256, by omega, rfl, by go_num, Lib.hid (by rw [HQ.out]; exact pow_next r 3), by rw [HS.out]; rfl⟩
      case measure => simp [intOf]
    · have hu0 : 0 ≤ u := by have h := HQ.out; have := HBD.out; simp only [Int.reducePow] at h; omega
      have hm1 : Int.tmod u 256 = u % 256 := Int.tmod_eq_emod_of_nonneg hu0
      have hm2 : Int.tdiv u 256 = u / 256 := Int.tdiv_eq_ediv_of_nonneg hu0
      have hm3 : IntKind.u64.wrap (u / 256) = u / 256 := wraps_u64 _ (by omega) (by have h := HQ.out; have := HBD.out; simp only [Int.reducePow] at h; show u / 256 < 18446744073709551616; omega)
      have HS := Lib.hid (show st8 r 5 = [0, 0, 0, u % 256, r / 16777216 % 256, r / 65536 % 256, r / 256 % 256, r % 256] by rw [HQ.out]; simp [st8, b8])
      rw [show st8 r 4 = [0, 0, 0, 0, r / 16777216 % 256, r / 65536 % 256, r / 256 % 256, r % 256] by simp [st8, b8]]
      simp only [List.map]
      go_wp2
      go_roundw
      case rel => exact ⟨5, u / 256, by omega, rfl, by go_num, Lib.hid (by rw [HQ.out]; exact pow_next r 4), by rw [HS.out]; rfl⟩
      case measure => simp [intOf]
    · have hu0 : 0 ≤ u := by have h := HQ.out; have := HBD.out; simp only [Int.reducePow] at h; omega
      have hm1 : Int.tmod u 256 = u % 256 := Int.tmod_eq_emod_of_nonneg hu0
      have hm2 : Int.tdiv u 256 = u / 256 := Int.tdiv_eq_ediv_of_nonneg hu0
      have hm3 : IntKind.u64.wrap (u / 256) = u / 256 := wraps_u64 _ (by omega) (by have h := HQ.out; have := HBD.out; simp only [Int.reducePow] at h; show u / 256 < 18446744073709551616; omega)
      have HS := Lib.hid (show st8 r 6 = [0, 0, u % 256, r / 4294967296 % 256, r / 16777216 % 256, r / 65536 % 256, r / 256 % 256, r % 256] by rw [HQ.out]; simp [st8, b8])
      rw [show st8 r 5 = [0, 0, 0, r / 4294967296 % 256, r / 16777216 % 256, r / 65536 % 256, r / 256 % 256, r % 256] by simp [st8, b8]]
      simp only [List.map]
      go_wp2
      go_roundw
      case rel => exact ⟨6, u / 256, by omega, rfl, by go_num, Lib.hid (by rw [HQ.out]; exact pow_next r 5), by rw [HS.out]; rfl⟩
      case measure => simp [intOf]
    · have hu0 : 0 ≤ u := by have h := HQ.out; have := HBD.out; simp only [Int.reducePow] at h; omega
      have hm1 : Int.tmod u 256 = u % 256 := Int.tmod_eq_emod_of_nonneg hu0
      have hm2 : Int.tdiv u 256 = u / 256 := Int.tdiv_eq_ediv_of_nonneg hu0
      have hm3 : IntKind.u64.wrap (u / 256) = u / 256 := wraps_u64 _ (by omega) (by have h := HQ.out; have := HBD.out; simp only [Int.reducePow] at h; show u / 256 < 18446744073709551616; omega)
      have HS := Lib.hid (show st8 r 7 = [0, u % 256, r / 1099511627776 % 256, r / 4294967296 % 256, r / 16777216 % 256, r / 65536 % 256, r / 256 % 256, r % 256] by rw [HQ.out]; simp [st8, b8])
      rw [show st8 r 6 = [0, 0, r / 1099511627776 % 256, r / 4294967296 % 256, r / 16777216 % 256, r / 65536 % 256, r / 256 % 256, r % 256] by simp [st8, b8]]
      simp only [List.map]
      go_wp2
      go_roundw
      case rel => exact ⟨7, u / 256, by omega, rfl, by go_num, Lib.hid (by rw [HQ.out]; exact pow_next r 6), by rw [HS.out]; rfl⟩
      case measure => simp [intOf]
    · have hu0 : 0 ≤ u := by have h := HQ.out; have := HBD.out; simp only [Int.reducePow] at h; omega
      have hm1 : Int.tmod u 256 = u % 256 := Int.tmod_eq_emod_of_nonneg hu0
      have hm2 : Int.tdiv u 256 = u / 256 := Int.tdiv_eq_ediv_of_nonneg hu0
      have hm3 : IntKind.u64.wrap (u / 256) = u / 256 := wraps_u64 _ (by omega) (by have h := HQ.out; have := HBD.out; simp only [Int.reducePow] at h; show u / 256 < 18446744073709551616; omega)
      have HS := Lib.hid (show st8 r 8 = [u % 256, r / 281474976710656 % 256, r / 1099511627776 % 256, r / 4294967296 % 256, r / 16777216 % 256, r / 65536 % 256, r / 256 % 256, r % 256] by rw [HQ.out]; simp [st8, b8])
      rw [show st8 r 7 = [0, r / 281474976710656 % 256, r / 1099511627776 % 256, r / 4294967296 % 256, r / 16777216 % 256, r / 65536 % 256, r / 256 % 256, r % 256] by simp [st8, b8]]
      simp only [List.map]
      go_wp2
      go_roundw
      case rel => exact ⟨8, u / 256, by omega, rfl, by go_num, Lib.hid (by rw [HQ.out]; exact pow_next r 7), by rw [HS.out]; rfl⟩
      case measure => simp [intOf]
    · go_wp2
      go_ret
      refine ⟨_, rfl, ?_, (Below.refl _ _).alloc (Nat.le_refl _) _⟩
      exact HasB.block (l := b8 r) (heap_alloc_new _ _) (by show 8 ≤ 8; decide)
theorem count_bd (l : List UInt8) : Lib.count l [0] ≤ l.length := by
  rw [Lib.count_one]
  exact List.count_le_length
set_option maxHeartbeats 4000000 in
set_option maxRecDepth 100000 in
theorem c_escaped (s : ByteArray) (hs : s.size ≤ 1000000) (w : World) (hg : Gv w) :
    Calls Tryz.prog 55 #[.string s] w fun e w' => ∃ v, e = .returned v ∧ HasB w' v (esc (byt s)) ∧ Below w.heap.size w w' := by
  obtain ⟨m, hm⟩ := hg.ml
  have hcb : Lib.countB s ⟨#[0]⟩ ≤ s.size := by
    have h1 := count_bd s.data.toList
    rw [Array.length_toList] at h1
    exact h1
  obtain ⟨t, ht⟩ : ∃ t : ByteArray, (⟨(Lib.replaceAll s.data.toList [0] [0, 255]).toArray⟩ : ByteArray) = t := ⟨_, rfl⟩
  have C1 := Tryz.strings_ReplaceAll s ⟨#[0]⟩ ⟨#[0, 255]⟩ m w (by omega) hm (by decide) (by show s.size + Lib.countB s ⟨#[0]⟩ * 2 ≤ _; omega)
  rw [show (⟨(Lib.replaceAll s.data.toList (⟨#[0]⟩ : ByteArray).data.toList (⟨#[0, 255]⟩ : ByteArray).data.toList).toArray⟩ : ByteArray) = t from ht] at C1
  have C1 := Lib.hid C1
  have hbt : byt t = zz (byt s) := by
    subst ht
    unfold byt
    rw [← zz_eq, ← repl_eq]
  have hts : t.size ≤ 2000000 := by
    have h1 := zz_len (byt s)
    rw [← hbt, byt_len, byt_len] at h1
    omega
  have HT := Lib.hid hbt
  have HTS := Lib.hid hts
  have kc := fun (w : World) => run_bytes_of_string (P := Tryz.prog) w 9 26 5 t Tryz.underlying9 Tryz.underlying26 Tryz.underlying5
  have kc2 : ∀ w : World, (convert 9 26 (.string t)).run Tryz.prog w = .ok (.slice (some ⟨w.heap.size, 0, none⟩) t.size (grownCap w t.size 0 5)) (wb w t) := kc
  clear kc hbt hts hm hg ht hcb
  go_enter Tryz.func55, Tryz.ntmps55
  go_wp2_with fail
  refine C1.out.mono ?_
  rintro e w1 ⟨rfl, hb⟩
  have HB := Lib.hid hb
  clear hb
  have hB1 := HB.out.size
  have HB1 := Lib.hid (show Below w.heap.size w (wb w1 t) from HB.out.trans ((wb_below w1 t).mono hB1))
  have HS1 := Lib.hid (show w.heap.size ≤ (wb w1 t).heap.size from HB1.out.size)
  clear hB1
  go_wp2_with (at_builtin; refine wp_append_b rfl (.tmp 7) (.tmp 8) rfl w.heap.size _ _ (byt t) [0, 1] rfl rfl ?o1 ?s1 ?l1 ?b1 ?_; (case o1 => exact (OwnB.wb w1 t (by have := HTS.out; omega) _ HB.out.size).alloc _); (case s1 => exact SrcB.row (wb w1 t) [0, 1]); (case l1 => have := HTS.out; rw [byt_len]; show t.size + 2 ≤ _; omega); (case b1 => have := HS1.out; simp; omega); intro v2 w2 ho hb2 hg2; have HO := Lib.hid ho; have HB2 := Lib.hid hb2; clear ho hb2 hg2)
  go_ret
  refine ⟨_, rfl, ?_, (HB1.out.alloc HS1.out _).trans HB2.out⟩
  have h := HO.out.has
  rw [HT.out] at h
  exact h
theorem zz_next (l : List Int) (i : Nat) (hi : i < l.length) : zz (l.take (i + 1)) = if l.getD i 0 = 0 then zz (l.take i) ++ [0] ++ [255] else zz (l.take i) ++ [l.getD i 0] := by
  rw [take_snoc l i hi, zz_append]
  by_cases h : l.getD i 0 = 0
  · rw [if_pos h, h]
    simp [zz]
  · rw [if_neg h]
    simp only [zz, if_neg h]
set_option maxHeartbeats 4000000 in
set_option maxRecDepth 100000 in
theorem c_rescaped (s : ByteArray) (hs : s.size ≤ 1000000) (w : World) :
    Calls Tryz.prog 28 #[.string s] w fun e w' => ∃ v, e = .returned v ∧ HasB w' v (esc (byt s)) ∧ Below w.heap.size w w' := by
  have HSZ := Lib.hid hs
  go_enter Tryz.func28, Tryz.ntmps28
  go_wp2
  have HO0 := Lib.hid (OwnB.row w [] w.heap.size (Nat.le_refl _) (by decide))
  have HB0 := Lib.hid ((Below.refl w.heap.size w).alloc (Nat.le_refl _) (.cells #[] 5))
  go_loopw [3, 4] (fun v3 v4 W => ∃ i : Nat, i ≤ s.size ∧ v4 = .int .i64 i ∧ Hid (OwnB W w.heap.size v3 (zz ((byt s).take i))) ∧ Hid (Below w.heap.size w W)) (fun _ v4 _ => s.size - (intOf v4).toNat)
  case atStart => exact ⟨0, by omega, rfl, HO0, HB0⟩
  case round =>
    obtain ⟨i, hi, rfl, HO, HW⟩ := hrel
    clear HO0 HB0
    by_cases hlt : i < s.size
    · have t1 : decide ((i : Int) < (s.size : Int)) = true := decide_eq_true (by omega)
      have x0 := str_at s i hlt
      have HN := Lib.hid (zz_next (byt s) i (by rw [byt_len]; exact hlt))
      have HL := Lib.hid (show (zz ((byt s).take i)).length ≤ 2000000 by have h1 := zz_len ((byt s).take i); have h2 := HSZ.out; rw [List.length_take] at h1; omega)
      generalize (byt s).getD i 0 = x at x0 HN
      generalize zz ((byt s).take i) = l at HO HN HL
      by_cases hx : x = 0
      · subst hx
        go_wp2_with (first | (at_builtin; refine wp_append_b rfl (.tmp 12) (.tmp 16) rfl w.heap.size _ _ l [0] rfl rfl ?o1 ?s1 ?l1 ?b1 ?_; (case o1 => exact HO.out.alloc _); (case s1 => exact SrcB.row wr [0]); (case l1 => have := HL.out; show l.length + 1 ≤ _; omega); (case b1 => have := HW.out.size; simp; omega); intro v2 w2 ho hb2 hg2; have HO2 := Lib.hid ho; have HW2 := Lib.hid ((HW.out.alloc HW.out.size _).trans hb2); clear ho hb2 hg2) | (at_builtin; refine wp_append_b rfl (.tmp 22) (.tmp 23) rfl w.heap.size _ _ (l ++ [0]) [255] rfl rfl ?o1 ?s1 ?l1 ?b1 ?_; (case o1 => exact HO2.out.alloc _); (case s1 => exact SrcB.row _ [255]); (case l1 => have := HL.out; rw [List.length_append]; show l.length + 1 + 1 ≤ _; omega); (case b1 => have := HW2.out.size; simp; omega); intro v3 w3 ho hb2 hg2; have HO3 := Lib.hid ho; have HW3 := Lib.hid ((HW2.out.alloc HW2.out.size _).trans hb2); clear ho hb2 hg2))
        go_roundw
        case rel => exact ⟨i + 1, by omega, by go_num, by rw [HN.out, if_pos rfl]; exact HO3, HW3⟩
        case measure => simp [intOf]; omega
      · have tx : (x == 0) = false := by simp [hx]
        rw [if_neg hx] at HN
        clear hx
        go_wp2_with (at_builtin; refine wp_append_b rfl (.tmp 12) (.tmp 16) rfl w.heap.size _ _ l [x] rfl rfl ?o1 ?s1 ?l1 ?b1 ?_; (case o1 => exact HO.out.alloc _); (case s1 => exact SrcB.row wr [x]); (case l1 => have := HL.out; show l.length + 1 ≤ _; omega); (case b1 => have := HW.out.size; simp; omega); intro v2 w2 ho hb2 hg2; have HO2 := Lib.hid ho; have HW2 := Lib.hid ((HW.out.alloc HW.out.size _).trans hb2); clear ho hb2 hg2)
        go_roundw
        case rel => exact ⟨i + 1, by omega, by go_num, by rw [HN.out]; exact HO2, HW2⟩
        case measure => simp [intOf]; omega
    · have t1 : decide ((i : Int) < (s.size : Int)) = false := decide_eq_false (by omega)
      have HE := Lib.hid (show (byt s).take i = byt s from List.take_of_length_le (by rw [byt_len]; omega))
      have HL := Lib.hid (show (zz (byt s)).length ≤ 2000000 by have h1 := zz_len (byt s); have h2 := HSZ.out; rw [byt_len] at h1; omega)
      rw [HE.out] at HO
      clear HE
      go_wp2_with (at_builtin; refine wp_append_b rfl (.tmp 25) (.tmp 26) rfl w.heap.size _ _ (zz (byt s)) [0, 1] rfl rfl ?o1 ?s1 ?l1 ?b1 ?_; (case o1 => exact HO.out.alloc _); (case s1 => exact SrcB.row wr [0, 1]); (case l1 => have := HL.out; show _ + 2 ≤ _; omega); (case b1 => have := HW.out.size; simp; omega); intro v2 w2 ho hb2 hg2; have HO2 := Lib.hid ho; have HW2 := Lib.hid ((HW.out.alloc HW.out.size _).trans hb2); clear ho hb2 hg2)
      go_ret
      exact ⟨_, rfl, HO2.out.has, HW2.out⟩
end Go.Proofs.YtikpmlginojnhaaGreatDoor.Fl
