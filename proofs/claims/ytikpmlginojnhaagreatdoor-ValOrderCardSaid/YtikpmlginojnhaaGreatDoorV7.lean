/- Values as bytes: plain, Encode. -/
import Derived.Test.YtikpmlginojnhaaGreatDoorV6
import Derived.Deep.RegionHeld3
namespace Go.Proofs.YtikpmlginojnhaaGreatDoor.Fl
open Go.RowKit Go.Maps
set_option linter.unusedVariables false
set_option linter.unusedSimpArgs false
theorem step_append_b {w : World} {ops : Array Oper} {o : Oper} {a : Act} {K : Act → World → Prop} {Q : Exit → Act → World → Prop} {E : Prop} (hgd : o.guard = none) (s x : Operand)
    (ho : o.op = .call { callee := .builtin .append, args := #[s, x], argTypes := #[26, 26] })
    (B : Nat) (v v2 : Value) (l l2 : List Int) (hs : a.eval s = v) (hx : a.eval x = v2) (hown : OwnB w B v l) (hsrc : SrcB w v2 l2) (hlen : l.length + l2.length ≤ 140737488355328) (hB : B ≤ w.heap.size)
    (h : ∀ v' w', OwnB w' B v' (l ++ l2) → Below B w w' → w.grownBy w' v.ownBlock → K (a.put o.dst v') w') :
    if Region.wanted o (yielded ops a.tmps) = true then Oper.wp Tryz.prog o a w K Q else E := by
  have hw : Region.wanted o (yielded ops a.tmps) = true := by simp [Region.wanted, hgd]
  rw [if_pos hw]
  obtain ⟨v', w', hr, h2, h3, _⟩ := run_append_b w B 26 o.type Tryz.underlying26 v v2 l l2 hown hsrc hlen hB
  unfold Oper.wp execOp
  simp only [ho, resolve, invoke, builtin, Sem.run_bind, Sem.run_pure, Result.andThen_ok, List.map_toArray, List.map_cons, List.map_nil, hs, hx, hr]
  exact h v' w' h2 (grown_below hown hB h3) h3
theorem xor_top (u : Nat) (h : u < 18446744073709551616) : u ^^^ 9223372036854775808 = (u + 9223372036854775808) % 18446744073709551616 := by
  have hb : (9223372036854775808 : Nat) = 2 ^ 63 := by decide
  have h1 : (u ^^^ 9223372036854775808) % 2 ^ 63 = u % 2 ^ 63 ^^^ 9223372036854775808 % 2 ^ 63 := Nat.xor_mod_two_pow ..
  have h2 : (u ^^^ 9223372036854775808) / 2 ^ 63 = u / 2 ^ 63 ^^^ 9223372036854775808 / 2 ^ 63 := Nat.xor_div_two_pow ..
  rw [show 9223372036854775808 % 2 ^ 63 = 0 by decide, Nat.xor_zero] at h1
  rw [show 9223372036854775808 / 2 ^ 63 = 1 by decide] at h2
  have h3 : u / 2 ^ 63 = 0 ∨ u / 2 ^ 63 = 1 := by rw [← hb]; omega
  rcases h3 with h3 | h3 <;> rw [h3] at h2 <;> rw [← hb] at h1 h2 h3
  · rw [show 0 ^^^ 1 = 1 by decide] at h2
    omega
  · rw [show 1 ^^^ 1 = 0 by decide] at h2
    omega
theorem b_flip (n : Int) (hn : Wf n) : bits .xor .u64 (U n) 9223372036854775808 = n + 9223372036854775808 := by
  obtain ⟨h0, h1⟩ := U_bd n
  obtain ⟨m, hm⟩ : ∃ m : Nat, U n = m := ⟨(U n).toNat, by omega⟩
  rw [hm]
  have hlt : m < 2 ^ 64 := by omega
  unfold bits
  have e : BitVec.ofInt IntKind.u64.bits (m : Int) = BitVec.ofNat 64 m := by rw [BitVec.ofInt_natCast]; rfl
  have e2 : BitVec.ofInt IntKind.u64.bits 9223372036854775808 = BitVec.ofNat 64 9223372036854775808 := by
    show BitVec.ofInt 64 9223372036854775808 = BitVec.ofNat 64 9223372036854775808
    decide
  simp only [e, e2]
  show IntKind.u64.wrap ((BitVec.ofNat 64 m ^^^ BitVec.ofNat 64 9223372036854775808).toNat : Int) = _
  rw [BitVec.toNat_xor, BitVec.toNat_ofNat, BitVec.toNat_ofNat, Nat.mod_eq_of_lt hlt, show 9223372036854775808 % 2 ^ 64 = 9223372036854775808 by decide, xor_top m (by omega), wrap_u64]
  unfold Wf at hn
  unfold U at hm
  omega
/-- What follows the kind. -/
def encP (k n : Int) (s : ByteArray) : List Int := if k = 1 then b8 (n + 9223372036854775808) else if k = 5 then bytesF n else if k = 4 then [n] else esc (byt s)
def encV (k n : Int) (s : ByteArray) : List Int := if rightV k n s = true then k :: encP k n s else []
theorem right_kinds {k n : Int} {s : ByteArray} (h : rightV k n s = true) : (k = 1 ∧ s.size = 0) ∨ (k = 4 ∧ s.size = 0 ∧ (n = 0 ∨ n = 1)) ∨ (k = 5 ∧ s.size = 0 ∧ rightU (U n) = true) ∨ (k = 2 ∧ n = 0 ∧ s.size ≤ 32) ∨ (k = 3 ∧ n = 0 ∧ s.size ≤ 32 ∧ Lib.validD s.data.toList = true) := by
  have he : ∀ s : ByteArray, s.toList.isEmpty = true → s.size = 0 := fun s h => by
    rw [ByteArray.toList_eq, List.isEmpty_iff] at h
    have := congrArg List.length h
    rw [Array.length_toList] at this
    exact this
  unfold rightV at h
  rcases kinds k with rfl | rfl | rfl | rfl | rfl | ⟨h1, h2, h3, h4, h5⟩
  · exact Or.inl ⟨rfl, he s h⟩
  · rw [if_neg (by decide), if_pos rfl, Bool.and_eq_true, Bool.or_eq_true, beq_iff_eq, beq_iff_eq] at h
    exact Or.inr (Or.inl ⟨rfl, he s h.1, h.2⟩)
  · rw [if_neg (by decide), if_neg (by decide), if_pos rfl, Bool.and_eq_true] at h
    exact Or.inr (Or.inr (Or.inl ⟨rfl, he s h.1, h.2⟩))
  · rw [if_neg (by decide), if_neg (by decide), if_neg (by decide), if_pos rfl, Bool.and_eq_true, beq_iff_eq, decide_eq_true_eq] at h
    exact Or.inr (Or.inr (Or.inr (Or.inl ⟨rfl, h.1, h.2⟩)))
  · rw [if_neg (by decide), if_neg (by decide), if_neg (by decide), if_neg (by decide), if_pos rfl, Bool.and_eq_true, Bool.and_eq_true, beq_iff_eq, decide_eq_true_eq] at h
    exact Or.inr (Or.inr (Or.inr (Or.inr ⟨rfl, h.1.1, h.1.2, h.2⟩)))
  · rw [if_neg h1, if_neg h2, if_neg h3, if_neg h4, if_neg h5] at h
    cases h
set_option maxHeartbeats 4000000 in
set_option maxRecDepth 100000 in
theorem c_plain (k n : Int) (s : ByteArray) (hn : Wf n) (hr : rightV k n s = true) (w : World) (hg : Gv w) :
    Calls Tryz.prog 25 #[vv k n s] w fun e w' => ∃ v, e = .returned v ∧ HasB w' v (encP k n s) ∧ Below w.heap.size w w' := by
  have hbx := (Below.refl w.heap.size w).alloc (Nat.le_refl _) (.cells #[.int .i64 k, .int .i64 n, .string s] 23)
  have HG := Lib.hid (hg.below hbx)
  have HB := Lib.hid hbx
  clear hbx hg
  unfold vv
  rcases right_kinds hr with ⟨rfl, h⟩ | ⟨rfl, h, h2⟩ | ⟨rfl, h, h2⟩ | ⟨rfl, rfl, h⟩ | ⟨rfl, rfl, h, h2⟩
  · have hf := b_flip n hn
    have hu := wrap_U n
    have C1 := Lib.hid (c_eight (n + 9223372036854775808) (by unfold Wf at hn; omega) (by unfold Wf at hn; omega))
    have HE := Lib.hid (show encP 1 n s = b8 (n + 9223372036854775808) from rfl)
    generalize U n = u at hf hu
    clear hn hr h
    go_enter Tryz.func25, Tryz.ntmps25
    go_wp2_with (go_at_call 53; ((refine (C1.out _).mono ?_); rintro e w' ⟨v, rfl, hv, hb⟩; have HV := Lib.hid hv; have HB2 := Lib.hid (HB.out.trans (hb.mono HB.out.size)); clear hv hb))
    go_ret
    exact ⟨_, rfl, by rw [HE.out]; exact HV.out, HB2.out⟩
  · clear hr hn
    have HE := Lib.hid (show encP 4 n s = [n] from rfl)
    have hw : IntKind.u8.wrap n = n := by rcases h2 with rfl | rfl <;> decide
    clear h2
    go_enter Tryz.func25, Tryz.ntmps25
    go_wp2
    go_ret
    refine ⟨_, rfl, ?_, HB.out.alloc HB.out.size _⟩
    rw [HE.out]
    exact HasB.block (l := [n]) (box_a w _ _).2 (by show 1 ≤ 1; omega)
  · have C1 := Lib.hid (c_bytes n)
    have HE := Lib.hid (show encP 5 n s = bytesF n from rfl)
    clear hn hr h
    go_enter Tryz.func25, Tryz.ntmps25
    go_wp2_with (go_at_call 54; ((refine (C1.out _).mono ?_); rintro e w' ⟨v, rfl, hv, hb⟩; have HV := Lib.hid hv; have HB2 := Lib.hid (HB.out.trans (hb.mono HB.out.size)); clear hv hb))
    go_ret
    exact ⟨_, rfl, by rw [HE.out]; exact HV.out, HB2.out⟩
  · have C1 := Lib.hid (c_escaped s (by omega))
    have HE := Lib.hid (show encP 2 0 s = esc (byt s) from rfl)
    clear hn hr h
    go_enter Tryz.func25, Tryz.ntmps25
    go_wp2_with (go_at_call 55; ((refine (C1.out _ HG.out).mono ?_); rintro e w' ⟨v, rfl, hv, hb⟩; have HV := Lib.hid hv; have HB2 := Lib.hid (HB.out.trans (hb.mono HB.out.size)); clear hv hb))
    go_ret
    exact ⟨_, rfl, by rw [HE.out]; exact HV.out, HB2.out⟩
  · have C1 := Lib.hid (c_escaped s (by omega))
    have HE := Lib.hid (show encP 3 0 s = esc (byt s) from rfl)
    clear hn hr h
    go_enter Tryz.func25, Tryz.ntmps25
    go_wp2_with (go_at_call 55; ((refine (C1.out _ HG.out).mono ?_); rintro e w' ⟨v, rfl, hv, hb⟩; have HV := Lib.hid hv; have HB2 := Lib.hid (HB.out.trans (hb.mono HB.out.size)); clear hv hb))
    go_ret
    exact ⟨_, rfl, by rw [HE.out]; exact HV.out, HB2.out⟩
theorem cells_on {w1 w2 : World} {B : Nat} {a0 a1 a2 : Value} (hb : Below w1.heap.size w1 w2) (h : w1.cell? ⟨B, 0, none⟩ = some a0 ∧ w1.cell? ⟨B, 1, none⟩ = some a1 ∧ w1.cell? ⟨B, 2, none⟩ = some a2) : w2.cell? ⟨B, 0, none⟩ = some a0 ∧ w2.cell? ⟨B, 1, none⟩ = some a1 ∧ w2.cell? ⟨B, 2, none⟩ = some a2 :=
  ⟨(hb.cell (World.block_lt_of_cell? w1 _ h.1)).trans h.1, (hb.cell (World.block_lt_of_cell? w1 _ h.2.1)).trans h.2.1, (hb.cell (World.block_lt_of_cell? w1 _ h.2.2)).trans h.2.2⟩
theorem encP_len (k n : Int) (s : ByteArray) (h : rightV k n s = true) : 1 ≤ (encP k n s).length ∧ (encP k n s).length ≤ 2000002 := by
  rcases right_kinds h with ⟨rfl, h⟩ | ⟨rfl, h, h2⟩ | ⟨rfl, h, h2⟩ | ⟨rfl, rfl, h⟩ | ⟨rfl, rfl, h, h2⟩
  · exact ⟨by show 1 ≤ 8; omega, by show 8 ≤ _; omega⟩
  · exact ⟨by show 1 ≤ 1; omega, by show 1 ≤ _; omega⟩
  · have : encP 5 n s = b8 (rankU (U n)) := by show bytesF n = _; unfold bytesF; rw [if_pos h2]
    rw [this]
    exact ⟨by show 1 ≤ 8; omega, by show 8 ≤ _; omega⟩
  · have := esc_len s (by omega)
    exact ⟨by show 1 ≤ (esc (byt s)).length; omega, by show (esc (byt s)).length ≤ _; omega⟩
  · have := esc_len s (by omega)
    exact ⟨by show 1 ≤ (esc (byt s)).length; omega, by show (esc (byt s)).length ≤ _; omega⟩
set_option maxHeartbeats 4000000 in
set_option maxRecDepth 100000 in
theorem c_vencode (k n : Int) (s : ByteArray) (hn : Wf n) (hs : s.size ≤ 140737488351232) (w : World) (hg : Gv w) :
    Calls Tryz.prog 11 #[vv k n s] w fun e w' => ∃ v, e = .returned (.tuple #[v, .bool (rightV k n s)]) ∧ HasB w' v (encV k n s) ∧ Below w.heap.size w w' := by
  have hbx := (Below.refl w.heap.size w).alloc (Nat.le_refl _) (.cells #[.int .i64 k, .int .i64 n, .string s] 23)
  have HG := Lib.hid (hg.below hbx)
  have HB := Lib.hid hbx
  clear hbx hg
  cases hr : rightV k n s with
  | false =>
    have HE := Lib.hid (show encV k n s = [] by unfold encV; rw [if_neg (by rw [hr]; decide)])
    have C1 := Lib.hid (fun W hg => c_vright k n s hn (by omega) false hr W hg)
    unfold vv at C1 ⊢
    clear hr
    go_enter Tryz.func11, Tryz.ntmps11
    go_wp2_with (go_at_call 13; ((refine (C1.out _ HG.out).mono ?_); rintro e w' ⟨rfl, hb⟩; have HB2 := Lib.hid (HB.out.trans (hb.mono HB.out.size)); clear hb))
    go_ret2
    exact ⟨_, rfl, by rw [HE.out]; exact HasB.nil _, HB2.out⟩
  | true =>
    have HE := Lib.hid (show encV k n s = [k] ++ encP k n s by unfold encV; rw [if_pos hr]; rfl)
    have hkk : IntKind.u8.wrap k = k := by rcases right_kinds hr with ⟨rfl, _⟩ | ⟨rfl, _⟩ | ⟨rfl, _⟩ | ⟨rfl, _⟩ | ⟨rfl, _⟩ <;> decide
    have HL := Lib.hid (encP_len k n s hr)
    have C1 := Lib.hid (fun W hg => c_vright k n s hn (by omega) true hr W hg)
    have C2 := Lib.hid (fun W hg => c_plain k n s hn hr W hg)
    unfold vv at C1 C2 ⊢
    clear hr
    go_enter Tryz.func11, Tryz.ntmps11
    go_wp2_with (go_at_call 13; ((refine (C1.out _ HG.out).mono ?_); rintro e w1 ⟨rfl, hb⟩; have HB1 := Lib.hid (HB.out.trans (hb.mono HB.out.size)); have HBX := Lib.hid ((hb.block w.heap.size (by simp)).trans (heap_alloc_new w _)); have HG1 := Lib.hid (HG.out.below hb); clear hb))
    have hc := cells3 HBX.out
    have HC := Lib.hid hc
    go_region_held3 (fun W => W.cell? ⟨w.heap.size, 0, none⟩ = some (.int .i64 k) ∧ W.cell? ⟨w.heap.size, 1, none⟩ = some (.int .i64 n) ∧ W.cell? ⟨w.heap.size, 2, none⟩ = some (.string s)) (first | exact HC.out | exact hc2 | go_keep) (first | (go_at_call 25; ((refine (C2.out _ (HG1.out.below (by first | exact (Below.refl _ _).drew | exact (Below.refl _ _).drew.alloc (Nat.le_refl _) _))).mono ?_); rintro e w2 ⟨v, rfl, hv, hb⟩; have HV := Lib.hid hv; have HB2 : Hid (Below w1.heap.size w1 w2) := Lib.hid (by first | exact (Below.refl _ w1).drew.trans hb | exact ((Below.refl _ w1).drew.alloc (Nat.le_refl _) _).trans (hb.mono (by simp))); have HOB := Lib.hid hb; have hc2 := cells_on HB2.out HC.out; clear hv hb)) | (refine step_append_b rfl (.tmp 10) (.tmp 12) rfl w1.heap.size _ _ [k] (encP k n s) rfl rfl ?o1 ?s1 ?l1 ?b1 ?_; (case o1 => first | exact ((OwnB.row w1 [k] w1.heap.size (Nat.le_refl _) (by simp)).drew.below HOB.out) | exact OwnB.row w2 [k] w1.heap.size HB2.out.size (by simp)); (case s1 => first | exact HV.out.src HL.out.1 | exact (HV.out.below ((Below.refl _ _).alloc (Nat.le_refl _) _)).src HL.out.1); (case l1 => have := HL.out.2; show 1 + _ ≤ _; omega); (case b1 => have := HB2.out.size; simp; omega); intro v3 w3 ho hb3 hg3; have HO3 := Lib.hid ho; have HB3 : Hid (Below w1.heap.size w1 w3) := Lib.hid (by first | exact HB2.out.trans hb3 | exact (HB2.out.alloc HB2.out.size _).trans hb3); have hc3 := cells_on HB3.out HC.out; clear ho hb3 hg3))
    all_goals (go_wp2; go_ret2; exact ⟨_, rfl, by rw [HE.out]; exact HO3.out.has, HB1.out.trans (HB3.out.mono HB1.out.size)⟩)
end Go.Proofs.YtikpmlginojnhaaGreatDoor.Fl
