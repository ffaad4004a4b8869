import Derived.Test.YthbgjaboghnpjaaQx0
import Derived.Test.YthbgjaboghnpjaaQx5
-- Written by a program of this session, out of Lean's print of the loaded program (a patched copy of the kit's print).
namespace Go.Proofs.Ythbgjaboghnpjaa.Q
open Go.RowKit Go.Proofs.YthbgjaboghnpjaaW.PrintWords Go.Proofs.YthbgjaboghnpjaaW.PrintLast Go.Proofs.YthbgjaboghnpjaaW.PrintMore
attribute [local go_sem] max2_int min2_int max_two min_two max_three min_three max_four min_four   -- for this text's walks alone
set_option linter.unusedVariables false
set_option linter.unusedSimpArgs false

/-! ### filter_Right: function 12 -/
/-- no letter a..z and no digit -/
def isOther (c : Int) : Bool := (decide (c < 97) || decide (c > 122)) && (decide (c < 48) || decide (c > 57))
theorem isOther_high (c : Int) (h : 128 ≤ c) : isOther c = true := by
  have h1 : decide (c > 122) = true := decide_eq_true (by omega)
  have h2 : decide (c > 57) = true := decide_eq_true (by omega)
  unfold isOther
  rw [h1, h2]
  simp
set_option maxHeartbeats 2000000 in
set_option maxRecDepth 100000 in
theorem filter_other (c : Int) (w : World) : Calls Try.prog 42 #[.int .i32 c] w fun e w' => e = .returned (.bool (isOther c)) ∧ Drawn0 w w' := by
  cases q1 : decide (c < 97) <;> cases q2 : decide (c > 122) <;> cases q3 : decide (c < 48) <;> cases q4 : decide (c > 57) <;>
  · have hr : isOther c = isOther c := rfl
    conv at hr => rhs; unfold isOther; rw [q1, q2, q3, q4]
    have R := Aside0.mk hr
    clear hr
    go_enter Try.func42, Try.ntmps42
    go_wp2
    go_ret
    refine ⟨by rw [R.out]; simp_all, ?_⟩
    repeat (first | exact Drawn0.refl _ | refine Drawn0.step ?_ _)
/-- all bytes from so many on are letters or digits -/
def okFrom : Nat → Nat → ByteArray → Bool
  | 0, _, _ => true
  | g + 1, p, s => if p < s.size then (!isOther ((s.data.getD p 0).toNat : Int)) && okFrom g (p + 1) s else true
def okName (s : ByteArray) : Bool := okFrom s.size 0 s
theorem okFrom_end (g p : Nat) (s : ByteArray) (h : ¬ p < s.size) : okFrom g p s = true := by cases g <;> simp [okFrom, h]
theorem okFrom_one (g p : Nat) (s : ByteArray) (h : p < s.size) : okFrom (g + 1) p s = ((!isOther ((s.data.getD p 0).toNat : Int)) && okFrom g (p + 1) s) := by simp [okFrom, h]
theorem byte_getD (s : ByteArray) (p : Nat) (h : p < s.size) : s.data.getD p 0 = s[p]'h := by
  have : p < s.data.size := h
  simp only [Array.getD, this, dif_pos]
  rfl
theorem okFrom_step (g p : Nat) (s : ByteArray) (h : p < s.size) : okFrom (g + 1) p s = ((!isOther ((Utf8.decode s p).1 : Int)) && okFrom g (p + (Utf8.decode s p).2) s) := by
  rw [okFrom_one g p s h, byte_getD s p h]
  by_cases ha : (s[p]'h).toNat < 128
  · rw [decode_ascii s p h ha]
  · have h2 := (decode_high s p h (by omega)).1
    rw [isOther_high _ (by omega), isOther_high _ (by omega)]
    rfl
set_option maxHeartbeats 2000000 in
set_option maxRecDepth 100000 in
theorem filter_idx (s : ByteArray) (w : World) : Calls Try.prog 50 #[.string s, .func (.func 42) #[] #[], .bool true] w fun e w' => ∃ i : Int, e = .returned (.int .i64 i) ∧ -1 ≤ i ∧ decide (0 ≤ i) = !(okName s) ∧ Below w.heap.size w w' := by
  go_enter Try.func50, Try.ntmps50
  go_wp2
  go_loopg [] s.size (fun gf wx => ∃ pos : Nat, wx.heap[w.heap.size]? = some (.stringIter s pos) ∧ Below w.heap.size w wx ∧ okFrom gf pos s = okName s ∧ s.size ≤ pos + gf)
  case atStart => exact ⟨0, World.iter_heap w s 0, (Below.refl _ w).alloc (Nat.le_refl _) _, rfl, by omega⟩
  case round =>
    obtain ⟨pos, hit, hbw, hleft, hfu⟩ := hrel
    by_cases hps : pos < s.size
    · obtain ⟨g', rfl⟩ : ∃ g', gk = g' + 1 := ⟨gk - 1, by omega⟩
      have hnx : ∀ ty, (Instr.next (.pointer (some ⟨w.heap.size, 0, none⟩)) true ty).run Try.prog wr = _ := fun ty => Lib.run_next_any_at wr w.heap.size s pos ty hit hps
      have hwd := Lib.width_pos s pos
      rw [okFrom_step g' pos s hps] at hleft
      obtain ⟨R, hR⟩ : ∃ R, (Utf8.decode s pos).1 = R := ⟨_, rfl⟩
      obtain ⟨K, hK⟩ : ∃ K, (Utf8.decode s pos).2 = K := ⟨_, rfl⟩
      rw [hR, hK] at hleft
      rw [hR, hK] at hnx
      rw [hK] at hwd
      have hit2 := Lib.iterAt_heap wr w.heap.size s pos (pos + K) hit
      have hbw2 := Lib.below_iterAt hbw (k := w.heap.size) (Nat.le_refl _) s (pos + K)
      obtain ⟨W, hWd⟩ : ∃ W, wr.iterAt w.heap.size s (pos + K) = W := ⟨_, rfl⟩
      rw [hWd] at hnx hit2 hbw2
      have cS := filter_other (R : Int) W
      cases hsp : isOther (R : Int) <;> rw [hsp] at cS hleft
      · go_wp2_with (go_at_call 42; refine cS.mono ?_; rintro e W' ⟨rfl, q, rfl⟩)
        go_roundg g'
        case measure => omega
        case rel => exact ⟨pos + K, hit2, pw_below_drewN hbw2 q, by simpa using hleft, by omega⟩
      · go_wp2_with (go_at_call 42; refine cS.mono ?_; rintro e W' ⟨rfl, q, rfl⟩)
        go_ret
        exact ⟨pos, rfl, by omega, by rw [← hleft]; simp, pw_below_drewN hbw2 q⟩
    · have hnx : ∀ ty, (Instr.next (.pointer (some ⟨w.heap.size, 0, none⟩)) true ty).run Try.prog wr = _ := fun ty => Lib.run_next_end_at wr w.heap.size s pos ty hit hps
      rw [okFrom_end gk pos s hps] at hleft
      have HL := Aside0.mk hleft
      clear hleft
      go_wp2
      go_ret
      exact ⟨-1, rfl, by omega, by rw [← HL.out]; rfl, hbw⟩
set_option maxHeartbeats 2000000 in
set_option maxRecDepth 100000 in
theorem filter_idx2 (s : ByteArray) (w : World) : Calls Try.prog 47 #[.string s, .func (.func 42) #[] #[]] w fun e w' => ∃ i : Int, e = .returned (.int .i64 i) ∧ -1 ≤ i ∧ decide (0 ≤ i) = !(okName s) ∧ Below w.heap.size w w' := by
  have H := Aside0.mk (filter_idx s w)
  go_enter Try.func47, Try.ntmps47
  go_wp2_with (go_at_call 50; refine H.out.mono ?_; rintro e w' ⟨i, rfl, h1, h2, hb⟩; have H2 := Aside0.mk h2; have HB := Aside0.mk hb; clear h2 hb)
  go_ret
  exact ⟨i, rfl, h1, H2.out, HB.out⟩
set_option maxHeartbeats 2000000 in
set_option maxRecDepth 100000 in
theorem filter_contains (s : ByteArray) (w : World) : Calls Try.prog 43 #[.string s, .func (.func 42) #[] #[]] w fun e w' => e = .returned (.bool (!(okName s))) ∧ Below w.heap.size w w' := by
  have H := Aside0.mk (filter_idx2 s w)
  go_enter Try.func43, Try.ntmps43
  go_wp2_with (go_at_call 47; refine H.out.mono ?_; rintro e w' ⟨i, rfl, h1, h2, hb⟩; have H2 := Aside0.mk h2; have HB := Aside0.mk hb; clear h2 hb)
  go_ret
  exact ⟨by rw [← H2.out]; rfl, by first | exact HB.out | exact pw_below_drewN HB.out _⟩
/-- a family's name -/
def nameOk (s : ByteArray) : Bool := (!(s.toList.isEmpty)) && (decide ((s.size : Int) ≤ 8) && okName s)
set_option maxHeartbeats 2000000 in
set_option maxRecDepth 100000 in
theorem filter_name (s : ByteArray) (w : World) : Calls Try.prog 32 #[.string s] w fun e w' => e = .returned (.bool (nameOk s)) ∧ Below w.heap.size w w' := by
  have H := fun w1 => filter_contains s w1
  by_cases n1 : s.toList = [] <;> by_cases n2 : (s.size : Int) ≤ 8 <;>
  · have HW := Aside0.mk (Below.refl w.heap.size w)
    go_enter Try.func32, Try.ntmps32
    go_wp2_with (go_at_call 43; refine (H _).mono ?_; rintro e w' ⟨rfl, hb⟩; have HB := Aside0.mk hb; clear hb)
    go_ret
    refine ⟨by unfold nameOk; first | (simp [n1, n2]; done) | (simp [n1]; intro h; omega), ?_⟩
    first | exact HB.out | exact pw_below_drewN HB.out _ | exact HW.out | exact pw_below_drewN HW.out _
set_option maxHeartbeats 2000000 in
set_option maxRecDepth 100000 in
theorem filter_bad (s : ByteArray) (w : World) : Calls Try.prog 31 #[.string s] w fun e w' => e = .returned (.bool (!(nameOk s))) ∧ Below w.heap.size w w' := by
  have H := fun w1 => filter_name s w1
  go_enter Try.func31, Try.ntmps31
  go_wp2_with (go_at_call 32; refine (H _).mono ?_; rintro e w' ⟨rfl, hb⟩; have HB := Aside0.mk hb; clear hb)
  go_ret
  exact ⟨rfl, by first | exact HB.out | exact pw_below_drewN HB.out _⟩
/-- are all of them names? -/
def allNames (l : List ByteArray) : Bool := l.all nameOk
theorem allNames_take (l : List ByteArray) (k : Nat) (hk : k < l.length) : allNames (l.take (k + 1)) = (allNames (l.take k) && nameOk (rdOf ByteArray.empty l k)) := by
  unfold allNames rdOf
  rw [List.take_succ_eq_append_getElem hk, List.all_append]
  simp [List.getD_eq_getElem?_getD, List.getElem?_eq_getElem hk]
theorem allNames_of_take (l : List ByteArray) (k : Nat) (h : allNames (l.take k) = false) : allNames l = false := by
  unfold allNames at *
  rw [List.all_eq_false] at *
  obtain ⟨x, hx, h⟩ := h
  exact ⟨x, List.mem_of_mem_take hx, h⟩
set_option maxHeartbeats 2000000 in
set_option maxRecDepth 100000 in
theorem filter_index (A0 : Option Addr) (c0 : Nat) (l0 : List ByteArray) (w : World) (hr0 : Kd.C Kd.string w A0 l0.length l0) :
    Calls Try.prog 41 #[.slice A0 l0.length c0, .func (.func 31) #[] #[]] w fun e w' => ∃ i : Int, e = .returned (.int .i64 i) ∧ -1 ≤ i ∧ decide (0 ≤ i) = !(allNames l0) ∧ Below w.heap.size w w' := by
  have HR0 := Aside0.mk hr0
  have hbig : l0.length ≤ 9223372036854775807 := hr0.2.1
  have HW := Aside0.mk (Below.refl w.heap.size w)
  clear hr0
  go_enter Try.func41, Try.ntmps41
  go_wp2
  go_loopg [5, 8] l0.length (fun gg _ s8 wr => ∃ kk : Nat, kk ≤ l0.length ∧ l0.length - kk ≤ gg ∧ s8 = .int .i64 kk ∧ Below w.heap.size w wr ∧ Aside0 (allNames (l0.take kk) = true))
  case atStart => exact ⟨0, Nat.zero_le _, by omega, rfl, by first | exact HW.out | exact pw_below_drewN HW.out _, ⟨by simp [allNames]⟩⟩
  case round =>
    obtain ⟨kk, hkk, hg, rfl, hbw, A⟩ := hrel
    have HB := Aside0.mk hbw
    clear hbw
    by_cases hlt : kk < l0.length
    · have hltz : (kk : Int) < (l0.length : Int) := by omega
      obtain ⟨ad, e, hx⟩ := Kd.at_string (Kd.C_below HR0.out HB.out) kk (by omega) hltz
      cases e
      have ht := Aside0.mk (allNames_take l0 kk hlt)
      have hl := Aside0.mk (allNames_of_take l0 (kk + 1))
      rw [Int.toNat_natCast] at hx
      generalize hy : rdOf ByteArray.empty l0 kk = y at hx ht
      have B := Aside0.mk hy
      clear hy
      have hcall := fun w1 => filter_bad y w1
      cases hq : nameOk y with
      | false =>
        rw [hq] at hcall
        have HQ := Aside0.mk hq
        clear hq
        go_wp2_with (go_at_call 31; refine (hcall _).mono ?_; rintro e w' ⟨rfl, hb⟩; have HB2 := Aside0.mk (below_then HB.out (below_size HB.out) hb); clear hb)
        go_ret
        exact ⟨kk, rfl, by omega, by rw [hl.out (by rw [ht.out, HQ.out]; simp)]; simp, by first | exact HB2.out | exact pw_below_drewN HB2.out _⟩
      | true =>
        rw [hq] at hcall
        have HQ := Aside0.mk hq
        clear hq
        go_wp2_with (go_at_call 31; refine (hcall _).mono ?_; rintro e w' ⟨rfl, hb⟩; have HB2 := Aside0.mk (below_then HB.out (below_size HB.out) hb); clear hb)
        go_roundg (l0.length - (kk + 1))
        case measure => omega
        case rel =>
          exact ⟨kk + 1, by omega, by omega, by go_num, by first | exact HB2.out | exact pw_below_drewN HB2.out _, ⟨by rw [ht.out, A.out, HQ.out]; rfl⟩⟩
    · have hltz : ¬ (kk : Int) < (l0.length : Int) := by omega
      have : kk = l0.length := by omega
      subst this
      go_wp2
      go_ret
      exact ⟨-1, rfl, by omega, by have := A.out; rw [List.take_length] at this; rw [this]; rfl, by first | exact HB.out | exact pw_below_drewN HB.out _⟩
set_option maxHeartbeats 2000000 in
set_option maxRecDepth 100000 in
theorem filter_badNames (A0 : Option Addr) (c0 : Nat) (l0 : List ByteArray) (w : World) (hr0 : Kd.C Kd.string w A0 l0.length l0) :
    Calls Try.prog 30 #[.slice A0 l0.length c0, .func (.func 31) #[] #[]] w fun e w' => e = .returned (.bool (!(allNames l0))) ∧ Below w.heap.size w w' := by
  have H := Aside0.mk (filter_index A0 c0 l0 w hr0)
  clear hr0
  go_enter Try.func30, Try.ntmps30
  go_wp2_with (go_at_call 41; refine H.out.mono ?_; rintro e w' ⟨i, rfl, h1, h2, hb⟩; have H2 := Aside0.mk h2; have HB := Aside0.mk hb; clear h2 hb)
  go_ret
  exact ⟨by rw [← H2.out]; rfl, by first | exact HB.out | exact pw_below_drewN HB.out _⟩
def inR (a b : Int) : Bool := decide (0 ≤ a) && decide (a ≤ b)
theorem within_calls (a b : Int) (w : World) : Calls Try.prog 33 #[.int .i64 a, .int .i64 b] w fun e w' => e = .returned (.bool (inR a b)) ∧ Drawn0 w w' := by
  refine filter_within.calls a b (inR a b) w ?_
  unfold filter_within.f inR
  by_cases h : a ≥ 0
  · rw [if_pos h]; simp [h]
  · rw [if_neg h]; simp [h]
def rightB (l0_0 : List ByteArray) (a0_1 : ByteArray) (a0_2 : ByteArray) (a0_3 : Int) (a0_4 : Int) (a0_5 : Int) (a0_6 : Int) : Bool :=
  (decide ((l0_0.length : Int) ≤ 6) && allNames l0_0) && (decide ((a0_1.size : Int) ≤ 12) && (decide ((a0_2.size : Int) ≤ 12) && (inR a0_3 1099511627776 && (inR a0_4 1099511627776 && (inR a0_5 8 && inR a0_6 1000)))))
def filter_Right.f (l0_0 : List ByteArray) (a0_1 : ByteArray) (a0_2 : ByteArray) (a0_3 : Int) (a0_4 : Int) (a0_5 : Int) (a0_6 : Int) : Option Bool := some (rightB l0_0 a0_1 a0_2 a0_3 a0_4 a0_5 a0_6)
set_option maxHeartbeats 8000000 in
set_option maxRecDepth 100000 in
theorem filter_Right.calls (A0_0 : Option Addr) (c0_0 : Nat) (l0_0 : List ByteArray) (a0_1 : ByteArray) (a0_2 : ByteArray) (a0_3 : Int) (a0_4 : Int) (a0_5 : Int) (a0_6 : Int) (r : Bool) (w : World) (hr0_0 : Kd.C Kd.string w A0_0 l0_0.length l0_0) (hc0_0 : l0_0.length ≤ c0_0) (h : filter_Right.f l0_0 a0_1 a0_2 a0_3 a0_4 a0_5 a0_6 = some r) :
    Calls Try.prog 12 #[.agg #[.slice A0_0 l0_0.length c0_0, .string a0_1, .string a0_2, .int .i64 a0_3, .int .i64 a0_4, .int .i64 a0_5, .int .i64 a0_6]] w fun e w' => e = .returned (.bool r) ∧ Below w.heap.size w w' := by
  have hu24 := Try.underlying24
  obtain rfl := Option.some.inj h
  clear h hc0_0
  have HR0 := Aside0.mk hr0_0
  clear hr0_0
  have HB := Aside0.mk (Below.refl w.heap.size w)
  have C30 : Aside0 (∀ w1, Below w.heap.size w w1 → Calls Try.prog 30 #[.slice A0_0 l0_0.length c0_0, .func (.func 31) #[] #[]] w1 fun e w' => e = .returned (.bool (!(allNames l0_0))) ∧ Below w1.heap.size w1 w') := ⟨fun w1 hb => filter_badNames A0_0 c0_0 l0_0 w1 (Kd.C_below HR0.out hb)⟩
  have W3 := fun w1 => within_calls a0_3 1099511627776 w1
  have W4 := fun w1 => within_calls a0_4 1099511627776 w1
  have W5 := fun w1 => within_calls a0_5 8 w1
  have W6 := fun w1 => within_calls a0_6 1000 w1
  have RB : Aside0 (rightB l0_0 a0_1 a0_2 a0_3 a0_4 a0_5 a0_6 = ((decide ((l0_0.length : Int) ≤ 6) && allNames l0_0) && (decide ((a0_1.size : Int) ≤ 12) && (decide ((a0_2.size : Int) ≤ 12) && (inR a0_3 1099511627776 && (inR a0_4 1099511627776 && (inR a0_5 8 && inR a0_6 1000))))))) := ⟨rfl⟩
  generalize rightB l0_0 a0_1 a0_2 a0_3 a0_4 a0_5 a0_6 = r at RB
  generalize inR a0_3 1099511627776 = b3 at *
  generalize inR a0_4 1099511627776 = b4 at *
  generalize inR a0_5 8 = b5 at *
  generalize inR a0_6 1000 = b6 at *
  generalize allNames l0_0 = b0 at *
  by_cases n0 : (l0_0.length : Int) ≤ 6
  case neg =>
    have D0 := Aside0.mk (decide_eq_false n0)
    have m0 : (l0_0.length : Int) > 6 := by omega
    go_enter Try.func12, Try.ntmps12
    go_wp2_with (first | ((with_reducible refine gate_dst (N := 1) rfl ?_); refine box_event ?hg (N := 1) ?hd (cs := #[.slice A0_0 l0_0.length c0_0, .string a0_1, .string a0_2, .int .i64 a0_3, .int .i64 a0_4, .int .i64 a0_5, .int .i64 a0_6]) (t := 24) ?hr ?_; (case hd => rfl); (case hg => rfl); (case hr => first | (go_simp; done) | (go_simp; rfl)); intro gb hg w1 hbox hb; have n0_ := Aside0.mk (below_step (by repeat (first | (with_reducible first | exact HB.out | apply below_alloc | apply pw_below_drewN | apply below_drew1) | exact HB.out)) hb); clear HB; have HB := n0_; have BK := Aside0.mk hbox; clear n0_ hb hbox hg; have hcz0 : w1.cell? ⟨gb, 0, none⟩ = some (.slice A0_0 l0_0.length c0_0) := (blk_cell BK.out 0).trans rfl; have hcz1 : w1.cell? ⟨gb, 1, none⟩ = some (.string a0_1) := (blk_cell BK.out 1).trans rfl; have hcz2 : w1.cell? ⟨gb, 2, none⟩ = some (.string a0_2) := (blk_cell BK.out 2).trans rfl; have hcz3 : w1.cell? ⟨gb, 3, none⟩ = some (.int .i64 a0_3) := (blk_cell BK.out 3).trans rfl; have hcz4 : w1.cell? ⟨gb, 4, none⟩ = some (.int .i64 a0_4) := (blk_cell BK.out 4).trans rfl; have hcz5 : w1.cell? ⟨gb, 5, none⟩ = some (.int .i64 a0_5) := (blk_cell BK.out 5).trans rfl; have hcz6 : w1.cell? ⟨gb, 6, none⟩ = some (.int .i64 a0_6) := (blk_cell BK.out 6).trans rfl) | (go_at_call 30; refine (C30.out _ (by repeat (first | (with_reducible first | exact HB.out | apply below_alloc | apply pw_below_drewN | apply below_drew1) | exact HB.out))).mono ?_; rintro e w' ⟨rfl, hb⟩; have n_ := Aside0.mk (below_then (by repeat (first | (with_reducible first | exact HB.out | apply below_alloc | apply pw_below_drewN | apply below_drew1) | exact HB.out)) (below_size (by repeat (first | (with_reducible first | exact HB.out | apply below_alloc | apply pw_below_drewN | apply below_drew1) | exact HB.out))) hb); have n1_ := Aside0.mk (blk_below (by (with_reducible repeat (first | refine blk_drewN ?_ _ | refine blk_drew ?_ | refine blk_alloc ?_ _)); exact BK.out) hb); clear HB BK hb; have HB := n_; have BK := n1_; clear n_ n1_; have hcy0 : w'.cell? ⟨gb, 0, none⟩ = some (.slice A0_0 l0_0.length c0_0) := (blk_cell BK.out 0).trans rfl; have hcy1 : w'.cell? ⟨gb, 1, none⟩ = some (.string a0_1) := (blk_cell BK.out 1).trans rfl; have hcy2 : w'.cell? ⟨gb, 2, none⟩ = some (.string a0_2) := (blk_cell BK.out 2).trans rfl; have hcy3 : w'.cell? ⟨gb, 3, none⟩ = some (.int .i64 a0_3) := (blk_cell BK.out 3).trans rfl; have hcy4 : w'.cell? ⟨gb, 4, none⟩ = some (.int .i64 a0_4) := (blk_cell BK.out 4).trans rfl; have hcy5 : w'.cell? ⟨gb, 5, none⟩ = some (.int .i64 a0_5) := (blk_cell BK.out 5).trans rfl; have hcy6 : w'.cell? ⟨gb, 6, none⟩ = some (.int .i64 a0_6) := (blk_cell BK.out 6).trans rfl) | (go_at_call 33; (first | (with_reducible refine (W3 _).mono ?_) | (with_reducible refine (W4 _).mono ?_) | (with_reducible refine (W5 _).mono ?_) | (with_reducible refine (W6 _).mono ?_)); rintro e w' ⟨rfl, m_, rfl⟩))
    go_ret
    exact ⟨by rw [RB.out, D0.out]; simp, (by repeat (first | (with_reducible first | exact HB.out | apply below_alloc | apply pw_below_drewN | apply below_drew1) | exact HB.out))⟩
  have m0 : ¬ (l0_0.length : Int) > 6 := by omega
  have D0 := Aside0.mk (decide_eq_true n0)
  cases b0
  case false =>
    go_enter Try.func12, Try.ntmps12
    go_wp2_with (first | ((with_reducible refine gate_dst (N := 1) rfl ?_); refine box_event ?hg (N := 1) ?hd (cs := #[.slice A0_0 l0_0.length c0_0, .string a0_1, .string a0_2, .int .i64 a0_3, .int .i64 a0_4, .int .i64 a0_5, .int .i64 a0_6]) (t := 24) ?hr ?_; (case hd => rfl); (case hg => rfl); (case hr => first | (go_simp; done) | (go_simp; rfl)); intro gb hg w1 hbox hb; have n0_ := Aside0.mk (below_step (by repeat (first | (with_reducible first | exact HB.out | apply below_alloc | apply pw_below_drewN | apply below_drew1) | exact HB.out)) hb); clear HB; have HB := n0_; have BK := Aside0.mk hbox; clear n0_ hb hbox hg; have hcz0 : w1.cell? ⟨gb, 0, none⟩ = some (.slice A0_0 l0_0.length c0_0) := (blk_cell BK.out 0).trans rfl; have hcz1 : w1.cell? ⟨gb, 1, none⟩ = some (.string a0_1) := (blk_cell BK.out 1).trans rfl; have hcz2 : w1.cell? ⟨gb, 2, none⟩ = some (.string a0_2) := (blk_cell BK.out 2).trans rfl; have hcz3 : w1.cell? ⟨gb, 3, none⟩ = some (.int .i64 a0_3) := (blk_cell BK.out 3).trans rfl; have hcz4 : w1.cell? ⟨gb, 4, none⟩ = some (.int .i64 a0_4) := (blk_cell BK.out 4).trans rfl; have hcz5 : w1.cell? ⟨gb, 5, none⟩ = some (.int .i64 a0_5) := (blk_cell BK.out 5).trans rfl; have hcz6 : w1.cell? ⟨gb, 6, none⟩ = some (.int .i64 a0_6) := (blk_cell BK.out 6).trans rfl) | (go_at_call 30; refine (C30.out _ (by repeat (first | (with_reducible first | exact HB.out | apply below_alloc | apply pw_below_drewN | apply below_drew1) | exact HB.out))).mono ?_; rintro e w' ⟨rfl, hb⟩; have n_ := Aside0.mk (below_then (by repeat (first | (with_reducible first | exact HB.out | apply below_alloc | apply pw_below_drewN | apply below_drew1) | exact HB.out)) (below_size (by repeat (first | (with_reducible first | exact HB.out | apply below_alloc | apply pw_below_drewN | apply below_drew1) | exact HB.out))) hb); have n1_ := Aside0.mk (blk_below (by (with_reducible repeat (first | refine blk_drewN ?_ _ | refine blk_drew ?_ | refine blk_alloc ?_ _)); exact BK.out) hb); clear HB BK hb; have HB := n_; have BK := n1_; clear n_ n1_; have hcy0 : w'.cell? ⟨gb, 0, none⟩ = some (.slice A0_0 l0_0.length c0_0) := (blk_cell BK.out 0).trans rfl; have hcy1 : w'.cell? ⟨gb, 1, none⟩ = some (.string a0_1) := (blk_cell BK.out 1).trans rfl; have hcy2 : w'.cell? ⟨gb, 2, none⟩ = some (.string a0_2) := (blk_cell BK.out 2).trans rfl; have hcy3 : w'.cell? ⟨gb, 3, none⟩ = some (.int .i64 a0_3) := (blk_cell BK.out 3).trans rfl; have hcy4 : w'.cell? ⟨gb, 4, none⟩ = some (.int .i64 a0_4) := (blk_cell BK.out 4).trans rfl; have hcy5 : w'.cell? ⟨gb, 5, none⟩ = some (.int .i64 a0_5) := (blk_cell BK.out 5).trans rfl; have hcy6 : w'.cell? ⟨gb, 6, none⟩ = some (.int .i64 a0_6) := (blk_cell BK.out 6).trans rfl) | (go_at_call 33; (first | (with_reducible refine (W3 _).mono ?_) | (with_reducible refine (W4 _).mono ?_) | (with_reducible refine (W5 _).mono ?_) | (with_reducible refine (W6 _).mono ?_)); rintro e w' ⟨rfl, m_, rfl⟩))
    go_ret
    exact ⟨by rw [RB.out, D0.out]; simp, (by repeat (first | (with_reducible first | exact HB.out | apply below_alloc | apply pw_below_drewN | apply below_drew1) | exact HB.out))⟩
  by_cases n1 : (a0_1.size : Int) ≤ 12
  case neg =>
    have D1 := Aside0.mk (decide_eq_false n1)
    go_enter Try.func12, Try.ntmps12
    go_wp2_with (first | ((with_reducible refine gate_dst (N := 1) rfl ?_); refine box_event ?hg (N := 1) ?hd (cs := #[.slice A0_0 l0_0.length c0_0, .string a0_1, .string a0_2, .int .i64 a0_3, .int .i64 a0_4, .int .i64 a0_5, .int .i64 a0_6]) (t := 24) ?hr ?_; (case hd => rfl); (case hg => rfl); (case hr => first | (go_simp; done) | (go_simp; rfl)); intro gb hg w1 hbox hb; have n0_ := Aside0.mk (below_step (by repeat (first | (with_reducible first | exact HB.out | apply below_alloc | apply pw_below_drewN | apply below_drew1) | exact HB.out)) hb); clear HB; have HB := n0_; have BK := Aside0.mk hbox; clear n0_ hb hbox hg; have hcz0 : w1.cell? ⟨gb, 0, none⟩ = some (.slice A0_0 l0_0.length c0_0) := (blk_cell BK.out 0).trans rfl; have hcz1 : w1.cell? ⟨gb, 1, none⟩ = some (.string a0_1) := (blk_cell BK.out 1).trans rfl; have hcz2 : w1.cell? ⟨gb, 2, none⟩ = some (.string a0_2) := (blk_cell BK.out 2).trans rfl; have hcz3 : w1.cell? ⟨gb, 3, none⟩ = some (.int .i64 a0_3) := (blk_cell BK.out 3).trans rfl; have hcz4 : w1.cell? ⟨gb, 4, none⟩ = some (.int .i64 a0_4) := (blk_cell BK.out 4).trans rfl; have hcz5 : w1.cell? ⟨gb, 5, none⟩ = some (.int .i64 a0_5) := (blk_cell BK.out 5).trans rfl; have hcz6 : w1.cell? ⟨gb, 6, none⟩ = some (.int .i64 a0_6) := (blk_cell BK.out 6).trans rfl) | (go_at_call 30; refine (C30.out _ (by repeat (first | (with_reducible first | exact HB.out | apply below_alloc | apply pw_below_drewN | apply below_drew1) | exact HB.out))).mono ?_; rintro e w' ⟨rfl, hb⟩; have n_ := Aside0.mk (below_then (by repeat (first | (with_reducible first | exact HB.out | apply below_alloc | apply pw_below_drewN | apply below_drew1) | exact HB.out)) (below_size (by repeat (first | (with_reducible first | exact HB.out | apply below_alloc | apply pw_below_drewN | apply below_drew1) | exact HB.out))) hb); have n1_ := Aside0.mk (blk_below (by (with_reducible repeat (first | refine blk_drewN ?_ _ | refine blk_drew ?_ | refine blk_alloc ?_ _)); exact BK.out) hb); clear HB BK hb; have HB := n_; have BK := n1_; clear n_ n1_; have hcy0 : w'.cell? ⟨gb, 0, none⟩ = some (.slice A0_0 l0_0.length c0_0) := (blk_cell BK.out 0).trans rfl; have hcy1 : w'.cell? ⟨gb, 1, none⟩ = some (.string a0_1) := (blk_cell BK.out 1).trans rfl; have hcy2 : w'.cell? ⟨gb, 2, none⟩ = some (.string a0_2) := (blk_cell BK.out 2).trans rfl; have hcy3 : w'.cell? ⟨gb, 3, none⟩ = some (.int .i64 a0_3) := (blk_cell BK.out 3).trans rfl; have hcy4 : w'.cell? ⟨gb, 4, none⟩ = some (.int .i64 a0_4) := (blk_cell BK.out 4).trans rfl; have hcy5 : w'.cell? ⟨gb, 5, none⟩ = some (.int .i64 a0_5) := (blk_cell BK.out 5).trans rfl; have hcy6 : w'.cell? ⟨gb, 6, none⟩ = some (.int .i64 a0_6) := (blk_cell BK.out 6).trans rfl) | (go_at_call 33; (first | (with_reducible refine (W3 _).mono ?_) | (with_reducible refine (W4 _).mono ?_) | (with_reducible refine (W5 _).mono ?_) | (with_reducible refine (W6 _).mono ?_)); rintro e w' ⟨rfl, m_, rfl⟩))
    go_ret
    exact ⟨by rw [RB.out, D0.out, D1.out]; simp, (by repeat (first | (with_reducible first | exact HB.out | apply below_alloc | apply pw_below_drewN | apply below_drew1) | exact HB.out))⟩
  have D1 := Aside0.mk (decide_eq_true n1)
  by_cases n2 : (a0_2.size : Int) ≤ 12
  case neg =>
    have D2 := Aside0.mk (decide_eq_false n2)
    go_enter Try.func12, Try.ntmps12
    go_wp2_with (first | ((with_reducible refine gate_dst (N := 1) rfl ?_); refine box_event ?hg (N := 1) ?hd (cs := #[.slice A0_0 l0_0.length c0_0, .string a0_1, .string a0_2, .int .i64 a0_3, .int .i64 a0_4, .int .i64 a0_5, .int .i64 a0_6]) (t := 24) ?hr ?_; (case hd => rfl); (case hg => rfl); (case hr => first | (go_simp; done) | (go_simp; rfl)); intro gb hg w1 hbox hb; have n0_ := Aside0.mk (below_step (by repeat (first | (with_reducible first | exact HB.out | apply below_alloc | apply pw_below_drewN | apply below_drew1) | exact HB.out)) hb); clear HB; have HB := n0_; have BK := Aside0.mk hbox; clear n0_ hb hbox hg; have hcz0 : w1.cell? ⟨gb, 0, none⟩ = some (.slice A0_0 l0_0.length c0_0) := (blk_cell BK.out 0).trans rfl; have hcz1 : w1.cell? ⟨gb, 1, none⟩ = some (.string a0_1) := (blk_cell BK.out 1).trans rfl; have hcz2 : w1.cell? ⟨gb, 2, none⟩ = some (.string a0_2) := (blk_cell BK.out 2).trans rfl; have hcz3 : w1.cell? ⟨gb, 3, none⟩ = some (.int .i64 a0_3) := (blk_cell BK.out 3).trans rfl; have hcz4 : w1.cell? ⟨gb, 4, none⟩ = some (.int .i64 a0_4) := (blk_cell BK.out 4).trans rfl; have hcz5 : w1.cell? ⟨gb, 5, none⟩ = some (.int .i64 a0_5) := (blk_cell BK.out 5).trans rfl; have hcz6 : w1.cell? ⟨gb, 6, none⟩ = some (.int .i64 a0_6) := (blk_cell BK.out 6).trans rfl) | (go_at_call 30; refine (C30.out _ (by repeat (first | (with_reducible first | exact HB.out | apply below_alloc | apply pw_below_drewN | apply below_drew1) | exact HB.out))).mono ?_; rintro e w' ⟨rfl, hb⟩; have n_ := Aside0.mk (below_then (by repeat (first | (with_reducible first | exact HB.out | apply below_alloc | apply pw_below_drewN | apply below_drew1) | exact HB.out)) (below_size (by repeat (first | (with_reducible first | exact HB.out | apply below_alloc | apply pw_below_drewN | apply below_drew1) | exact HB.out))) hb); have n1_ := Aside0.mk (blk_below (by (with_reducible repeat (first | refine blk_drewN ?_ _ | refine blk_drew ?_ | refine blk_alloc ?_ _)); exact BK.out) hb); clear HB BK hb; have HB := n_; have BK := n1_; clear n_ n1_; have hcy0 : w'.cell? ⟨gb, 0, none⟩ = some (.slice A0_0 l0_0.length c0_0) := (blk_cell BK.out 0).trans rfl; have hcy1 : w'.cell? ⟨gb, 1, none⟩ = some (.string a0_1) := (blk_cell BK.out 1).trans rfl; have hcy2 : w'.cell? ⟨gb, 2, none⟩ = some (.string a0_2) := (blk_cell BK.out 2).trans rfl; have hcy3 : w'.cell? ⟨gb, 3, none⟩ = some (.int .i64 a0_3) := (blk_cell BK.out 3).trans rfl; have hcy4 : w'.cell? ⟨gb, 4, none⟩ = some (.int .i64 a0_4) := (blk_cell BK.out 4).trans rfl; have hcy5 : w'.cell? ⟨gb, 5, none⟩ = some (.int .i64 a0_5) := (blk_cell BK.out 5).trans rfl; have hcy6 : w'.cell? ⟨gb, 6, none⟩ = some (.int .i64 a0_6) := (blk_cell BK.out 6).trans rfl) | (go_at_call 33; (first | (with_reducible refine (W3 _).mono ?_) | (with_reducible refine (W4 _).mono ?_) | (with_reducible refine (W5 _).mono ?_) | (with_reducible refine (W6 _).mono ?_)); rintro e w' ⟨rfl, m_, rfl⟩))
    go_ret
    exact ⟨by rw [RB.out, D0.out, D1.out, D2.out]; simp, (by repeat (first | (with_reducible first | exact HB.out | apply below_alloc | apply pw_below_drewN | apply below_drew1) | exact HB.out))⟩
  have D2 := Aside0.mk (decide_eq_true n2)
  cases b3
  case false =>
    go_enter Try.func12, Try.ntmps12
    go_wp2_with (first | ((with_reducible refine gate_dst (N := 1) rfl ?_); refine box_event ?hg (N := 1) ?hd (cs := #[.slice A0_0 l0_0.length c0_0, .string a0_1, .string a0_2, .int .i64 a0_3, .int .i64 a0_4, .int .i64 a0_5, .int .i64 a0_6]) (t := 24) ?hr ?_; (case hd => rfl); (case hg => rfl); (case hr => first | (go_simp; done) | (go_simp; rfl)); intro gb hg w1 hbox hb; have n0_ := Aside0.mk (below_step (by repeat (first | (with_reducible first | exact HB.out | apply below_alloc | apply pw_below_drewN | apply below_drew1) | exact HB.out)) hb); clear HB; have HB := n0_; have BK := Aside0.mk hbox; clear n0_ hb hbox hg; have hcz0 : w1.cell? ⟨gb, 0, none⟩ = some (.slice A0_0 l0_0.length c0_0) := (blk_cell BK.out 0).trans rfl; have hcz1 : w1.cell? ⟨gb, 1, none⟩ = some (.string a0_1) := (blk_cell BK.out 1).trans rfl; have hcz2 : w1.cell? ⟨gb, 2, none⟩ = some (.string a0_2) := (blk_cell BK.out 2).trans rfl; have hcz3 : w1.cell? ⟨gb, 3, none⟩ = some (.int .i64 a0_3) := (blk_cell BK.out 3).trans rfl; have hcz4 : w1.cell? ⟨gb, 4, none⟩ = some (.int .i64 a0_4) := (blk_cell BK.out 4).trans rfl; have hcz5 : w1.cell? ⟨gb, 5, none⟩ = some (.int .i64 a0_5) := (blk_cell BK.out 5).trans rfl; have hcz6 : w1.cell? ⟨gb, 6, none⟩ = some (.int .i64 a0_6) := (blk_cell BK.out 6).trans rfl) | (go_at_call 30; refine (C30.out _ (by repeat (first | (with_reducible first | exact HB.out | apply below_alloc | apply pw_below_drewN | apply below_drew1) | exact HB.out))).mono ?_; rintro e w' ⟨rfl, hb⟩; have n_ := Aside0.mk (below_then (by repeat (first | (with_reducible first | exact HB.out | apply below_alloc | apply pw_below_drewN | apply below_drew1) | exact HB.out)) (below_size (by repeat (first | (with_reducible first | exact HB.out | apply below_alloc | apply pw_below_drewN | apply below_drew1) | exact HB.out))) hb); have n1_ := Aside0.mk (blk_below (by (with_reducible repeat (first | refine blk_drewN ?_ _ | refine blk_drew ?_ | refine blk_alloc ?_ _)); exact BK.out) hb); clear HB BK hb; have HB := n_; have BK := n1_; clear n_ n1_; have hcy0 : w'.cell? ⟨gb, 0, none⟩ = some (.slice A0_0 l0_0.length c0_0) := (blk_cell BK.out 0).trans rfl; have hcy1 : w'.cell? ⟨gb, 1, none⟩ = some (.string a0_1) := (blk_cell BK.out 1).trans rfl; have hcy2 : w'.cell? ⟨gb, 2, none⟩ = some (.string a0_2) := (blk_cell BK.out 2).trans rfl; have hcy3 : w'.cell? ⟨gb, 3, none⟩ = some (.int .i64 a0_3) := (blk_cell BK.out 3).trans rfl; have hcy4 : w'.cell? ⟨gb, 4, none⟩ = some (.int .i64 a0_4) := (blk_cell BK.out 4).trans rfl; have hcy5 : w'.cell? ⟨gb, 5, none⟩ = some (.int .i64 a0_5) := (blk_cell BK.out 5).trans rfl; have hcy6 : w'.cell? ⟨gb, 6, none⟩ = some (.int .i64 a0_6) := (blk_cell BK.out 6).trans rfl) | (go_at_call 33; (first | (with_reducible refine (W3 _).mono ?_) | (with_reducible refine (W4 _).mono ?_) | (with_reducible refine (W5 _).mono ?_) | (with_reducible refine (W6 _).mono ?_)); rintro e w' ⟨rfl, m_, rfl⟩))
    go_ret
    exact ⟨by rw [RB.out, D0.out, D1.out, D2.out]; simp, (by repeat (first | (with_reducible first | exact HB.out | apply below_alloc | apply pw_below_drewN | apply below_drew1) | exact HB.out))⟩
  cases b4
  case false =>
    go_enter Try.func12, Try.ntmps12
    go_wp2_with (first | ((with_reducible refine gate_dst (N := 1) rfl ?_); refine box_event ?hg (N := 1) ?hd (cs := #[.slice A0_0 l0_0.length c0_0, .string a0_1, .string a0_2, .int .i64 a0_3, .int .i64 a0_4, .int .i64 a0_5, .int .i64 a0_6]) (t := 24) ?hr ?_; (case hd => rfl); (case hg => rfl); (case hr => first | (go_simp; done) | (go_simp; rfl)); intro gb hg w1 hbox hb; have n0_ := Aside0.mk (below_step (by repeat (first | (with_reducible first | exact HB.out | apply below_alloc | apply pw_below_drewN | apply below_drew1) | exact HB.out)) hb); clear HB; have HB := n0_; have BK := Aside0.mk hbox; clear n0_ hb hbox hg; have hcz0 : w1.cell? ⟨gb, 0, none⟩ = some (.slice A0_0 l0_0.length c0_0) := (blk_cell BK.out 0).trans rfl; have hcz1 : w1.cell? ⟨gb, 1, none⟩ = some (.string a0_1) := (blk_cell BK.out 1).trans rfl; have hcz2 : w1.cell? ⟨gb, 2, none⟩ = some (.string a0_2) := (blk_cell BK.out 2).trans rfl; have hcz3 : w1.cell? ⟨gb, 3, none⟩ = some (.int .i64 a0_3) := (blk_cell BK.out 3).trans rfl; have hcz4 : w1.cell? ⟨gb, 4, none⟩ = some (.int .i64 a0_4) := (blk_cell BK.out 4).trans rfl; have hcz5 : w1.cell? ⟨gb, 5, none⟩ = some (.int .i64 a0_5) := (blk_cell BK.out 5).trans rfl; have hcz6 : w1.cell? ⟨gb, 6, none⟩ = some (.int .i64 a0_6) := (blk_cell BK.out 6).trans rfl) | (go_at_call 30; refine (C30.out _ (by repeat (first | (with_reducible first | exact HB.out | apply below_alloc | apply pw_below_drewN | apply below_drew1) | exact HB.out))).mono ?_; rintro e w' ⟨rfl, hb⟩; have n_ := Aside0.mk (below_then (by repeat (first | (with_reducible first | exact HB.out | apply below_alloc | apply pw_below_drewN | apply below_drew1) | exact HB.out)) (below_size (by repeat (first | (with_reducible first | exact HB.out | apply below_alloc | apply pw_below_drewN | apply below_drew1) | exact HB.out))) hb); have n1_ := Aside0.mk (blk_below (by (with_reducible repeat (first | refine blk_drewN ?_ _ | refine blk_drew ?_ | refine blk_alloc ?_ _)); exact BK.out) hb); clear HB BK hb; have HB := n_; have BK := n1_; clear n_ n1_; have hcy0 : w'.cell? ⟨gb, 0, none⟩ = some (.slice A0_0 l0_0.length c0_0) := (blk_cell BK.out 0).trans rfl; have hcy1 : w'.cell? ⟨gb, 1, none⟩ = some (.string a0_1) := (blk_cell BK.out 1).trans rfl; have hcy2 : w'.cell? ⟨gb, 2, none⟩ = some (.string a0_2) := (blk_cell BK.out 2).trans rfl; have hcy3 : w'.cell? ⟨gb, 3, none⟩ = some (.int .i64 a0_3) := (blk_cell BK.out 3).trans rfl; have hcy4 : w'.cell? ⟨gb, 4, none⟩ = some (.int .i64 a0_4) := (blk_cell BK.out 4).trans rfl; have hcy5 : w'.cell? ⟨gb, 5, none⟩ = some (.int .i64 a0_5) := (blk_cell BK.out 5).trans rfl; have hcy6 : w'.cell? ⟨gb, 6, none⟩ = some (.int .i64 a0_6) := (blk_cell BK.out 6).trans rfl) | (go_at_call 33; (first | (with_reducible refine (W3 _).mono ?_) | (with_reducible refine (W4 _).mono ?_) | (with_reducible refine (W5 _).mono ?_) | (with_reducible refine (W6 _).mono ?_)); rintro e w' ⟨rfl, m_, rfl⟩))
    go_ret
    exact ⟨by rw [RB.out, D0.out, D1.out, D2.out]; simp, (by repeat (first | (with_reducible first | exact HB.out | apply below_alloc | apply pw_below_drewN | apply below_drew1) | exact HB.out))⟩
  cases b5
  case false =>
    go_enter Try.func12, Try.ntmps12
    go_wp2_with (first | ((with_reducible refine gate_dst (N := 1) rfl ?_); refine box_event ?hg (N := 1) ?hd (cs := #[.slice A0_0 l0_0.length c0_0, .string a0_1, .string a0_2, .int .i64 a0_3, .int .i64 a0_4, .int .i64 a0_5, .int .i64 a0_6]) (t := 24) ?hr ?_; (case hd => rfl); (case hg => rfl); (case hr => first | (go_simp; done) | (go_simp; rfl)); intro gb hg w1 hbox hb; have n0_ := Aside0.mk (below_step (by repeat (first | (with_reducible first | exact HB.out | apply below_alloc | apply pw_below_drewN | apply below_drew1) | exact HB.out)) hb); clear HB; have HB := n0_; have BK := Aside0.mk hbox; clear n0_ hb hbox hg; have hcz0 : w1.cell? ⟨gb, 0, none⟩ = some (.slice A0_0 l0_0.length c0_0) := (blk_cell BK.out 0).trans rfl; have hcz1 : w1.cell? ⟨gb, 1, none⟩ = some (.string a0_1) := (blk_cell BK.out 1).trans rfl; have hcz2 : w1.cell? ⟨gb, 2, none⟩ = some (.string a0_2) := (blk_cell BK.out 2).trans rfl; have hcz3 : w1.cell? ⟨gb, 3, none⟩ = some (.int .i64 a0_3) := (blk_cell BK.out 3).trans rfl; have hcz4 : w1.cell? ⟨gb, 4, none⟩ = some (.int .i64 a0_4) := (blk_cell BK.out 4).trans rfl; have hcz5 : w1.cell? ⟨gb, 5, none⟩ = some (.int .i64 a0_5) := (blk_cell BK.out 5).trans rfl; have hcz6 : w1.cell? ⟨gb, 6, none⟩ = some (.int .i64 a0_6) := (blk_cell BK.out 6).trans rfl) | (go_at_call 30; refine (C30.out _ (by repeat (first | (with_reducible first | exact HB.out | apply below_alloc | apply pw_below_drewN | apply below_drew1) | exact HB.out))).mono ?_; rintro e w' ⟨rfl, hb⟩; have n_ := Aside0.mk (below_then (by repeat (first | (with_reducible first | exact HB.out | apply below_alloc | apply pw_below_drewN | apply below_drew1) | exact HB.out)) (below_size (by repeat (first | (with_reducible first | exact HB.out | apply below_alloc | apply pw_below_drewN | apply below_drew1) | exact HB.out))) hb); have n1_ := Aside0.mk (blk_below (by (with_reducible repeat (first | refine blk_drewN ?_ _ | refine blk_drew ?_ | refine blk_alloc ?_ _)); exact BK.out) hb); clear HB BK hb; have HB := n_; have BK := n1_; clear n_ n1_; have hcy0 : w'.cell? ⟨gb, 0, none⟩ = some (.slice A0_0 l0_0.length c0_0) := (blk_cell BK.out 0).trans rfl; have hcy1 : w'.cell? ⟨gb, 1, none⟩ = some (.string a0_1) := (blk_cell BK.out 1).trans rfl; have hcy2 : w'.cell? ⟨gb, 2, none⟩ = some (.string a0_2) := (blk_cell BK.out 2).trans rfl; have hcy3 : w'.cell? ⟨gb, 3, none⟩ = some (.int .i64 a0_3) := (blk_cell BK.out 3).trans rfl; have hcy4 : w'.cell? ⟨gb, 4, none⟩ = some (.int .i64 a0_4) := (blk_cell BK.out 4).trans rfl; have hcy5 : w'.cell? ⟨gb, 5, none⟩ = some (.int .i64 a0_5) := (blk_cell BK.out 5).trans rfl; have hcy6 : w'.cell? ⟨gb, 6, none⟩ = some (.int .i64 a0_6) := (blk_cell BK.out 6).trans rfl) | (go_at_call 33; (first | (with_reducible refine (W3 _).mono ?_) | (with_reducible refine (W4 _).mono ?_) | (with_reducible refine (W5 _).mono ?_) | (with_reducible refine (W6 _).mono ?_)); rintro e w' ⟨rfl, m_, rfl⟩))
    go_ret
    exact ⟨by rw [RB.out, D0.out, D1.out, D2.out]; simp, (by repeat (first | (with_reducible first | exact HB.out | apply below_alloc | apply pw_below_drewN | apply below_drew1) | exact HB.out))⟩
  go_enter Try.func12, Try.ntmps12
  go_wp2_with (first | ((with_reducible refine gate_dst (N := 1) rfl ?_); refine box_event ?hg (N := 1) ?hd (cs := #[.slice A0_0 l0_0.length c0_0, .string a0_1, .string a0_2, .int .i64 a0_3, .int .i64 a0_4, .int .i64 a0_5, .int .i64 a0_6]) (t := 24) ?hr ?_; (case hd => rfl); (case hg => rfl); (case hr => first | (go_simp; done) | (go_simp; rfl)); intro gb hg w1 hbox hb; have n0_ := Aside0.mk (below_step (by repeat (first | (with_reducible first | exact HB.out | apply below_alloc | apply pw_below_drewN | apply below_drew1) | exact HB.out)) hb); clear HB; have HB := n0_; have BK := Aside0.mk hbox; clear n0_ hb hbox hg; have hcz0 : w1.cell? ⟨gb, 0, none⟩ = some (.slice A0_0 l0_0.length c0_0) := (blk_cell BK.out 0).trans rfl; have hcz1 : w1.cell? ⟨gb, 1, none⟩ = some (.string a0_1) := (blk_cell BK.out 1).trans rfl; have hcz2 : w1.cell? ⟨gb, 2, none⟩ = some (.string a0_2) := (blk_cell BK.out 2).trans rfl; have hcz3 : w1.cell? ⟨gb, 3, none⟩ = some (.int .i64 a0_3) := (blk_cell BK.out 3).trans rfl; have hcz4 : w1.cell? ⟨gb, 4, none⟩ = some (.int .i64 a0_4) := (blk_cell BK.out 4).trans rfl; have hcz5 : w1.cell? ⟨gb, 5, none⟩ = some (.int .i64 a0_5) := (blk_cell BK.out 5).trans rfl; have hcz6 : w1.cell? ⟨gb, 6, none⟩ = some (.int .i64 a0_6) := (blk_cell BK.out 6).trans rfl) | (go_at_call 30; refine (C30.out _ (by repeat (first | (with_reducible first | exact HB.out | apply below_alloc | apply pw_below_drewN | apply below_drew1) | exact HB.out))).mono ?_; rintro e w' ⟨rfl, hb⟩; have n_ := Aside0.mk (below_then (by repeat (first | (with_reducible first | exact HB.out | apply below_alloc | apply pw_below_drewN | apply below_drew1) | exact HB.out)) (below_size (by repeat (first | (with_reducible first | exact HB.out | apply below_alloc | apply pw_below_drewN | apply below_drew1) | exact HB.out))) hb); have n1_ := Aside0.mk (blk_below (by (with_reducible repeat (first | refine blk_drewN ?_ _ | refine blk_drew ?_ | refine blk_alloc ?_ _)); exact BK.out) hb); clear HB BK hb; have HB := n_; have BK := n1_; clear n_ n1_; have hcy0 : w'.cell? ⟨gb, 0, none⟩ = some (.slice A0_0 l0_0.length c0_0) := (blk_cell BK.out 0).trans rfl; have hcy1 : w'.cell? ⟨gb, 1, none⟩ = some (.string a0_1) := (blk_cell BK.out 1).trans rfl; have hcy2 : w'.cell? ⟨gb, 2, none⟩ = some (.string a0_2) := (blk_cell BK.out 2).trans rfl; have hcy3 : w'.cell? ⟨gb, 3, none⟩ = some (.int .i64 a0_3) := (blk_cell BK.out 3).trans rfl; have hcy4 : w'.cell? ⟨gb, 4, none⟩ = some (.int .i64 a0_4) := (blk_cell BK.out 4).trans rfl; have hcy5 : w'.cell? ⟨gb, 5, none⟩ = some (.int .i64 a0_5) := (blk_cell BK.out 5).trans rfl; have hcy6 : w'.cell? ⟨gb, 6, none⟩ = some (.int .i64 a0_6) := (blk_cell BK.out 6).trans rfl) | (go_at_call 33; (first | (with_reducible refine (W3 _).mono ?_) | (with_reducible refine (W4 _).mono ?_) | (with_reducible refine (W5 _).mono ?_) | (with_reducible refine (W6 _).mono ?_)); rintro e w' ⟨rfl, m_, rfl⟩))
  go_ret
  exact ⟨by rw [RB.out, D0.out, D1.out, D2.out]; simp, (by repeat (first | (with_reducible first | exact HB.out | apply below_alloc | apply pw_below_drewN | apply below_drew1) | exact HB.out))⟩

end Go.Proofs.Ythbgjaboghnpjaa.Q
