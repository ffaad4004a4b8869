/- The library's Grow at nil and Concat, at numbers. -/
import Derived.Test.YtfadanmfelbfiaaA4
namespace Go.Proofs.Ytfadanmfelbfiaa.L
open Go.RowKit Go.Maps Go.Proofs.YtfadanmfelbfiaaW.PrintWords Go.Proofs.YtfadanmfelbfiaaW.PrintLast Go.Proofs.YtfadanmfelbfiaaW.PrintMore
set_option linter.unusedVariables false
set_option linter.unusedSimpArgs false
def rd_L1 (xs : List (List Int)) (i : Int) : (List Int) := xs.getD i.toNat ([] : List Int)
theorem at_L1 {w : World} {A : Option Addr} {n : Nat} {xs : List (List Int)} (h : Kd.C (Kd.slice 3 (Kd.int .i64)) w A n xs) (i : Int) (h0 : 0 ≤ i) (h1 : i < n) : ∃ ad A0 c0, A = some ad ∧ w.cell? (ad.add i.toNat) = some (.slice A0 (rd_L1 xs i).length c0) ∧ (rd_L1 xs i).length ≤ c0 ∧ (Kd.int .i64).C w A0 (rd_L1 xs i).length (rd_L1 xs i) := by
  obtain ⟨ad, c, e, _, hK, hc0⟩ := Kd.C_get h ([] : List Int) i h0 h1
  have hc : ∀ j u, c[j]? = some u → w.cell? (ad.add (i.toNat * 1 + j)) = some u := hc0
  obtain ⟨A0, c0, rfl, l0, g0⟩ := hK
  exact ⟨ad, A0, c0, e, by have hq := hc 0 _ rfl; rwa [Nat.mul_one, Nat.add_zero] at hq, l0, g0⟩
set_option maxHeartbeats 2000000 in
set_option maxRecDepth 100000 in
/-- slices.Grow at nil: an empty row of the call's own. -/
theorem slGrow_nil (n : Int) (w : World) (h0 : 0 ≤ n) (hn : n < 17592186044416) :
    Calls Try.prog 37 #[.slice none 0 0, .int .i64 n] w fun e w' => ∃ v0_ : Value, e = .returned (v0_) ∧ Kd.R (Kd.int .i64) 3 w' w.heap.size (fun _ => True) v0_ [] ∧ Below w.heap.size w w' := by
  have HB := Aside0.mk (Below.refl w.heap.size w)
  by_cases c1 : 0 < n
  · have hL := Aside0.mk hn
    go_enter Try.func37, Try.ntmps37
    go_wp2_with ((with_reducible refine gate_builtin (b := .append) (xs := #[.tmp 20, .tmp 21]) rfl ?_); at_builtin; refine Kd.R_append_zeros (Kd.int .i64) (w0 := w) w.heap.size rfl (.tmp 20) (.tmp 21) 55 3 3 (.int .i64 0) 8 rfl Try.underlying55 Try.underlying3 info3 rfl (by decide) (by omega) (.slice none 0 0) [] 0 (kx := .i64) n (fun _ => True) rfl ?aX ?aZ (fun _ _ => trivial) (Kd.R_nil _ _ _ _ _) h0 (Below.refl _ _) (Nat.le_refl _) (by have := hL.out; simp only [List.length_nil]; omega) ?_; (case aX => first | rfl | (go_simp; done) | simp); (case aZ => exact rfl); intro v1 w1 ho hb hg hat; obtain ⟨L, hL2⟩ : ∃ L : List Int, L = [] ++ List.replicate n.toNat 0 := ⟨_, rfl⟩; rw [← hL2] at ho; clear hL2; obtain ⟨A1, c1', rfl⟩ := Kd.R_slice ho; have HO := Aside0.mk ho; clear HB; have HB := Aside0.mk hb; clear ho hb hg hat; obtain ⟨i0, hi0, hj1, hj2, hj3⟩ := info_parts info3; clear hj1 hj2 hj3; have hcut := cut_to (P := Try.prog) 55 3 .i64 Try.underlying55 hi0 A1 _ c1' 0 (by omega) (by omega) (Kd.R_reads' HO.out).2.1; clear hi0)
    go_ret
    exact ⟨_, rfl, by have := Kd.R_take (m := 0) HO.out (Nat.zero_le _); simpa using this, HB.out⟩
  · have : n = 0 := by omega
    subst this
    go_enter Try.func37, Try.ntmps37
    go_wp2
    go_ret
    exact ⟨_, rfl, Kd.R_nil _ _ _ _ _, HB.out⟩
theorem slConcat_take (l : List (List Int)) (k : Nat) (hk : k < l.length) : (l.take (k + 1)).flatten = (l.take k).flatten ++ rd_L1 l k := by
  unfold rd_L1
  rw [List.take_succ_eq_append_getElem hk, List.flatten_append]
  simp [List.getD_eq_getElem?_getD, List.getElem?_eq_getElem hk]
theorem slConcat_le (l : List (List Int)) (k : Nat) : (l.take k).flatten.length ≤ l.flatten.length := by
  conv => rhs; rw [← List.take_append_drop k l]
  rw [List.flatten_append, List.length_append]
  omega
def slConcat.f (l0 : List (List Int)) : Option (List Int) := if l0.flatten.length < 17592186044416 then some l0.flatten else none
set_option maxHeartbeats 4000000 in
set_option maxRecDepth 100000 in
theorem slConcat.calls (A0 : Option Addr) (c0 : Nat) (l0 : List (List Int)) (r : List Int) (w : World) (hr0 : Kd.C (Kd.slice 3 (Kd.int .i64)) w A0 l0.length l0) (hc0 : l0.length ≤ c0) (h : slConcat.f l0 = some r) :
    Calls Try.prog 32 #[.slice A0 l0.length c0] w fun e w' => ∃ v0_ : Value, e = .returned (v0_) ∧ Kd.R (Kd.int .i64) 3 w' w.heap.size (fun _ => True) v0_ r ∧ Below w.heap.size w w' := by
  have HB := Aside0.mk (Below.refl w.heap.size w)
  have HR0 := Aside0.mk hr0
  have hbig : l0.length ≤ 9223372036854775807 := hr0.2.1
  clear hr0 hc0
  unfold slConcat.f at h
  by_cases c1 : l0.flatten.length < 17592186044416
  · rw [if_pos c1] at h
    obtain ⟨F, hF⟩ : ∃ F, F = l0.flatten := ⟨_, rfl⟩
    have hFl : l0.flatten.length = F.length := by rw [hF]
    rw [← hF] at h c1
    obtain rfl := Option.some.inj h
    have HF := Aside0.mk hF
    have hle := Aside0.mk (fun k => (slConcat_le l0 k))
    clear h hF
    have HL := Aside0.mk hFl
    have LM := Aside0.mk c1
    clear hFl c1
    go_enter Try.func32, Try.ntmps32
    go_wp2
    go_loopg [3, 5, 11] l0.length (fun gg v3 _ v11 wr => ∃ (kk : Nat) (x3 : Int), kk ≤ l0.length ∧ l0.length - kk ≤ gg ∧ v11 = .int .i64 kk ∧ v3 = .int .i64 x3 ∧ Aside0 (x3 = ((l0.take kk).flatten.length : Int)) ∧ w = wr)
    case atStart => exact ⟨0, 0, Nat.zero_le _, by omega, rfl, rfl, ⟨by simp⟩, rfl⟩
    case round =>
      obtain ⟨kk, x3, hkk, hg, rfl, rfl, HX, rfl⟩ := hrel
      have hx0 : 0 ≤ x3 := by have := HX.out; omega
      have hx1 : x3 < 17592186044416 := by have := HX.out; have := hle.out kk; have := HL.out; have := LM.out; omega
      by_cases hlt : kk < l0.length
      · have hltz : (kk : Int) < (l0.length : Int) := by omega
        obtain ⟨ad, A1, c1, e, hx, hle1, hC1⟩ := at_L1 HR0.out kk (by omega) hltz
        cases e
        rw [Int.toNat_natCast] at hx
        obtain ⟨y, hy⟩ : ∃ y, y = rd_L1 l0 (kk : Int) := ⟨_, rfl⟩
        rw [← hy] at hx hle1 hC1
        have hfl : x3 + (y.length : Int) = ((l0.take (kk + 1)).flatten.length : Int) := by
          rw [slConcat_take l0 kk hlt, List.length_append, ← hy, HX.out]; omega
        have hb : x3 + (y.length : Int) < 17592186044416 := by
          have := hle.out (kk + 1); have := HL.out; have := LM.out; omega
        have HFL := Aside0.mk hfl
        clear hfl hy hC1
        have hn0 : decide (x3 + (y.length : Int) < 0) = false := decide_eq_false (by omega)
        go_wp2
        go_roundg (l0.length - (kk + 1))
        case measure => omega
        case rel => exact ⟨kk + 1, x3 + (y.length : Int), by omega, by omega, by go_num, rfl, HFL, rfl⟩
      · have hltz : ¬ (kk : Int) < (l0.length : Int) := by omega
        have hk2 : kk = l0.length := by omega
        subst hk2
        clear hkk hg hlt
        go_wp2_with (go_at_call 37; refine (slGrow_nil x3 _ hx0 hx1).mono ?_; rintro e w' ⟨v, rfl, ho, hb⟩; have HO := Aside0.mk ho; clear HB; have HB := Aside0.mk hb; clear ho hb)
        go_loopg [6, 8, 27] l0.length (fun gg v6 _ v27 wr => ∃ kk : Nat, kk ≤ l0.length ∧ l0.length - kk ≤ gg ∧ v27 = .int .i64 kk ∧ Aside0 (Kd.R (Kd.int .i64) 3 wr w.heap.size (fun _ => True) v6 (l0.take kk).flatten) ∧ Aside0 (Below w.heap.size w wr))
        case atStart => exact ⟨0, Nat.zero_le _, by omega, rfl, ⟨by simpa using HO.out⟩, HB⟩
        case round =>
          clear HO HB
          obtain ⟨kk, hkk, hg, rfl, HO, HB⟩ := hrel
          by_cases hlt : kk < l0.length
          · have hltz : (kk : Int) < (l0.length : Int) := by omega
            obtain ⟨ad, A1, c1, e, hx, hle1, hC1⟩ := at_L1 (Kd.C_below HR0.out HB.out) kk (by omega) hltz
            cases e
            rw [Int.toNat_natCast] at hx
            obtain ⟨y, hy⟩ : ∃ y, y = rd_L1 l0 (kk : Int) := ⟨_, rfl⟩
            rw [← hy] at hx hle1 hC1
            obtain ⟨T, hT⟩ : ∃ T, T = (l0.take kk).flatten := ⟨_, rfl⟩
            rw [← hT] at HO
            have hfl : T ++ y = (l0.take (kk + 1)).flatten := by rw [slConcat_take l0 kk hlt, ← hy, ← hT]
            have hb : (T.length + y.length) * 8 ≤ 140737488355328 := by
              have h1 := hle.out (kk + 1); rw [← hfl, List.length_append] at h1; have := HL.out; have := LM.out; omega
            have HFL := Aside0.mk hfl
            have HBB := Aside0.mk hb
            have HC1 := Aside0.mk hC1
            clear hfl hy hC1 hT hb
            go_wp2_with ((with_reducible refine gate_builtin (b := .append) (xs := #[.tmp 31, .tmp 32]) rfl ?_); at_builtin; refine Kd.R_append_rows (Kd.int .i64) (w0 := w) w.heap.size rfl (.tmp 31) (.tmp 32) 55 3 (.int .i64 0) 8 rfl Try.underlying55 info3 rfl (by decide) (by omega) _ T y A1 _ c1 (fun _ => True) (fun _ => False) rfl rfl HO.out HC1.out (fun _ _ h => h) (fun _ h => h.elim) (fun _ _ => trivial) HB.out (below_size HB.out) HBB.out ?_; intro v134 w5 ho hb hg hat; clear HB HO HC1; have HB := Aside0.mk hb; have HO := Aside0.mk ho; clear ho hb hg hat)
            go_roundg (l0.length - (kk + 1))
            case measure => omega
            case rel => exact ⟨kk + 1, by omega, by omega, by go_num, ⟨by rw [← HFL.out]; exact HO.out⟩, HB⟩
          · have hltz : ¬ (kk : Int) < (l0.length : Int) := by omega
            have hk2 : kk = l0.length := by omega
            subst hk2
            go_wp2
            go_ret
            exact ⟨_, rfl, by have := HO.out; rwa [List.take_length, ← HF.out] at this, HB.out⟩
  · rw [if_neg c1] at h
    cases h
end Go.Proofs.Ytfadanmfelbfiaa.L
