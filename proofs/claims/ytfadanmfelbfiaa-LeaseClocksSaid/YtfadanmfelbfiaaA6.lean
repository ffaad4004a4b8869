/- The closure of Tick, and the library's ContainsFunc over it. -/
import Derived.Test.YtfadanmfelbfiaaA5
namespace Go.Proofs.Ytfadanmfelbfiaa.L
open Go.RowKit Go.Maps Go.Proofs.YtfadanmfelbfiaaW.PrintWords Go.Proofs.YtfadanmfelbfiaaW.PrintLast Go.Proofs.YtfadanmfelbfiaaW.PrintMore
set_option linter.unusedVariables false
set_option linter.unusedSimpArgs false
theorem late (w : World) (a cb B : Nat) (t s x : Int) (h0 : w.cell? ⟨a, 0, none⟩ = some (.int .i64 t)) (h1 : w.cell? ⟨cb, 0, none⟩ = some (.pointer (some ⟨B, 0, none⟩))) (h2 : w.cell? ⟨B, 1, none⟩ = some (.int .i64 s))
    (b0 : 0 ≤ t) (b1 : t ≤ 2199023255552) (b2 : 0 ≤ x) (b3 : x ≤ 2199023255552) :
    Calls Try.prog 31 #[.int .i64 x, .pointer (some ⟨a, 0, none⟩), .pointer (some ⟨cb, 0, none⟩)] w fun e w' => e = .returned (.bool (decide (t - x > s))) ∧ Drawn w w' := by
  have hw1 : IntKind.i64.wrap (t - x) = t - x := IntWalk.i64_in _ (by omega)
  go_enter Try.func31, Try.ntmps31
  go_wp2_with fail
  go_quiet (fail)
  clear hw1
  go_wp2
  go_ret
  exact ⟨rfl, Drawn.step (Drawn.refl _) _⟩
def anyFar (t s : Int) (l : List Int) : Bool := l.any (fun x => decide (t - x > s))
theorem anyFar_take (t s : Int) (l : List Int) (k : Nat) (hk : k < l.length) : anyFar t s (l.take (k + 1)) = (anyFar t s (l.take k) || decide (t - rd l k > s)) := by
  unfold anyFar rd
  rw [List.take_succ_eq_append_getElem hk, List.any_append]
  simp [List.getD_eq_getElem?_getD, List.getElem?_eq_getElem hk]
theorem anyFar_of_take (t s : Int) (l : List Int) (k : Nat) (h : anyFar t s (l.take k) = true) : anyFar t s l = true := by
  unfold anyFar at *
  rw [List.any_eq_true] at *
  obtain ⟨x, hx, h⟩ := h
  exact ⟨x, List.mem_of_mem_take hx, h⟩
def IdxPost (t s : Int) (l0 : List Int) (w : World) (e : Ending) (w' : World) : Prop := ∃ i : Int, e = .returned (.int .i64 i) ∧ -1 ≤ i ∧ decide (0 ≤ i) = anyFar t s l0 ∧ Drawn w w'
set_option maxHeartbeats 2000000 in
set_option maxRecDepth 100000 in
theorem late_index (A0 : Option Addr) (c0 : Nat) (l0 : List Int) (w : World) (hr0 : Kd.C (Kd.int .i64) w A0 l0.length l0)
    (a cb B : Nat) (t s : Int) (h0 : w.cell? ⟨a, 0, none⟩ = some (.int .i64 t)) (h1 : w.cell? ⟨cb, 0, none⟩ = some (.pointer (some ⟨B, 0, none⟩))) (h2 : w.cell? ⟨B, 1, none⟩ = some (.int .i64 s))
    (b0 : 0 ≤ t) (b1 : t ≤ 2199023255552) (hb : ∀ k : Nat, 0 ≤ rd l0 k ∧ rd l0 k ≤ 2199023255552) :
    Calls Try.prog 38 #[.slice A0 l0.length c0, .func (.func 31) #[] #[.pointer (some ⟨a, 0, none⟩), .pointer (some ⟨cb, 0, none⟩)]] w (IdxPost t s l0 w) := by
  have HR0 := Aside0.mk hr0
  have HB := Aside0.mk hb
  have hbig : l0.length ≤ 9223372036854775807 := hr0.2.1
  clear hr0 hb
  have HL := Aside0.mk (fun (w' : World) (hw : w'.heap = w.heap) (x : Int) b2 b3 => late w' a cb B t s x (by simpa [World.cell?, hw] using h0) (by simpa [World.cell?, hw] using h1) (by simpa [World.cell?, hw] using h2) b0 b1 b2 b3)
  clear h0 h1 h2
  go_enter Try.func38, Try.ntmps38
  go_wp2
  go_loopg [5, 8] l0.length (fun gg _ s8 wr => ∃ kk : Nat, kk ≤ l0.length ∧ l0.length - kk ≤ gg ∧ s8 = .int .i64 kk ∧ Drawn w wr ∧ Aside0 (anyFar t s (l0.take kk) = false))
  case atStart => exact ⟨0, Nat.zero_le _, by omega, rfl, Drawn.refl _, ⟨by simp [anyFar]⟩⟩
  case round =>
    obtain ⟨kk, hkk, hg, rfl, ⟨q, rfl⟩, A⟩ := hrel
    by_cases hlt : kk < l0.length
    · have hltz : (kk : Int) < (l0.length : Int) := by omega
      obtain ⟨ad, e, hx⟩ := Kd.at_int HR0.out kk (by omega) hltz
      cases e
      have ht := Aside0.mk (anyFar_take t s l0 kk hlt)
      have hl := Aside0.mk (anyFar_of_take t s l0 (kk + 1))
      rw [Int.toNat_natCast] at hx
      have hy0 := HB.out kk
      generalize hy : rd l0 kk = y at hx ht hy0
      have Bq := Aside0.mk hy
      clear hy
      have hcall := HL.out (w.drewN q) rfl y hy0.1 hy0.2
      cases hq : decide (t - y > s) with
      | true =>
        rw [hq] at hcall
        have HQ := Aside0.mk hq
        clear hq
        go_wp2_with (go_at_call 31; refine hcall.mono ?_; rintro e w' ⟨rfl, ⟨q2, rfl⟩⟩)
        go_ret
        exact ⟨kk, rfl, by omega, by rw [hl.out (by rw [ht.out, HQ.out]; simp)]; simp, Drawn.step (Drawn.refl _) _⟩
      | false =>
        rw [hq] at hcall
        have HQ := Aside0.mk hq
        clear hq
        go_wp2_with (go_at_call 31; refine hcall.mono ?_; rintro e w' ⟨rfl, ⟨q2, rfl⟩⟩)
        go_roundg (l0.length - (kk + 1))
        case measure => omega
        case rel =>
          exact ⟨kk + 1, by omega, by omega, by go_num, Drawn.step (Drawn.refl _) _, ⟨by rw [ht.out, A.out, HQ.out]; rfl⟩⟩
    · have hltz : ¬ (kk : Int) < (l0.length : Int) := by omega
      have : kk = l0.length := by omega
      subst this
      go_wp2
      go_ret
      exact ⟨-1, rfl, by omega, by have := A.out; rw [List.take_length] at this; rw [this]; rfl, Drawn.step (Drawn.refl _) _⟩
set_option maxHeartbeats 2000000 in
set_option maxRecDepth 100000 in
theorem late_contains (A0 : Option Addr) (c0 : Nat) (l0 : List Int) (w : World) (hr0 : Kd.C (Kd.int .i64) w A0 l0.length l0)
    (a cb B : Nat) (t s : Int) (h0 : w.cell? ⟨a, 0, none⟩ = some (.int .i64 t)) (h1 : w.cell? ⟨cb, 0, none⟩ = some (.pointer (some ⟨B, 0, none⟩))) (h2 : w.cell? ⟨B, 1, none⟩ = some (.int .i64 s))
    (b0 : 0 ≤ t) (b1 : t ≤ 2199023255552) (hb : ∀ k : Nat, 0 ≤ rd l0 k ∧ rd l0 k ≤ 2199023255552) :
    Calls Try.prog 33 #[.slice A0 l0.length c0, .func (.func 31) #[] #[.pointer (some ⟨a, 0, none⟩), .pointer (some ⟨cb, 0, none⟩)]] w fun e w' => e = .returned (.bool (anyFar t s l0)) ∧ Drawn w w' := by
  have H := Aside0.mk (late_index A0 c0 l0 w hr0 a cb B t s h0 h1 h2 b0 b1 hb)
  clear hr0 h0 h1 h2 hb
  go_enter Try.func33, Try.ntmps33
  go_wp2_with (go_at_call 38; refine H.out.mono ?_; rintro e w' ⟨i, rfl, h1, h2, ⟨m, rfl⟩⟩; have H2 := Aside0.mk h2; clear h2)
  go_ret
  exact ⟨by rw [← H2.out]; rfl, Drawn.step (Drawn.refl _) _⟩
end Go.Proofs.Ytfadanmfelbfiaa.L
