/- The document's sieve in memory: what is asked of it. -/
import Derived.Test.YthbgjaboghnpjaaR5
namespace Go.Proofs.Ythbgjaboghnpjaa.R
open Go.RowKit Go.Proofs.Ythbgjaboghnpjaa.Q Go.Proofs.Ythbgjaboghnpjaa.Pure Go.Proofs.YthbgjaboghnpjaaW.PrintWords Go.Proofs.YthbgjaboghnpjaaW.PrintLast Go.Proofs.YthbgjaboghnpjaaW.PrintMore
set_option linter.unusedVariables false
set_option linter.unusedSimpArgs false
/-- The document's sieve, as it is read. -/
structure Kr (W : World) (R : Nat) (A : Option Addr) (c : Nat) (f0 : List ByteArray) (f1 f2 : ByteArray) (f3 f4 f5 f6 : Int) (A7 : Option Addr) (c7 : Nat) (A8 : Option Addr) (c8 : Nat) (L : List S29) (T : List Bool) : Prop where
  box : W.heap[R]? = some (.cells #[.slice A f0.length c, .string f1, .string f2, .int .i64 f3, .int .i64 f4, .int .i64 f5, .int .i64 f6, .slice A7 L.length c7, .slice A8 T.length c8] 45 (0, 0))
  c7 : Kd.C k29 W A7 L.length L
  c8 : ∀ i, i < T.length → ∃ ad, A8 = some ad ∧ W.cell? (ad.add i) = some (.bool (T.getD i false))
  len : T.length = L.length
section
variable {W W' : World} {R : Nat} {A : Option Addr} {c : Nat} {f0 : List ByteArray} {f1 f2 : ByteArray} {f3 f4 f5 f6 : Int} {A7 : Option Addr} {c7 : Nat} {A8 : Option Addr} {c8 : Nat} {L : List S29} {T : List Bool}
theorem Kr.below (h : Kr W R A c f0 f1 f2 f3 f4 f5 f6 A7 c7 A8 c8 L T) (hb : Below W.heap.size W W') : Kr W' R A c f0 f1 f2 f3 f4 f5 f6 A7 c7 A8 c8 L T :=
  ⟨(hb.block _ (lt_of_block h.box)).trans h.box, Kd.C_below h.c7 hb, fun i hi => by obtain ⟨ad, e, hc⟩ := h.c8 i hi; exact ⟨ad, e, cellB hb hc⟩, h.len⟩
theorem Kr.drewN (h : Kr W R A c f0 f1 f2 f3 f4 f5 f6 A7 c7 A8 c8 L T) (n : Nat) : Kr (W.drewN n) R A c f0 f1 f2 f3 f4 f5 f6 A7 c7 A8 c8 L T := h.below (pw_below_drewN (Below.refl _ _) n)
theorem Kr.q0 (h : Kr W R A c f0 f1 f2 f3 f4 f5 f6 A7 c7 A8 c8 L T) : W.cell? ⟨R, 0, none⟩ = some (.slice A f0.length c) := by simp [World.cell?, h.box]
theorem Kr.q1 (h : Kr W R A c f0 f1 f2 f3 f4 f5 f6 A7 c7 A8 c8 L T) : W.cell? ⟨R, 1, none⟩ = some (.string f1) := by simp [World.cell?, h.box]
theorem Kr.q2 (h : Kr W R A c f0 f1 f2 f3 f4 f5 f6 A7 c7 A8 c8 L T) : W.cell? ⟨R, 2, none⟩ = some (.string f2) := by simp [World.cell?, h.box]
theorem Kr.q3 (h : Kr W R A c f0 f1 f2 f3 f4 f5 f6 A7 c7 A8 c8 L T) : W.cell? ⟨R, 3, none⟩ = some (.int .i64 f3) := by simp [World.cell?, h.box]
theorem Kr.q4 (h : Kr W R A c f0 f1 f2 f3 f4 f5 f6 A7 c7 A8 c8 L T) : W.cell? ⟨R, 4, none⟩ = some (.int .i64 f4) := by simp [World.cell?, h.box]
theorem Kr.q5 (h : Kr W R A c f0 f1 f2 f3 f4 f5 f6 A7 c7 A8 c8 L T) : W.cell? ⟨R, 5, none⟩ = some (.int .i64 f5) := by simp [World.cell?, h.box]
theorem Kr.q6 (h : Kr W R A c f0 f1 f2 f3 f4 f5 f6 A7 c7 A8 c8 L T) : W.cell? ⟨R, 6, none⟩ = some (.int .i64 f6) := by simp [World.cell?, h.box]
theorem Kr.q7 (h : Kr W R A c f0 f1 f2 f3 f4 f5 f6 A7 c7 A8 c8 L T) : W.cell? ⟨R, 7, none⟩ = some (.slice A7 L.length c7) := by simp [World.cell?, h.box]
theorem Kr.q8 (h : Kr W R A c f0 f1 f2 f3 f4 f5 f6 A7 c7 A8 c8 L T) : W.cell? ⟨R, 8, none⟩ = some (.slice A8 T.length c8) := by simp [World.cell?, h.box]
end
section
variable (w : World) (R : Nat) (A : Option Addr) (c : Nat) (f0 : List ByteArray) (f1 f2 : ByteArray) (f3 f4 f5 f6 : Int) (A7 : Option Addr) (c7 : Nat) (A8 : Option Addr) (c8 : Nat) (L : List S29) (T : List Bool)
set_option maxHeartbeats 2000000 in
theorem rRows (h : Kr w R A c f0 f1 f2 f3 f4 f5 f6 A7 c7 A8 c8 L T) (m : Nat) (hm : L.length = m + 1) (hl : m ≤ 1000) :
    Calls Try.prog 38 #[.pointer (some ⟨R, 0, none⟩)] w fun e w' => e = .returned (.int .i64 (rowSt L T m).1) ∧ Drawn0 w w' := by
  have HK := Lib.hid h
  have hz7 := h.q7
  have hz8 := h.q8
  have hlen := h.len
  clear h
  go_enter Try.func38, Try.ntmps38
  go_wp2_with fail
  go_loopg [3, 4, 5] m (fun gg v3 v4 v5 W => ∃ i : Nat, i ≤ m ∧ m - i ≤ gg ∧ v3 = .int .i64 (rowSt L T i).1 ∧ v4 = .bool (rowSt L T i).2 ∧ v5 = .int .i64 i ∧ Drawn0 w W)
  case atStart => exact ⟨0, by omega, by omega, rfl, rfl, rfl, Drawn0.refl _⟩
  case round =>
    obtain ⟨i, hi, hg, rfl, rfl, rfl, ⟨q, rfl⟩⟩ := hrel
    have hw : IntKind.i64.wrap ((i : Int) + 1) = ((i + 1 : Nat) : Int) := by rw [IntWalk.i64_in _ (by omega)]; omega
    by_cases hlt : i < m
    · have hi0 : (0 : Int) ≤ (i : Int) := by omega
      have hi1 : (i : Int) < (L.length : Int) := by omega
      have hi2 : (i : Int) < (T.length : Int) := by omega
      have hj0 : (0 : Int) ≤ ((i + 1 : Nat) : Int) := by omega
      have hj1 : ((i + 1 : Nat) : Int) < (L.length : Int) := by omega
      obtain ⟨ad, e, x0, _⟩ := at_T29 HK.out.c7 (i : Int) hi0 hi1
      obtain ⟨ad', e', y0, _⟩ := at_T29 HK.out.c7 ((i + 1 : Nat) : Int) hj0 hj1
      subst e
      obtain rfl : ad = ad' := by injection e'
      obtain ⟨ad8, e8, z0⟩ := HK.out.c8 i (by omega)
      subst e8
      rw [Int.toNat_natCast] at x0 y0
      have HR : Hid (rowSt L T (i + 1) = _) := rowSt.eq_2 L T i
      have hb := rowSt_le L T i
      generalize rd_T29 L (i : Int) = X at x0 HR
      generalize rd_T29 L ((i + 1 : Nat) : Int) = Y at y0 HR
      generalize T.getD i false = t at z0 HR
      have hw2 : IntKind.i64.wrap ((rowSt L T i).1 + 1) = (rowSt L T i).1 + 1 := IntWalk.i64_in _ (by omega)
      generalize rowSt L T i = p at HR hb hw2
      obtain ⟨n, h⟩ := p
      simp only at HR hw2 ⊢
      clear e' hb
      by_cases hs : X.f0.toList = Y.f0.toList
      · have hb : (X.f0.toList == Y.f0.toList) = true := by simp [hs]
        have HS := Lib.hid hs
        clear hs
        cases h with
        | true =>
          cases t with
          | true =>
            go_wp2_with fail
            go_quiet (fail)
            go_wp2_with fail
            go_roundg (m - (i + 1))
            case measure => omega
            case rel => exact ⟨i + 1, by omega, by omega, by rw [HR.out, if_pos HS.out]; try (first | rfl | (rw [hw2]; rfl) | rw [hw2]), by rw [HR.out, if_pos HS.out]; try rfl, by go_num, ⟨_, rfl⟩⟩
          | false =>
            go_wp2_with fail
            go_quiet (fail)
            go_wp2_with fail
            go_roundg (m - (i + 1))
            case measure => omega
            case rel => exact ⟨i + 1, by omega, by omega, by rw [HR.out, if_pos HS.out]; try (first | rfl | (rw [hw2]; rfl) | rw [hw2]), by rw [HR.out, if_pos HS.out]; try rfl, by go_num, ⟨_, rfl⟩⟩
        | false =>
          cases t with
          | true =>
            go_wp2_with fail
            go_quiet (fail)
            go_wp2_with fail
            go_roundg (m - (i + 1))
            case measure => omega
            case rel => exact ⟨i + 1, by omega, by omega, by rw [HR.out, if_pos HS.out]; try (first | rfl | (rw [hw2]; rfl) | rw [hw2]), by rw [HR.out, if_pos HS.out]; try rfl, by go_num, ⟨_, rfl⟩⟩
          | false =>
            go_wp2_with fail
            go_quiet (fail)
            go_wp2_with fail
            go_roundg (m - (i + 1))
            case measure => omega
            case rel => exact ⟨i + 1, by omega, by omega, by rw [HR.out, if_pos HS.out]; try (first | rfl | (rw [hw2]; rfl) | rw [hw2]), by rw [HR.out, if_pos HS.out]; try rfl, by go_num, ⟨_, rfl⟩⟩
      · have hb : (X.f0.toList == Y.f0.toList) = false := by simp [hs]
        have HS := Lib.hid hs
        clear hs
        cases h with
        | true =>
          cases t with
          | true =>
            go_wp2_with fail
            go_quiet (fail)
            go_wp2_with fail
            go_roundg (m - (i + 1))
            case measure => omega
            case rel => exact ⟨i + 1, by omega, by omega, by rw [HR.out, if_neg HS.out]; try (first | rfl | (rw [hw2]; rfl) | rw [hw2]), by rw [HR.out, if_neg HS.out]; try rfl, by go_num, ⟨_, rfl⟩⟩
          | false =>
            go_wp2_with fail
            go_quiet (fail)
            go_wp2_with fail
            go_roundg (m - (i + 1))
            case measure => omega
            case rel => exact ⟨i + 1, by omega, by omega, by rw [HR.out, if_neg HS.out]; try (first | rfl | (rw [hw2]; rfl) | rw [hw2]), by rw [HR.out, if_neg HS.out]; try rfl, by go_num, ⟨_, rfl⟩⟩
        | false =>
          cases t with
          | true =>
            go_wp2_with fail
            go_quiet (fail)
            go_wp2_with fail
            go_roundg (m - (i + 1))
            case measure => omega
            case rel => exact ⟨i + 1, by omega, by omega, by rw [HR.out, if_neg HS.out]; try (first | rfl | (rw [hw2]; rfl) | rw [hw2]), by rw [HR.out, if_neg HS.out]; try rfl, by go_num, ⟨_, rfl⟩⟩
          | false =>
            go_wp2_with fail
            go_quiet (fail)
            go_wp2_with fail
            go_roundg (m - (i + 1))
            case measure => omega
            case rel => exact ⟨i + 1, by omega, by omega, by rw [HR.out, if_neg HS.out]; try (first | rfl | (rw [hw2]; rfl) | rw [hw2]), by rw [HR.out, if_neg HS.out]; try rfl, by go_num, ⟨_, rfl⟩⟩
    · have : i = m := by omega
      subst this
      have hn : ¬ ((i + 1 : Nat) : Int) < (L.length : Int) := by omega
      go_wp2_with fail
      go_ret
      exact ⟨rfl, ⟨q, rfl⟩⟩
end
end Go.Proofs.Ythbgjaboghnpjaa.R
