/- The document's book of leases: the questions. -/
import Derived.Test.YtfadanmfelbfiaaB4
namespace Go.Proofs.Ytfadanmfelbfiaa.L
open Go.RowKit Go.Maps Go.Proofs.YtfadanmfelbfiaaW.PrintWords Go.Proofs.YtfadanmfelbfiaaW.PrintLast Go.Proofs.YtfadanmfelbfiaaW.PrintMore
set_option linter.unusedVariables false
set_option linter.unusedSimpArgs false
theorem take_snoc (gs : Gs) (k : Nat) (hk : k < gs.length) : gs.take (k + 1) = gs.take k ++ [gs.getD k (0, 0)] := by
  rw [List.take_succ_eq_append_getElem hk, List.getD_eq_getElem?_getD, List.getElem?_eq_getElem hk]; rfl
theorem OldIs.start (gs : Gs) (now : Int) : OldIs (gs.take 0) now 0 false := Or.inl ⟨rfl, rfl, fun p hp => by simp at hp⟩
theorem OldIs.new {gs : Gs} {k : Nat} {now x a b : Int} {s : Bool} (h : OldIs (gs.take k) now x s) (hk : k < gs.length) (hp : gs.getD k (0, 0) = (a, b)) (hn : now < b) (hs : s = false ∨ a < x) : OldIs (gs.take (k + 1)) now a true := by
  rw [take_snoc gs k hk, hp]
  refine Or.inr ⟨rfl, ⟨_, List.mem_append_right _ (List.mem_singleton.2 rfl), rfl, hn⟩, fun q hq hqn => ?_⟩
  rcases List.mem_append.1 hq with hq | hq
  · rcases h with ⟨rfl, rfl, h⟩ | ⟨rfl, _, h⟩
    · exact absurd hqn (h q hq)
    · have := h q hq hqn
      rcases hs with hs | hs
      · cases hs
      · omega
  · simp at hq; subst hq; exact Int.le_refl _
theorem OldIs.old {gs : Gs} {k : Nat} {now x a b : Int} {s : Bool} (h : OldIs (gs.take k) now x s) (hk : k < gs.length) (hp : gs.getD k (0, 0) = (a, b)) (hn : b ≤ now ∨ (s = true ∧ x ≤ a)) : OldIs (gs.take (k + 1)) now x s := by
  rw [take_snoc gs k hk, hp]
  rcases h with ⟨rfl, rfl, h⟩ | ⟨rfl, ⟨p, hp', e, hpn⟩, h⟩
  · refine Or.inl ⟨rfl, rfl, fun q hq hqn => ?_⟩
    rcases List.mem_append.1 hq with hq | hq
    · exact h q hq hqn
    · simp at hq; subst hq
      rcases hn with hn | ⟨hn, _⟩
      · simp only at hqn; omega
      · cases hn
  · refine Or.inr ⟨rfl, ⟨p, List.mem_append_left _ hp', e, hpn⟩, fun q hq hqn => ?_⟩
    rcases List.mem_append.1 hq with hq | hq
    · exact h q hq hqn
    · simp at hq; subst hq
      simp only at hqn ⊢
      rcases hn with hn | ⟨_, hn⟩ <;> omega
theorem FreeIs.start (gs : Gs) (v now : Int) : FreeIs (gs.take 0) v now now := ⟨Int.le_refl _, Or.inl rfl, fun p hp => by simp at hp⟩
theorem FreeIs.step {gs : Gs} {k : Nat} {v now x y a b : Int} (h : FreeIs (gs.take k) v now x) (hk : k < gs.length) (hp : gs.getD k (0, 0) = (a, b)) (hy : (a < v ∧ x < b ∧ y = b) ∨ ((v ≤ a ∨ b ≤ x) ∧ y = x)) : FreeIs (gs.take (k + 1)) v now y := by
  rw [take_snoc gs k hk, hp]
  obtain ⟨h1, h2, h3⟩ := h
  refine ⟨by omega, ?_, fun q hq hv => ?_⟩
  · rcases hy with ⟨ha, hb, rfl⟩ | ⟨_, rfl⟩
    · exact Or.inr ⟨_, List.mem_append_right _ (List.mem_singleton.2 rfl), ha, rfl⟩
    · rcases h2 with h2 | ⟨p, hp', hpv, e⟩
      · exact Or.inl h2
      · exact Or.inr ⟨p, List.mem_append_left _ hp', hpv, e⟩
  · rcases List.mem_append.1 hq with hq | hq
    · have := h3 q hq hv
      clear h2
      omega
    · simp at hq; subst hq
      simp only at hv ⊢
      clear h2
      omega
theorem own_shape {w : World} {v : Value} {l : List Int} (h : OwnI w v l) : ∃ A c, v = .slice A l.length c ∧ l.length ≤ 9223372036854775807 ∧ ∀ k, k < l.length → ∃ g, A = some ⟨g, 0, none⟩ ∧ w.cell? ⟨g, k, none⟩ = some (.int .i64 (l.getD k 0)) := by
  rcases owns_cells h with ⟨rfl, rfl⟩ | ⟨g, c, rfl, _, hl, hc⟩
  · exact ⟨none, 0, rfl, by simp, fun k hk => by simp at hk⟩
  · exact ⟨_, c, rfl, hl, fun k hk => ⟨g, rfl, hc k hk⟩⟩
set_option maxHeartbeats 2000000 in
theorem rOldest (w : World) (R gv gu : Nat) (v3 v4 : Value) (gr gs : Gs) (now : Int) (h : RBk w R gv gu v3 v4 gr gs) : Calls Try.prog 24 #[.pointer (some ⟨R, 0, none⟩), .int .i64 now] w (OldPost gs now w) := by
  have hc2 := h.c2
  have hc3 := h.c3
  obtain ⟨A3, c3, rfl, hl3, ha3⟩ := own_shape h.o3
  obtain ⟨A4, c4, rfl, hl4, ha4⟩ := own_shape h.o4
  simp only [List.length_map] at hc2 hc3 hl3 ha3 ha4
  have H3 := Lib.hid ha3
  have H4 := Lib.hid ha4
  clear ha3 ha4 h hl4
  go_enter Try.func24, Try.ntmps24
  go_wp2
  go_loopg [6, 7, 8] gs.length (fun gg v6 v7 v8 wr => ∃ (k : Nat) (x : Int) (s : Bool), k ≤ gs.length ∧ gs.length - k ≤ gg ∧ v8 = .int .i64 k ∧ v6 = .int .i64 x ∧ v7 = .bool s ∧ Hid (OldIs (gs.take k) now x s) ∧ Drawn w wr)
  case atStart => exact ⟨0, 0, false, by omega, by omega, rfl, rfl, rfl, OldIs.start gs now, Drawn.refl _⟩
  case round =>
    obtain ⟨k, x, s, hk, hg, rfl, rfl, rfl, HO, ⟨q, rfl⟩⟩ := hrel
    by_cases hlt : k < gs.length
    · obtain ⟨g3, e3, hv3⟩ := H3.out k hlt
      obtain ⟨g4, e4, hv4⟩ := H4.out k hlt
      subst e3 e4
      rw [fst_getD] at hv3
      rw [snd_getD] at hv4
      obtain ⟨p, hp⟩ : ∃ p, gs.getD k (0, 0) = p := ⟨_, rfl⟩
      rw [hp] at hv3 hv4
      obtain ⟨a, b⟩ := p
      simp only at hv3 hv4
      have HP := Lib.hid hp
      clear hp
      by_cases hn : now < b
      · cases s with
        | false =>
          go_wp2
          go_roundg (gs.length - (k + 1))
          case measure => omega
          case rel => exact ⟨k + 1, a, true, by omega, by omega, by go_num, rfl, rfl, HO.out.new hlt HP.out hn (Or.inl rfl), Drawn.step (Drawn.refl _) _⟩
        | true =>
          by_cases hx : a < x
          · go_wp2
            go_roundg (gs.length - (k + 1))
            case measure => omega
            case rel => exact ⟨k + 1, a, true, by omega, by omega, by go_num, rfl, rfl, HO.out.new hlt HP.out hn (Or.inr hx), Drawn.step (Drawn.refl _) _⟩
          · go_wp2
            go_roundg (gs.length - (k + 1))
            case measure => omega
            case rel => exact ⟨k + 1, x, true, by omega, by omega, by go_num, rfl, rfl, HO.out.old hlt HP.out (Or.inr ⟨rfl, by omega⟩), Drawn.step (Drawn.refl _) _⟩
      · go_wp2
        go_roundg (gs.length - (k + 1))
        case measure => omega
        case rel => exact ⟨k + 1, x, s, by omega, by omega, by go_num, rfl, rfl, HO.out.old hlt HP.out (Or.inl (by omega)), Drawn.step (Drawn.refl _) _⟩
    · have hk' : k = gs.length := by omega
      subst hk'
      go_wp2
      go_ret2
      exact ⟨x, s, rfl, by have := HO.out; rwa [List.take_length] at this, below_drewN (Below.refl _ _) _⟩
set_option maxHeartbeats 2000000 in
theorem rFree (w : World) (R gv gu : Nat) (v3 v4 : Value) (gr gs : Gs) (v now : Int) (h : RBk w R gv gu v3 v4 gr gs) : Calls Try.prog 28 #[.pointer (some ⟨R, 0, none⟩), .int .i64 v, .int .i64 now] w (FreePost gs v now w) := by
  have hc2 := h.c2
  have hc3 := h.c3
  obtain ⟨A3, c3, rfl, hl3, ha3⟩ := own_shape h.o3
  obtain ⟨A4, c4, rfl, hl4, ha4⟩ := own_shape h.o4
  simp only [List.length_map] at hc2 hc3 hl3 ha3 ha4
  have H3 := Lib.hid ha3
  have H4 := Lib.hid ha4
  clear ha3 ha4 h hl4
  go_enter Try.func28, Try.ntmps28
  go_wp2
  go_loopg [7, 8] gs.length (fun gg v7 v8 wr => ∃ (k : Nat) (x : Int), k ≤ gs.length ∧ gs.length - k ≤ gg ∧ v8 = .int .i64 k ∧ v7 = .int .i64 x ∧ Hid (FreeIs (gs.take k) v now x) ∧ Drawn w wr)
  case atStart => exact ⟨0, now, by omega, by omega, rfl, rfl, FreeIs.start gs v now, Drawn.refl _⟩
  case round =>
    obtain ⟨k, x, hk, hg, rfl, rfl, HO, ⟨q, rfl⟩⟩ := hrel
    by_cases hlt : k < gs.length
    · obtain ⟨g3, e3, hv3⟩ := H3.out k hlt
      obtain ⟨g4, e4, hv4⟩ := H4.out k hlt
      subst e3 e4
      rw [fst_getD] at hv3
      rw [snd_getD] at hv4
      obtain ⟨p, hp⟩ : ∃ p, gs.getD k (0, 0) = p := ⟨_, rfl⟩
      rw [hp] at hv3 hv4
      obtain ⟨a, b⟩ := p
      simp only at hv3 hv4
      have HP := Lib.hid hp
      clear hp
      by_cases ha : a < v
      · by_cases hx : x < b
        · go_wp2
          go_roundg (gs.length - (k + 1))
          case measure => omega
          case rel => exact ⟨k + 1, b, by omega, by omega, by go_num, rfl, HO.out.step hlt HP.out (Or.inl ⟨ha, hx, rfl⟩), Drawn.step (Drawn.refl _) _⟩
        · go_wp2
          go_roundg (gs.length - (k + 1))
          case measure => omega
          case rel => exact ⟨k + 1, x, by omega, by omega, by go_num, rfl, HO.out.step hlt HP.out (Or.inr ⟨by omega, rfl⟩), Drawn.step (Drawn.refl _) _⟩
      · go_wp2
        go_roundg (gs.length - (k + 1))
        case measure => omega
        case rel => exact ⟨k + 1, x, by omega, by omega, by go_num, rfl, HO.out.step hlt HP.out (Or.inr ⟨by omega, rfl⟩), Drawn.step (Drawn.refl _) _⟩
    · have hk' : k = gs.length := by omega
      subst hk'
      go_wp2
      go_ret
      exact ⟨x, rfl, by have := HO.out; rwa [List.take_length] at this, below_drewN (Below.refl _ _) _⟩
theorem rMay (w : World) (R gv gu : Nat) (v3 v4 : Value) (gr gs : Gs) (v now : Int) (h : RBk w R gv gu v3 v4 gr gs) : Calls Try.prog 26 #[.pointer (some ⟨R, 0, none⟩), .int .i64 v, .int .i64 now] w (MayPost gs v now w) := by
  have HO := Lib.hid (rOldest w R gv gu v3 v4 gr gs now h)
  clear h
  go_enter Try.func26, Try.ntmps26
  go_wp2_with (go_at_call 24; refine HO.out.mono ?_; rintro e w' ⟨x, ok, rfl, hx, hb⟩; have HX := Lib.hid (hx.may (v := v)); have HB := Lib.hid hb; clear hx hb)
  all_goals
    go_ret
    exact ⟨_, rfl, by have hh := HX.out; simpa [*] using hh, HB.out⟩
end Go.Proofs.Ytfadanmfelbfiaa.L
