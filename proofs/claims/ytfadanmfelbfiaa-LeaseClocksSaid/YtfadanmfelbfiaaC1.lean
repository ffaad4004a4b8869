/- The statements' first line is true. -/
import Derived.Test.YtfadanmfelbfiaaC0
namespace Go.Proofs.Ytfadanmfelbfiaa.L
open Go.RowKit Go.Maps Go.Proofs.YtfadanmfelbfiaaW.PrintWords Go.Proofs.YtfadanmfelbfiaaW.PrintLast Go.Proofs.YtfadanmfelbfiaaW.PrintMore
set_option linter.unusedVariables false
set_option linter.unusedSimpArgs false
theorem a_rb0 : RB [(0, 0), (0, 0)] := ⟨by simp, by simp, fun i => by rcases i with _ | _ | i <;> simp⟩
theorem a_rb1 : RB [(3, 10), (0, 0)] := ⟨by simp, by simp, fun i => by rcases i with _ | _ | i <;> simp⟩
theorem a_rb2 : RB [(3, 10), (4, 20)] := ⟨by simp, by simp, fun i => by rcases i with _ | _ | i <;> simp⟩
theorem a_gb0 : GB [] := fun p hp => by cases hp
theorem a_gb1 : GB [(3, 10)] := fun p hp => by simp at hp; subst hp; simp
theorem a_gb2 : GB [(3, 10), (4, 20)] := fun p hp => by simp at hp; rcases hp with rfl | rfl <;> simp
theorem a_g1 : Gv [(0, 0), (0, 0)] [] 0 3 10 true [(3, 10), (0, 0)] [(3, 10)] := Or.inl ⟨by unfold GiveOk; decide, rfl, rfl, rfl⟩
theorem a_g2 : Gv [(3, 10), (0, 0)] [(3, 10)] 1 4 20 true [(3, 10), (4, 20)] [(3, 10), (4, 20)] := Or.inl ⟨by unfold GiveOk; decide, rfl, rfl, rfl⟩
theorem a_g3 : Gv [(3, 10), (4, 20)] [(3, 10), (4, 20)] 0 2 30 false [(3, 10), (4, 20)] [(3, 10), (4, 20)] := Or.inr ⟨by unfold GiveOk; decide, rfl, rfl, rfl⟩
theorem a_old : OldIs [(3, 10), (4, 20)] 5 3 true := Or.inr ⟨rfl, ⟨_, List.mem_cons_self .., rfl, by simp⟩, fun p hp _ => by simp at hp; rcases hp with rfl | rfl <;> simp⟩
theorem a_may1 : MayIs [(3, 10), (4, 20)] 4 9 false := by unfold MayIs; simp
theorem a_may2 : MayIs [(3, 10), (4, 20)] 4 10 true := by unfold MayIs; simp
theorem a_free : FreeIs [(3, 10), (4, 20)] 4 0 10 := ⟨by omega, Or.inr ⟨_, List.mem_cons_self .., by simp⟩, fun p hp h => by simp at hp; rcases hp with rfl | rfl <;> simp_all⟩
theorem a_cb0 : CB [0, 0] := ⟨by simp, by simp, fun i => by rcases i with _ | _ | i <;> simp⟩
theorem a_cb1 : CB [3, 0] := ⟨by simp, by simp, fun i => by rcases i with _ | _ | i <;> simp⟩
theorem a_t1 : Tk [0, 0] 3 0 3 true [3, 0] := Or.inl ⟨⟨by omega, by simp, by omega, by omega, by simp, fun i hi hne => by
  have : i = 1 := by simp at hi; simp at hne; omega
  subst this
  simp⟩, rfl, rfl⟩
theorem a_t2 : Tk [3, 0] 3 0 1 false [3, 0] := Or.inr ⟨fun h => by
  have := h.2.2.2.2.2 1 (by simp) (by simp)
  simp at this, rfl, rfl⟩
theorem a_spread : IsSpread [3, 0] 3 := ⟨⟨0, 1, by simp, by simp, by simp⟩, fun i k hi hk => by
  simp at hi hk
  have h1 : i = 0 ∨ i = 1 := by omega
  have h2 : k = 0 ∨ k = 1 := by omega
  rcases h1 with rfl | rfl <;> rcases h2 with rfl | rfl <;> simp⟩
set_option maxHeartbeats 4000000 in
set_option maxRecDepth 100000 in
theorem alive (w : World) : Calls Try.prog 8 #[] w fun e w' => e = .returned (.bool true) ∧ Below w.heap.size w w' := by
  have c1 := Lib.hid (new_yes 2 w (by omega) (by omega))
  have v1 := Lib.hid (fun W => valid W 10 6 3)
  have v2 := Lib.hid (fun W => valid W 10 7 3)
  rw [show ValidB 10 6 3 = true from by decide] at v1
  rw [show ValidB 10 7 3 = false from by decide] at v2
  go_enter Try.func8, Try.ntmps8
  go_wp2_with (go_at_call 17; refine c1.out.mono ?_; rintro e w1 ⟨B, g, m, hB, hg, hm, rfl, hbk, hbel⟩)
  have c2 := Lib.hid (newClocks_yes 2 3 w1 (by omega) (by omega) (by omega) (by omega))
  have HBK := Lib.hid hbk
  have HBE := Lib.hid hbel
  clear hbk hbel
  go_wp2_with (first
    | (go_at_call 9; refine c2.out.mono ?_; rintro e w2 ⟨Bc, gc, hBc, hgc, rfl, hck, hbel2⟩; have hst : St w w2 B g m Bc gc [(0, 0), (0, 0)] [] [0, 0] 3 := (have hlt := HBK.out.lt; ⟨HBK.out.below hbel2, hck, HBE.out.trans (hbel2.mono HBE.out.size), ⟨hB, hg, hm, Nat.le_trans HBE.out.size hBc, Nat.le_trans HBE.out.size hgc⟩, by omega⟩); have HS := Lib.hid hst; clear hst hck hbel2)
    | (go_at_call 19; ((with_reducible refine (st_give HS.out a_rb0 a_gb0 (by simp) 0 3 10 _ _ _ a_g1).mono ?_); rintro e w' ⟨rfl, hs⟩; clear HS; have HS := Lib.hid hs; clear hs))
    | (go_at_call 19; ((with_reducible refine (st_give HS.out a_rb1 a_gb1 (by simp) 1 4 20 _ _ _ a_g2).mono ?_); rintro e w' ⟨rfl, hs⟩; clear HS; have HS := Lib.hid hs; clear hs))
    | (go_at_call 19; ((with_reducible refine (st_give HS.out a_rb2 a_gb2 (by simp) 0 2 30 _ _ _ a_g3).mono ?_); rintro e w' ⟨rfl, hs⟩; clear HS; have HS := Lib.hid hs; clear hs))
    | (go_at_call 23; ((with_reducible refine (st_oldest HS.out (by simp) 5 _ _ a_old).mono ?_); rintro e w' ⟨rfl, hs⟩; clear HS; have HS := Lib.hid hs; clear hs))
    | (go_at_call 21; ((with_reducible refine (st_of HS.out a_rb2 1 4 20 (by unfold ofI; simp)).mono ?_); rintro e w' ⟨rfl, hs⟩; clear HS; have HS := Lib.hid hs; clear hs))
    | (go_at_call 25; ((with_reducible refine (st_may HS.out (by simp) 4 9 _ a_may1).mono ?_); rintro e w' ⟨rfl, hs⟩; clear HS; have HS := Lib.hid hs; clear hs))
    | (go_at_call 25; ((with_reducible refine (st_may HS.out (by simp) 4 10 _ a_may2).mono ?_); rintro e w' ⟨rfl, hs⟩; clear HS; have HS := Lib.hid hs; clear hs))
    | (go_at_call 27; ((with_reducible refine (st_free HS.out 4 0 _ a_free).mono ?_); rintro e w' ⟨rfl, hs⟩; clear HS; have HS := Lib.hid hs; clear hs))
    | (go_at_call 11; ((with_reducible refine (st_tick HS.out a_cb0 (by omega) (by omega) 0 3 _ _ a_t1).mono ?_); rintro e w' ⟨rfl, hs⟩; clear HS; have HS := Lib.hid hs; clear hs))
    | (go_at_call 11; ((with_reducible refine (st_tick HS.out a_cb1 (by omega) (by omega) 0 1 _ _ a_t2).mono ?_); rintro e w' ⟨rfl, hs⟩; clear HS; have HS := Lib.hid hs; clear hs))
    | (go_at_call 13; ((with_reducible refine (st_now HS.out a_cb1 0 3 (by unfold nowI; simp)).mono ?_); rintro e w' ⟨rfl, hs⟩; clear HS; have HS := Lib.hid hs; clear hs))
    | (go_at_call 15; ((with_reducible refine (st_spread HS.out a_cb1 _ a_spread).mono ?_); rintro e w' ⟨rfl, hs⟩; clear HS; have HS := Lib.hid hs; clear hs))
    | (go_at_call 29; ((with_reducible refine (v1.out _).mono ?_); rintro e w' ⟨rfl, rfl⟩))
    | (go_at_call 29; ((with_reducible refine (v2.out _).mono ?_); rintro e w' ⟨rfl, rfl⟩))
    | fail)
  go_ret
  exact ⟨rfl, HS.out.bel⟩
end Go.Proofs.Ytfadanmfelbfiaa.L
