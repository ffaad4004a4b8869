-- Written by a program of this session, out of Lean's print of the loaded program (a patched copy of the kit's print).
import Derived.Test.YtjfmnjhkpkcakaaQx0
import Derived.Test.YtjfmnjhkpkcakaaQx4
import Derived.Test.YtjfmnjhkpkcakaaQx6
import Derived.Test.YtjfmnjhkpkcakaaQx13
import Derived.Test.YtjfmnjhkpkcakaaQx14
namespace Go.Proofs.Ytjfmnjhkpkcakaa.Q
open Go.RowKit Go.Proofs.YtjfmnjhkpkcakaaW.PrintWords Go.Proofs.YtjfmnjhkpkcakaaW.PrintLast Go.Proofs.YtjfmnjhkpkcakaaW.PrintMore
attribute [local go_sem] max2_int min2_int max_two min_two max_three min_three max_four min_four   -- for this text's walks alone
set_option linter.unusedVariables false
set_option linter.unusedSimpArgs false

/-! ### joistlaw04_alive: function 8 -/
def joistlaw04_alive.f : Option Bool := some true
theorem alive_bytes {W : World} {b : Nat} {fr : Nat × Nat} (l : List Int) (hl : l.length ≤ 100) (h : W.heap[b]? = some (.cells (nums .u8 l).toArray 5 fr)) : Kd.C (Kd.int .u8) W (some ⟨b, 0, none⟩) l.length l := by
  refine Kd.C_of_reads (d := (0 : Int)) (h1 := fun _ => rfl) ⟨rfl, by omega, fun _ => ⟨_, rfl, fun j hj => ?_⟩⟩
  rw [add_plain]
  simp [World.cell?, h, nums, List.getElem?_eq_getElem hj, List.getD_eq_getElem?_getD]
set_option maxHeartbeats 8000000 in
set_option maxRecDepth 100000 in
theorem joistlaw04_alive.calls (r : Bool) (w : World) (h : joistlaw04_alive.f = some r) :
    Calls Try.prog 8 #[] w fun e w' => e = .returned (.bool r) ∧ Below w.heap.size w w' := by
  obtain rfl := Option.some.inj h
  clear h
  have hF := Aside0.mk (show sum_Frame.f 10 [97] = some ([1, 97, 0, 98, 0, 98], true) by decide +kernel)
  have hN := Aside0.mk (show sum_Next.f 10 [1, 97, 0, 98, 0, 98, 7] = some ([97], [7], 0) by decide +kernel)
  have hS := Aside0.mk (show sum_Sum.f 10 [] = some 1 by decide +kernel)
  have hE := Aside0.mk (show joistref00_SameBytes.f 10 [1, 97, 0, 98, 0, 98] [1, 97, 0, 98, 0, 98] = some true by decide +kernel)
  have kc := fun (w : World) (C : Array Value) (n c : Nat) => Lib.run_convert_bytes_const (P := Try.prog) w 22 5 C n c Try.underlying22 Try.underlying5
  go_enter Try.func8, Try.ntmps8
  go_wp2_with fail
  refine (sum_Frame.calls 10 (fun k => k < (w.alloc (Obj.cells #[Value.int IntKind.u8 97] 5 (1, 2))).heap.size) (some ⟨w.heap.size, 0, none⟩) 1 [97] _ true _ (Kd.V_mk (by decide) (Kd.C_F (Kd.heap_int _) (alive_bytes [97] (by decide) (heap_alloc_new _ _)))) hF.out).mono ?_
  rintro e w1 ⟨v0, rfl, ho, hb⟩
  have HB := Aside0.mk (below_then (below_alloc (Below.refl _ _) _) (below_size (below_alloc (Below.refl _ _) _)) hb : Below w.heap.size w w1)
  obtain ⟨Af, cf, rfl, hfl, hfC⟩ := Kd.R_reads ho
  have HF := Aside0.mk hfC
  have HFL := Aside0.mk hfl
  clear ho hb hfl hfC hF
  go_wp2_with fail
  refine (sum_Next.calls 10 (some ⟨w1.heap.size, 0, none⟩) 7 [1, 97, 0, 98, 0, 98, 7] _ _ _ _ (alive_bytes [1, 97, 0, 98, 0, 98, 7] (by decide) (heap_alloc_new _ _)) (by decide) hN.out).mono ?_
  rintro e w2 ⟨v1, v2, rfl, hx, hy, hb⟩
  have HB2 := Aside0.mk (below_then (below_alloc (Below.refl _ _) _) (below_size (below_alloc (Below.refl _ _) _)) hb : Below w1.heap.size w1 w2)
  obtain ⟨Ax, cx, rfl, hxl, hxF⟩ := hx
  obtain ⟨Ay, cy, rfl⟩ := Kd.R_slice hy
  clear hN hb
  have HX := Aside0.mk (Kd.F_now hxF)
  clear hxF hy
  have HF2 := Aside0.mk (Kd.C_below HF.out HB2.out)
  go_wp2_with fail
  refine (joistref00_SameBytes.calls 10 Af cf [1, 97, 0, 98, 0, 98] (some ⟨w2.heap.size, 0, none⟩) 6 [1, 97, 0, 98, 0, 98] _ _ (Kd.C_alloc HF2.out _) HFL.out (alive_bytes [1, 97, 0, 98, 0, 98] (by decide) (heap_alloc_new _ _)) (by decide) hE.out).mono ?_
  rintro e w3 ⟨rfl, ⟨m, rfl⟩⟩
  have hcv := Kd.C_string (P := Try.prog) (A := Ax) (c := cx) Try.underlying22 Try.underlying5 Try.underlying9 (Kd.C_drewN (Kd.C_alloc HX.out (.cells (nums .u8 [1, 97, 0, 98, 0, 98]).toArray 5)) m)
  have hcs : strOfNums [97] = ⟨#[97]⟩ := by decide +kernel
  rw [hcs] at hcv
  clear hcs
  change Sem.run Try.prog (convert 22 9 (Value.slice Ax 1 cx)) _ = _ at hcv
  go_wp2_with fail
  refine (sum_Sum.calls 10 none 0 [] _ _ (Kd.C_nil _ _) (by decide) hS.out).mono ?_
  rintro e w4 ⟨rfl, ⟨m2, rfl⟩⟩
  go_wp2
  go_ret
  exact ⟨rfl, pw_below_drewN (below_alloc (below_then HB.out (below_size HB.out) HB2.out) _) _⟩

end Go.Proofs.Ytjfmnjhkpkcakaa.Q
