/- Frames are told again, cut anywhere: the row of SumBack. -/
import Derived.Test.YtjfmnjhkpkcakaaRows
import Derived.Test.YtjfmnjhkpkcakaaPureSumBack
import Derived.WalkKit
import Derived.ProofKit
import Derived.OpenShut
import Derived.ShutString
import Derived.ChangeOld
import Derived.Below
import Derived.SizedLaws
import Derived.Test.YtjfmnjhkpkcakaaOwnOpen
namespace Go.Proofs.Ytjfmnjhkpkcakaa.sumBack
open Go.ChangeShapes Go.WideShapes Go.ChangeAt Go.RowKit Go.Proofs.Ytjfmnjhkpkcakaa.Opn
open Go.ChangeMaps (open_string shut_string)
set_option linter.unusedVariables false
theorem own : ownKnob Try.prog.godebug = none := by kernel_rfl
theorem laidOut : laidOutB Try.prog = true := by kernel_rfl
open Go.Proofs.YtjfmnjhkpkcakaaW.PrintWords
theorem byte_slice : Opens Try.prog 22 (Kd.slice 5 (Kd.int .u8)) (fun l => l.length ≤ maxLen ∧ l.length * 1 ≤ 140737488351232 ∧ ∀ x ∈ l, (Lit.int .u8 x).wf = true) := Opens.slice Try.underlying22 (by kernel_rfl) (by kernel_rfl) (Opens.int Try.underlying5 (by kernel_rfl))
theorem byte_rows : Opens Try.prog 33 (Kd.slice 22 (Kd.slice 5 (Kd.int .u8))) (fun l => l.length ≤ maxLen ∧ l.length * 24 ≤ 140737488351232 ∧ ∀ x ∈ l, x.length ≤ maxLen ∧ x.length * 1 ≤ 140737488351232 ∧ ∀ y ∈ x, (Lit.int .u8 y).wf = true) := Opens.slice Try.underlying33 (by kernel_rfl) (by kernel_rfl) byte_slice
set_option maxRecDepth 100000 in
theorem lifted (os : Os) (started : os.Started) (H : Type) (enc : TypeId × Value → H) :
    ReturnsInHanded {} Try.checked os 6 .any (Rows.sumBackSpec.pre6 enc Try.prog Try.f6 Rows.sumBackRow.domain false) (Rows.sumBackSpec.post enc Try.prog Try.f6 false true false false) := by
  refine returnsInHanded_of_change_sized (C := Try.checked) own started (by kernel_rfl) Try.func6
    (ChangeSpec.witness6 (enc := enc) (C := Try.checked) false ⟨#[], #[.slice none 0 0, .int .i64 0], []⟩ 8 (by kernel_rfl) (by kernel_rfl) (by kernel_rfl) (by kernel_rfl)) ?_
  intro W base args ds gs before hval0 hW hcnd hsz0 _
  have hsz : (DataW.weightsEach Try.prog (Try.f6.params.toList ++ Rows.sumBackSpec.plain.varTypes Try.prog) (ds ++ gs)).all (· ≤ reachBytes) = true := hsz0
  have hval : ∀ (j : Nat) t v, Try.f6.params[j]? = some t → args[j]? = some v → Value.okWide Try.prog W .any base t v := hval0
  have hW' := hW
  obtain ⟨p, q, hA0, hV, rfl, hfz, hnd⟩ := hW
  have hA : DataW.TrodAll enc Try.prog W 0 (fun _ => true) true Try.f6.params.toList args.toList ds p := hA0
  rw [Try.params6] at hA hval hsz
  obtain ⟨v0, vs0, d0, ds0, p0, q0, hargs, rfl, rfl, h0, r0⟩ := trodAll_cons hA
  obtain ⟨v1, vs1, d1, ds1, p1, q1, rfl, rfl, rfl, h1, r1⟩ := trodAll_cons r0
  obtain ⟨rfl, rfl, rfl⟩ := trodAll_nil r1
  obtain rfl : args = #[v0, v1] := by cases args; simp_all
  obtain ⟨rfl, rfl⟩ := trodVars_none hV
  have k0 := h0
  have lt0 : ∀ x ∈ p0, x.block < W.heap.size := by obtain ⟨m, hm⟩ := k0; exact DataW.trod_lt m _ _ _ hm
  obtain ⟨a0, len0, cap0, rfl⟩ := okWide_slice Try.underlying33 (hval 0 33 v0 rfl rfl)
  obtain ⟨fu0, hf0⟩ := h0
  obtain ⟨l0, hK0, g0⟩ := (byte_rows).reads hf0 (weights_of hsz (j := 0) (t := 33) rfl rfl)
  obtain ⟨A0, c0, e0, hc0, hC0⟩ := hK0
  obtain ⟨ra0, rl0, rc0⟩ : a0 = A0 ∧ len0 = l0.length ∧ cap0 = c0 := by simpa [Value.cells] using e0
  subst ra0 rl0 rc0
  obtain ⟨a1, rfl, rfl, rfl, w1⟩ := open_int Try.underlying3 (hval 1 3 v1 rfl rfl) h1
  clear hA0 hval0 hsz0 hsz
  obtain ⟨k, hk⟩ := Pure.SumBack l0 a1 (fun x hx => Pure.byt_of_wf (g0.2.2 x hx).2.2) (fun x hx => by have := (g0.2.2 x hx).2.1; omega) (by have := g0.2.1; omega)
  refine (Q.joistlaw04_SumBack.calls k a0 cap0 l0 a1 true W hC0 hc0 hk).mono fun e W' ⟨he, bel⟩ => ?_
  subst he
  exact ⟨_, rfl, _, _, _, [], _, [], hW', trodAll_mk1 (shut_bool Try.underlying4 _), (trodAll_cons_mk (Below.trod laidOut (by kernel_rfl) (of_decide_eq_true (by kernel_rfl)) k0 bel lt0) (trodAll_cons_mk (shut_int Try.underlying3 w1) trodAll_mk0)), rfl, bel.frame _, fun h => by cases h⟩
theorem over : Rows.sumBackRow.holds Try.pinned (OpenSpec.ofChange Rows.sumBackSpec) :=
  OpenClaim.holds_of_wide 6 Try.f6 rfl rfl rfl rfl rfl rfl rfl ⟨rfl, rfl, rfl, rfl, rfl⟩ rfl rfl rfl rfl rfl (by kernel_rfl) Try.func6 (by kernel_rfl)
    (of_decide_eq_true (by kernel_rfl)) (by unfold Func.isWrapper; first | (rw [if_pos (by decide +kernel)]; kernel_rfl) | (rw [if_neg (by decide +kernel)]; exact ⟨rfl, rfl⟩))
    (fun os started H enc _ => lifted os started H enc)
theorem proved : Rows.SumBackSaid := over
#print axioms proved
end Go.Proofs.Ytjfmnjhkpkcakaa.sumBack
namespace Go.Proofs.Ytjfmnjhkpkcakaa
/-- The row, under a short name, for the claim. -/
theorem sumBack_holds : Rows.SumBackSaid := sumBack.proved
end Go.Proofs.Ytjfmnjhkpkcakaa
