/- Every Right, Lets, Clone and Apply is answered as the document says: the row of FilterLets. -/
import Derived.Test.YthbgjaboghnpjaaRows
import Derived.Test.YthbgjaboghnpjaaRG
import Derived.WalkKit
import Derived.ProofKit
import Derived.OpenShut
import Derived.ShutString
import Derived.ChangeOld
import Derived.Below
import Derived.SizedLaws
import Derived.Test.YthbgjaboghnpjaaOwnOpen
namespace Go.Proofs.Ythbgjaboghnpjaa.filterLets
open Go.ChangeShapes Go.WideShapes Go.ChangeAt Go.RowKit Go.Proofs.Ythbgjaboghnpjaa.Opn
open Go.ChangeMaps (open_string shut_string)
set_option linter.unusedVariables false
theorem own : ownKnob Try.prog.godebug = none := by kernel_rfl
theorem laidOut : laidOutB Try.prog = true := by kernel_rfl
open Go.Proofs.YthbgjaboghnpjaaW.PrintWords
theorem any_ {α : Type} {P : Program} {T : TypeId} {d : Kd α} {G : α → Prop} (h : Opens P T d G) : Opens P T d (fun _ => True) := ⟨h.size, fun a b => (h.reads a b).elim fun x y => ⟨x, y.1, trivial⟩⟩
structure F24 where
  f0 : List ByteArray
  f1 : ByteArray
  f2 : ByteArray
  f3 : Int
  f4 : Int
  f5 : Int
  f6 : Int
def kF : Kd F24 := Kd.iso (Kd.pair (Kd.slice 9 Kd.string) (Kd.pair Kd.string (Kd.pair Kd.string (Kd.pair (Kd.int .i64) (Kd.pair (Kd.int .i64) (Kd.pair (Kd.int .i64) (Kd.int .i64))))))) (fun x : F24 => (x.f0, x.f1, x.f2, x.f3, x.f4, x.f5, x.f6))
theorem kF_open {w : World} {x : F24} {cs : List Value} (h : kF.K w x cs) : ∃ A c, x.f0.length ≤ c ∧ Kd.C Kd.string w A x.f0.length x.f0 ∧ cs = [.slice A x.f0.length c, .string x.f1, .string x.f2, .int .i64 x.f3, .int .i64 x.f4, .int .i64 x.f5, .int .i64 x.f6] := by
  obtain ⟨_, _, rfl, ⟨A, c, rfl, hc, hC⟩, ⟨_, _, rfl, rfl, ⟨_, _, rfl, rfl, ⟨_, _, rfl, rfl, ⟨_, _, rfl, rfl, ⟨_, _, rfl, rfl, rfl⟩⟩⟩⟩⟩⟩ := h
  exact ⟨A, c, hc, hC, rfl⟩
theorem int_ : Opens Try.prog 3 (Kd.int .i64) (fun x => (Lit.int .i64 x).wf = true) := Opens.int Try.underlying3 (by kernel_rfl)
theorem str_ : Opens Try.prog 9 Kd.string (fun s => s.size ≤ 140737488351232) := Opens.string Try.underlying9 (by kernel_rfl)
theorem texts_ : Opens Try.prog 22 (Kd.slice 9 Kd.string) (fun l => l.length ≤ maxLen ∧ l.length * 16 ≤ 140737488351232 ∧ ∀ x ∈ l, x.size ≤ 140737488351232) := Opens.slice Try.underlying22 (by kernel_rfl) (by kernel_rfl) str_
theorem filter_ : Opens Try.prog 24 kF (fun _ => True) := any_ (Opens.struct Try.underlying24 (by kernel_rfl) (fun x : F24 => (x.f0, x.f1, x.f2, x.f3, x.f4, x.f5, x.f6)) (fun a => ⟨a.1, a.2.1, a.2.2.1, a.2.2.2.1, a.2.2.2.2.1, a.2.2.2.2.2.1, a.2.2.2.2.2.2⟩) (fun _ => rfl) (Opens.more rfl texts_ (Opens.more rfl str_ (Opens.more rfl str_ (Opens.more rfl int_ (Opens.more rfl int_ (Opens.more rfl int_ (Opens.one rfl int_))))))))
theorem val_ : Opens Try.prog 27 Q.k27 (fun _ => True) := any_ (Opens.struct Try.underlying27 (by kernel_rfl) (fun x : Q.S27 => (x.f0, x.f1, x.f2)) (fun a => ⟨a.1, a.2.1, a.2.2⟩) (fun _ => rfl) (Opens.more rfl int_ (Opens.more rfl int_ (Opens.one rfl str_))))
theorem cell_ : Opens Try.prog 29 Q.k29 (fun _ => True) := any_ (Opens.struct Try.underlying29 (by kernel_rfl) (fun x : Q.S29 => (x.f0, x.f1, x.f2, x.f3, x.f4, x.f5)) (fun a => ⟨a.1, a.2.1, a.2.2.1, a.2.2.2.1, a.2.2.2.2.1, a.2.2.2.2.2⟩) (fun _ => rfl) (Opens.more rfl str_ (Opens.more rfl str_ (Opens.more rfl str_ (Opens.more rfl int_ (Opens.more rfl int_ (Opens.one rfl val_)))))))
theorem cells_ : Opens Try.prog 25 (Kd.slice 29 Q.k29) (fun l => l.length ≤ maxLen ∧ l.length * 96 ≤ 140737488351232 ∧ ∀ x ∈ l, True) := Opens.slice Try.underlying25 (by kernel_rfl) (by kernel_rfl) cell_
set_option maxRecDepth 100000 in
theorem lifted (os : Os) (started : os.Started) (H : Type) (enc : TypeId × Value → H) :
    ReturnsInHanded {} Try.checked os 3 .any (Rows.filterLetsSpec.pre6 enc Try.prog Try.f3 Rows.filterLetsRow.domain false) (Rows.filterLetsSpec.post enc Try.prog Try.f3 false true false false) := by
  refine returnsInHanded_of_change_sized (C := Try.checked) own started (by kernel_rfl) Try.func3
    (ChangeSpec.witness6 (enc := enc) (C := Try.checked) false ⟨#[], #[.agg #[.slice none 0 0, .string ByteArray.empty, .string ByteArray.empty, .int .i64 0, .int .i64 0, .int .i64 0, .int .i64 0], .slice none 0 0, .agg #[.string ByteArray.empty, .string ByteArray.empty, .string ByteArray.empty, .int .i64 0, .int .i64 0, .int .i64 0, .int .i64 0, .string ByteArray.empty]], []⟩ 8 (by kernel_rfl) (by kernel_rfl) (by kernel_rfl) (by kernel_rfl)) ?_
  intro W base args ds gs before hval0 hW hcnd hsz0 _
  have hsz : (DataW.weightsEach Try.prog (Try.f3.params.toList ++ Rows.filterLetsSpec.plain.varTypes Try.prog) (ds ++ gs)).all (· ≤ reachBytes) = true := hsz0
  have hval : ∀ (j : Nat) t v, Try.f3.params[j]? = some t → args[j]? = some v → Value.okWide Try.prog W .any base t v := hval0
  have hW' := hW
  obtain ⟨p, q, hA0, hV, rfl, hfz, hnd⟩ := hW
  have hA : DataW.TrodAll enc Try.prog W 0 (fun _ => true) true Try.f3.params.toList args.toList ds p := hA0
  rw [Try.params3] at hA hval hsz
  obtain ⟨v0, vs0, d0, ds0, p0, q0, hargs, rfl, rfl, h0, r0⟩ := trodAll_cons hA
  obtain ⟨v1, vs1, d1, ds1, p1, q1, rfl, rfl, rfl, h1, r1⟩ := trodAll_cons r0
  obtain ⟨v2, vs2, d2, ds2, p2, q2, rfl, rfl, rfl, h2, r2⟩ := trodAll_cons r1
  obtain ⟨rfl, rfl, rfl⟩ := trodAll_nil r2
  obtain rfl : args = #[v0, v1, v2] := by cases args; simp_all
  obtain ⟨rfl, rfl⟩ := trodVars_none hV
  have k0 := h0
  have lt0 : ∀ x ∈ p0, x.block < W.heap.size := by obtain ⟨m, hm⟩ := k0; exact DataW.trod_lt m _ _ _ hm
  obtain ⟨cs0, rfl, hz0⟩ := okWide_struct Try.underlying24 (hval 0 24 v0 rfl rfl)
  obtain ⟨fu0, hf0⟩ := h0
  obtain ⟨l0, hK0, g0⟩ := (filter_).reads hf0 (weights_of hsz (j := 0) (t := 24) rfl rfl)
  obtain ⟨A0, c0, hc0, hC0, e0⟩ := kF_open hK0
  obtain rfl : cs0 = #[.slice A0 l0.f0.length c0, .string l0.f1, .string l0.f2, .int .i64 l0.f3, .int .i64 l0.f4, .int .i64 l0.f5, .int .i64 l0.f6] := by
    have e_ : cs0.toList = [.slice A0 l0.f0.length c0, .string l0.f1, .string l0.f2, .int .i64 l0.f3, .int .i64 l0.f4, .int .i64 l0.f5, .int .i64 l0.f6] := by simpa [Value.cells] using e0
    cases cs0
    simpa using e_
  have k1 := h1
  have lt1 : ∀ x ∈ p1, x.block < W.heap.size := by obtain ⟨m, hm⟩ := k1; exact DataW.trod_lt m _ _ _ hm
  obtain ⟨a1, len1, cap1, rfl⟩ := okWide_slice Try.underlying25 (hval 1 25 v1 rfl rfl)
  obtain ⟨fu1, hf1⟩ := h1
  obtain ⟨l1, hK1, g1⟩ := (cells_).reads hf1 (weights_of hsz (j := 1) (t := 25) rfl rfl)
  obtain ⟨A1, c1, e1, hc1, hC1⟩ := hK1
  obtain ⟨ra1, rl1, rc1⟩ : a1 = A1 ∧ len1 = l1.length ∧ cap1 = c1 := by simpa [Value.cells] using e1
  subst ra1 rl1 rc1
  have k2 := h2
  have lt2 : ∀ x ∈ p2, x.block < W.heap.size := by obtain ⟨m, hm⟩ := k2; exact DataW.trod_lt m _ _ _ hm
  obtain ⟨cs2, rfl, hz2⟩ := okWide_struct Try.underlying29 (hval 2 29 v2 rfl rfl)
  obtain ⟨fu2, hf2⟩ := h2
  obtain ⟨l2, hK2, g2⟩ := (cell_).reads hf2 (weights_of hsz (j := 2) (t := 29) rfl rfl)
  have e2 := Q.k29_open hK2
  obtain rfl : cs2 = #[.string l2.f0, .string l2.f1, .string l2.f2, .int .i64 l2.f3, .int .i64 l2.f4, .int .i64 l2.f5.f0, .int .i64 l2.f5.f1, .string l2.f5.f2] := by
    have e_ : cs2.toList = [.string l2.f0, .string l2.f1, .string l2.f2, .int .i64 l2.f3, .int .i64 l2.f4, .int .i64 l2.f5.f0, .int .i64 l2.f5.f1, .string l2.f5.f2] := by simpa [Value.cells] using e2
    cases cs2
    simpa using e_
  clear hA0 hval0 hsz0 hsz
  refine (Go.Proofs.Ythbgjaboghnpjaa.R.filterLets W A0 c0 l0.f0 l0.f1 l0.f2 l0.f3 l0.f4 l0.f5 l0.f6 a1 cap1 l1 l2 hC0 hc0 hC1 hc1 (by have := g1.2.1; omega)).mono fun e W' ⟨he, bel⟩ => ?_
  subst he
  exact ⟨_, rfl, _, _, _, [], _, [], hW', trodAll_mk1 (shut_bool Try.underlying4 _), (trodAll_cons_mk (Below.trod laidOut (by kernel_rfl) (of_decide_eq_true (by kernel_rfl)) k0 bel lt0) (trodAll_cons_mk (Below.trod laidOut (by kernel_rfl) (of_decide_eq_true (by kernel_rfl)) k1 bel lt1) (trodAll_cons_mk (Below.trod laidOut (by kernel_rfl) (of_decide_eq_true (by kernel_rfl)) k2 bel lt2) trodAll_mk0))), rfl, bel.frame _, fun h => by cases h⟩
theorem over : Rows.filterLetsRow.holds Try.pinned (OpenSpec.ofChange Rows.filterLetsSpec) :=
  OpenClaim.holds_of_wide 3 Try.f3 rfl rfl rfl rfl rfl rfl rfl ⟨rfl, rfl, rfl, rfl, rfl⟩ rfl rfl rfl rfl rfl (by kernel_rfl) Try.func3 (by kernel_rfl)
    (of_decide_eq_true (by kernel_rfl)) (by unfold Func.isWrapper; first | (rw [if_pos (by decide +kernel)]; kernel_rfl) | (rw [if_neg (by decide +kernel)]; exact ⟨rfl, rfl⟩))
    (fun os started H enc _ => lifted os started H enc)
theorem proved : Rows.FilterLetsSaid := over
#print axioms proved
end Go.Proofs.Ythbgjaboghnpjaa.filterLets
namespace Go.Proofs.Ythbgjaboghnpjaa
/-- The row, under a short name, for the claim. -/
theorem filterLets_holds : Rows.FilterLetsSaid := filterLets.proved
end Go.Proofs.Ythbgjaboghnpjaa
