/- FilterLets: the callees in meaning. -/
import Derived.Test.YthbgjaboghnpjaaRE
import Derived.Test.YthbgjaboghnpjaaQx12
import Derived.Test.YthbgjaboghnpjaaQx38
import Derived.Test.YthbgjaboghnpjaaQx43
namespace Go.Proofs.Ythbgjaboghnpjaa.R
open Go.RowKit Go.Proofs.Ythbgjaboghnpjaa.Q Go.Proofs.Ythbgjaboghnpjaa.Pure Go.Proofs.YthbgjaboghnpjaaW.PrintWords Go.Proofs.YthbgjaboghnpjaaW.PrintLast Go.Proofs.YthbgjaboghnpjaaW.PrintMore
set_option linter.unusedVariables false
set_option linter.unusedSimpArgs false
theorem sameT_loop (l : List ByteArray) (hl : l.length ≤ 1000) : ∀ (m i : Nat), i + m = l.length → Ev (fun k => joistref00_SameTexts.l0 k l l (i : Int)) true
  | 0, i, h => by
    refine Ev.step (fun k => by simp only [joistref00_SameTexts.l0]; rw [if_neg (by omega)]) ?_
    exact Ev.now _
  | m + 1, i, h => by
    refine Ev.step (fun k => by simp only [joistref00_SameTexts.l0]; rw [if_pos (by omega), if_pos (by omega), if_pos (by omega), if_pos trivial, wrap_one i (by omega)]) ?_
    exact sameT_loop l hl m (i + 1) (by omega)
theorem c_sameT (w : World) (l : List ByteArray) (hl : l.length ≤ 1000) (A1 A2 : Option Addr) (c1 c2 : Nat) (h1 : Kd.C Kd.string w A1 l.length l) (h2 : l.length ≤ c1) (h3 : Kd.C Kd.string w A2 l.length l) (h4 : l.length ≤ c2) :
    Calls Try.prog 19 #[.slice A1 l.length c1, .slice A2 l.length c2] w fun e w' => e = .returned (.bool true) ∧ Below w.heap.size w w' := by
  have hs : Ev (fun k => joistref00_SameTexts.f k l l) true := by
    refine Ev.congr (fun k => by unfold joistref00_SameTexts.f; rw [if_pos rfl]) ?_
    exact sameT_loop l hl l.length 0 (by omega)
  obtain ⟨k, hk⟩ := Ev.rounds (g := fun k => joistref00_SameTexts.f k l l) hs
  exact (joistref00_SameTexts.calls k A1 c1 l A2 c2 l true w h1 h2 h3 h4 hk).mono fun e w' ⟨he, hd⟩ => ⟨he, hd.below⟩
section
variable (w : World) (A : Option Addr) (c : Nat) (f0 : List ByteArray) (f1 f2 : ByteArray) (f3 f4 f5 f6 : Int)
theorem c_lets (hf : SmallF f0 f1 f2) (x : S29) (b : Bool) (hl : lets f0 f1 f2 f3 f4 f5 f6 x = b) (h1 : Kd.C Kd.string w A f0.length f0) (h2 : f0.length ≤ c) :
    Calls Try.prog 14 #[.agg (fcells A c f0 f1 f2 f3 f4 f5 f6), .agg #[.string x.f0, .string x.f1, .string x.f2, .int .i64 x.f3, .int .i64 x.f4, .int .i64 x.f5.f0, .int .i64 x.f5.f1, .string x.f5.f2]] w fun e w' => e = .returned (.bool b) ∧ Below w.heap.size w w' := by
  rw [← hl]
  exact filter_Lets.calls (f0.length + 1) A c f0 f1 f2 f3 f4 f5 f6 x.f0 x.f1 x.f2 x.f3 x.f4 x.f5.f0 x.f5.f1 x.f5.f2 _ w h1 (lets_eq f0 f1 f2 f3 f4 f5 f6 x.f0 x.f1 x.f2 x.f3 x.f4 x.f5.f0 x.f5.f1 x.f5.f2 (by have := hf.1; omega))
theorem c_right (b : Bool) (hb : rightB f0 f1 f2 f3 f4 f5 f6 = b) (h1 : Kd.C Kd.string w A f0.length f0) (h2 : f0.length ≤ c) :
    Calls Try.prog 12 #[.agg (fcells A c f0 f1 f2 f3 f4 f5 f6)] w fun e w' => e = .returned (.bool b) ∧ Below w.heap.size w w' := by
  exact filter_Right.calls A c f0 f1 f2 f3 f4 f5 f6 b w h1 h2 (by unfold filter_Right.f; rw [hb])
theorem c_applyL (l : List S29) (hl : l.length ≤ 1000) (A1 : Option Addr) (c1 : Nat) (h1 : Kd.C Kd.string w A f0.length f0) (h2 : f0.length ≤ c) (h3 : Kd.C k29 w A1 l.length l) (h4 : l.length ≤ c1) :
    Calls Try.prog 17 #[.agg (fcells A c f0 f1 f2 f3 f4 f5 f6), .slice A1 l.length c1] w fun e w' => ∃ v, e = .returned v ∧ Row w' v (applyL f0 f1 f2 f3 f4 f5 f6 l) ∧ Below w.heap.size w w' :=
  (filter_Apply.calls A c f0 f1 f2 f3 f4 f5 f6 A1 c1 l _ w h1 h2 h3 h4 (apply_now f0 f1 f2 f3 f4 f5 f6 l hl)).mono fun e w' ⟨v, he, hr, hb⟩ => ⟨v, he, row_of_R hr, hb⟩
theorem r_applyL (l : List S29) (hsf : SmallF f0 f1 f2) (hsm : ∀ x ∈ l, Small x) (hl : l.length ≤ 80) (A1 : Option Addr) (c1 : Nat) (h1 : Kd.C Kd.string w A f0.length f0) (h2 : f0.length ≤ c) (h3 : Kd.C k29 w A1 l.length l) :
    Calls Try.prog 18 #[.agg (fcells A c f0 f1 f2 f3 f4 f5 f6), .slice A1 l.length c1] w fun e w' => ∃ v, e = .returned v ∧ Row w' v (applyL f0 f1 f2 f3 f4 f5 f6 l) ∧ Below w.heap.size w w' := by
  unfold applyL
  cases hr : rightB f0 f1 f2 f3 f4 f5 f6 with
  | true => rw [if_pos rfl]; exact rApply_yes w A c f0 f1 f2 f3 f4 f5 f6 A1 c1 l hr hsf hsm hl h1 h2 h3
  | false => rw [if_neg (by decide)]; exact rApply_no w A c f0 f1 f2 f3 f4 f5 f6 A1 c1 l hr hsf h1 h2
theorem c_copy (l : List S29) (hl : l.length < 1466015503701) (A1 : Option Addr) (c1 : Nat) (h3 : Kd.C k29 w A1 l.length l) (h4 : l.length ≤ c1) :
    Calls Try.prog 10 #[.slice A1 l.length c1] w fun e w' => ∃ v, e = .returned v ∧ Kd.R k29 29 w' w.heap.size (fun _ => True) v l ∧ Below w.heap.size w w' :=
  joistref00_CopyCells.calls A1 c1 l l w h3 h4 (by unfold joistref00_CopyCells.f; simp only [Option.bind_some, List.length_nil, List.nil_append, Nat.zero_add]; rw [if_pos hl])
theorem applyL_len (l : List S29) (hl : l.length ≤ 80) : (applyL f0 f1 f2 f3 f4 f5 f6 l).length ≤ 1000 := by
  unfold applyL
  split
  · have := svRun_length f0 f1 f2 f3 f4 f5 f6 l sv0
    omega
  · simp
end
end Go.Proofs.Ythbgjaboghnpjaa.R
