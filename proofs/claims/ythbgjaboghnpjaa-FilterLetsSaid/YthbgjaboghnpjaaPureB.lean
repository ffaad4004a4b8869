/- The document's Sort: in the order of row, family and qualifier; in plain Lean, on the printed functions alone. -/
import Derived.Test.YthbgjaboghnpjaaPureA
set_option linter.unusedVariables false
set_option linter.unusedSimpArgs false
namespace Go.Proofs.Ythbgjaboghnpjaa.Pure
open Go.RowKit Go.Proofs.Ythbgjaboghnpjaa.Q Go.Proofs.YthbgjaboghnpjaaW.PrintWords Go.Proofs.YthbgjaboghnpjaaW.PrintLast Go.Proofs.YthbgjaboghnpjaaW.PrintMore

/-! ### it comes to an end, and says something -/
def Has (g : Nat → Option Bool) : Prop := ∃ r, Ev g r
theorem Has.now (r : Bool) : Has (fun _ => some r) := ⟨r, Ev.now r⟩
theorem Has.step {g f : Nat → Option Bool} (h : ∀ k, g (k + 1) = f k) (k : Has f) : Has g := k.elim fun r e => ⟨r, Ev.step h e⟩
theorem Has.congr {g f : Nat → Option Bool} (h : ∀ k, g k = f k) (k : Has f) : Has g := k.elim fun r e => ⟨r, Ev.congr h e⟩
theorem Has.ite {p : Prop} [Decidable p] {g f : Nat → Option Bool} (h1 : p → Has g) (h2 : ¬ p → Has f) : Has (fun k => if p then g k else f k) := by
  by_cases h : p
  · exact Has.congr (fun k => if_pos h) (h1 h)
  · exact Has.congr (fun k => if_neg h) (h2 h)
theorem wrap_sum (a b : Nat) (h : a + b < 1000000000000) : wrap64 ((a : Int) + (b : Int)) = ((a + b : Nat) : Int) := by unfold wrap64; omega

/-- What stands behind position i of the text is looked at to the end. -/
theorem utf8_l1 (s : ByteArray) (hs : s.size < 1000) (i n : Nat) (hin : i + n < s.size) (least : Int) (hnext : Has (fun k => joistref02_Utf8.l0 k s ((i + (n + 1) : Nat) : Int))) :
    ∀ (m j : Nat) (c : Int), j + m = n + 1 → Has (fun k => joistref02_Utf8.l1 k s (i : Int) c (n : Int) least (j : Int))
  | 0, j, c, hj => by
    refine Has.step (fun k => by simp only [joistref02_Utf8.l1]; rw [if_neg (by omega)]) ?_
    have hw : wrap64 ((i : Int) + wrap64 ((n : Int) + 1)) = ((i + (n + 1) : Nat) : Int) := by
      rw [wrap_one n (by omega), wrap_sum i (n + 1) (by omega)]
    rw [hw]
    exact Has.ite (fun _ => Has.now _) fun _ => Has.ite (fun _ => Has.now _) fun _ => Has.ite (fun _ => Has.ite (fun _ => Has.now _) fun _ => hnext) fun _ => hnext
  | m + 1, j, c, hj => by
    have hw : wrap64 ((i : Int) + (j : Int)) = ((i + j : Nat) : Int) := wrap_sum i j (by omega)
    refine Has.step (fun k => by simp only [joistref02_Utf8.l1]; rw [if_pos (by omega), hw, if_pos (by omega), if_pos (by omega), wrap_one j (by omega)]) ?_
    exact Has.ite (fun _ => Has.now _) fun _ => Has.ite (fun _ => Has.now _) fun _ => utf8_l1 s hs i n hin least hnext m (j + 1) _ (by omega)
theorem utf8_l0 (s : ByteArray) (hs : s.size < 1000) : ∀ (m i : Nat), s.size < i + m → Has (fun k => joistref02_Utf8.l0 k s (i : Int))
  | 0, i, h => by
    exact Has.step (fun k => by simp only [joistref02_Utf8.l0]; rw [if_neg (by omega)]) (Has.now _)
  | m + 1, i, h => by
    by_cases hi : i < s.size
    · refine Has.step (fun k => by simp only [joistref02_Utf8.l0]; rw [if_pos (by omega), if_pos (by omega), wrap_one i (by omega)]) ?_
      have go : ∀ (n : Nat) (c least : Int), n ≤ 3 → 1 ≤ n → Has (fun k => joistref02_Utf8.j3 k s (i : Int) c (n : Int) least) := by
        intro n c least hn hn1
        refine Has.step (fun k => by simp only [joistref02_Utf8.j3]; rw [wrap_sum i n (by omega)]) ?_
        refine Has.ite (fun _ => Has.now _) fun hlt => ?_
        exact utf8_l1 s hs i n (by omega) least (utf8_l0 s hs m (i + (n + 1)) (by omega)) n 1 c (by omega)
      have g1 := fun c => go 1 c 128 (by omega) (by omega)
      have g2 := fun c => go 2 c 2048 (by omega) (by omega)
      have g3 := fun c => go 3 c 65536 (by omega) (by omega)
      have j2 : ∀ (c : Int) (b : Bool), Has (fun k => joistref02_Utf8.j2 k s (i : Int) c b) := fun c b =>
        Has.step (fun k => by simp only [joistref02_Utf8.j2]; rfl) (Has.ite (fun _ => g2 _) fun _ => Has.ite (fun _ => Has.ite (fun _ => g3 _) fun _ => Has.now _) fun _ => Has.now _)
      have j1 : ∀ (c : Int) (b : Bool), Has (fun k => joistref02_Utf8.j1 k s (i : Int) c b) := fun c b =>
        Has.step (fun k => by simp only [joistref02_Utf8.j1]; rfl) (Has.ite (fun _ => g1 _) fun _ => Has.ite (fun _ => j2 _ _) fun _ => j2 _ _)
      exact Has.ite (fun _ => utf8_l0 s hs m (i + 1) (by omega)) fun _ => Has.ite (fun _ => j1 _ _) fun _ => j1 _ _
    · exact Has.step (fun k => by simp only [joistref02_Utf8.l0]; rw [if_neg (by omega)]) (Has.now _)
theorem Utf8 (s : ByteArray) (hs : s.size < 1000) : Has (fun k => joistref02_Utf8.f k s) := utf8_l0 s hs (s.size + 1) 0 (by omega)
end Go.Proofs.Ythbgjaboghnpjaa.Pure
