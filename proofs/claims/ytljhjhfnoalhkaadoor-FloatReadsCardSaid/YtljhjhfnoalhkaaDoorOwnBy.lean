/- A slice of bytes that came in. -/
import Derived.Test.YtljhjhfnoalhkaaDoorOwnGl
import Derived.ProofKit
import Derived.OpenShut
import Derived.SizedLaws
namespace Go.Proofs.YtljhjhfnoalhkaaDoor.Fl
open Go.RowKit Go.Maps Go.ChangeShapes Go.WideShapes Go.ChangeAt Go.Deep
set_option linter.unusedVariables false
theorem cells5_ : Tryd.prog.cellsOf 5 = 1 := by kernel_rfl
theorem open_byt {H : Type} {enc : TypeId × Value → H} {W : World} {base : Nat} {v : Value} {d : DataW H} {p : List MemPlace} (hval : Value.okWide Tryd.prog W .any base 26 v) (h : DataW.Trod enc Tryd.prog W 0 (fun _ => true) true 26 v d p) :
    ∃ A c, ∃ l : List Int, v = .slice A l.length c ∧ HasB W (.slice A l.length c) l ∧ Byts l ∧ l.length ≤ 9223372036854775807 := by
  obtain ⟨a1, len, cap, rfl⟩ := okWide_slice Tryd.underlying26 hval
  obtain ⟨fuel, hf⟩ := h
  rcases open_ints Tryd.underlying26 Tryd.underlying5 cells5_ hf with ⟨hcs, hx⟩ | ⟨a, len', cap', zs, hcs, _, hl, hm, hz, hx, hcell, hwz⟩
  · simp [Value.cells] at hcs
    obtain ⟨rfl, rfl, rfl⟩ := hcs
    exact ⟨none, 0, [], rfl, HasB.nil W, fun x hx => (by cases hx), by simp⟩
  · simp [Value.cells] at hcs
    obtain ⟨rfl, rfl, rfl⟩ := hcs
    have hlz : len ≤ zs.length := by
      simp only [if_true] at hz
      omega
    have hlen : (zs.take len).length = len := by simp; omega
    refine ⟨some a, cap, zs.take len, by rw [hlen], ⟨some a, cap, rfl, by omega, fun k hk => ⟨a, rfl, ?_⟩⟩, fun x hx => ?_, by unfold maxLen at hm; omega⟩
    · rw [hlen] at hk
      have hcj := hcell k (by omega)
      rw [hcj]
      congr 2
      simp only [List.getD_eq_getElem?_getD]
      rw [List.getElem?_take_of_lt hk]
    · obtain ⟨k, hk, rfl⟩ := List.mem_iff_getElem.1 hx
      have hk2 : k < zs.length := by simp at hk; omega
      have hb := range_u8 hwz k
      rw [List.getElem_take]
      simp only [List.getElem?_eq_getElem hk2, Option.getD_some] at hb
      omega
end Go.Proofs.YtljhjhfnoalhkaaDoor.Fl
