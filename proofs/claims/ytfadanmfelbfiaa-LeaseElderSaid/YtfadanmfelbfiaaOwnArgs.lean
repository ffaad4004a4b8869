/- What the arguments of the statements on leases read as. -/
import Derived.Test.YtfadanmfelbfiaaC2
import Derived.Test.YtfadanmfelbfiaaOwnOpen
namespace Go.Proofs.Ytfadanmfelbfiaa.L
open Go.RowKit Go.Proofs.Ytfadanmfelbfiaa.Opn Go.Proofs.YtfadanmfelbfiaaW.PrintWords
set_option linter.unusedVariables false
theorem any_ {α : Type} {P : Program} {T : TypeId} {d : Kd α} {G : α → Prop} (h : Opens P T d G) : Opens P T d (fun _ => True) := ⟨h.size, fun a b => (h.reads a b).elim fun x y => ⟨x, y.1, trivial⟩⟩
theorem add_field_ (ad : Addr) (i j : Nat) (hj : j ≠ 0) : ad.add (i + j) = ⟨(ad.add i).block, (ad.add i).off + j, none⟩ := by
  unfold Addr.add
  by_cases h : i = 0
  · subst h; rw [if_neg (by omega), if_pos rfl, Nat.zero_add]
  · rw [if_neg (by omega), if_neg h, Nat.add_assoc]
def kT : Kd (Int × Int) := Kd.iso (Kd.pair (Kd.int .i64) (Kd.int .i64)) (fun x : Int × Int => (x.1, x.2))
def kL : Kd T3 := Kd.iso (Kd.pair (Kd.int .i64) (Kd.pair (Kd.int .i64) (Kd.int .i64))) (fun x : T3 => (x.1, x.2.1, x.2.2))
theorem kT_open {w : World} {x : Int × Int} {cs : List Value} (h : kT.K w x cs) : cs = [.int .i64 x.1, .int .i64 x.2] := by
  obtain ⟨_, _, rfl, rfl, rfl⟩ := h
  rfl
theorem kL_open {w : World} {x : T3} {cs : List Value} (h : kL.K w x cs) : cs = [.int .i64 x.1, .int .i64 x.2.1, .int .i64 x.2.2] := by
  obtain ⟨_, _, rfl, rfl, ⟨_, _, rfl, rfl, rfl⟩⟩ := h
  rfl
theorem int_ : Opens Try.prog 3 (Kd.int .i64) (fun x => (Lit.int .i64 x).wf = true) := Opens.int Try.underlying3 (by kernel_rfl)
theorem tick_ : Opens Try.prog 33 kT (fun x => (Lit.int .i64 x.1).wf = true ∧ (Lit.int .i64 x.2).wf = true) := Opens.struct Try.underlying33 (by kernel_rfl) (fun x : Int × Int => (x.1, x.2)) (fun a => a) (fun _ => rfl) (Opens.more rfl int_ (Opens.one rfl int_))
theorem lease_ : Opens Try.prog 45 kL (fun x => (Lit.int .i64 x.1).wf = true ∧ (Lit.int .i64 x.2.1).wf = true ∧ (Lit.int .i64 x.2.2).wf = true) := Opens.struct Try.underlying45 (by kernel_rfl) (fun x : T3 => (x.1, x.2.1, x.2.2)) (fun a => a) (fun _ => rfl) (Opens.more rfl int_ (Opens.more rfl int_ (Opens.one rfl int_)))
theorem ticks_ : Opens Try.prog 22 (Kd.slice 33 kT) (fun l => l.length ≤ maxLen ∧ l.length * 16 ≤ 140737488351232 ∧ ∀ x ∈ l, (Lit.int .i64 x.1).wf = true ∧ (Lit.int .i64 x.2).wf = true) := Opens.slice Try.underlying22 (by kernel_rfl) (by kernel_rfl) tick_
theorem list_ : Opens Try.prog 37 (Kd.slice 45 kL) (fun l => l.length ≤ maxLen ∧ l.length * 24 ≤ 140737488351232 ∧ ∀ x ∈ l, (Lit.int .i64 x.1).wf = true ∧ (Lit.int .i64 x.2.1).wf = true ∧ (Lit.int .i64 x.2.2).wf = true) := Opens.slice Try.underlying37 (by kernel_rfl) (by kernel_rfl) lease_
theorem hasT {w : World} {A : Option Addr} {l : Gs} (h : Kd.C kT w A l.length l) : HasT w A l := fun k hk => by
  obtain ⟨ad, c, e, _, hK, hc0⟩ := Kd.C_get h (0, 0) k (by omega) (by omega)
  rw [Int.toNat_natCast] at hK hc0
  have hc : ∀ j u, c[j]? = some u → w.cell? (ad.add (k * 2 + j)) = some u := hc0
  obtain rfl := kT_open hK
  exact ⟨ad, e, hc 0 _ rfl, by rw [← add_field_ _ _ 1 (by omega)]; exact hc 1 _ rfl⟩
theorem hasL {w : World} {A : Option Addr} {l : List T3} (h : Kd.C kL w A l.length l) : HasL w A l := fun k hk => by
  obtain ⟨ad, c, e, _, hK, hc0⟩ := Kd.C_get h (0, 0, 0) k (by omega) (by omega)
  rw [Int.toNat_natCast] at hK hc0
  have hc : ∀ j u, c[j]? = some u → w.cell? (ad.add (k * 3 + j)) = some u := hc0
  obtain rfl := kL_open hK
  exact ⟨ad, e, hc 0 _ rfl, by rw [← add_field_ _ _ 1 (by omega)]; exact hc 1 _ rfl, by rw [← add_field_ _ _ 2 (by omega)]; exact hc 2 _ rfl⟩
end Go.Proofs.Ytfadanmfelbfiaa.L
