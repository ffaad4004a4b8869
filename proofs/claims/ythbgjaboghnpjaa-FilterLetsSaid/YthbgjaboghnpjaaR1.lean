/- The filter's contracts in meaning. -/
import Derived.Test.YthbgjaboghnpjaaPureI
import Derived.Outline
import Derived.OneCell
import Derived.Deep.DeepFit
import Derived.StillTailTactics
namespace Go.Proofs.Ythbgjaboghnpjaa.R
open Go.RowKit Go.Proofs.Ythbgjaboghnpjaa.Q Go.Proofs.Ythbgjaboghnpjaa.Pure Go.Proofs.YthbgjaboghnpjaaW.PrintWords Go.Proofs.YthbgjaboghnpjaaW.PrintLast Go.Proofs.YthbgjaboghnpjaaW.PrintMore
set_option linter.unusedVariables false
set_option linter.unusedSimpArgs false
/-- The cells of a filter. -/
def fcells (A : Option Addr) (c : Nat) (f0 : List ByteArray) (f1 f2 : ByteArray) (f3 f4 f5 f6 : Int) : Array Value := #[.slice A f0.length c, .string f1, .string f2, .int .i64 f3, .int .i64 f4, .int .i64 f5, .int .i64 f6]
/-- A row of cells that is read. -/
def Row (w : World) (v : Value) (l : List S29) : Prop := ∃ A c, v = .slice A l.length c ∧ l.length ≤ c ∧ Kd.C k29 w A l.length l
theorem Row.below {w w' : World} {v : Value} {l : List S29} (h : Row w v l) (hb : Below w.heap.size w w') : Row w' v l := by
  obtain ⟨A, c, e, hc, hC⟩ := h
  exact ⟨A, c, e, hc, Kd.C_below hC hb⟩
theorem row_of_R {w : World} {base : Nat} {ok : Nat → Prop} {v : Value} {l : List S29} (h : Kd.R k29 29 w base ok v l) : Row w v l := by
  obtain ⟨A, c, rfl⟩ := Kd.R_slice h
  have := Kd.R_reads' h
  exact ⟨A, c, rfl, this.2.1, this.2.2⟩
section
variable (w : World) (A : Option Addr) (c : Nat) (f0 : List ByteArray) (f1 f2 : ByteArray) (f3 f4 f5 f6 : Int)
theorem c_alive : Calls Try.prog 8 #[] w fun e w' => e = .returned (.bool true) ∧ Below w.heap.size w w' := joistlaw13_alive.calls true w (by unfold joistlaw13_alive.f; rfl)
theorem long_ex (l : List S29) : ∃ b : Bool, (b = false → SmallF f0 f1 f2 ∧ l.length ≤ 80 ∧ ∀ c ∈ l, Small c) ∧ ∀ (w : World) (A : Option Addr) (c : Nat) (A1 : Option Addr) (c1 : Nat), Kd.C Kd.string w A f0.length f0 → f0.length ≤ c → Kd.C k29 w A1 l.length l → l.length ≤ c1 →
    Calls Try.prog 9 #[.agg (fcells A c f0 f1 f2 f3 f4 f5 f6), .slice A1 l.length c1] w fun e w' => e = .returned (.bool b) ∧ Below w.heap.size w w' := by
  obtain ⟨b, eb, ib⟩ := Long f0 f1 f2 f3 f4 f5 f6 l
  obtain ⟨k, hk⟩ := Ev.rounds (g := fun k => joistlaw13_long.f k f0 f1 f2 f3 f4 f5 f6 l) eb
  exact ⟨b, ib, fun w A c A1 c1 h1 h2 h3 h4 => joistlaw13_long.calls k A c f0 f1 f2 f3 f4 f5 f6 A1 c1 l b w h1 h2 h3 h4 hk⟩
theorem c_clone (hf : f0.length < 1000000) (h1 : Kd.C Kd.string w A f0.length f0) (h2 : f0.length ≤ c) :
    Calls Try.prog 11 #[.agg (fcells A c f0 f1 f2 f3 f4 f5 f6)] w fun e w' => ∃ A' c', e = .returned (.agg (fcells A' c' f0 f1 f2 f3 f4 f5 f6)) ∧ f0.length ≤ c' ∧ Kd.C Kd.string w' A' f0.length f0 ∧ Below w.heap.size w w' := by
  have hc : filter_Clone.f f0 f1 f2 f3 f4 f5 f6 = some (f0, f1, f2, f3, f4, f5, f6) := by
    unfold filter_Clone.f slices_Clone_string_string.f
    rw [if_pos (by omega)]
    rfl
  exact (filter_Clone.calls A c f0 f1 f2 f3 f4 f5 f6 f0 f1 f2 f3 f4 f5 f6 w h1 h2 hc).mono fun e w' ⟨v, he, hr, hb⟩ => by
    obtain ⟨A', c', rfl⟩ := Kd.R_slice hr
    have := Kd.R_reads' hr
    exact ⟨A', c', he, this.2.1, this.2.2, hb⟩
theorem c_same (l : List S29) (hl : l.length ≤ 1000) (A1 A2 : Option Addr) (c1 c2 : Nat) (h1 : Kd.C k29 w A1 l.length l) (h2 : l.length ≤ c1) (h3 : Kd.C k29 w A2 l.length l) (h4 : l.length ≤ c2) :
    Calls Try.prog 16 #[.slice A1 l.length c1, .slice A2 l.length c2] w fun e w' => e = .returned (.bool true) ∧ Below w.heap.size w w' := by
  obtain ⟨k, hk⟩ := Ev.rounds (g := fun k => joistref00_SameCells.f k l l) (Same l hl)
  exact (joistref00_SameCells.calls k A1 c1 l A2 c2 l true w h1 h2 h3 h4 hk).mono fun e w' ⟨he, hd⟩ => ⟨he, hd.below⟩
end
/-- A filter's box; what was there before is as it was. -/
structure X0 (w W : World) (X : Nat) (A : Option Addr) (c : Nat) (f0 : List ByteArray) (f1 f2 : ByteArray) (f3 f4 f5 f6 : Int) : Prop where
  xb : W.heap[X]? = some (.cells #[.slice A f0.length c, .string f1, .string f2, .int .i64 f3, .int .i64 f4, .int .i64 f5, .int .i64 f6] 24 (0, 0))
  bel : Below w.heap.size w W
section
variable {w W W' : World} {X : Nat} {A : Option Addr} {c : Nat} {f0 : List ByteArray} {f1 f2 : ByteArray} {f3 f4 f5 f6 : Int}
theorem X0.below (h : X0 w W X A c f0 f1 f2 f3 f4 f5 f6) (hb : Below W.heap.size W W') : X0 w W' X A c f0 f1 f2 f3 f4 f5 f6 := ⟨(hb.block _ (lt_of_block h.xb)).trans h.xb, h.bel.trans (hb.mono h.bel.size)⟩
theorem X0.start : X0 w (w.alloc (.cells #[.slice A f0.length c, .string f1, .string f2, .int .i64 f3, .int .i64 f4, .int .i64 f5, .int .i64 f6] 24)) w.heap.size A c f0 f1 f2 f3 f4 f5 f6 := ⟨heap_alloc_new _ _, (Below.refl _ _).alloc (Nat.le_refl _) _⟩
theorem X0.q0 (h : X0 w W X A c f0 f1 f2 f3 f4 f5 f6) : W.cell? ⟨X, 0, none⟩ = some (.slice A f0.length c) := by simp [World.cell?, h.xb]
theorem X0.q1 (h : X0 w W X A c f0 f1 f2 f3 f4 f5 f6) : W.cell? ⟨X, 1, none⟩ = some (.string f1) := by simp [World.cell?, h.xb]
theorem X0.q2 (h : X0 w W X A c f0 f1 f2 f3 f4 f5 f6) : W.cell? ⟨X, 2, none⟩ = some (.string f2) := by simp [World.cell?, h.xb]
theorem X0.q3 (h : X0 w W X A c f0 f1 f2 f3 f4 f5 f6) : W.cell? ⟨X, 3, none⟩ = some (.int .i64 f3) := by simp [World.cell?, h.xb]
theorem X0.q4 (h : X0 w W X A c f0 f1 f2 f3 f4 f5 f6) : W.cell? ⟨X, 4, none⟩ = some (.int .i64 f4) := by simp [World.cell?, h.xb]
theorem X0.q5 (h : X0 w W X A c f0 f1 f2 f3 f4 f5 f6) : W.cell? ⟨X, 5, none⟩ = some (.int .i64 f5) := by simp [World.cell?, h.xb]
theorem X0.q6 (h : X0 w W X A c f0 f1 f2 f3 f4 f5 f6) : W.cell? ⟨X, 6, none⟩ = some (.int .i64 f6) := by simp [World.cell?, h.xb]
end
theorem cellB {w W : World} (hb : Below w.heap.size w W) {a : Addr} {u : Value} (h : w.cell? a = some u) : W.cell? a = some u := (hb.cell (World.block_lt_of_cell? w a h)).trans h
end Go.Proofs.Ythbgjaboghnpjaa.R
