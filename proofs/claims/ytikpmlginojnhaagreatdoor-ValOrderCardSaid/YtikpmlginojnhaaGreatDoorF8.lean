/- Numbers as text: base 16; what the library's tables hold. -/
import Derived.Test.YtikpmlginojnhaaGreatDoorF7
namespace Go.Proofs.YtikpmlginojnhaaGreatDoor.Fl
open Go.RowKit Go.Maps
set_option linter.unusedVariables false
set_option linter.unusedSimpArgs false
/-- What is read of the library's variables. -/
structure Gl (w : World) : Prop where
  tz : w.cell? ⟨7, 15, none⟩ = some (.int .u8 4)
  syn : ∃ tp p, w.cell? ⟨4, 0, none⟩ = some (.iface tp p)
  ran : ∃ tp p, w.cell? ⟨5, 0, none⟩ = some (.iface tp p)
theorem Gl.below {w w' : World} (h : Gl w) (hb : Below w.heap.size w w') : Gl w' := by
  have key : ∀ {a : Addr} {v : Value}, w.cell? a = some v → w'.cell? a = some v := fun {a v} hc => (hb.cell (World.block_lt_of_cell? w a hc)).trans hc
  obtain ⟨t1, p1, h1⟩ := h.syn
  obtain ⟨t2, p2, h2⟩ := h.ran
  exact ⟨key h.tz, ⟨t1, p1, key h1⟩, ⟨t2, p2, key h2⟩⟩
theorem c_tz64 (w : World) (hg : Gl w) : Calls Tryz.prog 141 #[.int .u64 16] w fun e w' => e = .returned (.int .i64 4) ∧ w = w' := by
  have ht := hg.tz
  clear hg
  have h1 : IntKind.u64.wrap (bits .and .u64 16 (IntKind.u64.wrap (-16)) * 285870213051353865) / 288230376151711744 = 15 := by decide
  go_enter Tryz.func141, Tryz.ntmps141
  go_wp2
  go_ret
  exact ⟨rfl, rfl⟩
theorem c_tz (w : World) (hg : Gl w) : Calls Tryz.prog 125 #[.int .u64 16] w fun e w' => e = .returned (.int .i64 4) ∧ w = w' := by
  have C := Lib.hid (fun w => c_tz64 w)
  have HG := Lib.hid hg
  clear hg
  go_enter Tryz.func125, Tryz.ntmps125
  go_wp2_with (go_at_call 141; refine (C.out _ HG.out).mono ?_; rintro e w' ⟨rfl, rfl⟩)
  go_ret
  exact ⟨rfl, rfl⟩
theorem c_pow2 (w : World) : Calls Tryz.prog 124 #[.int .i64 16] w fun e w' => e = .returned (.bool true) ∧ w = w' := by
  have h1 : bits .and .i64 16 15 = 0 := by decide
  go_enter Tryz.func124, Tryz.ntmps124
  go_wp2
  go_ret
  exact ⟨rfl, rfl⟩
/-! ### text -/
/-- The letter of a digit. -/
def hx (d : Int) : Int := if d < 10 then 48 + d else 87 + d
/-- So many digits of a number. -/
def hexI : Nat → Int → List Int
  | 0, _ => []
  | k + 1, u => hexI k (u / 16) ++ [hx (u % 16)]
theorem hexI_len : ∀ (k : Nat) (u : Int), (hexI k u).length = k
  | 0, _ => rfl
  | k + 1, u => by simp [hexI, hexI_len k]
theorem hexI_zero : ∀ (k : Nat), hexI k 0 = List.replicate k 48
  | 0 => rfl
  | k + 1 => by
    rw [hexI, show (0 : Int) / 16 = 0 by decide, hexI_zero k, List.replicate_succ']
    rfl
theorem hexI_pad : ∀ (m k : Nat) (u : Int), 0 ≤ u → u < 16 ^ m → hexI (k + m) u = List.replicate k 48 ++ hexI m u
  | 0, k, u, h0, h1 => by
    have : u = 0 := by simp at h1; omega
    subst this
    simp [hexI_zero, hexI]
  | m + 1, k, u, h0, h1 => by
    rw [← Nat.add_assoc, hexI, hexI, hexI_pad m k (u / 16) (by omega) (by rw [Int.pow_succ] at h1; omega), List.append_assoc]
/-- Text out of numbers. -/
def txt (l : List Int) : ByteArray := ⟨(l.map fun n => UInt8.ofNat n.toNat).toArray⟩
theorem txt_strOfNums (l : List Int) : strOfNums l = txt l := by
  unfold strOfNums txt
  rfl
end Go.Proofs.YtikpmlginojnhaaGreatDoor.Fl
