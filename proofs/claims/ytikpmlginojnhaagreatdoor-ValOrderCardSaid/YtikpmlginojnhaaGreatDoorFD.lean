/- Floating numbers as text: each right number has a text of its own. -/
import Derived.Test.YtikpmlginojnhaaGreatDoorFC
namespace Go.Proofs.YtikpmlginojnhaaGreatDoor.Fl
open Go.RowKit Go.Maps
set_option linter.unusedVariables false
set_option linter.unusedSimpArgs false
def Wf (n : Int) : Prop := -9223372036854775808 ≤ n ∧ n ≤ 9223372036854775807
theorem hx_inj {a b : Int} (ha : 0 ≤ a ∧ a < 16) (hb : 0 ≤ b ∧ b < 16) (h : hx a = hx b) : a = b := by
  unfold hx at h
  split at h <;> split at h <;> omega
theorem hexI_inj : ∀ (k : Nat) (u v : Int), 0 ≤ u → u < 16 ^ k → 0 ≤ v → v < 16 ^ k → hexI k u = hexI k v → u = v
  | 0, u, v, h0, h1, h2, h3, _ => by simp at h1 h3; omega
  | k + 1, u, v, h0, h1, h2, h3, h => by
    rw [hexI, hexI] at h
    have h4 := List.append_inj' h rfl
    rw [Int.pow_succ] at h1 h3
    have h5 := hexI_inj k (u / 16) (v / 16) (by omega) (by omega) (by omega) (by omega) h4.1
    have h6 := hx_inj (by omega) (by omega) (List.cons.inj h4.2).1
    omega
theorem txt_inj {a b : List Int} (ha : Byts a) (hb : Byts b) (h : txt a = txt b) : a = b := by
  rw [← byt_txt a ha, ← byt_txt b hb, h]
theorem hex_byts (u : Int) : Byts (120 :: hexI 16 u) := fun x hx => by
  rcases List.mem_cons.1 hx with rfl | h
  · omega
  · exact hexI_byts 16 u x h
theorem pow16 : (16 : Int) ^ 16 = 18446744073709551616 := by decide
theorem U_inj {n m : Int} (hn : Wf n) (hm : Wf m) (h : U n = U m) : n = m := by
  unfold U at h
  unfold Wf at hn hm
  omega
/-- The names. -/
def Named (n : Int) : Prop := n = 9221120237041090560 ∨ n = 9218868437227405312 ∨ n = -4503599627370496 ∨ n = 0 ∨ n = -9223372036854775808
theorem show_hex {n : Int} (hr : rightU (U n) = true) (hn : ¬ Named n) : showS n = txt (120 :: hexI 16 (U n)) := by
  unfold showS
  rw [if_neg (by rw [hr]; decide), if_neg (fun e => hn (Or.inl e)), if_neg (fun e => hn (Or.inr (Or.inl e))), if_neg (fun e => hn (Or.inr (Or.inr (Or.inl e)))), if_neg (fun e => hn (Or.inr (Or.inr (Or.inr (Or.inl e))))), if_neg (fun e => hn (Or.inr (Or.inr (Or.inr (Or.inr e)))))]
theorem show_long {n : Int} (hr : rightU (U n) = true) (hn : ¬ Named n) : (showS n).size = 17 := by
  rw [show_hex hr hn, txt_size, List.length_cons, hexI_len]
theorem show_short {n : Int} (hn : Named n) : (showS n).size ≤ 4 := by
  rcases hn with rfl | rfl | rfl | rfl | rfl <;> decide
theorem show_inj {n m : Int} (hn : Wf n) (hm : Wf m) (hr : rightU (U n) = true) (hs : rightU (U m) = true) (h : showS n = showS m) : n = m := by
  by_cases h1 : Named n
  · by_cases h2 : Named m
    · rcases h1 with rfl | rfl | rfl | rfl | rfl <;> rcases h2 with rfl | rfl | rfl | rfl | rfl <;> first | rfl | (exfalso; revert h; decide)
    · have := show_short h1
      have := show_long hs h2
      rw [h] at *
      omega
  · by_cases h2 : Named m
    · have := show_short h2
      have := show_long hr h1
      rw [h] at *
      omega
    · rw [show_hex hr h1, show_hex hs h2] at h
      have h3 := (List.cons.inj (txt_inj (hex_byts _) (hex_byts _) h)).2
      have b1 := U_bd n
      have b2 := U_bd m
      exact U_inj hn hm (hexI_inj 16 _ _ b1.1 (by rw [pow16]; exact b1.2) b2.1 (by rw [pow16]; exact b2.2) h3)
/-- What a text tells. -/
def RdIs (s : ByteArray) (n : Int) (b : Bool) : Prop := (b = true ∧ Wf n ∧ rightU (U n) = true ∧ showS n = s) ∨ (b = false ∧ n = 0 ∧ ∀ m, Wf m → rightU (U m) = true → showS m ≠ s)
theorem rd_ex (s : ByteArray) : ∃ n b, RdIs s n b := by
  by_cases h : ∃ m, Wf m ∧ rightU (U m) = true ∧ showS m = s
  · obtain ⟨m, h⟩ := h
    exact ⟨m, true, Or.inl ⟨rfl, h⟩⟩
  · exact ⟨0, false, Or.inr ⟨rfl, rfl, fun m h1 h2 h3 => h ⟨m, h1, h2, h3⟩⟩⟩
theorem rd_yes {s : ByteArray} {n : Int} {b : Bool} (h : RdIs s n b) {m : Int} (h1 : Wf m) (h2 : rightU (U m) = true) (h3 : showS m = s) : n = m ∧ b = true := by
  rcases h with ⟨rfl, g1, g2, g3⟩ | ⟨rfl, rfl, g⟩
  · exact ⟨show_inj g1 h1 g2 h2 (g3.trans h3.symm), rfl⟩
  · exact (g m h1 h2 h3).elim
theorem rd_no {s : ByteArray} {n : Int} {b : Bool} (h : RdIs s n b) (h1 : ∀ m, Wf m → rightU (U m) = true → showS m ≠ s) : n = 0 ∧ b = false := by
  rcases h with ⟨rfl, g1, g2, g3⟩ | ⟨rfl, rfl, g⟩
  · exact (h1 n g1 g2 g3).elim
  · exact ⟨rfl, rfl⟩
theorem rd_wf {s : ByteArray} {n : Int} {b : Bool} (h : RdIs s n b) : Wf n := by
  rcases h with ⟨rfl, g1, _⟩ | ⟨rfl, rfl, _⟩
  · exact g1
  · unfold Wf; omega
/-- The text behind an 'x'. -/
def cutX (s : ByteArray) : ByteArray := ⟨(Lib.trimPrefix s.data.toList [120]).toArray⟩
theorem cut_hex (u : Int) : Lib.hasPrefix (txt (120 :: hexI 16 u)).data.toList [120] = true ∧ cutX (txt (120 :: hexI 16 u)) = txt (hexI 16 u) := by
  have e : (txt (120 :: hexI 16 u)).data.toList = 120 :: (hexI 16 u).map (fun n => UInt8.ofNat n.toNat) := rfl
  unfold cutX
  rw [e]
  constructor
  · rfl
  · rfl
end Go.Proofs.YtikpmlginojnhaaGreatDoor.Fl
