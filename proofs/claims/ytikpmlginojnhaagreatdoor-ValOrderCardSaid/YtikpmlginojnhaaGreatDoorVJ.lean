/- Values out of text: what is between quotes. -/
import Derived.Test.YtikpmlginojnhaaGreatDoorVI
import Derived.Lib.TrimByte
import Derived.BigQuiet
namespace Go.Proofs.YtikpmlginojnhaaGreatDoor.Fl
open Go.RowKit Go.Maps
set_option linter.unusedVariables false
set_option linter.unusedSimpArgs false
/-- What of a well written text is gathered, and left. -/
def Qv (s : ByteArray) (p e o u : List Int) : Prop := ∀ l, Byts l → byt s = p ++ quo l → ∃ r, Byts r ∧ l = o ++ r ∧ u = qq r ++ e
theorem qq_head {r : List Int} {x : Int} {t e : List Int} (hr : Byts r) (h : x :: t = qq r ++ e) : (r = [] ∧ x :: t = e) ∨ (∃ r', Byts r' ∧ r = x :: r' ∧ ¬ x = 92 ∧ ¬ x = 34 ∧ t = qq r' ++ e) ∨ (x = 92 ∧ ∃ y r', Byts r' ∧ (0 ≤ y ∧ y < 256) ∧ r = y :: r' ∧ t = hx (y / 16) :: hx (y % 16) :: (qq r' ++ e)) := by
  cases r with
  | nil => exact Or.inl ⟨rfl, h⟩
  | cons y r' =>
    right
    have hy := hr y (by simp)
    have hb : Byts r' := fun z hz => hr z (by simp [hz])
    rw [qq] at h
    unfold qc at h
    by_cases hc : y < 32 ∨ 126 < y ∨ y = 34 ∨ y = 92
    · rw [if_pos hc] at h
      have h' : x :: t = 92 :: hx (y / 16) :: hx (y % 16) :: (qq r' ++ e) := h
      obtain ⟨rfl, h2⟩ := List.cons_eq_cons.1 h'
      exact Or.inr ⟨rfl, y, r', hb, hy, rfl, h2⟩
    · rw [if_neg hc] at h
      have h' : x :: t = y :: (qq r' ++ e) := h
      obtain ⟨rfl, h2⟩ := List.cons_eq_cons.1 h'
      exact Or.inl ⟨r', hb, rfl, by omega, by omega, h2⟩
theorem qv_end {s : ByteArray} {p e o u : List Int} (h : Qv s p e o u) (hl : u.length ≤ e.length) (l : List Int) (hb : Byts l) (hs : byt s = p ++ quo l) : l = o := by
  obtain ⟨r, hr, rfl, hu⟩ := h l hb hs
  have h1 := congrArg List.length hu
  rw [List.length_append] at h1
  have h2 := (qq_len r).1
  have : r = [] := List.length_eq_zero_iff.1 (by omega)
  rw [this, List.append_nil]
theorem qv_plain {s : ByteArray} {p e o t : List Int} {x : Int} (h : Qv s p e o (x :: t)) (hl : e.length < t.length + 1) (hn : ∀ a b v, x = 92 → t = a :: b :: v → e.length ≤ v.length → 0 ≤ uh a → 0 ≤ uh b → False) : Qv s p e (o ++ [x]) t := by
  intro l hb hs
  obtain ⟨r, hr, rfl, hu⟩ := h l hb hs
  rcases qq_head hr hu with ⟨_, h1⟩ | ⟨r', hb', rfl, _, _, h1⟩ | ⟨hx1, y, r', hb', hy, rfl, h1⟩
  · have := congrArg List.length h1
    simp at this
    omega
  · exact ⟨r', hb', by simp, h1⟩
  · exact (hn _ _ _ hx1 h1 (by simp) (by rw [uh_hx _ (by omega) (by omega)]; omega) (by rw [uh_hx _ (by omega) (by omega)]; omega)).elim
theorem qv_esc {s : ByteArray} {p e o t : List Int} {a b v : Int} (h : Qv s p e o (92 :: a :: b :: t)) (hl : e.length ≤ 1) (hv : 0 ≤ uh a → 0 ≤ uh b → v = uh a * 16 + uh b) : Qv s p e (o ++ [v]) t := by
  intro l hb hs
  obtain ⟨r, hr, rfl, hu⟩ := h l hb hs
  rcases qq_head hr hu with ⟨_, h1⟩ | ⟨r', hb', rfl, h0, _, h1⟩ | ⟨hx1, y, r', hb', hy, rfl, h1⟩
  · have := congrArg List.length h1
    simp at this
    omega
  · exact absurd rfl h0
  · obtain ⟨rfl, h2⟩ := List.cons_eq_cons.1 h1
    obtain ⟨rfl, h3⟩ := List.cons_eq_cons.1 h2
    rw [uh_hx _ (by omega) (by omega), uh_hx _ (by omega) (by omega)] at hv
    have := hv (by omega) (by omega)
    exact ⟨r', hb', by rw [this, show y / 16 * 16 + y % 16 = y by omega]; simp, h3⟩
theorem uh_bd (c : Int) : uh c = -1 ∨ (0 ≤ uh c ∧ uh c < 16) := by
  unfold uh
  split
  · omega
  · split <;> omega
theorem idx_hex (c : Int) (h0 : 0 ≤ c) (h1 : c < 256) : Lib.indexByte (⟨#[48, 49, 50, 51, 52, 53, 54, 55, 56, 57, 97, 98, 99, 100, 101, 102]⟩ : ByteArray).data.toList c.toNat.toUInt8 = uh c := by
  have : ∀ n : Nat, n < 256 → Lib.indexByte (⟨#[48, 49, 50, 51, 52, 53, 54, 55, 56, 57, 97, 98, 99, 100, 101, 102]⟩ : ByteArray).data.toList n.toUInt8 = uh (n : Int) := by decide +kernel
  have h := this c.toNat (by omega)
  rw [Int.toNat_of_nonneg h0] at h
  exact h
theorem c_idxh (c : Int) (h0 : 0 ≤ c) (h1 : c < 256) (w : World) : Calls Tryz.prog 90 #[.string ⟨#[48, 49, 50, 51, 52, 53, 54, 55, 56, 57, 97, 98, 99, 100, 101, 102]⟩, .int .u8 c] w fun e w' => e = .returned (.int .i64 (uh c)) ∧ w' = w := by
  refine (Tryz.strings_IndexByte _ c w).mono ?_
  rintro e w' ⟨rfl, rfl⟩
  rw [idx_hex c h0 h1]
  exact ⟨rfl, rfl⟩
/-- A text without the quotes at its ends. -/
def trimQ (s : ByteArray) : ByteArray := ⟨(Lib.trimB s.data.toList 34).toArray⟩
theorem dw_no {m t : List UInt8} {c : UInt8} (hm : ∀ b ∈ m, b ≠ c) (hne : m ≠ []) : (m ++ t).dropWhile (· == c) = m ++ t := by
  cases m with
  | nil => exact absurd rfl hne
  | cons a m' => simp [hm a (by simp)]
theorem trim_no34 {m : List UInt8} (hm : ∀ b ∈ m, b ≠ 34) : Lib.trimB (34 :: (m ++ [34])) 34 = m := by
  have e1 : Lib.trimRightB (34 :: (m ++ [34])) 34 = if m = [] then [] else 34 :: m := by
    unfold Lib.trimRightB
    rw [List.reverse_cons, List.reverse_append]
    show (((34 :: m.reverse) ++ [34]).dropWhile (· == 34)).reverse = _
    by_cases h : m = []
    · subst h; rfl
    · rw [if_neg h]
      show ((m.reverse ++ [34]).dropWhile (· == 34)).reverse = _
      rw [dw_no (fun b hb => hm b (by simpa using hb)) (by simpa using h)]
      simp
  unfold Lib.trimB
  rw [e1]
  unfold Lib.trimLeftB
  by_cases h : m = []
  · subst h; rfl
  · rw [if_neg h]
    show m.dropWhile (· == 34) = m
    have := dw_no (t := []) hm h
    simpa using this
theorem qq_no34 : ∀ (l : List Int), Byts l → ∀ x ∈ qq l, ¬ x = 34
  | [], _, x, h => by cases h
  | y :: t, hb, x, h => by
    have hy := hb y (by simp)
    rw [qq] at h
    rcases List.mem_append.1 h with h1 | h1
    · unfold qc at h1
      split at h1
      · simp only [List.mem_cons, List.not_mem_nil, or_false] at h1
        rcases h1 with rfl | rfl | rfl
        · omega
        · rcases hx_bd (y / 16) (by omega) (by omega) with h | h <;> omega
        · rcases hx_bd (y % 16) (by omega) (by omega) with h | h <;> omega
      · have : x = y := by simpa using h1
        omega
    · exact qq_no34 t (fun z hz => hb z (by simp [hz])) x h1
theorem trim_quo {s : ByteArray} {l : List Int} (hl : Byts l) (h : byt s = quo l) : byt (trimQ s) = qq l := by
  have e : s = txt (quo l) := byt_inj (by rw [byt_txt _ (quo_byts l hl), h])
  subst e
  have e1 : (txt (quo l)).data.toList = 34 :: ((qq l).map (fun n => UInt8.ofNat n.toNat) ++ [34]) := by
    unfold txt quo
    simp
  unfold trimQ
  rw [e1, trim_no34]
  · show byt (txt (qq l)) = _
    rw [byt_txt _ (qq_byts l hl)]
  · intro b hb
    obtain ⟨n, hn, rfl⟩ := List.mem_map.1 hb
    have h1 := qq_byts l hl n hn
    have h2 := qq_no34 l hl n hn
    intro h3
    have := congrArg UInt8.toNat h3
    rw [UInt8.toNat_ofNat'] at this
    have e34 : (34 : UInt8).toNat = 34 := rfl
    omega
theorem trim_size (s : ByteArray) : (trimQ s).size ≤ s.size := by
  unfold trimQ Lib.trimB Lib.trimLeftB Lib.trimRightB
  rw [Lib.size_mk]
  have h1 := (List.dropWhile_suffix (· == (34 : UInt8)) (l := (s.data.toList.reverse.dropWhile (· == (34 : UInt8))).reverse)).length_le
  have h2 := (List.dropWhile_suffix (· == (34 : UInt8)) (l := s.data.toList.reverse)).length_le
  simp only [List.length_reverse] at h1 h2
  have h3 : s.data.toList.length = s.size := by rw [Array.length_toList]; rfl
  omega
theorem c_trim (s : ByteArray) (hs : s.size ≤ 9223372036854775807) (w : World) : Calls Tryz.prog 89 #[.string s, .string ⟨#[34]⟩] w fun e w' => e = .returned (.string (trimQ s)) ∧ Below w.heap.size w w' := by
  refine (Tryz.strings_Trim_one s 34 (by decide) w hs).mono ?_
  rintro e w' ⟨rfl, rfl | rfl⟩
  · exact ⟨rfl, Below.refl _ _⟩
  · exact ⟨rfl, (Below.refl _ _).drew⟩
theorem byt_cut (s : ByteArray) (k : Nat) : byt (s.extract k s.size) = (byt s).drop k := by
  rw [Lib.extract_from]
  unfold byt
  rw [List.map_drop]
theorem size_cut (s : ByteArray) (k : Nat) : (s.extract k s.size).size = s.size - k := by
  rw [ByteArray.size_extract]; omega
/-- Whatever is well written comes back. -/
def UqIs (s t : ByteArray) : Prop := ∀ l, Byts l → byt s = quo l → byt t = l
theorem b_hex {a b : Int} (ha : 0 ≤ a ∧ a < 16) (hb : 0 ≤ b ∧ b < 16) : bits .or .i64 (a * 16) b = a * 16 + b := by
  obtain ⟨n, rfl⟩ : ∃ n : Nat, a = n := ⟨a.toNat, by omega⟩
  obtain ⟨m, rfl⟩ : ∃ m : Nat, b = m := ⟨b.toNat, by omega⟩
  have : ∀ n : Nat, n < 16 → ∀ m : Nat, m < 16 → bits .or .i64 ((n : Int) * 16) (m : Int) = (n : Int) * 16 + m := by decide +kernel
  exact this n (by omega) m (by omega)
end Go.Proofs.YtikpmlginojnhaaGreatDoor.Fl
