/- Values out of text: the law. -/
import Derived.Test.YtkogcobcjoojnaaGreatDoorPB
import Derived.Lib.TrimByte
import Derived.BigQuiet
import Derived.Lib.AtoiAll
import Derived.Laws.Rows
import Derived.Lib.Split
import Derived.Lib.SplitLaws
import Derived.Lib.Join
import Derived.Lib.Replace
import Derived.Lib.CountLaws
import Derived.Lib.IndexLaws
namespace Go.Proofs.YtkogcobcjoojnaaGreatDoor.Fl
open Go.RowKit Go.Maps
set_option linter.unusedVariables false
set_option linter.unusedSimpArgs false
/-- A digit's worth, if it is one. -/
def uh (c : Int) : Int := if 48 ≤ c ∧ c ≤ 57 then c - 48 else if 97 ≤ c ∧ c ≤ 102 then c - 87 else -1
theorem uh_hx (d : Int) (h0 : 0 ≤ d) (h1 : d < 16) : uh (hx d) = d := by
  unfold uh hx
  split <;> split <;> (try split) <;> omega
/-- What is between quotes. -/
def uq : List Int → List Int
  | [] => []
  | [x] => [x]
  | [x, y] => [x, y]
  | x :: a :: b :: u => if x = 92 then (uh a * 16 + uh b) :: uq u else x :: uq (a :: b :: u)
theorem uq_cons {x : Int} (hx : ¬ x = 92) : ∀ t, uq (x :: t) = x :: uq t
  | [] => rfl
  | [y] => rfl
  | a :: b :: u => by rw [uq, if_neg hx]
theorem uq_qq : ∀ (l : List Int), Byts l → uq (qq l) = l
  | [], _ => rfl
  | x :: t, h => by
    have hb := h x (by simp)
    have ih := uq_qq t (fun z hz => h z (by simp [hz]))
    rw [qq]
    unfold qc
    by_cases hc : x < 32 ∨ 126 < x ∨ x = 34 ∨ x = 92
    · rw [if_pos hc]
      show uq (92 :: hx (x / 16) :: hx (x % 16) :: qq t) = _
      rw [uq, if_pos rfl, uh_hx _ (by omega) (by omega), uh_hx _ (by omega) (by omega), ih]
      congr 1
      omega
    · rw [if_neg hc]
      show uq (x :: qq t) = _
      rw [uq_cons (by omega), ih]
/-- Digits' worth. -/
def dv (l : List UInt8) : Nat := l.foldl (fun a b => a * 10 + (b.toNat - 48)) 0
theorem dv_dec (u : Nat) : dv (Lib.decDigits u) = u := by
  induction u using Nat.strongRecOn with
  | _ u ih =>
    rw [Lib.decDigits]
    split
    · show 0 * 10 + ((UInt8.ofNat (48 + u)).toNat - 48) = u
      rw [UInt8.toNat_ofNat']
      omega
    · have := ih (u / 10) (by omega)
      unfold dv at this ⊢
      rw [List.foldl_append, this]
      show u / 10 * 10 + ((UInt8.ofNat (48 + u % 10)).toNat - 48) = u
      rw [UInt8.toNat_ofNat']
      omega
theorem dec_bd (u : Nat) : ∀ b ∈ Lib.decDigits u, 48 ≤ b.toNat ∧ b.toNat ≤ 57 := by
  induction u using Nat.strongRecOn with
  | _ u ih =>
    intro b hb
    rw [Lib.decDigits] at hb
    split at hb
    · have : b = UInt8.ofNat (48 + u) := by simpa using hb
      subst this
      rw [UInt8.toNat_ofNat']
      omega
    · rcases List.mem_append.1 hb with h | h
      · exact ih (u / 10) (by omega) b h
      · have : b = UInt8.ofNat (48 + u % 10) := by simpa using h
        subst this
        rw [UInt8.toNat_ofNat']
        omega
theorem dec_ne (u : Nat) : Lib.decDigits u ≠ [] := by
  rw [Lib.decDigits]
  split <;> simp
theorem byt_append (a b : ByteArray) : byt (a ++ b) = byt a ++ byt b := by
  unfold byt
  rw [ByteArray.data_append, Array.toList_append, List.map_append]
theorem itoa_inj {n m : Int} (h : Lib.itoa n = Lib.itoa m) : n = m := by
  unfold Lib.itoa at h
  by_cases h1 : n < 0 <;> by_cases h2 : m < 0
  · rw [if_pos h1, if_pos h2] at h
    have h3 := congrArg dv (List.cons_eq_cons.1 h).2
    rw [dv_dec, dv_dec] at h3
    omega
  · rw [if_pos h1, if_neg h2] at h
    have := dec_bd m.toNat 45 (by rw [← h]; simp)
    have e : (45 : UInt8).toNat = 45 := rfl
    omega
  · rw [if_neg h1, if_pos h2] at h
    have := dec_bd n.toNat 45 (by rw [h]; simp)
    have e : (45 : UInt8).toNat = 45 := rfl
    omega
  · rw [if_neg h1, if_neg h2] at h
    have h3 := congrArg dv h
    rw [dv_dec, dv_dec] at h3
    omega
/-- The first byte, the second. -/
def b0 (s : ByteArray) : Int := (byt s).getD 0 0
def b1 (s : ByteArray) : Int := (byt s).getD 1 0
theorem itoa_first (n : Int) : b0 ⟨(Lib.itoa n).toArray⟩ = 45 ∨ (48 ≤ b0 ⟨(Lib.itoa n).toArray⟩ ∧ b0 ⟨(Lib.itoa n).toArray⟩ ≤ 57) := by
  have e : byt ⟨(Lib.itoa n).toArray⟩ = (Lib.itoa n).map fun b => (b.toNat : Int) := rfl
  unfold b0
  rw [e]
  unfold Lib.itoa
  split
  · exact Or.inl rfl
  · right
    have h := dec_bd n.toNat
    have h2 := dec_ne n.toNat
    cases hd : Lib.decDigits n.toNat with
    | nil => exact absurd hd h2
    | cons b t =>
      have := h b (by rw [hd]; simp)
      show 48 ≤ (b.toNat : Int) ∧ (b.toNat : Int) ≤ 57
      omega
theorem showS_first (n : Int) (h : rightU (U n) = true) : b0 (showS n) ≠ 97 := by
  unfold showS
  rw [if_neg (by rw [h]; decide)]
  repeat' split
  all_goals first | decide | skip
  unfold b0
  rw [byt_txt _ (hex_byts _)]
  show (120 : Int) ≠ 97
  decide
theorem b_cons (c : UInt8) (t : ByteArray) : b0 (⟨#[c]⟩ ++ t) = (c.toNat : Int) ∧ b1 (⟨#[c]⟩ ++ t) = b0 t := by
  unfold b0 b1
  rw [byt_append]
  exact ⟨rfl, rfl⟩
theorem cut1 {c : UInt8} {a b : ByteArray} (h : (⟨#[c]⟩ : ByteArray) ++ a = ⟨#[c]⟩ ++ b) : a = b := by
  have := congrArg byt h
  rw [byt_append, byt_append] at this
  exact byt_inj (List.append_cancel_left this)
theorem quo_b0 (s : ByteArray) : b0 (txt (quo (byt s))) = 34 := by
  unfold b0
  rw [byt_txt _ (quo_byts _ (byt_bd s))]
  rfl
theorem quo_inj {s u : ByteArray} (h : txt (quo (byt s)) = txt (quo (byt u))) : s = u := by
  have h1 := txt_inj (quo_byts _ (byt_bd s)) (quo_byts _ (byt_bd u)) h
  unfold quo at h1
  have h2 := List.append_cancel_left (List.append_cancel_right h1)
  have h3 := uq_qq (byt s) (byt_bd s)
  rw [h2, uq_qq (byt u) (byt_bd u)] at h3
  exact (byt_inj h3).symm
/-- The forms of a right value's text. -/
def Form (k n : Int) (s t : ByteArray) : Prop :=
  (k = 1 ∧ s = ⟨#[]⟩ ∧ t = ⟨(Lib.itoa n).toArray⟩) ∨ (k = 4 ∧ s = ⟨#[]⟩ ∧ n = 1 ∧ t = ⟨#[116, 114, 117, 101]⟩) ∨ (k = 4 ∧ s = ⟨#[]⟩ ∧ n = 0 ∧ t = ⟨#[102, 97, 108, 115, 101]⟩) ∨ (k = 5 ∧ s = ⟨#[]⟩ ∧ rightU (U n) = true ∧ t = ⟨#[102]⟩ ++ showS n) ∨ (k = 2 ∧ n = 0 ∧ t = ⟨#[98]⟩ ++ txt (quo (byt s))) ∨ (k = 3 ∧ n = 0 ∧ t = ⟨#[116]⟩ ++ txt (quo (byt s)))
theorem show_form {k n : Int} {s : ByteArray} (h : rightV k n s = true) : Form k n s (showV k n s) := by
  unfold showV
  rw [if_neg (by rw [h]; decide)]
  rcases right_kinds h with ⟨rfl, c⟩ | ⟨rfl, c, rfl | rfl⟩ | ⟨rfl, c, c2⟩ | ⟨rfl, rfl, c⟩ | ⟨rfl, rfl, c, c2⟩
  · exact Or.inl ⟨rfl, size0 c, rfl⟩
  · exact Or.inr (Or.inr (Or.inl ⟨rfl, size0 c, rfl, rfl⟩))
  · exact Or.inr (Or.inl ⟨rfl, size0 c, rfl, rfl⟩)
  · exact Or.inr (Or.inr (Or.inr (Or.inl ⟨rfl, size0 c, c2, rfl⟩)))
  · exact Or.inr (Or.inr (Or.inr (Or.inr (Or.inl ⟨rfl, rfl, rfl⟩))))
  · exact Or.inr (Or.inr (Or.inr (Or.inr (Or.inr ⟨rfl, rfl, rfl⟩))))
/-- A text's kind by its first bytes. -/
theorem form_b {k n : Int} {s t : ByteArray} (h : Form k n s t) : (k = 1 ∧ (b0 t = 45 ∨ (48 ≤ b0 t ∧ b0 t ≤ 57))) ∨ (k = 4 ∧ n = 1 ∧ b0 t = 116 ∧ b1 t = 114) ∨ (k = 4 ∧ n = 0 ∧ b0 t = 102 ∧ b1 t = 97) ∨ (k = 5 ∧ b0 t = 102 ∧ b1 t ≠ 97) ∨ (k = 2 ∧ b0 t = 98) ∨ (k = 3 ∧ b0 t = 116 ∧ b1 t = 34) := by
  rcases h with ⟨rfl, _, rfl⟩ | ⟨rfl, _, rfl, rfl⟩ | ⟨rfl, _, rfl, rfl⟩ | ⟨rfl, _, hr, rfl⟩ | ⟨rfl, rfl, rfl⟩ | ⟨rfl, rfl, rfl⟩
  · exact Or.inl ⟨rfl, itoa_first n⟩
  · exact Or.inr (Or.inl ⟨rfl, rfl, rfl, rfl⟩)
  · exact Or.inr (Or.inr (Or.inl ⟨rfl, rfl, rfl, rfl⟩))
  · obtain ⟨e1, e2⟩ := b_cons 102 (showS n)
    exact Or.inr (Or.inr (Or.inr (Or.inl ⟨rfl, e1, by rw [e2]; exact showS_first n hr⟩)))
  · obtain ⟨e1, e2⟩ := b_cons 98 (txt (quo (byt s)))
    exact Or.inr (Or.inr (Or.inr (Or.inr (Or.inl ⟨rfl, e1⟩))))
  · obtain ⟨e1, e2⟩ := b_cons 116 (txt (quo (byt s)))
    exact Or.inr (Or.inr (Or.inr (Or.inr (Or.inr ⟨rfl, e1, by rw [e2]; exact quo_b0 s⟩))))
theorem form_inj {k n k' n' : Int} {s s' t : ByteArray} (hn : Wf n) (hn' : Wf n') (h : Form k n s t) (h' : Form k' n' s' t) : k = k' ∧ n = n' ∧ s = s' := by
  have f1 := form_b h
  have f2 := form_b h'
  rcases h with ⟨rfl, rfl, e⟩ | ⟨rfl, rfl, rfl, e⟩ | ⟨rfl, rfl, rfl, e⟩ | ⟨rfl, rfl, hr, e⟩ | ⟨rfl, rfl, e⟩ | ⟨rfl, rfl, e⟩ <;> rcases h' with ⟨rfl, rfl, e'⟩ | ⟨rfl, rfl, rfl, e'⟩ | ⟨rfl, rfl, rfl, e'⟩ | ⟨rfl, rfl, hr', e'⟩ | ⟨rfl, rfl, e'⟩ | ⟨rfl, rfl, e'⟩ <;> first | (exfalso; clear e e'; omega) | skip
  · rw [e] at e'
    have h2 : (Lib.itoa n).toArray = (Lib.itoa n').toArray := congrArg ByteArray.data e'
    exact ⟨rfl, itoa_inj (by simpa using h2), rfl⟩
  · exact ⟨rfl, rfl, rfl⟩
  · exact ⟨rfl, rfl, rfl⟩
  · rw [e] at e'
    exact ⟨rfl, show_inj hn hn' hr hr' (cut1 e'), rfl⟩
  · rw [e] at e'
    exact ⟨rfl, rfl, quo_inj (cut1 e')⟩
  · rw [e] at e'
    exact ⟨rfl, rfl, quo_inj (cut1 e')⟩
end Go.Proofs.YtkogcobcjoojnaaGreatDoor.Fl

namespace Go.Proofs.YtkogcobcjoojnaaGreatDoor.Fl
open Go.RowKit Go.Maps
set_option linter.unusedVariables false
set_option linter.unusedSimpArgs false
/-- What of a well written text is gathered, and left. -/
def Qv (s : ByteArray) (p e o u : List Int) : Prop := ∀ l, Byts l → byt s = p ++ quo l → ∃ r, Byts r ∧ l = o ++ r ∧ u = qq r ++ e
theorem qq_head {r : List Int} {x : Int} {t e : List Int} (hr : Byts r) (h : x :: t = qq r ++ e) : (r = [] ∧ x :: t = e) ∨ (∃ r', Byts r' ∧ r = x :: r' ∧ ¬ x = 92 ∧ ¬ x = 34 ∧ t = qq r' ++ e) ∨ (x = 92 ∧ ∃ y r', Byts r' ∧ (0 ≤ y ∧ y < 256) ∧ r = y :: r' ∧ t = hx (y / 16) :: hx (y % 16) :: (qq r' ++ e)) := by
  cases r with
  | nil => exact Or.inl ⟨rfl, h⟩
  | cons y r' =>
    right
    have hy := hr y (by simp)
    have hb : Byts r' := fun z hz => hr z (by simp [hz])
    rw [qq] at h
    unfold qc at h
    by_cases hc : y < 32 ∨ 126 < y ∨ y = 34 ∨ y = 92
    · rw [if_pos hc] at h
      have h' : x :: t = 92 :: hx (y / 16) :: hx (y % 16) :: (qq r' ++ e) := h
      obtain ⟨rfl, h2⟩ := List.cons_eq_cons.1 h'
      exact Or.inr ⟨rfl, y, r', hb, hy, rfl, h2⟩
    · rw [if_neg hc] at h
      have h' : x :: t = y :: (qq r' ++ e) := h
      obtain ⟨rfl, h2⟩ := List.cons_eq_cons.1 h'
      exact Or.inl ⟨r', hb, rfl, by omega, by omega, h2⟩
theorem qv_end {s : ByteArray} {p e o u : List Int} (h : Qv s p e o u) (hl : u.length ≤ e.length) (l : List Int) (hb : Byts l) (hs : byt s = p ++ quo l) : l = o := by
  obtain ⟨r, hr, rfl, hu⟩ := h l hb hs
  have h1 := congrArg List.length hu
  rw [List.length_append] at h1
  have h2 := (qq_len r).1
  have : r = [] := List.length_eq_zero_iff.1 (by omega)
  rw [this, List.append_nil]
theorem qv_plain {s : ByteArray} {p e o t : List Int} {x : Int} (h : Qv s p e o (x :: t)) (hl : e.length < t.length + 1) (hn : ∀ a b v, x = 92 → t = a :: b :: v → e.length ≤ v.length → 0 ≤ uh a → 0 ≤ uh b → False) : Qv s p e (o ++ [x]) t := by
  intro l hb hs
  obtain ⟨r, hr, rfl, hu⟩ := h l hb hs
  rcases qq_head hr hu with ⟨_, h1⟩ | ⟨r', hb', rfl, _, _, h1⟩ | ⟨hx1, y, r', hb', hy, rfl, h1⟩
  · have := congrArg List.length h1
    simp at this
    omega
  · exact ⟨r', hb', by simp, h1⟩
  · exact (hn _ _ _ hx1 h1 (by simp) (by rw [uh_hx _ (by omega) (by omega)]; omega) (by rw [uh_hx _ (by omega) (by omega)]; omega)).elim
theorem qv_esc {s : ByteArray} {p e o t : List Int} {a b v : Int} (h : Qv s p e o (92 :: a :: b :: t)) (hl : e.length ≤ 1) (hv : 0 ≤ uh a → 0 ≤ uh b → v = uh a * 16 + uh b) : Qv s p e (o ++ [v]) t := by
  intro l hb hs
  obtain ⟨r, hr, rfl, hu⟩ := h l hb hs
  rcases qq_head hr hu with ⟨_, h1⟩ | ⟨r', hb', rfl, h0, _, h1⟩ | ⟨hx1, y, r', hb', hy, rfl, h1⟩
  · have := congrArg List.length h1
    simp at this
    omega
  · exact absurd rfl h0
  · obtain ⟨rfl, h2⟩ := List.cons_eq_cons.1 h1
    obtain ⟨rfl, h3⟩ := List.cons_eq_cons.1 h2
    rw [uh_hx _ (by omega) (by omega), uh_hx _ (by omega) (by omega)] at hv
    have := hv (by omega) (by omega)
    exact ⟨r', hb', by rw [this, show y / 16 * 16 + y % 16 = y by omega]; simp, h3⟩
theorem uh_bd (c : Int) : uh c = -1 ∨ (0 ≤ uh c ∧ uh c < 16) := by
  unfold uh
  split
  · omega
  · split <;> omega
theorem idx_hex (c : Int) (h0 : 0 ≤ c) (h1 : c < 256) : Lib.indexByte (⟨#[48, 49, 50, 51, 52, 53, 54, 55, 56, 57, 97, 98, 99, 100, 101, 102]⟩ : ByteArray).data.toList c.toNat.toUInt8 = uh c := by
  have : ∀ n : Nat, n < 256 → Lib.indexByte (⟨#[48, 49, 50, 51, 52, 53, 54, 55, 56, 57, 97, 98, 99, 100, 101, 102]⟩ : ByteArray).data.toList n.toUInt8 = uh (n : Int) := by decide +kernel
  have h := this c.toNat (by omega)
  rw [Int.toNat_of_nonneg h0] at h
  exact h
theorem c_idxh (c : Int) (h0 : 0 ≤ c) (h1 : c < 256) (w : World) : Calls Tryz.prog 140 #[.string ⟨#[48, 49, 50, 51, 52, 53, 54, 55, 56, 57, 97, 98, 99, 100, 101, 102]⟩, .int .u8 c] w fun e w' => e = .returned (.int .i64 (uh c)) ∧ w' = w := by
  refine (Tryz.strings_IndexByte _ c w).mono ?_
  rintro e w' ⟨rfl, rfl⟩
  rw [idx_hex c h0 h1]
  exact ⟨rfl, rfl⟩
/-- A text without the quotes at its ends. -/
def trimQ (s : ByteArray) : ByteArray := ⟨(Lib.trimB s.data.toList 34).toArray⟩
theorem dw_no {m t : List UInt8} {c : UInt8} (hm : ∀ b ∈ m, b ≠ c) (hne : m ≠ []) : (m ++ t).dropWhile (· == c) = m ++ t := by
  cases m with
  | nil => exact absurd rfl hne
  | cons a m' => simp [hm a (by simp)]
theorem trim_no34 {m : List UInt8} (hm : ∀ b ∈ m, b ≠ 34) : Lib.trimB (34 :: (m ++ [34])) 34 = m := by
  have e1 : Lib.trimRightB (34 :: (m ++ [34])) 34 = if m = [] then [] else 34 :: m := by
    unfold Lib.trimRightB
    rw [List.reverse_cons, List.reverse_append]
    show (((34 :: m.reverse) ++ [34]).dropWhile (· == 34)).reverse = _
    by_cases h : m = []
    · subst h; rfl
    · rw [if_neg h]
      show ((m.reverse ++ [34]).dropWhile (· == 34)).reverse = _
      rw [dw_no (fun b hb => hm b (by simpa using hb)) (by simpa using h)]
      simp
  unfold Lib.trimB
  rw [e1]
  unfold Lib.trimLeftB
  by_cases h : m = []
  · subst h; rfl
  · rw [if_neg h]
    show m.dropWhile (· == 34) = m
    have := dw_no (t := []) hm h
    simpa using this
theorem qq_no34 : ∀ (l : List Int), Byts l → ∀ x ∈ qq l, ¬ x = 34
  | [], _, x, h => by cases h
  | y :: t, hb, x, h => by
    have hy := hb y (by simp)
    rw [qq] at h
    rcases List.mem_append.1 h with h1 | h1
    · unfold qc at h1
      split at h1
      · simp only [List.mem_cons, List.not_mem_nil, or_false] at h1
        rcases h1 with rfl | rfl | rfl
        · omega
        · rcases hx_bd (y / 16) (by omega) (by omega) with h | h <;> omega
        · rcases hx_bd (y % 16) (by omega) (by omega) with h | h <;> omega
      · have : x = y := by simpa using h1
        omega
    · exact qq_no34 t (fun z hz => hb z (by simp [hz])) x h1
theorem trim_quo {s : ByteArray} {l : List Int} (hl : Byts l) (h : byt s = quo l) : byt (trimQ s) = qq l := by
  have e : s = txt (quo l) := byt_inj (by rw [byt_txt _ (quo_byts l hl), h])
  subst e
  have e1 : (txt (quo l)).data.toList = 34 :: ((qq l).map (fun n => UInt8.ofNat n.toNat) ++ [34]) := by
    unfold txt quo
    simp
  unfold trimQ
  rw [e1, trim_no34]
  · show byt (txt (qq l)) = _
    rw [byt_txt _ (qq_byts l hl)]
  · intro b hb
    obtain ⟨n, hn, rfl⟩ := List.mem_map.1 hb
    have h1 := qq_byts l hl n hn
    have h2 := qq_no34 l hl n hn
    intro h3
    have := congrArg UInt8.toNat h3
    rw [UInt8.toNat_ofNat'] at this
    have e34 : (34 : UInt8).toNat = 34 := rfl
    omega
theorem trim_size (s : ByteArray) : (trimQ s).size ≤ s.size := by
  unfold trimQ Lib.trimB Lib.trimLeftB Lib.trimRightB
  rw [Lib.size_mk]
  have h1 := (List.dropWhile_suffix (· == (34 : UInt8)) (l := (s.data.toList.reverse.dropWhile (· == (34 : UInt8))).reverse)).length_le
  have h2 := (List.dropWhile_suffix (· == (34 : UInt8)) (l := s.data.toList.reverse)).length_le
  simp only [List.length_reverse] at h1 h2
  have h3 : s.data.toList.length = s.size := by rw [Array.length_toList]; rfl
  omega
theorem c_trim (s : ByteArray) (hs : s.size ≤ 9223372036854775807) (w : World) : Calls Tryz.prog 139 #[.string s, .string ⟨#[34]⟩] w fun e w' => e = .returned (.string (trimQ s)) ∧ Below w.heap.size w w' := by
  refine (Tryz.strings_Trim_one s 34 (by decide) w hs).mono ?_
  rintro e w' ⟨rfl, rfl | rfl⟩
  · exact ⟨rfl, Below.refl _ _⟩
  · exact ⟨rfl, (Below.refl _ _).drew⟩
theorem byt_cut (s : ByteArray) (k : Nat) : byt (s.extract k s.size) = (byt s).drop k := by
  rw [Lib.extract_from]
  unfold byt
  rw [List.map_drop]
theorem size_cut (s : ByteArray) (k : Nat) : (s.extract k s.size).size = s.size - k := by
  rw [ByteArray.size_extract]; omega
/-- Whatever is well written comes back. -/
def UqIs (s t : ByteArray) : Prop := ∀ l, Byts l → byt s = quo l → byt t = l
theorem b_hex {a b : Int} (ha : 0 ≤ a ∧ a < 16) (hb : 0 ≤ b ∧ b < 16) : bits .or .i64 (a * 16) b = a * 16 + b := by
  obtain ⟨n, rfl⟩ : ∃ n : Nat, a = n := ⟨a.toNat, by omega⟩
  obtain ⟨m, rfl⟩ : ∃ m : Nat, b = m := ⟨b.toNat, by omega⟩
  have : ∀ n : Nat, n < 16 → ∀ m : Nat, m < 16 → bits .or .i64 ((n : Int) * 16) (m : Int) = (n : Int) * 16 + m := by decide +kernel
  exact this n (by omega) m (by omega)
end Go.Proofs.YtkogcobcjoojnaaGreatDoor.Fl

namespace Go.Proofs.YtkogcobcjoojnaaGreatDoor.Fl
open Go.RowKit Go.Maps
set_option linter.unusedVariables false
set_option linter.unusedSimpArgs false
theorem byt_cons {t : ByteArray} (h : ¬ t.size = 0) : ∃ x u, byt t = x :: u ∧ t.size = u.length + 1 := by
  have hl := byt_len t
  cases hh : byt t with
  | nil => rw [hh] at hl; simp at hl; omega
  | cons x u => rw [hh] at hl; exact ⟨x, u, rfl, by simpa using hl.symm⟩
theorem cut_k {t : ByteArray} {l : List Int} (k : Nat) (h : byt t = l) : byt (t.extract k t.size) = l.drop k := by rw [byt_cut, h]
set_option maxHeartbeats 4000000 in
set_option maxRecDepth 100000 in
theorem c_unquoted (s : ByteArray) (hs : s.size ≤ 1000000) (w : World) :
    Calls Tryz.prog 185 #[.string s] w fun e w' => ∃ t : ByteArray, e = .returned (.string t) ∧ t.size ≤ s.size ∧ UqIs s t ∧ Below w.heap.size w w' := by
  have C1 := Lib.hid (fun W => c_trim s (by omega) W)
  have HQ0 := Lib.hid (show Qv s [] [] [] (byt (trimQ s)) from fun l hl h => ⟨l, hl, rfl, by rw [List.append_nil]; exact trim_quo hl h⟩)
  have HT0 := trim_size s
  generalize trimQ s = t0 at C1 HQ0 HT0
  go_enter Tryz.func185, Tryz.ntmps185
  go_wp2_with (go_at_call 139; ((with_reducible refine (C1.out _).mono ?_); rintro e w1 ⟨rfl, hb⟩; have HB1 := Lib.hid hb; clear hb))
  go_loopw [0, 3, 4, 5] (fun v0 v3 v4 v5 W => ∃ (t : ByteArray) (o : List Int), v0 = .string t ∧ o.length + t.size ≤ s.size ∧ Hid (Qv s [] [] o (byt t)) ∧ Hid (OwnB W w.heap.size v3 o) ∧ Hid (Byts o) ∧ Hid (Below w.heap.size w W)) (fun v0 _ _ _ _ => match v0 with | .string t => t.size | _ => 0)
  case atStart => exact ⟨t0, [], rfl, by show 0 + t0.size ≤ s.size; omega, HQ0, Lib.hid (OwnB.nil _ _), Lib.hid (fun x h => by cases h), HB1⟩
  case round =>
    obtain ⟨t, o, rfl, hot, HQ, HO, HOB, HW⟩ := hrel
    clear HQ0 HB1 HT0 C1
    by_cases h0 : t.size = 0
    · have t1 : decide (0 < (t.size : Int)) = false := decide_eq_false (by omega)
      have kc := conv_has wr _ o HO.out.has HOB.out
      have HE := Lib.hid (show UqIs s (txt o) from fun l hl h => by rw [byt_txt _ HOB.out]; exact (qv_end HQ.out (by rw [byt_len, h0]; exact Nat.le_refl _) l hl h).symm)
      have HSO : (txt o).size ≤ s.size := by rw [txt_size]; omega
      have HSO := Lib.hid HSO
      go_wp2
      go_ret
      exact ⟨txt o, rfl, HSO.out, HE.out, HW.out⟩
    · have t1 : decide (0 < (t.size : Int)) = true := decide_eq_true (by omega)
      obtain ⟨x, u, hxu, hlu⟩ := byt_cons h0
      have HXU := Lib.hid hxu
      have hbu : Byts (x :: u) := hxu ▸ byt_bd t
      have hx := hbu x (by simp)
      have x0 : ∀ w, (Instr.index 9 (.string t) (.int .i64 0)).run Tryz.prog w = .ok (.int .u8 x) w := fun w => by
        have := str_at t 0 (by omega) w
        rw [hxu] at this
        exact this
      have HBU := Lib.hid hbu
      have HLU := Lib.hid hlu
      clear hbu hlu
      by_cases h92 : x = 92
      · have t2 : (x == 92) = true := by simp [h92]
        by_cases h2 : 2 < t.size
        · have t3 : decide (2 < (t.size : Int)) = true := decide_eq_true (by omega)
          obtain ⟨a, b, v, huv⟩ : ∃ a b v, u = a :: b :: v := by
            have := HLU.out
            match u, (by omega : 2 ≤ u.length) with
            | a :: b :: v, _ => exact ⟨a, b, v, rfl⟩
          subst huv
          have ha := HBU.out a (by simp)
          have hb := HBU.out b (by simp)
          have x1 : ∀ w, (Instr.index 9 (.string t) (.int .i64 1)).run Tryz.prog w = .ok (.int .u8 a) w := fun w => by have := str_at t 1 (by omega) w; rw [hxu] at this; exact this
          have x2 : ∀ w, (Instr.index 9 (.string t) (.int .i64 2)).run Tryz.prog w = .ok (.int .u8 b) w := fun w => by have := str_at t 2 (by omega) w; rw [hxu] at this; exact this
          have C2 := Lib.hid (fun W => c_idxh a ha.1 ha.2 W)
          have C3 := Lib.hid (fun W => c_idxh b hb.1 hb.2 W)
          have HA := uh_bd a
          have HB := uh_bd b
          have HV := Lib.hid (show ∀ y, (0 ≤ uh a → 0 ≤ uh b → y = uh a * 16 + uh b) → Qv s [] [] (o ++ [y]) (byt (t.extract 3 t.size)) by intro y hy; rw [cut_k 3 HXU.out]; have h := HQ.out; rw [HXU.out, h92] at h; exact qv_esc h (by simp) hy)
          have HP := Lib.hid (show (¬ 0 ≤ uh a ∨ ¬ 0 ≤ uh b) → ∀ c d z, x = 92 → a :: b :: v = c :: d :: z → ([] : List Int).length ≤ z.length → 0 ≤ uh c → 0 ≤ uh d → False by
            intro hc c d z _ he _ h1 h2
            obtain ⟨e1, he⟩ := List.cons_eq_cons.1 he
            obtain ⟨e2, he⟩ := List.cons_eq_cons.1 he
            rw [← e1] at h1
            rw [← e2] at h2
            rcases hc with hc | hc
            · exact hc h1
            · exact hc h2)
          generalize uh a = ya at *
          generalize uh b = yb at *
          clear ha hb h92 hxu h2
          rcases HA with rfl | HA
          · rcases HB with rfl | HB
            · have HQ2 := Lib.hid (show Qv s [] [] (o ++ [x]) (byt (t.extract 1 t.size)) by rw [cut_k 1 HXU.out]; have h := HQ.out; rw [HXU.out] at h; exact qv_plain h (by simp) (HP.out (Or.inl (by omega))))
              have HOB2 := Lib.hid (byts_snoc HOB.out hx)
              have hsz := Lib.hid (size_cut t 1)
              clear hx
              go_wp2_with fail
              go_quiet (first | (go_at_call 140; exact Calls.quiet_of_same (C2.out _)) | (go_at_call 140; exact Calls.quiet_of_same (C3.out _)))
              have HOq := Lib.hid (HO.out.below (below_drewN wr nq))
              have HWq := Lib.hid (HW.out.trans ((below_drewN wr nq).mono HW.out.size))
              generalize wr.drewN nq = wq at HOq HWq ⊢
              go_wp2_with (at_builtin; refine wp_append_b rfl (.tmp 41) (.tmp 44) rfl w.heap.size _ _ o [x] rfl rfl ?o1 ?s1 ?l1 ?b1 ?_; (case o1 => exact HOq.out.alloc _); (case s1 => exact SrcB.row _ [x]); (case l1 => simp; omega); (case b1 => have := HWq.out.size; simp; omega); intro v2 w2 ho hb2 hg2; have HO2 := Lib.hid ho; have HW2 := Lib.hid ((HWq.out.alloc HWq.out.size _).trans hb2); clear ho hb2 hg2)
              go_roundw
              case rel => exact ⟨t.extract 1 t.size, o ++ [x], rfl, by rw [hsz.out]; simp; omega, HQ2, HO2, HOB2, HW2⟩
              case measure => show (t.extract 1 t.size).size < t.size; rw [hsz.out]; omega
            · have HQ2 := Lib.hid (show Qv s [] [] (o ++ [x]) (byt (t.extract 1 t.size)) by rw [cut_k 1 HXU.out]; have h := HQ.out; rw [HXU.out] at h; exact qv_plain h (by simp) (HP.out (Or.inl (by omega))))
              have HOB2 := Lib.hid (byts_snoc HOB.out hx)
              have hsz := Lib.hid (size_cut t 1)
              clear hx
              go_wp2_with fail
              go_quiet (first | (go_at_call 140; exact Calls.quiet_of_same (C2.out _)) | (go_at_call 140; exact Calls.quiet_of_same (C3.out _)))
              have HOq := Lib.hid (HO.out.below (below_drewN wr nq))
              have HWq := Lib.hid (HW.out.trans ((below_drewN wr nq).mono HW.out.size))
              generalize wr.drewN nq = wq at HOq HWq ⊢
              go_wp2_with (at_builtin; refine wp_append_b rfl (.tmp 41) (.tmp 44) rfl w.heap.size _ _ o [x] rfl rfl ?o1 ?s1 ?l1 ?b1 ?_; (case o1 => exact HOq.out.alloc _); (case s1 => exact SrcB.row _ [x]); (case l1 => simp; omega); (case b1 => have := HWq.out.size; simp; omega); intro v2 w2 ho hb2 hg2; have HO2 := Lib.hid ho; have HW2 := Lib.hid ((HWq.out.alloc HWq.out.size _).trans hb2); clear ho hb2 hg2)
              go_roundw
              case rel => exact ⟨t.extract 1 t.size, o ++ [x], rfl, by rw [hsz.out]; simp; omega, HQ2, HO2, HOB2, HW2⟩
              case measure => show (t.extract 1 t.size).size < t.size; rw [hsz.out]; omega
          · rcases HB with rfl | HB
            · have HQ2 := Lib.hid (show Qv s [] [] (o ++ [x]) (byt (t.extract 1 t.size)) by rw [cut_k 1 HXU.out]; have h := HQ.out; rw [HXU.out] at h; exact qv_plain h (by simp) (HP.out (Or.inr (by omega))))
              have HOB2 := Lib.hid (byts_snoc HOB.out hx)
              have hsz := Lib.hid (size_cut t 1)
              clear hx
              go_wp2_with fail
              go_quiet (first | (go_at_call 140; exact Calls.quiet_of_same (C2.out _)) | (go_at_call 140; exact Calls.quiet_of_same (C3.out _)))
              have HOq := Lib.hid (HO.out.below (below_drewN wr nq))
              have HWq := Lib.hid (HW.out.trans ((below_drewN wr nq).mono HW.out.size))
              generalize wr.drewN nq = wq at HOq HWq ⊢
              go_wp2_with (at_builtin; refine wp_append_b rfl (.tmp 41) (.tmp 44) rfl w.heap.size _ _ o [x] rfl rfl ?o1 ?s1 ?l1 ?b1 ?_; (case o1 => exact HOq.out.alloc _); (case s1 => exact SrcB.row _ [x]); (case l1 => simp; omega); (case b1 => have := HWq.out.size; simp; omega); intro v2 w2 ho hb2 hg2; have HO2 := Lib.hid ho; have HW2 := Lib.hid ((HWq.out.alloc HWq.out.size _).trans hb2); clear ho hb2 hg2)
              go_roundw
              case rel => exact ⟨t.extract 1 t.size, o ++ [x], rfl, by rw [hsz.out]; simp; omega, HQ2, HO2, HOB2, HW2⟩
              case measure => show (t.extract 1 t.size).size < t.size; rw [hsz.out]; omega
            · have HQ2 := Lib.hid (HV.out (ya * 16 + yb) (fun _ _ => rfl))
              have HOB2 := Lib.hid (byts_snoc HOB.out (show 0 ≤ ya * 16 + yb ∧ ya * 16 + yb < 256 by omega))
              have hsz := Lib.hid (size_cut t 3)
              have m1 := b_hex HA HB
              have m2 : IntKind.u8.wrap (ya * 16 + yb) = ya * 16 + yb := by unfold IntKind.wrap; simp [IntKind.bits, IntKind.signed]; omega
              have m3 : wrap64 (ya * 16) = ya * 16 := by unfold wrap64; omega
              have hge : 3 ≤ t.size := by have := HLU.out; simp at this; omega
              clear hx
              go_wp2_with fail
              go_quiet (first | (go_at_call 140; exact Calls.quiet_of_same (C2.out _)) | (go_at_call 140; exact Calls.quiet_of_same (C3.out _)))
              have HOq := Lib.hid (HO.out.below (below_drewN wr nq))
              have HWq := Lib.hid (HW.out.trans ((below_drewN wr nq).mono HW.out.size))
              generalize wr.drewN nq = wq at HOq HWq ⊢
              go_wp2_with (at_builtin; refine wp_append_b rfl (.tmp 31) (.tmp 37) rfl w.heap.size _ _ o [ya * 16 + yb] rfl rfl ?o1 ?s1 ?l1 ?b1 ?_; (case o1 => exact HOq.out.alloc _); (case s1 => exact SrcB.row _ [ya * 16 + yb]); (case l1 => simp; omega); (case b1 => have := HWq.out.size; simp; omega); intro v2 w2 ho hb2 hg2; have HO2 := Lib.hid ho; have HW2 := Lib.hid ((HWq.out.alloc HWq.out.size _).trans hb2); clear ho hb2 hg2)
              go_roundw
              case rel => exact ⟨t.extract 3 t.size, o ++ [ya * 16 + yb], rfl, by rw [hsz.out]; simp; omega, HQ2, HO2, HOB2, HW2⟩
              case measure => show (t.extract 3 t.size).size < t.size; rw [hsz.out]; omega
        · have t3 : decide (2 < (t.size : Int)) = false := decide_eq_false (by omega)
          have HQ2 := Lib.hid (show Qv s [] [] (o ++ [x]) (byt (t.extract 1 t.size)) by rw [cut_k 1 HXU.out]; have h := HQ.out; rw [HXU.out] at h; exact qv_plain h (by simp) (fun a b v _ he _ _ _ => by subst he; have := HLU.out; simp at this; omega))
          have HOB2 := Lib.hid (byts_snoc HOB.out hx)
          have hsz := Lib.hid (size_cut t 1)
          clear hxu hx h92
          go_wp2_with (at_builtin; refine wp_append_b rfl (.tmp 41) (.tmp 44) rfl w.heap.size _ _ o [x] rfl rfl ?o1 ?s1 ?l1 ?b1 ?_; (case o1 => exact HO.out.alloc _); (case s1 => exact SrcB.row _ [x]); (case l1 => simp; omega); (case b1 => have := HW.out.size; simp; omega); intro v2 w2 ho hb2 hg2; have HO2 := Lib.hid ho; have HW2 := Lib.hid ((HW.out.alloc HW.out.size _).trans hb2); clear ho hb2 hg2)
          go_roundw
          case rel => exact ⟨t.extract 1 t.size, o ++ [x], rfl, by rw [hsz.out]; simp; omega, HQ2, HO2, HOB2, HW2⟩
          case measure => show (t.extract 1 t.size).size < t.size; rw [hsz.out]; omega
      · have t2 : (x == 92) = false := by simp [h92]
        have HQ2 := Lib.hid (show Qv s [] [] (o ++ [x]) (byt (t.extract 1 t.size)) by rw [cut_k 1 HXU.out]; have h := HQ.out; rw [HXU.out] at h; exact qv_plain h (by simp) (fun a b v h _ _ _ _ => h92 h))
        have HOB2 := Lib.hid (byts_snoc HOB.out hx)
        have hsz := Lib.hid (size_cut t 1)
        clear hxu hx h92
        go_wp2_with (at_builtin; refine wp_append_b rfl (.tmp 41) (.tmp 44) rfl w.heap.size _ _ o [x] rfl rfl ?o1 ?s1 ?l1 ?b1 ?_; (case o1 => exact HO.out.alloc _); (case s1 => exact SrcB.row _ [x]); (case l1 => simp; omega); (case b1 => have := HW.out.size; simp; omega); intro v2 w2 ho hb2 hg2; have HO2 := Lib.hid ho; have HW2 := Lib.hid ((HW.out.alloc HW.out.size _).trans hb2); clear ho hb2 hg2)
        go_roundw
        case rel => exact ⟨t.extract 1 t.size, o ++ [x], rfl, by rw [hsz.out]; simp; omega, HQ2, HO2, HOB2, HW2⟩
        case measure => show (t.extract 1 t.size).size < t.size; rw [hsz.out]; omega
end Go.Proofs.YtkogcobcjoojnaaGreatDoor.Fl

namespace Go.Proofs.YtkogcobcjoojnaaGreatDoor.Fl
open Go.RowKit Go.Maps
set_option linter.unusedVariables false
set_option linter.unusedSimpArgs false
theorem pu_snoc : ∀ (l : List UInt8) (acc u : Nat) (d : UInt8), Lib.parseUint10 acc l = .ok u → 48 ≤ d.toNat → d.toNat ≤ 57 → u * 10 + (d.toNat - 48) < 18446744073709551616 → Lib.parseUint10 acc (l ++ [d]) = .ok (u * 10 + (d.toNat - 48))
  | [], acc, u, d, h, h1, h2, h3 => by
    rw [Lib.parseUint10] at h
    injection h with h
    subst h
    rw [List.nil_append, Lib.parseUint10, if_pos ⟨h1, h2⟩, if_neg (by omega), if_neg (by omega), Lib.parseUint10]
  | c :: r, acc, u, d, h, h1, h2, h3 => by
    rw [List.cons_append, Lib.parseUint10]
    rw [Lib.parseUint10] at h
    split at h
    · rename_i hc
      rw [if_pos hc]
      split at h
      · cases h
      · rename_i ha
        rw [if_neg ha]
        split at h
        · cases h
        · rename_i hb
          rw [if_neg hb]
          exact pu_snoc r _ u d h h1 h2 h3
    · cases h
theorem pu_dec (m : Nat) : m < 18446744073709551616 → Lib.parseUint10 0 (Lib.decDigits m) = .ok m := by
  induction m using Nat.strongRecOn with
  | _ m ih =>
    intro h
    rw [Lib.decDigits]
    split
    · rename_i h9
      have e : (UInt8.ofNat (48 + m)).toNat = 48 + m := by rw [UInt8.toNat_ofNat']; omega
      rw [Lib.parseUint10, e, if_pos (by omega), if_neg (by omega), if_neg (by omega), Lib.parseUint10]
      congr 1
      omega
    · have e : (UInt8.ofNat (48 + m % 10)).toNat = 48 + m % 10 := by rw [UInt8.toNat_ofNat']; omega
      have := pu_snoc (Lib.decDigits (m / 10)) 0 (m / 10) (UInt8.ofNat (48 + m % 10)) (ih (m / 10) (by omega) (by omega)) (by omega) (by omega) (by omega)
      rw [this, e]
      congr 1
      omega
theorem atoi_itoa (n : Int) (hn : Wf n) : Lib.atoiAll (Lib.itoa n) = .ok n := by
  unfold Wf at hn
  unfold Lib.itoa
  by_cases h : n < 0
  · rw [if_pos h]
    have e := pu_dec n.natAbs (by omega)
    have e2 := dec_ne n.natAbs
    have e3 : Lib.parseMag (Lib.decDigits n.natAbs) = .ok n.natAbs := by
      unfold Lib.parseMag
      rw [if_neg e2, e]
    have hc : (45 : UInt8).toNat = 45 := rfl
    generalize (45 : UInt8) = c at hc ⊢
    generalize Lib.decDigits n.natAbs = r at e3 ⊢
    unfold Lib.atoiAll
    dsimp only
    rw [if_pos (Or.inr hc), e3]
    show (if ¬ c.toNat = 45 ∧ 9223372036854775808 ≤ n.natAbs then _ else _) = _
    rw [if_neg (fun h => h.1 hc), if_neg (by omega), if_pos hc]
    congr 1
    omega
  · rw [if_neg h]
    have e := pu_dec n.toNat (by omega)
    have e2 := dec_ne n.toNat
    have e3 : Lib.parseMag (Lib.decDigits n.toNat) = .ok n.toNat := by
      unfold Lib.parseMag
      rw [if_neg e2, e]
    have hd := dec_bd n.toNat
    cases hl : Lib.decDigits n.toNat with
    | nil => exact absurd hl e2
    | cons c r =>
      have hc := hd c (by rw [hl]; simp)
      rw [hl] at e3
      unfold Lib.atoiAll
      dsimp only
      rw [if_neg (by omega), e3]
      show (if ¬ c.toNat = 45 ∧ 9223372036854775808 ≤ n.toNat then _ else _) = _
      rw [if_neg (by omega), if_neg (by omega), if_neg (by omega)]
      congr 1
      omega
theorem c_atoi (s : ByteArray) (hs : s.size ≤ 140737488351232) (w : World) (hg : Gl w) :
    Calls Tryz.prog 111 #[.string s] w fun e w' => ∃ n v, e = .returned (.tuple #[.int .i64 n, v]) ∧ Wf n ∧ (∀ m, Wf m → Lib.itoa m = s.data.toList → n = m) ∧ Below w.heap.size w w' := by
  obtain ⟨t1, p1, h1⟩ := hg.syn
  obtain ⟨t2, p2, h2⟩ := hg.ran
  have key : ∀ m, Wf m → Lib.itoa m = s.data.toList → Lib.atoiAll s.data.toList = .ok m := fun m hm h => by rw [← h]; exact atoi_itoa m hm
  cases ha : Lib.atoiAll s.data.toList with
  | ok v =>
    have hv := Lib.atoiAll_bounds ha
    refine (Tryz.strconv_Atoi_ok s (by omega) v ha w).mono ?_
    rintro e w' ⟨rfl, hw⟩
    refine ⟨v, _, rfl, by unfold Wf; omega, fun m hm h => ?_, ?_⟩
    · have := key m hm h
      rw [ha] at this
      injection this
    · rcases hw with rfl | ⟨t, rfl⟩
      · exact Below.refl _ _
      · exact Lib.bytesWorld_below _ _ _
  | range =>
    refine (Tryz.strconv_Atoi_range s (by omega) ha _ w h2 (Or.inr ⟨_, _, rfl⟩)).mono ?_
    rintro e w' ⟨N, rfl, _, _, hb⟩
    refine ⟨_, _, rfl, Lib.atoiSat_bounds _, fun m hm h => ?_, hb⟩
    have := key m hm h
    rw [ha] at this
    cases this
  | _ =>
    refine (Tryz.strconv_Atoi_syntax s (by omega) ha _ w h1 (Or.inr ⟨_, _, rfl⟩)).mono ?_
    rintro e w' ⟨N, rfl, _, _, hb⟩
    refine ⟨0, _, rfl, by unfold Wf; omega, fun m hm h => ?_, hb⟩
    have := key m hm h
    rw [ha] at this
    cases this
/-- If a text is a right value's, it is this one's. -/
def Gs (s : ByteArray) (k n : Int) (t : ByteArray) : Prop := ∀ k' n' t', Wf n' → Form k' n' t' s → k = k' ∧ n = n' ∧ t = t'
theorem gs_of {s : ByteArray} {k n : Int} {t : ByteArray} (hn : Wf n) (h : Form k n t s) : Gs s k n t := fun k' n' t' h1 h2 => form_inj hn h1 h h2
theorem hp_b0 (s : ByteArray) (c : UInt8) (hc : ¬ c.toNat = 0) : Lib.hasPrefix s.data.toList (⟨#[c]⟩ : ByteArray).data.toList = decide (b0 s = (c.toNat : Int)) := by
  have : ∀ l : List UInt8, Lib.hasPrefix l [c] = decide ((l.map fun b => (b.toNat : Int)).getD 0 0 = (c.toNat : Int)) := by
    intro l
    cases l with
    | nil =>
      symm
      apply decide_eq_false
      show ¬ (0 : Int) = _
      omega
    | cons x t =>
      unfold Lib.hasPrefix
      rw [Bool.eq_iff_iff, decide_eq_true_iff]
      show (c == x && List.isPrefixOf [] t) = true ↔ (x.toNat : Int) = (c.toNat : Int)
      rw [List.isPrefixOf_nil_left, Bool.and_true, beq_iff_eq]
      constructor
      · rintro rfl; rfl
      · intro h; exact (UInt8.toNat_inj.1 (by omega)).symm
  exact this _
theorem c_hasp (s : ByteArray) (c : UInt8) (hc : ¬ c.toNat = 0) (b : Bool) (hb : decide (b0 s = (c.toNat : Int)) = b) (w : World) : Calls Tryz.prog 29 #[.string s, .string ⟨#[c]⟩] w fun e w' => e = .returned (.bool b) ∧ w' = w := by
  refine (Tryz.strings_HasPrefix s ⟨#[c]⟩ w).mono ?_
  rintro e w' ⟨rfl, rfl⟩
  rw [hp_b0 s c hc, hb]
  exact ⟨rfl, rfl⟩
theorem cut_one (c : UInt8) (u : ByteArray) : ((⟨#[c]⟩ : ByteArray) ++ u).extract 1 ((⟨#[c]⟩ : ByteArray) ++ u).size = u := byt_inj (by rw [byt_cut, byt_append]; rfl)
theorem gs_float {s : ByteArray} {n : Int} {b : Bool} (h0 : b0 s = 102) (hf : ¬ s = ⟨#[102, 97, 108, 115, 101]⟩) (h : RdIs (s.extract 1 s.size) n b) : Gs s 5 n ⟨#[]⟩ := fun k' n' t' h1 h2 => by
  have hb := form_b h2
  rcases h2 with ⟨rfl, rfl, e⟩ | ⟨rfl, rfl, rfl, e⟩ | ⟨rfl, rfl, rfl, e⟩ | ⟨rfl, rfl, hr, e⟩ | ⟨rfl, rfl, e⟩ | ⟨rfl, rfl, e⟩ <;> first | (exfalso; clear e; omega) | exact absurd e hf | skip
  subst e
  rw [cut_one] at h
  exact ⟨rfl, (rd_yes h h1 hr rfl).1, rfl⟩
theorem gs_bytes {s t : ByteArray} (h0 : b0 s = 98) (h : UqIs (s.extract 1 s.size) t) : Gs s 2 0 t := fun k' n' t' h1 h2 => by
  have hb := form_b h2
  rcases h2 with ⟨rfl, rfl, e⟩ | ⟨rfl, rfl, rfl, e⟩ | ⟨rfl, rfl, rfl, e⟩ | ⟨rfl, rfl, hr, e⟩ | ⟨rfl, rfl, e⟩ | ⟨rfl, rfl, e⟩ <;> first | (exfalso; clear e; omega) | skip
  subst e
  rw [cut_one] at h
  exact ⟨rfl, rfl, byt_inj (h _ (byt_bd t') (byt_txt _ (quo_byts _ (byt_bd t'))))⟩
theorem gs_text {s t : ByteArray} (h0 : b0 s = 116) (hf : ¬ s = ⟨#[116, 114, 117, 101]⟩) (h : UqIs (s.extract 1 s.size) t) : Gs s 3 0 t := fun k' n' t' h1 h2 => by
  have hb := form_b h2
  rcases h2 with ⟨rfl, rfl, e⟩ | ⟨rfl, rfl, rfl, e⟩ | ⟨rfl, rfl, rfl, e⟩ | ⟨rfl, rfl, hr, e⟩ | ⟨rfl, rfl, e⟩ | ⟨rfl, rfl, e⟩ <;> first | (exfalso; clear e; omega) | exact absurd e hf | skip
  subst e
  rw [cut_one] at h
  exact ⟨rfl, rfl, byt_inj (h _ (byt_bd t') (byt_txt _ (quo_byts _ (byt_bd t'))))⟩
theorem gs_int {s : ByteArray} {n : Int} (h1 : ¬ b0 s = 102) (h2 : ¬ b0 s = 98) (h3 : ¬ b0 s = 116) (h : ∀ m, Wf m → Lib.itoa m = s.data.toList → n = m) : Gs s 1 n ⟨#[]⟩ := fun k' n' t' g1 g2 => by
  have hb := form_b g2
  rcases g2 with ⟨rfl, rfl, e⟩ | ⟨rfl, rfl, rfl, e⟩ | ⟨rfl, rfl, rfl, e⟩ | ⟨rfl, rfl, hr, e⟩ | ⟨rfl, rfl, e⟩ | ⟨rfl, rfl, e⟩ <;> first | (exfalso; clear e; omega) | skip
  subst e
  exact ⟨rfl, h n' g1 rfl, rfl⟩
theorem ret_cell1 {fn : Func} {p : Tmp} (h : fn.results = #[.cell p 30]) (tmps : Array Value) (w : World) (g : Nat) (k n : Int) (s : ByteArray) (fr : Nat × Nat)
    (hp : tmps.getD p undef = .pointer (some ⟨g, 0, none⟩)) (hg : w.heap[g]? = some (.cells #[.int .i64 k, .int .i64 n, .string s] 30 fr)) :
    (results fn tmps).run Tryz.prog w = .ok (vv k n s) w := by
  exact results_cell_row h tmps w g _ _ fr _ hp hg Tryz.underlying30 rfl (by kernel_rfl)
end Go.Proofs.YtkogcobcjoojnaaGreatDoor.Fl

namespace Go.Proofs.YtkogcobcjoojnaaGreatDoor.Fl
open Go.RowKit Go.Maps
set_option linter.unusedVariables false
set_option linter.unusedSimpArgs false
theorem tl_true {s : ByteArray} {l : List UInt8} (h : s = ⟨l.toArray⟩) : (s.toList == l) = true := by rw [h, ByteArray.toList_eq]; simp
theorem tl_false {s : ByteArray} {l : List UInt8} (h : ¬ s = ⟨l.toArray⟩) : (s.toList == l) = false := by
  apply beq_eq_false_iff_ne.2
  intro e
  apply h
  rw [← e, ByteArray.toList_eq]
theorem byt_b0 {s : ByteArray} (h : ¬ b0 s = 0) : 1 ≤ s.size := by
  rcases Nat.eq_zero_or_pos s.size with h0 | h0
  · rw [size0 h0] at h; exact absurd rfl h
  · exact h0
set_option maxHeartbeats 4000000 in
set_option maxRecDepth 100000 in
theorem c_guess (s : ByteArray) (hs : s.size ≤ 1000000) (w : World) (hg : Gv w) :
    Calls Tryz.prog 168 #[.string s] w fun e w' => ∃ k n t, e = .returned (vv k n t) ∧ Wf n ∧ t.size ≤ s.size ∧ Gs s k n t ∧ Below w.heap.size w w' := by
  have HZ0 := Lib.hid (Zb.start w (.int .i64 0) (.int .i64 0) (.string ⟨#[]⟩))
  have HG := Lib.hid (hg.below HZ0.out.bel)
  obtain ⟨x0, x1, x2, f0, f1, f2⟩ := HZ0.out.facts
  clear hg
  by_cases e1 : s = ⟨#[116, 114, 117, 101]⟩
  · have q1 : (s.toList == [116, 114, 117, 101]) = true := tl_true e1
    have HE := Lib.hid (show Gs s 4 1 ⟨#[]⟩ from gs_of (by unfold Wf; omega) (Or.inr (Or.inl ⟨rfl, rfl, rfl, e1⟩)))
    clear e1 hs
    go_enter Tryz.func168, Tryz.ntmps168
    go_wp2
    exact bodyPost_ret (ret_cell1 rfl _ _ w.heap.size 4 1 ⟨#[]⟩ (0, 0) rfl (Zb.start w _ _ _).z) rfl ⟨4, 1, ⟨#[]⟩, rfl, by unfold Wf; omega, Nat.zero_le _, HE.out, (Zb.start w _ _ _).bel⟩
  have q1 : (s.toList == [116, 114, 117, 101]) = false := tl_false e1
  by_cases e2 : s = ⟨#[102, 97, 108, 115, 101]⟩
  · have q2 : (s.toList == [102, 97, 108, 115, 101]) = true := tl_true e2
    have HE := Lib.hid (show Gs s 4 0 ⟨#[]⟩ from gs_of (by unfold Wf; omega) (Or.inr (Or.inr (Or.inl ⟨rfl, rfl, rfl, e2⟩))))
    clear e1 e2 hs
    go_enter Tryz.func168, Tryz.ntmps168
    go_wp2
    exact bodyPost_ret (ret_cell1 rfl _ _ w.heap.size 4 0 ⟨#[]⟩ (0, 0) rfl (Zb.start w _ _ _).z) rfl ⟨4, 0, ⟨#[]⟩, rfl, by unfold Wf; omega, Nat.zero_le _, HE.out, (Zb.start w _ _ _).bel⟩
  have q2 : (s.toList == [102, 97, 108, 115, 101]) = false := tl_false e2
  have hcs := size_cut s 1
  obtain ⟨d1, hd1⟩ : ∃ d, decide (b0 s = 102) = d := ⟨_, rfl⟩
  obtain ⟨d2, hd2⟩ : ∃ d, decide (b0 s = 98) = d := ⟨_, rfl⟩
  obtain ⟨d3, hd3⟩ : ∃ d, decide (b0 s = 116) = d := ⟨_, rfl⟩
  have P1 := Lib.hid (fun W => c_hasp s 102 (by decide) d1 hd1 W)
  have P2 := Lib.hid (fun W => c_hasp s 98 (by decide) d2 hd2 W)
  have P3 := Lib.hid (fun W => c_hasp s 116 (by decide) d3 hd3 W)
  cases d1 with
  | true =>
    have hb0 : b0 s = 102 := of_decide_eq_true hd1
    have h1 := byt_b0 (s := s) (by omega)
    obtain ⟨n, b, hr⟩ := rd_ex (s.extract 1 s.size)
    have HE := Lib.hid (gs_float hb0 e2 hr)
    have HW := Lib.hid (rd_wf hr)
    have C1 := Lib.hid (fun W hg => c_read (s.extract 1 s.size) (by rw [hcs]; omega) W hg n b hr)
    clear e1 e2 hb0 hd1 hd2 hd3 hr P2 P3 hcs hs
    go_enter Tryz.func168, Tryz.ntmps168
    go_wp2_with (first | (go_at_call 29; ((with_reducible refine (P1.out _).mono ?_); rintro e w1 ⟨rfl, rfl⟩)) | (go_at_call 184; ((with_reducible refine (C1.out _ HG.out.gl).mono ?_); rintro e w2 ⟨rfl, hb⟩; clear x0 x1 x2 f0 f1 f2; have HZ := Lib.hid (HZ0.out.below hb); obtain ⟨x0, x1, x2, f0, f1, f2⟩ := HZ.out.facts; clear hb)))
    exact bodyPost_ret (ret_cell1 rfl _ _ w.heap.size 5 n ⟨#[]⟩ (0, 0) rfl (HZ.out.put _ _ _).z) rfl ⟨5, n, ⟨#[]⟩, rfl, HW.out, Nat.zero_le _, HE.out, (HZ.out.put _ _ _).bel⟩
  | false =>
    have n1 : ¬ b0 s = 102 := of_decide_eq_false hd1
    cases d2 with
    | true =>
      have hb0 : b0 s = 98 := of_decide_eq_true hd2
      have h1 := byt_b0 (s := s) (by omega)
      have C1 := Lib.hid (fun W => c_unquoted (s.extract 1 s.size) (by rw [hcs]; omega) W)
      have HE := Lib.hid (show ∀ t, UqIs (s.extract 1 s.size) t → Gs s 2 0 t from fun t h => gs_bytes hb0 h)
      have hcs2 : s.size - 1 ≤ s.size := by omega
      have HCS := Lib.hid hcs
      clear e1 e2 hb0 hd1 hd2 hd3 n1 hs hcs
      go_enter Tryz.func168, Tryz.ntmps168
      go_wp2_with fail
      refine (P1.out _).mono ?_
      rintro e w1 ⟨rfl, rfl⟩
      go_wp2_with fail
      refine (P2.out _).mono ?_
      rintro e w1 ⟨rfl, rfl⟩
      go_wp2_with fail
      refine (C1.out _).mono ?_
      rintro e w2 ⟨t, rfl, ht, hu, hb⟩
      have HZ := Lib.hid (HZ0.out.below hb)
      have HU := Lib.hid (HE.out t hu)
      have HTS := Lib.hid (show t.size ≤ s.size by rw [HCS.out] at ht; omega)
      clear x0 x1 x2 f0 f1 f2 hb hu ht
      obtain ⟨x0, x1, x2, f0, f1, f2⟩ := HZ.out.facts
      go_wp2_with fail
      exact bodyPost_ret (ret_cell1 rfl _ _ w.heap.size 2 0 t (0, 0) rfl (HZ.out.put _ _ _).z) rfl ⟨2, 0, t, rfl, by unfold Wf; omega, HTS.out, HU.out, (HZ.out.put _ _ _).bel⟩
    | false =>
      have n2 : ¬ b0 s = 98 := of_decide_eq_false hd2
      cases d3 with
      | true =>
        have hb0 : b0 s = 116 := of_decide_eq_true hd3
        have h1 := byt_b0 (s := s) (by omega)
        have C1 := Lib.hid (fun W => c_unquoted (s.extract 1 s.size) (by rw [hcs]; omega) W)
        have HE := Lib.hid (show ∀ t, UqIs (s.extract 1 s.size) t → Gs s 3 0 t from fun t h => gs_text hb0 e1 h)
        have hcs2 : s.size - 1 ≤ s.size := by omega
        have HCS := Lib.hid hcs
        clear e1 e2 hb0 hd1 hd2 hd3 n1 hs hcs n2
        go_enter Tryz.func168, Tryz.ntmps168
        go_wp2_with fail
        refine (P1.out _).mono ?_
        rintro e w1 ⟨rfl, rfl⟩
        go_wp2_with fail
        refine (P2.out _).mono ?_
        rintro e w1 ⟨rfl, rfl⟩
        go_wp2_with fail
        refine (P3.out _).mono ?_
        rintro e w1 ⟨rfl, rfl⟩
        go_wp2_with fail
        refine (C1.out _).mono ?_
        rintro e w2 ⟨t, rfl, ht, hu, hb⟩
        have HZ := Lib.hid (HZ0.out.below hb)
        have HU := Lib.hid (HE.out t hu)
        have HTS := Lib.hid (show t.size ≤ s.size by rw [HCS.out] at ht; omega)
        clear x0 x1 x2 f0 f1 f2 hb hu ht
        obtain ⟨x0, x1, x2, f0, f1, f2⟩ := HZ.out.facts
        go_wp2_with fail
        exact bodyPost_ret (ret_cell1 rfl _ _ w.heap.size 3 0 t (0, 0) rfl (HZ.out.put _ _ _).z) rfl ⟨3, 0, t, rfl, by unfold Wf; omega, HTS.out, HU.out, (HZ.out.put _ _ _).bel⟩
      | false =>
        have n3 : ¬ b0 s = 116 := of_decide_eq_false hd3
        have C1 := Lib.hid (fun W hg => c_atoi s (by omega) W hg)
        have HN := Lib.hid (And.intro n1 (And.intro n2 n3))
        clear e1 e2 hd1 hd2 hd3 n1 n2 n3 hcs hs
        go_enter Tryz.func168, Tryz.ntmps168
        go_wp2_with fail
        refine (P1.out _).mono ?_
        rintro e w1 ⟨rfl, rfl⟩
        go_wp2_with fail
        refine (P2.out _).mono ?_
        rintro e w1 ⟨rfl, rfl⟩
        go_wp2_with fail
        refine (P3.out _).mono ?_
        rintro e w1 ⟨rfl, rfl⟩
        go_wp2_with fail
        refine (C1.out _ HG.out.gl).mono ?_
        rintro e w2 ⟨n, v, rfl, hn, hu, hb⟩
        have HZ := Lib.hid (HZ0.out.below hb)
        have HU := Lib.hid (gs_int HN.out.1 HN.out.2.1 HN.out.2.2 hu)
        have HW := Lib.hid hn
        clear x0 x1 x2 f0 f1 f2 hb hu hn
        obtain ⟨x0, x1, x2, f0, f1, f2⟩ := HZ.out.facts
        go_wp2_with fail
        exact bodyPost_ret (ret_cell1 rfl _ _ w.heap.size 1 n ⟨#[]⟩ (0, 0) rfl (HZ.out.put _ _ _).z) rfl ⟨1, n, ⟨#[]⟩, rfl, HW.out, Nat.zero_le _, HU.out, (HZ.out.put _ _ _).bel⟩
end Go.Proofs.YtkogcobcjoojnaaGreatDoor.Fl

namespace Go.Proofs.YtkogcobcjoojnaaGreatDoor.Fl
open Go.RowKit Go.Maps
set_option linter.unusedVariables false
set_option linter.unusedSimpArgs false
/-- The value of a text. -/
def RdV (s : ByteArray) (k n : Int) (t : ByteArray) (b : Bool) : Prop :=
  (b = true ∧ Wf n ∧ rightV k n t = true ∧ showV k n t = s) ∨ (b = false ∧ k = 0 ∧ n = 0 ∧ t = ⟨#[]⟩ ∧ ∀ k n t, Wf n → rightV k n t = true → showV k n t ≠ s)
theorem show_q {k n : Int} {t : ByteArray} (h : rightV k n t = true) : ¬ showV k n t = ⟨#[63]⟩ := fun e => by
  have hb := form_b (show_form h)
  rw [e] at hb
  have e0 : b0 ⟨#[63]⟩ = 63 := rfl
  omega
theorem show_wrong {k n : Int} {t : ByteArray} (h : rightV k n t = false) : showV k n t = ⟨#[63]⟩ := by unfold showV; rw [if_pos h]
theorem rdv_yes {k n : Int} {t : ByteArray} (hn : Wf n) (h : rightV k n t = true) {k' n' : Int} {t' : ByteArray} {b : Bool} (hr : RdV (showV k n t) k' n' t' b) : b = true ∧ k' = k ∧ n' = n ∧ t' = t := by
  rcases hr with ⟨rfl, a1, a2, a3⟩ | ⟨rfl, _, _, _, a⟩
  · have f := show_form a2
    rw [a3] at f
    obtain ⟨r1, r2, r3⟩ := form_inj a1 hn f (show_form h)
    exact ⟨rfl, r1, r2, r3⟩
  · exact absurd rfl (a k n t hn h)
theorem rdv_cand {s : ByteArray} {k n : Int} {t : ByteArray} (hg : Gs s k n t) (hw : Wf n) {k' n' : Int} {t' : ByteArray} {b : Bool} (h : RdV s k' n' t' b) : (¬ s = ⟨#[63]⟩ ∧ showV k n t = s ∧ b = true ∧ k' = k ∧ n' = n ∧ t' = t) ∨ ((s = ⟨#[63]⟩ ∨ ¬ showV k n t = s) ∧ b = false ∧ k' = 0 ∧ n' = 0 ∧ t' = ⟨#[]⟩) := by
  rcases h with ⟨rfl, a1, a2, a3⟩ | ⟨rfl, rfl, rfl, rfl, a⟩
  · have f := show_form a2
    rw [a3] at f
    obtain ⟨rfl, rfl, rfl⟩ := hg k' n' t' a1 f
    exact Or.inl ⟨fun e => show_q a2 (a3.trans e), a3, rfl, rfl, rfl, rfl⟩
  · right
    refine ⟨?_, rfl, rfl, rfl, rfl⟩
    by_cases h1 : s = ⟨#[63]⟩
    · exact Or.inl h1
    · right
      intro h2
      cases hr : rightV k n t with
      | false => exact h1 (h2.symm.trans (show_wrong hr))
      | true => exact a k n t hw hr h2
set_option maxHeartbeats 4000000 in
set_option maxRecDepth 100000 in
theorem c_vread (s : ByteArray) (hs : s.size ≤ 1000000) (w : World) (hg : Gv w) (k n : Int) (t : ByteArray) (b : Bool) (hr : RdV s k n t b) :
    Calls Tryz.prog 141 #[.string s] w fun e w' => e = .returned (.tuple #[vv k n t, .bool b]) ∧ Below w.heap.size w w' := by
  have HZ0 := Lib.hid (Zb.start w (.int .i64 0) (.int .i64 0) (.string ⟨#[]⟩))
  have HG := Lib.hid (hg.below HZ0.out.bel)
  have HR := Lib.hid hr
  have HS := Lib.hid hs
  have C1 := Lib.hid (fun W hg => c_guess s hs W hg)
  simp only [vv] at C1 ⊢
  clear hg hr hs
  by_cases e1 : s = ⟨#[63]⟩
  · have q1 : (s.toList == [63]) = true := tl_true e1
    have HE := Lib.hid e1
    clear e1
    go_enter Tryz.func141, Tryz.ntmps141
    go_wp2_with fail
    refine (C1.out _ HG.out).mono ?_
    rintro e w2 ⟨k1, n1, t1, rfl, hn, ht, hgs, hb⟩
    obtain ⟨rfl, rfl, rfl, rfl⟩ : b = false ∧ k = 0 ∧ n = 0 ∧ t = ⟨#[]⟩ := by
      rcases rdv_cand hgs hn HR.out with ⟨h, _⟩ | ⟨_, h⟩
      · exact absurd HE.out h
      · exact h
    have HZ := Lib.hid ((HZ0.out.below hb).below ((Below.refl _ _).alloc (Nat.le_refl _) (.cells #[.int .i64 k1, .int .i64 n1, .string t1] 30)))
    clear hn ht hgs hb
    go_upto_region 2 with fail
    generalize w2.alloc (.cells #[.int .i64 k1, .int .i64 n1, .string t1] 30) = Y at HZ ⊢
    obtain ⟨x0, x1, x2, f0, f1, f2⟩ := HZ.out.facts
    go_wp2_with fail
    exact bodyPost_ret (ret_cell rfl _ _ w.heap.size 0 0 ⟨#[]⟩ false (0, 0) rfl rfl (HZ.out.put _ _ _).z) rfl ⟨rfl, (HZ.out.put _ _ _).bel⟩
  · have q1 : (s.toList == [63]) = false := tl_false e1
    have HE := Lib.hid e1
    clear e1
    go_enter Tryz.func141, Tryz.ntmps141
    go_wp2_with fail
    refine (C1.out _ HG.out).mono ?_
    rintro e w2 ⟨k1, n1, t1, rfl, hn, ht, hgs, hb⟩
    have HC := Lib.hid (rdv_cand hgs hn HR.out)
    have HZ := Lib.hid (HZ0.out.below hb)
    have HG2 := Lib.hid (HG.out.below hb)
    have hba : Below w2.heap.size w2 (w2.alloc (.cells #[.int .i64 k1, .int .i64 n1, .string t1] 30)) := (Below.refl _ _).alloc (Nat.le_refl _) _
    have HZ2 := Lib.hid (HZ.out.below hba)
    have HG3 := Lib.hid (HG2.out.below hba)
    have HV := Lib.hid (heap_alloc_new w2 (.cells #[.int .i64 k1, .int .i64 n1, .string t1] 30))
    have C2 := Lib.hid (fun W hg => c_vshow k1 n1 t1 hn (by have := HS.out; omega) W hg)
    simp only [vv] at C2
    clear hn ht hgs hb hba
    obtain ⟨u, hu⟩ : ∃ u, showV k1 n1 t1 = u := ⟨_, rfl⟩
    rw [hu] at C2 HC
    clear hu
    by_cases he : u = s
    · obtain ⟨rfl, rfl, rfl, rfl⟩ : b = true ∧ k = k1 ∧ n = n1 ∧ t = t1 := by
        rcases HC.out with ⟨_, _, h⟩ | ⟨h, _⟩
        · exact h
        · rcases h with h | h
          · exact absurd h HE.out
          · exact absurd he h
      subst he
      clear HC
      go_wp2_with (go_at_call 131; ((refine (C2.out _ HG3.out).mono ?_); rintro e w3 ⟨rfl, hb⟩; have HZ3 := Lib.hid (HZ2.out.below hb); have HV3 := Lib.hid ((hb.block _ (lt_block HV.out)).trans HV.out); obtain ⟨x0, x1, x2, f0, f1, f2⟩ := HZ3.out.facts; obtain ⟨y0, y1, y2⟩ := cells3 HV3.out; clear hb))
      exact bodyPost_ret (ret_cell rfl _ _ w.heap.size k n t true (0, 0) rfl rfl (HZ3.out.put _ _ _).z) rfl ⟨rfl, (HZ3.out.put _ _ _).bel⟩
    · obtain ⟨rfl, rfl, rfl, rfl⟩ : b = false ∧ k = 0 ∧ n = 0 ∧ t = ⟨#[]⟩ := by
        rcases HC.out with ⟨_, h, _⟩ | ⟨_, h⟩
        · exact absurd h he
        · exact h
      have q2 : (u.toList == s.toList) = false := by
        apply beq_eq_false_iff_ne.2
        intro e
        exact he (toList_inj e)
      clear HC he
      go_wp2_with (go_at_call 131; ((refine (C2.out _ HG3.out).mono ?_); rintro e w3 ⟨rfl, hb⟩; have HZ3 := Lib.hid (HZ2.out.below hb); have HV3 := Lib.hid ((hb.block _ (lt_block HV.out)).trans HV.out); obtain ⟨x0, x1, x2, f0, f1, f2⟩ := HZ3.out.facts; obtain ⟨y0, y1, y2⟩ := cells3 HV3.out; clear hb))
      exact bodyPost_ret (ret_cell rfl _ _ w.heap.size 0 0 ⟨#[]⟩ false (0, 0) rfl rfl (HZ3.out.put _ _ _).z) rfl ⟨rfl, (HZ3.out.put _ _ _).bel⟩
end Go.Proofs.YtkogcobcjoojnaaGreatDoor.Fl

namespace Go.Proofs.YtkogcobcjoojnaaGreatDoor.Sc
set_option linter.unusedVariables false
set_option linter.unusedSimpArgs false
/-- A text parted at each c. -/
def spl (c : UInt8) : List UInt8 → List (List UInt8)
  | [] => [[]]
  | b :: l => if b = c then [] :: spl c l else match spl c l with
    | [] => [[b]]
    | w :: ws => (b :: w) :: ws
theorem spl_ne (c : UInt8) : ∀ l, ¬ spl c l = []
  | [] => by simp [spl]
  | b :: l => by
    rw [spl]
    split
    · simp
    · split <;> simp
theorem spl_cons_ne {c b : UInt8} (h : ¬ b = c) (l : List UInt8) : ∃ w ws, spl c l = w :: ws ∧ spl c (b :: l) = (b :: w) :: ws := by
  cases hs : spl c l with
  | nil => exact absurd hs (spl_ne c l)
  | cons w ws => exact ⟨w, ws, rfl, by rw [spl, if_neg h, hs]⟩
theorem spl_cons_eq (c : UInt8) (l : List UInt8) : spl c (c :: l) = [] :: spl c l := by rw [spl, if_pos rfl]
theorem index_cons_eq (c : UInt8) (l : List UInt8) : Lib.index (c :: l) [c] = 0 := by
  rw [Lib.index, if_pos]
  simp
theorem index_cons_ne {c b : UInt8} (h : ¬ b = c) (l : List UInt8) : Lib.index (b :: l) [c] = if Lib.index l [c] == -1 then -1 else Lib.index l [c] + 1 := by
  rw [Lib.index, if_neg]
  simp
  exact fun e => h e.symm
/-- The library's parting at one byte is this one. -/
theorem split_spl (c : UInt8) : ∀ l : List UInt8, Lib.split l [c] = spl c l
  | [] => by
    unfold Lib.split
    cases Lib.count [] [c] with
    | zero => rfl
    | succ k => rfl
  | b :: l => by
    have ih := split_spl c l
    unfold Lib.split at ih ⊢
    by_cases h : b = c
    · subst h
      rw [Lib.count_cons_eq, Nat.add_comm, Lib.splitK, index_cons_eq, if_neg (by decide), spl_cons_eq, ← ih]
      rfl
    · rw [Lib.count_cons_ne b c l h]
      obtain ⟨w, ws, h1, h2⟩ := spl_cons_ne h l
      rw [h2]
      rw [h1] at ih
      cases hk : Lib.count l [c] with
      | zero =>
        rw [hk] at ih
        have ih : [l] = w :: ws := ih
        obtain ⟨rfl, rfl⟩ := List.cons_eq_cons.1 ih
        rfl
      | succ k =>
        rw [hk] at ih
        obtain ⟨i, hi⟩ := Lib.index_of_count (s := l) (old := [c]) (by omega)
        have hm : ¬ (Lib.index l [c] == -1) = true := fun e => by have := beq_iff_eq.1 e; omega
        have hx : Lib.index (b :: l) [c] = ((i + 1 : Nat) : Int) := by rw [index_cons_ne h, if_neg hm, hi]; rfl
        have hm2 : ¬ (Lib.index (b :: l) [c] == -1) = true := fun e => by have := beq_iff_eq.1 e; omega
        rw [Lib.splitK, if_neg hm, hi] at ih
        rw [Lib.splitK, if_neg hm2, hx]
        obtain ⟨e1, e2⟩ := List.cons_eq_cons.1 ih
        rw [← e1, ← e2]
        rfl
theorem spl_no {c : UInt8} : ∀ {w : List UInt8}, (∀ b ∈ w, ¬ b = c) → spl c w = [w]
  | [], _ => rfl
  | b :: w, h => by
    rw [spl, if_neg (h b (by simp)), spl_no (fun x hx => h x (by simp [hx]))]
theorem spl_app {c : UInt8} (l : List UInt8) : ∀ {w : List UInt8}, (∀ b ∈ w, ¬ b = c) → spl c (w ++ c :: l) = w :: spl c l
  | [], _ => spl_cons_eq c l
  | b :: w, h => by
    rw [List.cons_append, spl, if_neg (h b (by simp)), spl_app l (fun x hx => h x (by simp [hx]))]
theorem join_two (x y : List UInt8) (r : List (List UInt8)) (c : UInt8) : Lib.join (x :: y :: r) [c] = x ++ c :: Lib.join (y :: r) [c] := by
  rw [Lib.join_cons, Lib.join_cons]
  simp [Lib.joinTail]
theorem spl_join {c : UInt8} : ∀ (ws : List (List UInt8)), ¬ ws = [] → (∀ w ∈ ws, ∀ b ∈ w, ¬ b = c) → spl c (Lib.join ws [c]) = ws
  | [], h, _ => absurd rfl h
  | [w], _, h => by rw [Lib.join_one, spl_no (h w (by simp))]
  | x :: y :: r, _, h => by rw [join_two, spl_app _ (h x (by simp)), spl_join (y :: r) (by simp) (fun w hw => h w (by simp [hw]))]
end Go.Proofs.YtkogcobcjoojnaaGreatDoor.Sc

namespace Go.Proofs.YtkogcobcjoojnaaGreatDoor.Sc
set_option linter.unusedVariables false
set_option linter.unusedSimpArgs false
theorem index_pre {s old : List UInt8} (h : old.isPrefixOf s = true) : Lib.index s old = 0 := by
  cases s with
  | nil =>
    cases old with
    | nil => rfl
    | cons a t => simp at h
  | cons b l => rw [Lib.index, if_pos h]
theorem index_step {b : UInt8} {l old : List UInt8} (h : ¬ old.isPrefixOf (b :: l) = true) : Lib.index (b :: l) old = if Lib.index l old == -1 then -1 else Lib.index l old + 1 := by rw [Lib.index, if_neg h]
theorem count_pre {s old : List UInt8} (hne : old ≠ []) (h : old.isPrefixOf s = true) : Lib.count s old = 1 + Lib.count (s.drop old.length) old := by
  have := Lib.count_hit (i := 0) hne (index_pre h)
  rwa [Nat.zero_add] at this
theorem count_step {b : UInt8} {l old : List UInt8} (hne : old ≠ []) (h : ¬ old.isPrefixOf (b :: l) = true) : Lib.count (b :: l) old = Lib.count l old := by
  have hs := index_step h
  rcases Lib.index_spec l old with ⟨h1, _⟩ | ⟨i, h1, _⟩
  · rw [h1, if_pos (by decide)] at hs
    rw [Lib.count_miss hs, Lib.count_miss h1]
  · rw [h1, if_neg (by intro e; have := beq_iff_eq.1 e; omega)] at hs
    have h2 := Lib.count_hit (i := i + 1) hne (by rw [hs]; rfl)
    rw [h2, Lib.count_hit hne h1, show i + 1 + old.length = (i + old.length) + 1 by omega]
    rfl
/-- Each one for another one. -/
def repl (old new s : List UInt8) : List UInt8 := Lib.replaceK old new (Lib.count s old) s
theorem repl_pre {s old new : List UInt8} (hne : old ≠ []) (h : old.isPrefixOf s = true) : repl old new s = new ++ repl old new (s.drop old.length) := by
  unfold repl
  rw [count_pre hne h, Nat.add_comm, Lib.replaceK_hit old new _ s 0 (index_pre h)]
  simp
theorem repl_step {b : UInt8} {l old new : List UInt8} (hne : old ≠ []) (h : ¬ old.isPrefixOf (b :: l) = true) : repl old new (b :: l) = b :: repl old new l := by
  unfold repl
  rw [count_step hne h]
  cases hk : Lib.count l old with
  | zero => rfl
  | succ k =>
    obtain ⟨i, hi⟩ := Lib.index_of_count (s := l) (old := old) (by omega)
    have hs := index_step h
    rw [hi, if_neg (by intro e; have := beq_iff_eq.1 e; omega)] at hs
    rw [Lib.replaceK_hit old new k l i hi, Lib.replaceK_hit old new k (b :: l) (i + 1) (by rw [hs]; rfl)]
    rw [show i + 1 + old.length = (i + old.length) + 1 by omega]
    rfl
theorem repl_nil {old new : List UInt8} (hne : old ≠ []) : repl old new [] = [] := by
  unfold repl
  have : Lib.index [] old = -1 := by
    cases old with
    | nil => exact absurd rfl hne
    | cons a t => rfl
  rw [Lib.count_miss this]
  rfl
theorem replaceAll_repl {s old new : List UInt8} (h : ¬ old = new) : Lib.replaceAll s old new = repl old new s := by
  unfold Lib.replaceAll Lib.replace repl Lib.replaceNum
  rw [if_neg (by intro e; exact h (by simpa using e)), if_pos (Or.inl (by decide))]
end Go.Proofs.YtkogcobcjoojnaaGreatDoor.Sc

namespace Go.Proofs.YtkogcobcjoojnaaGreatDoor.Fl
open Go.RowKit Go.Maps
set_option linter.unusedVariables false
set_option linter.unusedSimpArgs false
/-- A byte between a word's quotes. -/
def qc3 (c : Int) : List Int := if c < 33 ∨ 126 < c ∨ c = 34 ∨ c = 92 then [92, hx (c / 16), hx (c % 16)] else [c]
def qq3 : List Int → List Int
  | [] => []
  | x :: t => qc3 x ++ qq3 t
/-- A text as a word. -/
def quo3 (l : List Int) : List Int := [34] ++ qq3 l ++ [34]
theorem qq3_append (a b : List Int) : qq3 (a ++ b) = qq3 a ++ qq3 b := by
  induction a with
  | nil => rfl
  | cons x t ih => rw [List.cons_append, qq3, qq3, ih, List.append_assoc]
theorem qq3_next (l : List Int) (i : Nat) (hi : i < l.length) : qq3 (l.take (i + 1)) = qq3 (l.take i) ++ qc3 (l.getD i 0) := by
  rw [take_snoc l i hi, qq3_append]
  simp [qq3]
theorem qc3_len (c : Int) : 1 ≤ (qc3 c).length ∧ (qc3 c).length ≤ 3 := by
  unfold qc3
  split <;> simp
theorem qq3_len (l : List Int) : l.length ≤ (qq3 l).length ∧ (qq3 l).length ≤ 3 * l.length := by
  induction l with
  | nil => simp [qq3]
  | cons x t ih =>
    have := qc3_len x
    rw [qq3, List.length_append, List.length_cons]
    omega
/-- What a quoted byte is made of. -/
theorem qc3_in {c : Int} (h0 : 0 ≤ c) (h1 : c < 256) : ∀ x ∈ qc3 c, 33 ≤ x ∧ x ≤ 126 ∧ ¬ x = 34 := by
  intro x hx
  unfold qc3 at hx
  split at hx
  · simp only [List.mem_cons, List.not_mem_nil, or_false] at hx
    rcases hx with rfl | rfl | rfl
    · omega
    · rcases hx_bd (c / 16) (by omega) (by omega) with h | h <;> omega
    · rcases hx_bd (c % 16) (by omega) (by omega) with h | h <;> omega
  · have : x = c := by simpa using hx
    omega
theorem qq3_in : ∀ (l : List Int), Byts l → ∀ x ∈ qq3 l, 33 ≤ x ∧ x ≤ 126 ∧ ¬ x = 34
  | [], _, x, h => by cases h
  | y :: t, hb, x, h => by
    have hy := hb y (by simp)
    rw [qq3] at h
    rcases List.mem_append.1 h with h1 | h1
    · exact qc3_in hy.1 hy.2 x h1
    · exact qq3_in t (fun z hz => hb z (by simp [hz])) x h1
theorem quo3_in (l : List Int) (hb : Byts l) : ∀ x ∈ quo3 l, 33 ≤ x ∧ x ≤ 126 := by
  intro x hx
  unfold quo3 at hx
  rcases List.mem_append.1 hx with h | h
  · rcases List.mem_append.1 h with h | h
    · have : x = 34 := by simpa using h
      omega
    · have := qq3_in l hb x h
      omega
  · have : x = 34 := by simpa using h
    omega
theorem quo3_byts (l : List Int) (hb : Byts l) : Byts (quo3 l) := fun x hx => by
  have := quo3_in l hb x hx
  omega
/-- What is between quotes, whatever stands there. -/
def uqx : List Int → List Int
  | [] => []
  | [x] => [x]
  | [x, y] => [x, y]
  | x :: a :: b :: u => if x = 92 ∧ 0 ≤ uh a ∧ 0 ≤ uh b then (uh a * 16 + uh b) :: uqx u else x :: uqx (a :: b :: u)
theorem uqx_plain {x : Int} {t : List Int} (h : ∀ a b u, x = 92 → t = a :: b :: u → 0 ≤ uh a → 0 ≤ uh b → False) : uqx (x :: t) = x :: uqx t := by
  match t with
  | [] => rfl
  | [y] => rfl
  | a :: b :: u => rw [uqx, if_neg (fun hc => h a b u hc.1 rfl hc.2.1 hc.2.2)]
theorem uqx_esc {a b : Int} {u : List Int} (ha : 0 ≤ uh a) (hb : 0 ≤ uh b) : uqx (92 :: a :: b :: u) = (uh a * 16 + uh b) :: uqx u := by rw [uqx, if_pos ⟨rfl, ha, hb⟩]
theorem uqx_qq3 : ∀ (l : List Int), Byts l → uqx (qq3 l) = l
  | [], _ => rfl
  | x :: t, h => by
    have hb := h x (by simp)
    have ih := uqx_qq3 t (fun z hz => h z (by simp [hz]))
    rw [qq3]
    unfold qc3
    by_cases hc : x < 33 ∨ 126 < x ∨ x = 34 ∨ x = 92
    · rw [if_pos hc]
      show uqx (92 :: hx (x / 16) :: hx (x % 16) :: qq3 t) = _
      have e1 := uh_hx (x / 16) (by omega) (by omega)
      have e2 := uh_hx (x % 16) (by omega) (by omega)
      rw [uqx_esc (by omega) (by omega), e1, e2, ih]
      congr 1
      omega
    · rw [if_neg hc]
      show uqx (x :: qq3 t) = _
      rw [uqx_plain (fun a b u hx _ _ _ => by omega), ih]
theorem trim_quo3 {s : ByteArray} {l : List Int} (hl : Byts l) (h : byt s = quo3 l) : byt (trimQ s) = qq3 l := by
  have e : s = txt (quo3 l) := byt_inj (by rw [byt_txt _ (quo3_byts l hl), h])
  subst e
  have e1 : (txt (quo3 l)).data.toList = 34 :: ((qq3 l).map (fun n => UInt8.ofNat n.toNat) ++ [34]) := by
    unfold txt quo3
    simp
  have hq : Byts (qq3 l) := fun x hx => by have := qq3_in l hl x hx; omega
  unfold trimQ
  rw [e1, trim_no34]
  · show byt (txt (qq3 l)) = _
    rw [byt_txt _ hq]
  · intro b hb
    obtain ⟨n, hn, rfl⟩ := List.mem_map.1 hb
    have h1 := qq3_in l hl n hn
    intro h3
    have := congrArg UInt8.toNat h3
    rw [UInt8.toNat_ofNat'] at this
    have e34 : (34 : UInt8).toNat = 34 := rfl
    omega
/-- A word's text: the quotes at its ends away, what is between them read. -/
def rdText (s : ByteArray) : ByteArray := txt (uqx (byt (trimQ s)))
theorem rd_quo3 (s : ByteArray) : rdText (txt (quo3 (byt s))) = s := by
  unfold rdText
  rw [trim_quo3 (byt_bd s) (byt_txt _ (quo3_byts _ (byt_bd s))), uqx_qq3 _ (byt_bd s)]
  exact byt_inj (byt_txt _ (byt_bd s))
/-! ### values as words -/
/-- A space as a backslash and two digits. -/
def spc : List UInt8 → List UInt8
  | [] => []
  | c :: l => if c = 32 then 92 :: 50 :: 48 :: spc l else c :: spc l
theorem repl_spc : ∀ l : List UInt8, Sc.repl [32] [92, 50, 48] l = spc l
  | [] => Sc.repl_nil (by simp)
  | c :: l => by
    rw [spc]
    by_cases h : c = 32
    · subst h
      rw [if_pos rfl, Sc.repl_pre (by simp) (by simp), List.length_singleton, List.drop_one, List.tail_cons, repl_spc l]
      rfl
    · rw [if_neg h, Sc.repl_step (by simp) (by simp; exact fun e => h e.symm), repl_spc l]
/-- A text in which a backslash stands ahead of two digits that aren't a space's. -/
inductive Unit8 : List UInt8 → Prop
  | nil : Unit8 []
  | one {c l} : ¬ c = 92 → Unit8 l → Unit8 (c :: l)
  | esc {a b l} : ¬ (a = 50 ∧ b = 48) → ¬ a = 92 → ¬ b = 92 → ¬ a = 32 → ¬ b = 32 → Unit8 l → Unit8 (92 :: a :: b :: l)
theorem pre3_no {c : UInt8} {l : List UInt8} (h : ¬ c = 92) : ¬ ([92, 50, 48] : List UInt8).isPrefixOf (c :: l) = true := by
  simp [List.isPrefixOf]
  exact fun e => absurd e.symm h
theorem repl_back {l : List UInt8} (h : Unit8 l) : Sc.repl [92, 50, 48] [32] (spc l) = l := by
  induction h with
  | nil => exact Sc.repl_nil (by simp)
  | @one c l hc _ ih =>
    rw [spc]
    by_cases h32 : c = 32
    · subst h32
      rw [if_pos rfl, Sc.repl_pre (by simp) (by simp [List.isPrefixOf])]
      show [32] ++ Sc.repl [92, 50, 48] [32] (spc l) = _
      rw [ih]
      rfl
    · rw [if_neg h32, Sc.repl_step (by simp) (pre3_no hc), ih]
  | @esc a b l h1 h2 h3 h4 h5 _ ih =>
    rw [spc, if_neg (by decide), spc, if_neg h4, spc, if_neg h5]
    rw [Sc.repl_step (by simp) (by simp [List.isPrefixOf]; exact fun e1 e2 => h1 ⟨e1.symm, e2.symm⟩), Sc.repl_step (by simp) (pre3_no h2), Sc.repl_step (by simp) (pre3_no h3), ih]
theorem unit_app {a b : List UInt8} (ha : Unit8 a) (hb : Unit8 b) : Unit8 (a ++ b) := by
  induction ha with
  | nil => exact hb
  | one h _ ih => exact Unit8.one h ih
  | esc h1 h2 h3 h4 h5 _ ih => exact Unit8.esc h1 h2 h3 h4 h5 ih
theorem unit_no {l : List UInt8} (h : ∀ b ∈ l, ¬ b = 92) : Unit8 l := by
  induction l with
  | nil => exact Unit8.nil
  | cons c l ih => exact Unit8.one (h c (by simp)) (ih (fun b hb => h b (by simp [hb])))
theorem of_ne {x y : Int} (hx : 0 ≤ x ∧ x < 256) (hy : 0 ≤ y ∧ y < 256) (h : ¬ x = y) : ¬ UInt8.ofNat x.toNat = UInt8.ofNat y.toNat := fun e => by
  have := congrArg UInt8.toNat e
  rw [UInt8.toNat_ofNat', UInt8.toNat_ofNat'] at this
  omega
theorem unit_qq : ∀ (l : List Int), Byts l → Unit8 ((qq l).map fun n => UInt8.ofNat n.toNat)
  | [], _ => Unit8.nil
  | x :: t, hb => by
    have hx0 := hb x (by simp)
    have ih := unit_qq t (fun z hz => hb z (by simp [hz]))
    rw [qq, List.map_append]
    refine unit_app ?_ ih
    unfold qc
    by_cases hc : x < 32 ∨ 126 < x ∨ x = 34 ∨ x = 92
    · rw [if_pos hc]
      have b1 := hx_bd (x / 16) (by omega) (by omega)
      have b2 := hx_bd (x % 16) (by omega) (by omega)
      have e1 := uh_hx (x / 16) (by omega) (by omega)
      have e2 := uh_hx (x % 16) (by omega) (by omega)
      have hne : ¬ (hx (x / 16) = 50 ∧ hx (x % 16) = 48) := by
        rintro ⟨g1, g2⟩
        rw [g1] at e1
        rw [g2] at e2
        have u1 : uh 50 = 2 := by decide
        have u2 : uh 48 = 0 := by decide
        omega
      refine Unit8.esc ?_ (of_ne (y := 92) (by omega) (by omega) (by omega)) (of_ne (y := 92) (by omega) (by omega) (by omega)) (of_ne (y := 32) (by omega) (by omega) (by omega)) (of_ne (y := 32) (by omega) (by omega) (by omega)) Unit8.nil
      rintro ⟨g1, g2⟩
      by_cases h1 : hx (x / 16) = 50
      · exact of_ne (y := 48) (by omega) (by omega) (fun h2 => hne ⟨h1, h2⟩) g2
      · exact of_ne (y := 50) (by omega) (by omega) h1 g1
    · rw [if_neg hc]
      exact Unit8.one (of_ne (y := 92) (by omega) (by omega) (by omega)) Unit8.nil
theorem hexI_in : ∀ (k : Nat) (u : Int), ∀ x ∈ hexI k u, (48 ≤ x ∧ x ≤ 57) ∨ (97 ≤ x ∧ x ≤ 102)
  | 0, _, x, h => by simp [hexI] at h
  | k + 1, u, x, h => by
    rw [hexI] at h
    rcases List.mem_append.1 h with h | h
    · exact hexI_in k _ x h
    · have : x = hx (u % 16) := by simpa using h
      subst this
      rcases hx_bd (u % 16) (by omega) (by omega) with h | h <;> omega
theorem unit_show {k n : Int} {s : ByteArray} (h : rightV k n s = true) : Unit8 (showV k n s).data.toList := by
  have hdec : ∀ m : Nat, ∀ b ∈ Lib.decDigits m, ¬ b = 92 := fun m b hb e => by
    have := dec_bd m b hb
    rw [e] at this
    have : (92 : UInt8).toNat = 92 := rfl
    omega
  have hq : Unit8 (txt (quo (byt s))).data.toList := by
    have e : (txt (quo (byt s))).data.toList = [34] ++ ((qq (byt s)).map fun n => UInt8.ofNat n.toNat) ++ [34] := by
      unfold txt quo
      simp
    rw [e]
    exact unit_app (unit_app (unit_no (by decide)) (unit_qq _ (byt_bd s))) (unit_no (by decide))
  rcases show_form h with ⟨_, _, e⟩ | ⟨_, _, _, e⟩ | ⟨_, _, _, e⟩ | ⟨_, _, _, e⟩ | ⟨_, _, e⟩ | ⟨_, _, e⟩ <;> rw [e]
  · refine unit_no (fun b hb => ?_)
    have hb : b ∈ Lib.itoa n := hb
    unfold Lib.itoa at hb
    split at hb
    · rcases List.mem_cons.1 hb with rfl | hb
      · decide
      · exact hdec _ b hb
    · exact hdec _ b hb
  · exact unit_no (by decide)
  · exact unit_no (by decide)
  · rw [ByteArray.data_append, Array.toList_append]
    refine unit_app (unit_no (by decide)) ?_
    unfold showS
    repeat' split
    all_goals first | exact unit_no (by decide) | skip
    refine unit_no (fun b hb => ?_)
    have hb2 : b ∈ (120 :: hexI 16 (U n)).map fun n => UInt8.ofNat n.toNat := by simpa [txt] using hb
    obtain ⟨z, hz, rfl⟩ := List.mem_map.1 hb2
    rcases List.mem_cons.1 hz with rfl | hz
    · decide
    · have := hexI_in 16 (U n) z hz
      exact of_ne (y := 92) (by omega) (by omega) (by omega)
  · rw [ByteArray.data_append, Array.toList_append]
    exact unit_app (unit_no (by decide)) hq
  · rw [ByteArray.data_append, Array.toList_append]
    exact unit_app (unit_no (by decide)) hq
end Go.Proofs.YtkogcobcjoojnaaGreatDoor.Fl

namespace Go.Proofs.YtkogcobcjoojnaaGreatDoor.Fl
open Go.RowKit Go.Maps
set_option linter.unusedVariables false
set_option linter.unusedSimpArgs false
/-- A mutation. -/
structure MutE where
  kind : Int
  fam : ByteArray
  qual : ByteArray
  vk : Int
  vn : Int
  vs : ByteArray
/-- A filter. -/
structure FilE where
  fams : List ByteArray
  lo : ByteArray
  hi : ByteArray
  since : Int
  til : Int
  versions : Int
  rows : Int
/-- A request. -/
structure ReqE where
  kind : Int
  row : ByteArray
  stop : ByteArray
  muts : List MutE
  fam : ByteArray
  qual : ByteArray
  vk : Int
  vn : Int
  vs : ByteArray
  fil : FilE
/-- A change. -/
structure ChgE where
  kind : Int
  fam : ByteArray
  qual : ByteArray
  typ : Int
  group : Int
  versions : Int
  life : Int
/-- An event. -/
structure EvE where
  kind : Int
  node : Int
  dst : Int
  log : Int
  pos : Int
  by_ : Int
  keep : Int
  client : Int
  seq : Int
  stays : Bool
  req : ReqE
  chg : ChgE
def noB : ByteArray := ⟨#[]⟩
def noFil : FilE := ⟨[], noB, noB, 0, 0, 0, 0⟩
def noReq : ReqE := ⟨0, noB, noB, [], noB, noB, 0, 0, noB, noFil⟩
def noChg : ChgE := ⟨0, noB, noB, 0, 0, 0, 0⟩
/-! ### words -/
def wNum (n : Int) : ByteArray := ⟨(Lib.itoa n).toArray⟩
def wText (s : ByteArray) : ByteArray := txt (quo3 (byt s))
def wNone : ByteArray := ⟨#[110, 111, 110, 101]⟩
def wVal (k n : Int) (s : ByteArray) : ByteArray := if k = 0 then wNone else ⟨(spc (showV k n s).data.toList).toArray⟩
def wPut : ByteArray := ⟨#[112, 117, 116]⟩
def wColumn : ByteArray := ⟨#[99, 111, 108, 117, 109, 110]⟩
def wFamily : ByteArray := ⟨#[102, 97, 109, 105, 108, 121]⟩
def wRow : ByteArray := ⟨#[114, 111, 119]⟩
def wWrite : ByteArray := ⟨#[119, 114, 105, 116, 101]⟩
def wCheck : ByteArray := ⟨#[99, 104, 101, 99, 107]⟩
def wRead : ByteArray := ⟨#[114, 101, 97, 100]⟩
def wStays : ByteArray := ⟨#[115, 116, 97, 121, 115]⟩
def mutN : List ByteArray := [wPut, wColumn, wFamily, wRow]
def reqN : List ByteArray := [wWrite, wCheck, wRead]
/-- addfamily, dropfamily, addcolumn, dropcolumn, move -/
def chgN : List ByteArray := [⟨#[97, 100, 100, 102, 97, 109, 105, 108, 121]⟩, ⟨#[100, 114, 111, 112, 102, 97, 109, 105, 108, 121]⟩, ⟨#[97, 100, 100, 99, 111, 108, 117, 109, 110]⟩, ⟨#[100, 114, 111, 112, 99, 111, 108, 117, 109, 110]⟩, ⟨#[109, 111, 118, 101]⟩]
/-- ask, change, send, renew, work, deliver, drop, tick, crash, start, take, flush, compact -/
def evN : List ByteArray := [⟨#[97, 115, 107]⟩, ⟨#[99, 104, 97, 110, 103, 101]⟩, ⟨#[115, 101, 110, 100]⟩, ⟨#[114, 101, 110, 101, 119]⟩, ⟨#[119, 111, 114, 107]⟩, ⟨#[100, 101, 108, 105, 118, 101, 114]⟩, ⟨#[100, 114, 111, 112]⟩, ⟨#[116, 105, 99, 107]⟩, ⟨#[99, 114, 97, 115, 104]⟩, ⟨#[115, 116, 97, 114, 116]⟩, ⟨#[116, 97, 107, 101]⟩, ⟨#[102, 108, 117, 115, 104]⟩, ⟨#[99, 111, 109, 112, 97, 99, 116]⟩]
def nth (l : List ByteArray) (k : Int) : ByteArray := l.getD (k - 1).toNat noB
def wMut (m : MutE) : List ByteArray := nth mutN m.kind :: (if m.kind = 1 then [m.fam, wText m.qual, wVal m.vk m.vn m.vs] else if m.kind = 2 then [m.fam, wText m.qual] else if m.kind = 3 then [m.fam] else [])
def wFil (f : FilE) : List ByteArray := wNum f.fams.length :: (f.fams ++ [wText f.lo, wText f.hi, wNum f.since, wNum f.til, wNum f.versions, wNum f.rows])
def wReq (q : ReqE) : List ByteArray := nth reqN q.kind :: wText q.row :: ((if q.kind = 3 then wText q.stop :: wFil q.fil else if q.kind = 2 then [q.fam, wText q.qual, wVal q.vk q.vn q.vs] else []) ++ q.muts.flatMap wMut)
def knobs (c : ChgE) : List Int := if c.kind = 1 then [c.group, c.versions, c.life] else if c.kind = 3 then [c.typ] else if c.kind = 5 then [c.group] else []
def wChg (c : ChgE) : List ByteArray := nth chgN c.kind :: c.fam :: ((if c.kind = 3 ∨ c.kind = 4 then [wText c.qual] else []) ++ (knobs c).map wNum)
/-- The numbers that a kind of events has, in order: their places among Node, To, Log, At, By, Keep, Client, Seq. -/
def fieldsK (k : Int) : List Nat := if k = 1 ∨ k = 2 then [0, 6, 7] else if k = 3 then [0, 1, 2] else if k = 4 ∨ k = 5 then [0, 1] else if k = 6 ∨ k = 7 then [3] else if k = 8 then [0, 4] else if k = 9 then [0, 5] else if k = 10 then [0] else if k = 11 ∨ k = 12 then [0, 2] else [0, 2, 1]
def EvE.nums (e : EvE) : List Int := [e.node, e.dst, e.log, e.pos, e.by_, e.keep, e.client, e.seq]
def wEv (e : EvE) : List ByteArray := nth evN e.kind :: ((fieldsK e.kind).map (fun i => wNum (e.nums.getD i 0)) ++ (if e.kind = 1 then wReq e.req else if e.kind = 2 then wChg e.chg else if e.kind = 6 ∧ e.stays = true then [wStays] else []))
/-! ### when an event may be told -/
def nameC (c : Int) : Bool := (decide (97 ≤ c) && decide (c ≤ 122)) || (decide (48 ≤ c) && decide (c ≤ 57))
def nameOk (s : ByteArray) : Bool := (byt s).all nameC && decide (1 ≤ s.size) && decide (s.size ≤ 8)
def noVal (k n : Int) (s : ByteArray) : Bool := k == 0 && n == 0 && decide (s = noB)
def mutOk (m : MutE) : Bool :=
  if m.kind = 1 then nameOk m.fam && decide (m.qual.size ≤ 12) && rightV m.vk m.vn m.vs else if m.kind = 2 then nameOk m.fam && decide (m.qual.size ≤ 12) && noVal m.vk m.vn m.vs
  else if m.kind = 3 then nameOk m.fam && decide (m.qual = noB) && noVal m.vk m.vn m.vs else if m.kind = 4 then decide (m.fam = noB) && decide (m.qual = noB) && noVal m.vk m.vn m.vs else false
def filNo (f : FilE) : Bool := f.fams.isEmpty && decide (f.lo = noB) && decide (f.hi = noB) && f.since == 0 && f.til == 0 && f.versions == 0 && f.rows == 0
def within (n a b : Int) : Bool := decide (a ≤ n) && decide (n ≤ b)
def filOk (f : FilE) : Bool := decide (f.fams.length ≤ 6) && f.fams.all nameOk && decide (f.lo.size ≤ 12) && decide (f.hi.size ≤ 12) && within f.since 0 1099511627776 && within f.til 0 1099511627776 && within f.versions 0 8 && within f.rows 0 1000
def writeOk (q : ReqE) : Bool := decide (1 ≤ q.row.size) && decide (q.row.size ≤ 16) && decide (q.stop = noB) && filNo q.fil && decide (1 ≤ q.muts.length) && decide (q.muts.length ≤ 8) && q.muts.all mutOk
def reqOk (q : ReqE) : Bool :=
  if q.kind = 3 then decide (q.row.size ≤ 16) && decide (q.stop.size ≤ 16) && (decide (q.stop = noB) || decide (cmpB q.row q.stop ≤ 0)) && q.muts.isEmpty && decide (q.fam = noB) && decide (q.qual = noB) && noVal q.vk q.vn q.vs && filOk q.fil
  else if q.kind = 1 then writeOk q && decide (q.fam = noB) && decide (q.qual = noB) && noVal q.vk q.vn q.vs
  else if q.kind = 2 then writeOk q && nameOk q.fam && decide (q.qual.size ≤ 12) && (noVal q.vk q.vn q.vs || rightV q.vk q.vn q.vs) else false
def reqNo (q : ReqE) : Bool := q.kind == 0 && decide (q.row = noB) && decide (q.stop = noB) && q.muts.isEmpty && decide (q.fam = noB) && decide (q.qual = noB) && noVal q.vk q.vn q.vs && filNo q.fil
def chgOk (c : ChgE) : Bool :=
  nameOk c.fam && (if c.kind = 1 then decide (c.qual = noB) && c.typ == 0 && within c.group 0 2 && within c.versions 1 8 && within c.life 0 1099511627776
  else if c.kind = 2 then decide (c.qual = noB) && c.typ == 0 && c.group == 0 && c.versions == 0 && c.life == 0
  else if c.kind = 3 then decide (c.qual.size ≤ 12) && within c.typ 1 5 && c.group == 0 && c.versions == 0 && c.life == 0
  else if c.kind = 4 then decide (c.qual.size ≤ 12) && c.typ == 0 && c.group == 0 && c.versions == 0 && c.life == 0
  else if c.kind = 5 then decide (c.qual = noB) && c.typ == 0 && within c.group 0 2 && c.versions == 0 && c.life == 0 else false)
def chgNo (c : ChgE) : Bool := c.kind == 0 && decide (c.fam = noB) && decide (c.qual = noB) && c.typ == 0 && c.group == 0 && c.versions == 0 && c.life == 0
/-- Is each number within its bounds, and nought where the kind has none? -/
def numsOk (e : EvE) : Bool := (List.range 8).all fun i => within (e.nums.getD i 0) 0 1099511627776 && ((fieldsK e.kind).contains i || e.nums.getD i 0 == 0)
def told (e : EvE) : Bool := within e.kind 1 13 && numsOk e && (!e.stays || e.kind == 6) && (if e.kind = 1 then reqOk e.req else reqNo e.req) && (if e.kind = 2 then chgOk e.chg else chgNo e.chg)
/-- An event's line: nothing, if it may not be told. -/
def lineE (e : EvE) : ByteArray := if told e = true then ⟨(Lib.join ((wEv e).map (·.data.toList)) [32]).toArray⟩ else noB
/-! ### words read: nothing, where the reader gives up -/
abbrev Pr (α : Type) : Type := List ByteArray → Option (α × List ByteArray)
def Pr.then {α β : Type} (a : Pr α) (f : α → Pr β) : Pr β := fun ws => match a ws with
  | some (x, r) => f x r
  | none => none
def Pr.give {α : Type} (x : α) : Pr α := fun ws => some (x, ws)
def rWord : Pr ByteArray
  | [] => none
  | w :: r => some (w, r)
def rNum : Pr Int := rWord.then fun w r => match Lib.atoiAll w.data.toList with
  | .ok n => some (n, r)
  | _ => none
def rOne (l : List ByteArray) : Pr Int := rWord.then fun w r => match l.findIdx? (fun x => decide (x = w)) with
  | some i => some ((i : Int) + 1, r)
  | none => none
def rText : Pr ByteArray := rWord.then fun w => Pr.give (rdText w)
/-- The value of a word. -/
def unSpc (w : ByteArray) : ByteArray := ⟨(Sc.repl [92, 50, 48] [32] w.data.toList).toArray⟩
open Classical in
noncomputable def readV (s : ByteArray) : Option (Int × Int × ByteArray) := if h : ∃ k n t, Wf n ∧ rightV k n t = true ∧ showV k n t = s then some (Classical.choose h, Classical.choose (Classical.choose_spec h), Classical.choose (Classical.choose_spec (Classical.choose_spec h))) else none
theorem readV_spec (s : ByteArray) : (∃ k n t, readV s = some (k, n, t) ∧ RdV s k n t true) ∨ (readV s = none ∧ RdV s 0 0 ⟨#[]⟩ false) := by
  unfold readV
  by_cases h : ∃ k n t, Wf n ∧ rightV k n t = true ∧ showV k n t = s
  · rw [dif_pos h]
    exact Or.inl ⟨_, _, _, rfl, Or.inl ⟨rfl, Classical.choose_spec (Classical.choose_spec (Classical.choose_spec h))⟩⟩
  · rw [dif_neg h]
    exact Or.inr ⟨rfl, Or.inr ⟨rfl, rfl, rfl, rfl, fun k n t h1 h2 h3 => h ⟨k, n, t, h1, h2, h3⟩⟩⟩
theorem readV_show {k n : Int} {s : ByteArray} (hn : Wf n) (h : rightV k n s = true) : readV (showV k n s) = some (k, n, s) := by
  rcases readV_spec (showV k n s) with ⟨k', n', t', e, hr⟩ | ⟨_, hr⟩
  · obtain ⟨_, rfl, rfl, rfl⟩ := rdv_yes hn h hr
    exact e
  · have := (rdv_yes hn h hr).1
    cases this
noncomputable def rVal : Pr (Int × Int × ByteArray) := rWord.then fun w r => if w = wNone then some ((0, 0, noB), r) else match readV (unSpc w) with
  | some v => some (v, r)
  | none => none
noncomputable def rMut : Pr MutE := (rOne mutN).then fun k =>
  if k = 4 then Pr.give ⟨k, noB, noB, 0, 0, noB⟩ else rWord.then fun f => if k = 3 then Pr.give ⟨k, f, noB, 0, 0, noB⟩ else rText.then fun q => if k = 2 then Pr.give ⟨k, f, q, 0, 0, noB⟩ else rVal.then fun v => Pr.give ⟨k, f, q, v.1, v.2.1, v.2.2⟩
def rTake : Nat → Pr (List ByteArray)
  | 0 => Pr.give []
  | n + 1 => rWord.then fun w => (rTake n).then fun l => Pr.give (w :: l)
def rFil : Pr FilE := rNum.then fun n ws => if 0 ≤ n ∧ n ≤ (ws.length : Int) then ((rTake n.toNat).then fun fs => rText.then fun lo => rText.then fun hi => rNum.then fun a => rNum.then fun b => rNum.then fun c => rNum.then fun d => Pr.give ⟨fs, lo, hi, a, b, c, d⟩) ws else none
noncomputable def rMuts : Nat → Pr (List MutE)
  | 0, ws => if ws = [] then some ([], []) else none
  | g + 1, ws => if ws = [] then some ([], []) else (rMut.then fun m => (rMuts g).then fun l => Pr.give (m :: l)) ws
noncomputable def rReq : Pr ReqE := (rOne reqN).then fun k => rText.then fun row =>
  (if k = 3 then rText.then fun sp => rFil.then fun f => Pr.give (sp, noB, noB, ((0 : Int), (0 : Int), noB), f) else if k = 2 then rWord.then fun fam => rText.then fun q => rVal.then fun v => Pr.give (noB, fam, q, v, noFil) else Pr.give (noB, noB, noB, ((0 : Int), (0 : Int), noB), noFil)).then
    fun x ws => (rMuts ws.length |>.then fun ms => Pr.give ⟨k, row, x.1, ms, x.2.1, x.2.2.1, x.2.2.2.1.1, x.2.2.2.1.2.1, x.2.2.2.1.2.2, x.2.2.2.2⟩) ws
def rChg : Pr ChgE := (rOne chgN).then fun k => rWord.then fun f => (if k = 3 ∨ k = 4 then rText else Pr.give noB).then fun q =>
  if k = 1 then rNum.then fun a => rNum.then fun b => rNum.then fun c => Pr.give ⟨k, f, q, 0, a, b, c⟩ else if k = 3 then rNum.then fun a => Pr.give ⟨k, f, q, a, 0, 0, 0⟩ else if k = 5 then rNum.then fun a => Pr.give ⟨k, f, q, 0, a, 0, 0⟩ else Pr.give ⟨k, f, q, 0, 0, 0, 0⟩
def rNums : List Nat → List Int → Pr (List Int)
  | [], l => Pr.give l
  | i :: r, l => rNum.then fun n => rNums r (l.set i n)
def mkEv (k : Int) (l : List Int) (st : Bool) (q : ReqE) (c : ChgE) : EvE := ⟨k, l.getD 0 0, l.getD 1 0, l.getD 2 0, l.getD 3 0, l.getD 4 0, l.getD 5 0, l.getD 6 0, l.getD 7 0, st, q, c⟩
noncomputable def rEv : Pr EvE := (rOne evN).then fun k => (rNums (fieldsK k) [0, 0, 0, 0, 0, 0, 0, 0]).then fun l =>
  if k = 1 then rReq.then fun q => Pr.give (mkEv k l false q noChg) else if k = 2 then rChg.then fun c => Pr.give (mkEv k l false noReq c) else if k = 6 then fun ws => some (mkEv k l (!ws.isEmpty) noReq noChg, ws) else Pr.give (mkEv k l false noReq noChg)
end Go.Proofs.YtkogcobcjoojnaaGreatDoor.Fl

namespace Go.Proofs.YtkogcobcjoojnaaGreatDoor.Fl
open Go.RowKit Go.Maps
set_option linter.unusedVariables false
set_option linter.unusedSimpArgs false
theorem then_some {α β : Type} {a : Pr α} {f : α → Pr β} {ws r : List ByteArray} {x : α} (h : a ws = some (x, r)) : a.then f ws = f x r := by
  unfold Pr.then
  rw [h]
theorem r_num {n : Int} (hn : Wf n) (r : List ByteArray) : rNum (wNum n :: r) = some (n, r) := by
  show (match Lib.atoiAll (Lib.itoa n) with
    | .ok m => some (m, r)
    | _ => none) = _
  rw [atoi_itoa n hn]
theorem r_text (s : ByteArray) (r : List ByteArray) : rText (wText s :: r) = some (s, r) := by
  show some (rdText (wText s), r) = _
  unfold wText
  rw [rd_quo3]
theorem show_b0 {k n : Int} {s : ByteArray} (h : rightV k n s = true) : ¬ b0 (showV k n s) = 110 ∧ ¬ b0 (showV k n s) = 32 := by
  have := form_b (show_form h)
  omega
theorem spc_b0 (l : List UInt8) (h : ¬ ((l.map fun b => (b.toNat : Int)).getD 0 0) = 32) : ((spc l).map fun b => (b.toNat : Int)).getD 0 0 = (l.map fun b => (b.toNat : Int)).getD 0 0 := by
  cases l with
  | nil => rfl
  | cons c t =>
    rw [spc, if_neg (by rintro rfl; exact h rfl)]
    rfl
theorem r_val {k n : Int} {s : ByteArray} (hn : Wf n) (h : noVal k n s = true ∨ rightV k n s = true) (r : List ByteArray) : rVal (wVal k n s :: r) = some ((k, n, s), r) := by
  show (if wVal k n s = wNone then some ((0, 0, noB), r) else match readV (unSpc (wVal k n s)) with
    | some v => some (v, r)
    | none => none) = _
  rcases h with h | h
  · unfold noVal at h
    simp only [Bool.and_eq_true, beq_iff_eq, decide_eq_true_iff] at h
    obtain ⟨⟨rfl, rfl⟩, rfl⟩ := h
    rw [if_pos (by unfold wVal; rw [if_pos rfl])]
  · have hk : ¬ k = 0 := by
      rcases right_kinds h with ⟨e, c⟩ | ⟨e, c, c2⟩ | ⟨e, c, c2⟩ | ⟨e, e2, c⟩ | ⟨e, e2, c, c2⟩ <;> omega
    have e : wVal k n s = ⟨(spc (showV k n s).data.toList).toArray⟩ := by unfold wVal; rw [if_neg hk]
    have hb := show_b0 h
    rw [if_neg, e]
    · unfold unSpc
      show (match readV ⟨(Sc.repl [92, 50, 48] [32] (spc (showV k n s).data.toList)).toArray⟩ with
        | some v => some (v, r)
        | none => none) = _
      rw [repl_back (unit_show h)]
      show (match readV (showV k n s) with
        | some v => some (v, r)
        | none => none) = _
      rw [readV_show hn h]
    · rw [e]
      intro he
      have h1 := spc_b0 (showV k n s).data.toList (by show ¬ b0 (showV k n s) = 32; exact hb.2)
      have h2 := congrArg b0 he
      have h3 : b0 ⟨(spc (showV k n s).data.toList).toArray⟩ = b0 (showV k n s) := h1
      rw [h3] at h2
      exact hb.1 h2
theorem r_one {l : List ByteArray} {k : Int} (h1 : 1 ≤ k) (h : l.findIdx? (fun x => decide (x = nth l k)) = some (k - 1).toNat) (r : List ByteArray) : rOne l (nth l k :: r) = some (k, r) := by
  show (match l.findIdx? (fun x => decide (x = nth l k)) with
    | some i => some ((i : Int) + 1, r)
    | none => none) = _
  rw [h]
  show some ((((k - 1).toNat : Nat) : Int) + 1, r) = _
  congr 2
  omega
theorem one_mut {k : Int} (h1 : 1 ≤ k) (h2 : k ≤ 4) (r : List ByteArray) : rOne mutN (nth mutN k :: r) = some (k, r) := r_one h1 (by
  obtain rfl | rfl | rfl | rfl : k = 1 ∨ k = 2 ∨ k = 3 ∨ k = 4 := by omega
  all_goals decide) r
theorem one_req {k : Int} (h1 : 1 ≤ k) (h2 : k ≤ 3) (r : List ByteArray) : rOne reqN (nth reqN k :: r) = some (k, r) := r_one h1 (by
  obtain rfl | rfl | rfl : k = 1 ∨ k = 2 ∨ k = 3 := by omega
  all_goals decide) r
theorem one_chg {k : Int} (h1 : 1 ≤ k) (h2 : k ≤ 5) (r : List ByteArray) : rOne chgN (nth chgN k :: r) = some (k, r) := r_one h1 (by
  obtain rfl | rfl | rfl | rfl | rfl : k = 1 ∨ k = 2 ∨ k = 3 ∨ k = 4 ∨ k = 5 := by omega
  all_goals decide) r
theorem one_ev {k : Int} (h1 : 1 ≤ k) (h2 : k ≤ 13) (r : List ByteArray) : rOne evN (nth evN k :: r) = some (k, r) := r_one h1 (by
  obtain rfl | rfl | rfl | rfl | rfl | rfl | rfl | rfl | rfl | rfl | rfl | rfl | rfl : k = 1 ∨ k = 2 ∨ k = 3 ∨ k = 4 ∨ k = 5 ∨ k = 6 ∨ k = 7 ∨ k = 8 ∨ k = 9 ∨ k = 10 ∨ k = 11 ∨ k = 12 ∨ k = 13 := by omega
  all_goals decide) r
theorem noVal_eq {k n : Int} {s : ByteArray} (h : noVal k n s = true) : k = 0 ∧ n = 0 ∧ s = noB := by
  unfold noVal at h
  simp only [Bool.and_eq_true, beq_iff_eq, decide_eq_true_iff] at h
  exact ⟨h.1.1, h.1.2, h.2⟩
/-- Numbers that a machine holds. -/
structure MutW (m : MutE) : Prop where
  n : Wf m.vn
theorem mut_kinds {m : MutE} (h : mutOk m = true) : (m.kind = 1 ∧ nameOk m.fam = true ∧ m.qual.size ≤ 12 ∧ rightV m.vk m.vn m.vs = true) ∨ (m.kind = 2 ∧ nameOk m.fam = true ∧ m.qual.size ≤ 12 ∧ noVal m.vk m.vn m.vs = true) ∨ (m.kind = 3 ∧ nameOk m.fam = true ∧ m.qual = noB ∧ noVal m.vk m.vn m.vs = true) ∨ (m.kind = 4 ∧ m.fam = noB ∧ m.qual = noB ∧ noVal m.vk m.vn m.vs = true) := by
  unfold mutOk at h
  split at h
  · rename_i hk
    simp only [Bool.and_eq_true, decide_eq_true_iff] at h
    exact Or.inl ⟨hk, h.1.1, h.1.2, h.2⟩
  · split at h
    · rename_i hk
      simp only [Bool.and_eq_true, decide_eq_true_iff] at h
      exact Or.inr (Or.inl ⟨hk, h.1.1, h.1.2, h.2⟩)
    · split at h
      · rename_i hk
        simp only [Bool.and_eq_true, decide_eq_true_iff] at h
        exact Or.inr (Or.inr (Or.inl ⟨hk, h.1.1, h.1.2, h.2⟩))
      · split at h
        · rename_i hk
          simp only [Bool.and_eq_true, decide_eq_true_iff] at h
          exact Or.inr (Or.inr (Or.inr ⟨hk, h.1.1, h.1.2, h.2⟩))
        · cases h
theorem r_mut (m : MutE) (hw : MutW m) (h : mutOk m = true) (r : List ByteArray) : rMut (wMut m ++ r) = some (m, r) := by
  have hk := mut_kinds h
  obtain ⟨k, fam, qual, vk, vn, vs⟩ := m
  have hw := hw.n
  unfold wMut rMut
  rcases hk with ⟨rfl, _, _, h4⟩ | ⟨rfl, _, _, h4⟩ | ⟨rfl, _, h3, h4⟩ | ⟨rfl, h2, h3, h4⟩
  · show (rOne mutN).then _ (nth mutN 1 :: fam :: wText qual :: wVal vk vn vs :: r) = _
    rw [then_some (one_mut (by decide) (by decide) _), if_neg (by decide), then_some (show rWord (fam :: _) = some (fam, _) from rfl), if_neg (by decide), then_some (r_text qual _), if_neg (by decide), then_some (r_val hw (Or.inr h4) r)]
    rfl
  · obtain ⟨e1, e2, e3⟩ := noVal_eq h4
    subst e1 e2 e3
    show (rOne mutN).then _ (nth mutN 2 :: fam :: wText qual :: r) = _
    rw [then_some (one_mut (by decide) (by decide) _), if_neg (by decide), then_some (show rWord (fam :: _) = some (fam, _) from rfl), if_neg (by decide), then_some (r_text qual _), if_pos rfl]
    rfl
  · obtain ⟨e1, e2, e3⟩ := noVal_eq h4
    subst e1 e2 e3 h3
    show (rOne mutN).then _ (nth mutN 3 :: fam :: r) = _
    rw [then_some (one_mut (by decide) (by decide) _), if_neg (by decide), then_some (show rWord (fam :: _) = some (fam, _) from rfl), if_pos rfl]
    rfl
  · obtain ⟨e1, e2, e3⟩ := noVal_eq h4
    subst e1 e2 e3 h3 h2
    show (rOne mutN).then _ (nth mutN 4 :: r) = _
    rw [then_some (one_mut (by decide) (by decide) _), if_pos rfl]
    rfl
theorem wMut_ne (m : MutE) : 1 ≤ (wMut m).length := by
  unfold wMut
  rw [List.length_cons]
  omega
theorem r_muts : ∀ (ms : List MutE) (g : Nat), ms.length ≤ g → (∀ m ∈ ms, MutW m ∧ mutOk m = true) → rMuts g (ms.flatMap wMut) = some (ms, [])
  | [], 0, _, _ => rfl
  | [], g + 1, _, _ => rfl
  | m :: ms, 0, h, _ => by simp at h
  | m :: ms, g + 1, h, hm => by
    have hne : ¬ (m :: ms).flatMap wMut = [] := fun e => by
      have := congrArg List.length e
      rw [List.flatMap_cons, List.length_append, List.length_nil] at this
      have h2 := wMut_ne m
      omega
    rw [rMuts, if_neg hne, List.flatMap_cons, then_some (r_mut m (hm m (by simp)).1 (hm m (by simp)).2 _), then_some (r_muts ms g (by simpa using h) (fun x hx => hm x (by simp [hx])))]
    rfl
theorem r_take : ∀ (l r : List ByteArray), rTake l.length (l ++ r) = some (l, r)
  | [], r => rfl
  | w :: l, r => by
    show rTake (l.length + 1) (w :: (l ++ r)) = _
    rw [rTake, then_some (show rWord (w :: (l ++ r)) = some (w, l ++ r) from rfl), then_some (r_take l r)]
    rfl
/-- .. of a filter. -/
structure FilW (f : FilE) : Prop where
  a : Wf f.since
  b : Wf f.til
  c : Wf f.versions
  d : Wf f.rows
theorem r_fil (f : FilE) (hw : FilW f) (hl : f.fams.length ≤ 1000000) (r : List ByteArray) : rFil (wFil f ++ r) = some (f, r) := by
  obtain ⟨fams, lo, hi, a, b, c, d⟩ := f
  obtain ⟨ha, hb, hc, hd⟩ := hw
  have hl : fams.length ≤ 1000000 := hl
  unfold wFil rFil
  have e : wNum (fams.length : Int) :: (fams ++ [wText lo, wText hi, wNum a, wNum b, wNum c, wNum d]) ++ r = wNum (fams.length : Int) :: (fams ++ (wText lo :: wText hi :: wNum a :: wNum b :: wNum c :: wNum d :: r)) := by simp
  show rNum.then _ (wNum (fams.length : Int) :: (fams ++ [wText lo, wText hi, wNum a, wNum b, wNum c, wNum d]) ++ r) = _
  rw [e, then_some (r_num (by unfold Wf; omega) _), if_pos ⟨by omega, by rw [List.length_append]; omega⟩, Int.toNat_natCast, then_some (r_take fams _), then_some (r_text lo _), then_some (r_text hi _), then_some (r_num ha _), then_some (r_num hb _), then_some (r_num hc _), then_some (r_num hd _)]
  rfl
end Go.Proofs.YtkogcobcjoojnaaGreatDoor.Fl

namespace Go.Proofs.YtkogcobcjoojnaaGreatDoor.Fl
open Go.RowKit Go.Maps
set_option linter.unusedVariables false
set_option linter.unusedSimpArgs false
/-- Numbers that a machine holds. -/
structure ReqW (q : ReqE) : Prop where
  m : ∀ m ∈ q.muts, MutW m
  f : FilW q.fil
  n : Wf q.vn
theorem filNo_eq {f : FilE} (h : filNo f = true) : f = noFil := by
  obtain ⟨fams, lo, hi, a, b, c, d⟩ := f
  unfold filNo at h
  simp only [Bool.and_eq_true, beq_iff_eq, decide_eq_true_iff, List.isEmpty_iff] at h
  obtain ⟨⟨⟨⟨⟨⟨rfl, rfl⟩, rfl⟩, rfl⟩, rfl⟩, rfl⟩, rfl⟩ := h
  rfl
theorem reqNo_eq {q : ReqE} (h : reqNo q = true) : q = noReq := by
  obtain ⟨k, row, stop, muts, fam, qual, vk, vn, vs, fil⟩ := q
  unfold reqNo at h
  simp only [Bool.and_eq_true, beq_iff_eq, decide_eq_true_iff, List.isEmpty_iff] at h
  obtain ⟨⟨⟨⟨⟨⟨⟨rfl, rfl⟩, rfl⟩, rfl⟩, rfl⟩, rfl⟩, h7⟩, h8⟩ := h
  obtain ⟨rfl, rfl, rfl⟩ := noVal_eq h7
  obtain rfl := filNo_eq h8
  rfl
theorem chgNo_eq {c : ChgE} (h : chgNo c = true) : c = noChg := by
  obtain ⟨k, fam, qual, typ, group, versions, life⟩ := c
  unfold chgNo at h
  simp only [Bool.and_eq_true, beq_iff_eq, decide_eq_true_iff] at h
  obtain ⟨⟨⟨⟨⟨⟨rfl, rfl⟩, rfl⟩, rfl⟩, rfl⟩, rfl⟩, rfl⟩ := h
  rfl
theorem write_eq {q : ReqE} (h : writeOk q = true) : q.stop = noB ∧ q.fil = noFil ∧ (∀ m ∈ q.muts, mutOk m = true) ∧ 1 ≤ q.row.size ∧ q.row.size ≤ 16 ∧ 1 ≤ q.muts.length ∧ q.muts.length ≤ 8 := by
  unfold writeOk at h
  simp only [Bool.and_eq_true, decide_eq_true_iff, List.all_eq_true] at h
  exact ⟨h.1.1.1.1.2, filNo_eq h.1.1.1.2, h.2, h.1.1.1.1.1.1, h.1.1.1.1.1.2, h.1.1.2, h.1.2⟩
theorem filOk_len {f : FilE} (h : filOk f = true) : f.fams.length ≤ 6 ∧ ∀ s ∈ f.fams, nameOk s = true := by
  unfold filOk at h
  simp only [Bool.and_eq_true, decide_eq_true_iff, List.all_eq_true] at h
  exact ⟨h.1.1.1.1.1.1.1, h.1.1.1.1.1.1.2⟩
theorem r_req (q : ReqE) (hw : ReqW q) (h : reqOk q = true) : rReq (wReq q) = some (q, []) := by
  obtain ⟨k, row, stop, muts, fam, qual, vk, vn, vs, fil⟩ := q
  obtain ⟨hm, hf, hn⟩ := hw
  unfold reqOk at h
  unfold rReq wReq
  have hmu : (∀ m ∈ muts, mutOk m = true) → ∀ g, (muts.flatMap wMut).length ≤ g → rMuts g (muts.flatMap wMut) = some (muts, []) := fun h2 g hg => r_muts muts g (by
    have : ∀ l : List MutE, l.length ≤ (l.flatMap wMut).length := by
      intro l
      induction l with
      | nil => exact Nat.zero_le _
      | cons m l ih =>
        have h3 := wMut_ne m
        rw [List.flatMap_cons, List.length_append, List.length_cons]
        omega
    have := this muts
    omega) (fun m hx => ⟨hm m hx, h2 m hx⟩)
  by_cases h3 : k = 3
  · subst h3
    rw [if_pos rfl] at h
    simp only [Bool.and_eq_true, decide_eq_true_iff, List.isEmpty_iff] at h
    obtain ⟨⟨⟨⟨⟨⟨⟨h1, h2⟩, h3⟩, h4⟩, h5⟩, h6⟩, h7⟩, h8⟩ := h
    obtain ⟨e1, e2, e3⟩ := noVal_eq h7
    have h4 : muts = [] := h4
    have h5 : fam = noB := h5
    have h6 : qual = noB := h6
    subst e1 e2 e3 h4 h5 h6
    have hl := (filOk_len h8).1
    show (rOne reqN).then _ (nth reqN 3 :: wText row :: (wText stop :: (wFil fil ++ []))) = _
    rw [then_some (one_req (by decide) (by decide) _), then_some (r_text row _), if_pos rfl]
    rw [then_some (show (rText.then fun sp => rFil.then fun f => Pr.give (sp, noB, noB, ((0 : Int), (0 : Int), noB), f)) (wText stop :: (wFil fil ++ [])) = some ((stop, noB, noB, ((0 : Int), (0 : Int), noB), fil), []) by rw [then_some (r_text stop _), then_some (r_fil fil hf (by omega) [])]; rfl)]
    rfl
  · rw [if_neg h3] at h
    by_cases h1 : k = 1
    · subst h1
      rw [if_pos rfl] at h
      simp only [Bool.and_eq_true, decide_eq_true_iff] at h
      obtain ⟨⟨⟨g1, g2⟩, g3⟩, g4⟩ := h
      obtain ⟨w1, w2, w3, _⟩ := write_eq g1
      obtain ⟨e1, e2, e3⟩ := noVal_eq g4
      have w1 : stop = noB := w1
      have w2 : fil = noFil := w2
      have g2 : fam = noB := g2
      have g3 : qual = noB := g3
      subst e1 e2 e3 w1 w2 g2 g3
      show (rOne reqN).then _ (nth reqN 1 :: wText row :: muts.flatMap wMut) = _
      rw [then_some (one_req (by decide) (by decide) _), then_some (r_text row _), if_neg (by decide), if_neg (by decide)]
      rw [then_some (show Pr.give (noB, noB, noB, ((0 : Int), (0 : Int), noB), noFil) (muts.flatMap wMut) = some (_, muts.flatMap wMut) from rfl)]
      show (rMuts (muts.flatMap wMut).length).then _ (muts.flatMap wMut) = _
      rw [then_some (hmu w3 _ (Nat.le_refl _))]
      rfl
    · rw [if_neg h1] at h
      by_cases h2 : k = 2
      · subst h2
        rw [if_pos rfl] at h
        simp only [Bool.and_eq_true, decide_eq_true_iff, Bool.or_eq_true] at h
        obtain ⟨⟨⟨g1, g2⟩, g3⟩, g4⟩ := h
        obtain ⟨w1, w2, w3, _⟩ := write_eq g1
        have w1 : stop = noB := w1
        have w2 : fil = noFil := w2
        subst w1 w2
        show (rOne reqN).then _ (nth reqN 2 :: wText row :: fam :: wText qual :: wVal vk vn vs :: muts.flatMap wMut) = _
        rw [then_some (one_req (by decide) (by decide) _), then_some (r_text row _), if_neg (by decide), if_pos rfl]
        rw [then_some (show (rWord.then fun fam => rText.then fun q => rVal.then fun v => Pr.give (noB, fam, q, v, noFil)) (fam :: wText qual :: wVal vk vn vs :: muts.flatMap wMut) = some ((noB, fam, qual, (vk, vn, vs), noFil), muts.flatMap wMut) by rw [then_some (show rWord (fam :: _) = some (fam, _) from rfl), then_some (r_text qual _), then_some (r_val hn g4 _)]; rfl)]
        show (rMuts (muts.flatMap wMut).length).then _ (muts.flatMap wMut) = _
        rw [then_some (hmu w3 _ (Nat.le_refl _))]
        rfl
      · rw [if_neg h2] at h
        cases h
theorem within_eq {n a b : Int} (h : within n a b = true) : a ≤ n ∧ n ≤ b := by
  unfold within at h
  simpa using h
theorem r_chg (c : ChgE) (h : chgOk c = true) : rChg (wChg c) = some (c, []) := by
  obtain ⟨k, fam, qual, typ, group, versions, life⟩ := c
  unfold chgOk at h
  rw [Bool.and_eq_true] at h
  obtain ⟨_, h⟩ := h
  unfold rChg wChg knobs
  by_cases h1 : k = 1
  · subst h1
    rw [if_pos rfl] at h
    simp only [Bool.and_eq_true, decide_eq_true_iff, beq_iff_eq] at h
    obtain ⟨⟨⟨⟨g1, g2⟩, g3⟩, g4⟩, g5⟩ := h
    have a1 := within_eq g3
    have a2 := within_eq g4
    have a3 := within_eq g5
    have g1 : qual = noB := g1
    have g2 : typ = 0 := g2
    subst g1 g2
    show (rOne chgN).then _ (nth chgN 1 :: fam :: wNum group :: wNum versions :: wNum life :: []) = _
    rw [then_some (one_chg (by decide) (by decide) _), then_some (show rWord (fam :: _) = some (fam, _) from rfl), if_neg (by decide), then_some (show Pr.give noB _ = some (noB, _) from rfl), if_pos rfl, then_some (r_num (by unfold Wf; omega) _), then_some (r_num (by unfold Wf; omega) _), then_some (r_num (by unfold Wf; omega) _)]
    rfl
  rw [if_neg h1] at h
  by_cases h2 : k = 2
  · subst h2
    rw [if_pos rfl] at h
    simp only [Bool.and_eq_true, decide_eq_true_iff, beq_iff_eq] at h
    obtain ⟨⟨⟨⟨g1, g2⟩, g3⟩, g4⟩, g5⟩ := h
    have g1 : qual = noB := g1
    have g2 : typ = 0 := g2
    have g3 : group = 0 := g3
    have g4 : versions = 0 := g4
    have g5 : life = 0 := g5
    subst g1 g2 g3 g4 g5
    show (rOne chgN).then _ (nth chgN 2 :: fam :: []) = _
    rw [then_some (one_chg (by decide) (by decide) _), then_some (show rWord (fam :: _) = some (fam, _) from rfl), if_neg (by decide), then_some (show Pr.give noB _ = some (noB, _) from rfl), if_neg (by decide), if_neg (by decide), if_neg (by decide)]
    rfl
  rw [if_neg h2] at h
  by_cases h3 : k = 3
  · subst h3
    rw [if_pos rfl] at h
    simp only [Bool.and_eq_true, decide_eq_true_iff, beq_iff_eq] at h
    obtain ⟨⟨⟨⟨g1, g2⟩, g3⟩, g4⟩, g5⟩ := h
    have a1 := within_eq g2
    have g3 : group = 0 := g3
    have g4 : versions = 0 := g4
    have g5 : life = 0 := g5
    subst g3 g4 g5
    show (rOne chgN).then _ (nth chgN 3 :: fam :: wText qual :: wNum typ :: []) = _
    rw [then_some (one_chg (by decide) (by decide) _), then_some (show rWord (fam :: _) = some (fam, _) from rfl), if_pos (Or.inl rfl), then_some (r_text qual _), if_neg (by decide), if_pos rfl, then_some (r_num (by unfold Wf; omega) _)]
    rfl
  rw [if_neg h3] at h
  by_cases h4 : k = 4
  · subst h4
    rw [if_pos rfl] at h
    simp only [Bool.and_eq_true, decide_eq_true_iff, beq_iff_eq] at h
    obtain ⟨⟨⟨⟨g1, g2⟩, g3⟩, g4⟩, g5⟩ := h
    have g2 : typ = 0 := g2
    have g3 : group = 0 := g3
    have g4 : versions = 0 := g4
    have g5 : life = 0 := g5
    subst g2 g3 g4 g5
    show (rOne chgN).then _ (nth chgN 4 :: fam :: wText qual :: []) = _
    rw [then_some (one_chg (by decide) (by decide) _), then_some (show rWord (fam :: _) = some (fam, _) from rfl), if_pos (Or.inr rfl), then_some (r_text qual _), if_neg (by decide), if_neg (by decide), if_neg (by decide)]
    rfl
  rw [if_neg h4] at h
  by_cases h5 : k = 5
  · subst h5
    rw [if_pos rfl] at h
    simp only [Bool.and_eq_true, decide_eq_true_iff, beq_iff_eq] at h
    obtain ⟨⟨⟨⟨g1, g2⟩, g3⟩, g4⟩, g5⟩ := h
    have a1 := within_eq g3
    have g1 : qual = noB := g1
    have g2 : typ = 0 := g2
    have g4 : versions = 0 := g4
    have g5 : life = 0 := g5
    subst g1 g2 g4 g5
    show (rOne chgN).then _ (nth chgN 5 :: fam :: wNum group :: []) = _
    rw [then_some (one_chg (by decide) (by decide) _), then_some (show rWord (fam :: _) = some (fam, _) from rfl), if_neg (by decide), then_some (show Pr.give noB _ = some (noB, _) from rfl), if_neg (by decide), if_neg (by decide), if_pos rfl, then_some (r_num (by unfold Wf; omega) _)]
    rfl
  rw [if_neg h5] at h
  cases h
end Go.Proofs.YtkogcobcjoojnaaGreatDoor.Fl
