/- Values out of text: the law. -/
import Derived.Test.YtikpmlginojnhaaGreatDoorVH
namespace Go.Proofs.YtikpmlginojnhaaGreatDoor.Fl
open Go.RowKit Go.Maps
set_option linter.unusedVariables false
set_option linter.unusedSimpArgs false
/-- A digit's worth, if it is one. -/
def uh (c : Int) : Int := if 48 ≤ c ∧ c ≤ 57 then c - 48 else if 97 ≤ c ∧ c ≤ 102 then c - 87 else -1
theorem uh_hx (d : Int) (h0 : 0 ≤ d) (h1 : d < 16) : uh (hx d) = d := by
  unfold uh hx
  split <;> split <;> (try split) <;> omega
/-- What is between quotes. -/
def uq : List Int → List Int
  | [] => []
  | [x] => [x]
  | [x, y] => [x, y]
  | x :: a :: b :: u => if x = 92 then (uh a * 16 + uh b) :: uq u else x :: uq (a :: b :: u)
theorem uq_cons {x : Int} (hx : ¬ x = 92) : ∀ t, uq (x :: t) = x :: uq t
  | [] => rfl
  | [y] => rfl
  | a :: b :: u => by rw [uq, if_neg hx]
theorem uq_qq : ∀ (l : List Int), Byts l → uq (qq l) = l
  | [], _ => rfl
  | x :: t, h => by
    have hb := h x (by simp)
    have ih := uq_qq t (fun z hz => h z (by simp [hz]))
    rw [qq]
    unfold qc
    by_cases hc : x < 32 ∨ 126 < x ∨ x = 34 ∨ x = 92
    · rw [if_pos hc]
      show uq (92 :: hx (x / 16) :: hx (x % 16) :: qq t) = _
      rw [uq, if_pos rfl, uh_hx _ (by omega) (by omega), uh_hx _ (by omega) (by omega), ih]
      congr 1
      omega
    · rw [if_neg hc]
      show uq (x :: qq t) = _
      rw [uq_cons (by omega), ih]
/-- Digits' worth. -/
def dv (l : List UInt8) : Nat := l.foldl (fun a b => a * 10 + (b.toNat - 48)) 0
theorem dv_dec (u : Nat) : dv (Lib.decDigits u) = u := by
  induction u using Nat.strongRecOn with
  | _ u ih =>
    rw [Lib.decDigits]
    split
    · show 0 * 10 + ((UInt8.ofNat (48 + u)).toNat - 48) = u
      rw [UInt8.toNat_ofNat']
      omega
    · have := ih (u / 10) (by omega)
      unfold dv at this ⊢
      rw [List.foldl_append, this]
      show u / 10 * 10 + ((UInt8.ofNat (48 + u % 10)).toNat - 48) = u
      rw [UInt8.toNat_ofNat']
      omega
theorem dec_bd (u : Nat) : ∀ b ∈ Lib.decDigits u, 48 ≤ b.toNat ∧ b.toNat ≤ 57 := by
  induction u using Nat.strongRecOn with
  | _ u ih =>
    intro b hb
    rw [Lib.decDigits] at hb
    split at hb
    · have : b = UInt8.ofNat (48 + u) := by simpa using hb
      subst this
      rw [UInt8.toNat_ofNat']
      omega
    · rcases List.mem_append.1 hb with h | h
      · exact ih (u / 10) (by omega) b h
      · have : b = UInt8.ofNat (48 + u % 10) := by simpa using h
        subst this
        rw [UInt8.toNat_ofNat']
        omega
theorem dec_ne (u : Nat) : Lib.decDigits u ≠ [] := by
  rw [Lib.decDigits]
  split <;> simp
theorem byt_append (a b : ByteArray) : byt (a ++ b) = byt a ++ byt b := by
  unfold byt
  rw [ByteArray.data_append, Array.toList_append, List.map_append]
theorem itoa_inj {n m : Int} (h : Lib.itoa n = Lib.itoa m) : n = m := by
  unfold Lib.itoa at h
  by_cases h1 : n < 0 <;> by_cases h2 : m < 0
  · rw [if_pos h1, if_pos h2] at h
    have h3 := congrArg dv (List.cons_eq_cons.1 h).2
    rw [dv_dec, dv_dec] at h3
    omega
  · rw [if_pos h1, if_neg h2] at h
    have := dec_bd m.toNat 45 (by rw [← h]; simp)
    have e : (45 : UInt8).toNat = 45 := rfl
    omega
  · rw [if_neg h1, if_pos h2] at h
    have := dec_bd n.toNat 45 (by rw [h]; simp)
    have e : (45 : UInt8).toNat = 45 := rfl
    omega
  · rw [if_neg h1, if_neg h2] at h
    have h3 := congrArg dv h
    rw [dv_dec, dv_dec] at h3
    omega
/-- The first byte, the second. -/
def b0 (s : ByteArray) : Int := (byt s).getD 0 0
def b1 (s : ByteArray) : Int := (byt s).getD 1 0
theorem itoa_first (n : Int) : b0 ⟨(Lib.itoa n).toArray⟩ = 45 ∨ (48 ≤ b0 ⟨(Lib.itoa n).toArray⟩ ∧ b0 ⟨(Lib.itoa n).toArray⟩ ≤ 57) := by
  have e : byt ⟨(Lib.itoa n).toArray⟩ = (Lib.itoa n).map fun b => (b.toNat : Int) := rfl
  unfold b0
  rw [e]
  unfold Lib.itoa
  split
  · exact Or.inl rfl
  · right
    have h := dec_bd n.toNat
    have h2 := dec_ne n.toNat
    cases hd : Lib.decDigits n.toNat with
    | nil => exact absurd hd h2
    | cons b t =>
      have := h b (by rw [hd]; simp)
      show 48 ≤ (b.toNat : Int) ∧ (b.toNat : Int) ≤ 57
      omega
theorem showS_first (n : Int) (h : rightU (U n) = true) : b0 (showS n) ≠ 97 := by
  unfold showS
  rw [if_neg (by rw [h]; decide)]
  repeat' split
  all_goals first | decide | skip
  unfold b0
  rw [byt_txt _ (hex_byts _)]
  show (120 : Int) ≠ 97
  decide
theorem b_cons (c : UInt8) (t : ByteArray) : b0 (⟨#[c]⟩ ++ t) = (c.toNat : Int) ∧ b1 (⟨#[c]⟩ ++ t) = b0 t := by
  unfold b0 b1
  rw [byt_append]
  exact ⟨rfl, rfl⟩
theorem cut1 {c : UInt8} {a b : ByteArray} (h : (⟨#[c]⟩ : ByteArray) ++ a = ⟨#[c]⟩ ++ b) : a = b := by
  have := congrArg byt h
  rw [byt_append, byt_append] at this
  exact byt_inj (List.append_cancel_left this)
theorem quo_b0 (s : ByteArray) : b0 (txt (quo (byt s))) = 34 := by
  unfold b0
  rw [byt_txt _ (quo_byts _ (byt_bd s))]
  rfl
theorem quo_inj {s u : ByteArray} (h : txt (quo (byt s)) = txt (quo (byt u))) : s = u := by
  have h1 := txt_inj (quo_byts _ (byt_bd s)) (quo_byts _ (byt_bd u)) h
  unfold quo at h1
  have h2 := List.append_cancel_left (List.append_cancel_right h1)
  have h3 := uq_qq (byt s) (byt_bd s)
  rw [h2, uq_qq (byt u) (byt_bd u)] at h3
  exact (byt_inj h3).symm
/-- The forms of a right value's text. -/
def Form (k n : Int) (s t : ByteArray) : Prop :=
  (k = 1 ∧ s = ⟨#[]⟩ ∧ t = ⟨(Lib.itoa n).toArray⟩) ∨ (k = 4 ∧ s = ⟨#[]⟩ ∧ n = 1 ∧ t = ⟨#[116, 114, 117, 101]⟩) ∨ (k = 4 ∧ s = ⟨#[]⟩ ∧ n = 0 ∧ t = ⟨#[102, 97, 108, 115, 101]⟩) ∨ (k = 5 ∧ s = ⟨#[]⟩ ∧ rightU (U n) = true ∧ t = ⟨#[102]⟩ ++ showS n) ∨ (k = 2 ∧ n = 0 ∧ t = ⟨#[98]⟩ ++ txt (quo (byt s))) ∨ (k = 3 ∧ n = 0 ∧ t = ⟨#[116]⟩ ++ txt (quo (byt s)))
theorem show_form {k n : Int} {s : ByteArray} (h : rightV k n s = true) : Form k n s (showV k n s) := by
  unfold showV
  rw [if_neg (by rw [h]; decide)]
  rcases right_kinds h with ⟨rfl, c⟩ | ⟨rfl, c, rfl | rfl⟩ | ⟨rfl, c, c2⟩ | ⟨rfl, rfl, c⟩ | ⟨rfl, rfl, c, c2⟩
  · exact Or.inl ⟨rfl, size0 c, rfl⟩
  · exact Or.inr (Or.inr (Or.inl ⟨rfl, size0 c, rfl, rfl⟩))
  · exact Or.inr (Or.inl ⟨rfl, size0 c, rfl, rfl⟩)
  · exact Or.inr (Or.inr (Or.inr (Or.inl ⟨rfl, size0 c, c2, rfl⟩)))
  · exact Or.inr (Or.inr (Or.inr (Or.inr (Or.inl ⟨rfl, rfl, rfl⟩))))
  · exact Or.inr (Or.inr (Or.inr (Or.inr (Or.inr ⟨rfl, rfl, rfl⟩))))
/-- A text's kind by its first bytes. -/
theorem form_b {k n : Int} {s t : ByteArray} (h : Form k n s t) : (k = 1 ∧ (b0 t = 45 ∨ (48 ≤ b0 t ∧ b0 t ≤ 57))) ∨ (k = 4 ∧ n = 1 ∧ b0 t = 116 ∧ b1 t = 114) ∨ (k = 4 ∧ n = 0 ∧ b0 t = 102 ∧ b1 t = 97) ∨ (k = 5 ∧ b0 t = 102 ∧ b1 t ≠ 97) ∨ (k = 2 ∧ b0 t = 98) ∨ (k = 3 ∧ b0 t = 116 ∧ b1 t = 34) := by
  rcases h with ⟨rfl, _, rfl⟩ | ⟨rfl, _, rfl, rfl⟩ | ⟨rfl, _, rfl, rfl⟩ | ⟨rfl, _, hr, rfl⟩ | ⟨rfl, rfl, rfl⟩ | ⟨rfl, rfl, rfl⟩
  · exact Or.inl ⟨rfl, itoa_first n⟩
  · exact Or.inr (Or.inl ⟨rfl, rfl, rfl, rfl⟩)
  · exact Or.inr (Or.inr (Or.inl ⟨rfl, rfl, rfl, rfl⟩))
  · obtain ⟨e1, e2⟩ := b_cons 102 (showS n)
    exact Or.inr (Or.inr (Or.inr (Or.inl ⟨rfl, e1, by rw [e2]; exact showS_first n hr⟩)))
  · obtain ⟨e1, e2⟩ := b_cons 98 (txt (quo (byt s)))
    exact Or.inr (Or.inr (Or.inr (Or.inr (Or.inl ⟨rfl, e1⟩))))
  · obtain ⟨e1, e2⟩ := b_cons 116 (txt (quo (byt s)))
    exact Or.inr (Or.inr (Or.inr (Or.inr (Or.inr ⟨rfl, e1, by rw [e2]; exact quo_b0 s⟩))))
theorem form_inj {k n k' n' : Int} {s s' t : ByteArray} (hn : Wf n) (hn' : Wf n') (h : Form k n s t) (h' : Form k' n' s' t) : k = k' ∧ n = n' ∧ s = s' := by
  have f1 := form_b h
  have f2 := form_b h'
  rcases h with ⟨rfl, rfl, e⟩ | ⟨rfl, rfl, rfl, e⟩ | ⟨rfl, rfl, rfl, e⟩ | ⟨rfl, rfl, hr, e⟩ | ⟨rfl, rfl, e⟩ | ⟨rfl, rfl, e⟩ <;> rcases h' with ⟨rfl, rfl, e'⟩ | ⟨rfl, rfl, rfl, e'⟩ | ⟨rfl, rfl, rfl, e'⟩ | ⟨rfl, rfl, hr', e'⟩ | ⟨rfl, rfl, e'⟩ | ⟨rfl, rfl, e'⟩ <;> first | (exfalso; clear e e'; omega) | skip
  · rw [e] at e'
    have h2 : (Lib.itoa n).toArray = (Lib.itoa n').toArray := congrArg ByteArray.data e'
    exact ⟨rfl, itoa_inj (by simpa using h2), rfl⟩
  · exact ⟨rfl, rfl, rfl⟩
  · exact ⟨rfl, rfl, rfl⟩
  · rw [e] at e'
    exact ⟨rfl, show_inj hn hn' hr hr' (cut1 e'), rfl⟩
  · rw [e] at e'
    exact ⟨rfl, rfl, quo_inj (cut1 e')⟩
  · rw [e] at e'
    exact ⟨rfl, rfl, quo_inj (cut1 e')⟩
end Go.Proofs.YtikpmlginojnhaaGreatDoor.Fl
