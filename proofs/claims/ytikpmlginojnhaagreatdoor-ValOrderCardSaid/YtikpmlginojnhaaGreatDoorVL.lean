/- Values out of text: guess. -/
import Derived.Test.YtikpmlginojnhaaGreatDoorVK
import Derived.Lib.AtoiAll
import Derived.Laws.Rows
namespace Go.Proofs.YtikpmlginojnhaaGreatDoor.Fl
open Go.RowKit Go.Maps
set_option linter.unusedVariables false
set_option linter.unusedSimpArgs false
theorem pu_snoc : ∀ (l : List UInt8) (acc u : Nat) (d : UInt8), Lib.parseUint10 acc l = .ok u → 48 ≤ d.toNat → d.toNat ≤ 57 → u * 10 + (d.toNat - 48) < 18446744073709551616 → Lib.parseUint10 acc (l ++ [d]) = .ok (u * 10 + (d.toNat - 48))
  | [], acc, u, d, h, h1, h2, h3 => by
    rw [Lib.parseUint10] at h
    injection h with h
    subst h
    rw [List.nil_append, Lib.parseUint10, if_pos ⟨h1, h2⟩, if_neg (by omega), if_neg (by omega), Lib.parseUint10]
  | c :: r, acc, u, d, h, h1, h2, h3 => by
    rw [List.cons_append, Lib.parseUint10]
    rw [Lib.parseUint10] at h
    split at h
    · rename_i hc
      rw [if_pos hc]
      split at h
      · cases h
      · rename_i ha
        rw [if_neg ha]
        split at h
        · cases h
        · rename_i hb
          rw [if_neg hb]
          exact pu_snoc r _ u d h h1 h2 h3
    · cases h
theorem pu_dec (m : Nat) : m < 18446744073709551616 → Lib.parseUint10 0 (Lib.decDigits m) = .ok m := by
  induction m using Nat.strongRecOn with
  | _ m ih =>
    intro h
    rw [Lib.decDigits]
    split
    · rename_i h9
      have e : (UInt8.ofNat (48 + m)).toNat = 48 + m := by rw [UInt8.toNat_ofNat']; omega
      rw [Lib.parseUint10, e, if_pos (by omega), if_neg (by omega), if_neg (by omega), Lib.parseUint10]
      congr 1
      omega
    · have e : (UInt8.ofNat (48 + m % 10)).toNat = 48 + m % 10 := by rw [UInt8.toNat_ofNat']; omega
      have := pu_snoc (Lib.decDigits (m / 10)) 0 (m / 10) (UInt8.ofNat (48 + m % 10)) (ih (m / 10) (by omega) (by omega)) (by omega) (by omega) (by omega)
      rw [this, e]
      congr 1
      omega
theorem atoi_itoa (n : Int) (hn : Wf n) : Lib.atoiAll (Lib.itoa n) = .ok n := by
  unfold Wf at hn
  unfold Lib.itoa
  by_cases h : n < 0
  · rw [if_pos h]
    have e := pu_dec n.natAbs (by omega)
    have e2 := dec_ne n.natAbs
    have e3 : Lib.parseMag (Lib.decDigits n.natAbs) = .ok n.natAbs := by
      unfold Lib.parseMag
      rw [if_neg e2, e]
    have hc : (45 : UInt8).toNat = 45 := rfl
    generalize (45 : UInt8) = c at hc ⊢
    generalize Lib.decDigits n.natAbs = r at e3 ⊢
    unfold Lib.atoiAll
    dsimp only
    rw [if_pos (Or.inr hc), e3]
    show (if ¬ c.toNat = 45 ∧ 9223372036854775808 ≤ n.natAbs then _ else _) = _
    rw [if_neg (fun h => h.1 hc), if_neg (by omega), if_pos hc]
    congr 1
    omega
  · rw [if_neg h]
    have e := pu_dec n.toNat (by omega)
    have e2 := dec_ne n.toNat
    have e3 : Lib.parseMag (Lib.decDigits n.toNat) = .ok n.toNat := by
      unfold Lib.parseMag
      rw [if_neg e2, e]
    have hd := dec_bd n.toNat
    cases hl : Lib.decDigits n.toNat with
    | nil => exact absurd hl e2
    | cons c r =>
      have hc := hd c (by rw [hl]; simp)
      rw [hl] at e3
      unfold Lib.atoiAll
      dsimp only
      rw [if_neg (by omega), e3]
      show (if ¬ c.toNat = 45 ∧ 9223372036854775808 ≤ n.toNat then _ else _) = _
      rw [if_neg (by omega), if_neg (by omega), if_neg (by omega)]
      congr 1
      omega
theorem c_atoi (s : ByteArray) (hs : s.size ≤ 140737488351232) (w : World) (hg : Gl w) :
    Calls Tryz.prog 72 #[.string s] w fun e w' => ∃ n v, e = .returned (.tuple #[.int .i64 n, v]) ∧ Wf n ∧ (∀ m, Wf m → Lib.itoa m = s.data.toList → n = m) ∧ Below w.heap.size w w' := by
  obtain ⟨t1, p1, h1⟩ := hg.syn
  obtain ⟨t2, p2, h2⟩ := hg.ran
  have key : ∀ m, Wf m → Lib.itoa m = s.data.toList → Lib.atoiAll s.data.toList = .ok m := fun m hm h => by rw [← h]; exact atoi_itoa m hm
  cases ha : Lib.atoiAll s.data.toList with
  | ok v =>
    have hv := Lib.atoiAll_bounds ha
    refine (Tryz.strconv_Atoi_ok s (by omega) v ha w).mono ?_
    rintro e w' ⟨rfl, hw⟩
    refine ⟨v, _, rfl, by unfold Wf; omega, fun m hm h => ?_, ?_⟩
    · have := key m hm h
      rw [ha] at this
      injection this
    · rcases hw with rfl | ⟨t, rfl⟩
      · exact Below.refl _ _
      · exact Lib.bytesWorld_below _ _ _
  | range =>
    refine (Tryz.strconv_Atoi_range s (by omega) ha _ w h2 (Or.inr ⟨_, _, rfl⟩)).mono ?_
    rintro e w' ⟨N, rfl, _, _, hb⟩
    refine ⟨_, _, rfl, Lib.atoiSat_bounds _, fun m hm h => ?_, hb⟩
    have := key m hm h
    rw [ha] at this
    cases this
  | _ =>
    refine (Tryz.strconv_Atoi_syntax s (by omega) ha _ w h1 (Or.inr ⟨_, _, rfl⟩)).mono ?_
    rintro e w' ⟨N, rfl, _, _, hb⟩
    refine ⟨0, _, rfl, by unfold Wf; omega, fun m hm h => ?_, hb⟩
    have := key m hm h
    rw [ha] at this
    cases this
/-- If a text is a right value's, it is this one's. -/
def Gs (s : ByteArray) (k n : Int) (t : ByteArray) : Prop := ∀ k' n' t', Wf n' → Form k' n' t' s → k = k' ∧ n = n' ∧ t = t'
theorem gs_of {s : ByteArray} {k n : Int} {t : ByteArray} (hn : Wf n) (h : Form k n t s) : Gs s k n t := fun k' n' t' h1 h2 => form_inj hn h1 h h2
theorem hp_b0 (s : ByteArray) (c : UInt8) (hc : ¬ c.toNat = 0) : Lib.hasPrefix s.data.toList (⟨#[c]⟩ : ByteArray).data.toList = decide (b0 s = (c.toNat : Int)) := by
  have : ∀ l : List UInt8, Lib.hasPrefix l [c] = decide ((l.map fun b => (b.toNat : Int)).getD 0 0 = (c.toNat : Int)) := by
    intro l
    cases l with
    | nil =>
      symm
      apply decide_eq_false
      show ¬ (0 : Int) = _
      omega
    | cons x t =>
      unfold Lib.hasPrefix
      rw [Bool.eq_iff_iff, decide_eq_true_iff]
      show (c == x && List.isPrefixOf [] t) = true ↔ (x.toNat : Int) = (c.toNat : Int)
      rw [List.isPrefixOf_nil_left, Bool.and_true, beq_iff_eq]
      constructor
      · rintro rfl; rfl
      · intro h; exact (UInt8.toNat_inj.1 (by omega)).symm
  exact this _
theorem c_hasp (s : ByteArray) (c : UInt8) (hc : ¬ c.toNat = 0) (b : Bool) (hb : decide (b0 s = (c.toNat : Int)) = b) (w : World) : Calls Tryz.prog 69 #[.string s, .string ⟨#[c]⟩] w fun e w' => e = .returned (.bool b) ∧ w' = w := by
  refine (Tryz.strings_HasPrefix s ⟨#[c]⟩ w).mono ?_
  rintro e w' ⟨rfl, rfl⟩
  rw [hp_b0 s c hc, hb]
  exact ⟨rfl, rfl⟩
theorem cut_one (c : UInt8) (u : ByteArray) : ((⟨#[c]⟩ : ByteArray) ++ u).extract 1 ((⟨#[c]⟩ : ByteArray) ++ u).size = u := byt_inj (by rw [byt_cut, byt_append]; rfl)
theorem gs_float {s : ByteArray} {n : Int} {b : Bool} (h0 : b0 s = 102) (hf : ¬ s = ⟨#[102, 97, 108, 115, 101]⟩) (h : RdIs (s.extract 1 s.size) n b) : Gs s 5 n ⟨#[]⟩ := fun k' n' t' h1 h2 => by
  have hb := form_b h2
  rcases h2 with ⟨rfl, rfl, e⟩ | ⟨rfl, rfl, rfl, e⟩ | ⟨rfl, rfl, rfl, e⟩ | ⟨rfl, rfl, hr, e⟩ | ⟨rfl, rfl, e⟩ | ⟨rfl, rfl, e⟩ <;> first | (exfalso; clear e; omega) | exact absurd e hf | skip
  subst e
  rw [cut_one] at h
  exact ⟨rfl, (rd_yes h h1 hr rfl).1, rfl⟩
theorem gs_bytes {s t : ByteArray} (h0 : b0 s = 98) (h : UqIs (s.extract 1 s.size) t) : Gs s 2 0 t := fun k' n' t' h1 h2 => by
  have hb := form_b h2
  rcases h2 with ⟨rfl, rfl, e⟩ | ⟨rfl, rfl, rfl, e⟩ | ⟨rfl, rfl, rfl, e⟩ | ⟨rfl, rfl, hr, e⟩ | ⟨rfl, rfl, e⟩ | ⟨rfl, rfl, e⟩ <;> first | (exfalso; clear e; omega) | skip
  subst e
  rw [cut_one] at h
  exact ⟨rfl, rfl, byt_inj (h _ (byt_bd t') (byt_txt _ (quo_byts _ (byt_bd t'))))⟩
theorem gs_text {s t : ByteArray} (h0 : b0 s = 116) (hf : ¬ s = ⟨#[116, 114, 117, 101]⟩) (h : UqIs (s.extract 1 s.size) t) : Gs s 3 0 t := fun k' n' t' h1 h2 => by
  have hb := form_b h2
  rcases h2 with ⟨rfl, rfl, e⟩ | ⟨rfl, rfl, rfl, e⟩ | ⟨rfl, rfl, rfl, e⟩ | ⟨rfl, rfl, hr, e⟩ | ⟨rfl, rfl, e⟩ | ⟨rfl, rfl, e⟩ <;> first | (exfalso; clear e; omega) | exact absurd e hf | skip
  subst e
  rw [cut_one] at h
  exact ⟨rfl, rfl, byt_inj (h _ (byt_bd t') (byt_txt _ (quo_byts _ (byt_bd t'))))⟩
theorem gs_int {s : ByteArray} {n : Int} (h1 : ¬ b0 s = 102) (h2 : ¬ b0 s = 98) (h3 : ¬ b0 s = 116) (h : ∀ m, Wf m → Lib.itoa m = s.data.toList → n = m) : Gs s 1 n ⟨#[]⟩ := fun k' n' t' g1 g2 => by
  have hb := form_b g2
  rcases g2 with ⟨rfl, rfl, e⟩ | ⟨rfl, rfl, rfl, e⟩ | ⟨rfl, rfl, rfl, e⟩ | ⟨rfl, rfl, hr, e⟩ | ⟨rfl, rfl, e⟩ | ⟨rfl, rfl, e⟩ <;> first | (exfalso; clear e; omega) | skip
  subst e
  exact ⟨rfl, h n' g1 rfl, rfl⟩
theorem ret_cell1 {fn : Func} {p : Tmp} (h : fn.results = #[.cell p 23]) (tmps : Array Value) (w : World) (g : Nat) (k n : Int) (s : ByteArray) (fr : Nat × Nat)
    (hp : tmps.getD p undef = .pointer (some ⟨g, 0, none⟩)) (hg : w.heap[g]? = some (.cells #[.int .i64 k, .int .i64 n, .string s] 23 fr)) :
    (results fn tmps).run Tryz.prog w = .ok (vv k n s) w := by
  exact results_cell_row h tmps w g _ _ fr _ hp hg Tryz.underlying23 rfl (by kernel_rfl)
end Go.Proofs.YtikpmlginojnhaaGreatDoor.Fl
