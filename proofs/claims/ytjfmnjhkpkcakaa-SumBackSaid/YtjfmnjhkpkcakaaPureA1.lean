/- What the sum package's sum, its four bytes, a number's bytes and a frame are, in plain Lean; on bytes alone. -/
import Derived.Test.YtjfmnjhkpkcakaaQx13
import Derived.Test.YtjfmnjhkpkcakaaQx14
import Derived.Test.YtjfmnjhkpkcakaaQx6
import Derived.Test.YtjfmnjhkpkcakaaQx26
import Derived.Laws.BitsLemmas
namespace Go.Proofs.Ytjfmnjhkpkcakaa.Pure
open Go.RowKit Go.Proofs.Ytjfmnjhkpkcakaa.Q Go.Proofs.YtjfmnjhkpkcakaaW.PrintWords Go.Proofs.YtjfmnjhkpkcakaaW.PrintLast Go.Proofs.YtjfmnjhkpkcakaaW.PrintMore

/-! ### numbers and bytes -/
def Byt (l : List Int) : Prop := ∀ x ∈ l, 0 ≤ x ∧ x < 256
theorem byt_nil : Byt [] := fun _ h => by cases h
theorem byt_cons {x : Int} {l : List Int} (h : Byt (x :: l)) : (0 ≤ x ∧ x < 256) ∧ Byt l := ⟨h x (by simp), fun y hy => h y (by simp [hy])⟩
theorem byt_take {l : List Int} (h : Byt l) (n : Nat) : Byt (l.take n) := fun x hx => h x (List.mem_of_mem_take hx)
theorem byt_drop {l : List Int} (h : Byt l) (n : Nat) : Byt (l.drop n) := fun x hx => h x (List.mem_of_mem_drop hx)
theorem byt_append {a b : List Int} (ha : Byt a) (hb : Byt b) : Byt (a ++ b) := fun x hx => by
  rcases List.mem_append.1 hx with h | h
  · exact ha x h
  · exact hb x h
theorem w64 {x : Int} (h0 : -9223372036854775808 ≤ x) (h1 : x ≤ 9223372036854775807) : wrap64 x = x := by unfold wrap64; omega
theorem rd_nat (l : List Int) (i : Nat) (h : i < l.length) : rd l (i : Int) = l[i] := by
  unfold rd
  simp [List.getD_eq_getElem?_getD, List.getElem?_eq_getElem h]
theorem drop_rd (l : List Int) (i : Nat) (h : i < l.length) : l.drop i = rd l (i : Int) :: l.drop (i + 1) := by
  rw [rd_nat l i h]; exact List.drop_eq_getElem_cons h
theorem rd_byt {l : List Int} (hb : Byt l) (i : Nat) (h : i < l.length) : 0 ≤ rd l (i : Int) ∧ rd l (i : Int) < 256 := by
  rw [rd_nat l i h]; exact hb _ (List.getElem_mem h)
theorem tmod_pos {a b : Int} (h : 0 ≤ a) : Int.tmod a b = a % b := Int.tmod_eq_emod_of_nonneg h
theorem wraps_i64 (n : Int) (h₀ : 0 ≤ n) (h₁ : n < 2 ^ 63) : IntKind.i64.wrap n = n := by rw [IntKind.wrap_i64]; omega
theorem or_comm_ (k : IntKind) (x y : Int) : Go.bits .or k x y = Go.bits .or k y x := by simp only [bits]; rw [BitVec.or_comm]

/-! ### the sum -/
def ad : List Int → Int → Int → Int × Int
  | [], x, y => (x, y)
  | c :: l, x, y => ad l ((x + c) % 65521) ((y + (x + c) % 65521) % 65521)
theorem ad_range (l : List Int) : ∀ x y, 0 ≤ x → x < 65521 → 0 ≤ y → y < 65521 → 0 ≤ (ad l x y).1 ∧ (ad l x y).1 < 65521 ∧ 0 ≤ (ad l x y).2 ∧ (ad l x y).2 < 65521 := by
  induction l with
  | nil => intro x y h1 h2 h3 h4; exact ⟨h1, h2, h3, h4⟩
  | cons c l ih => intro x y h1 h2 h3 h4; exact ih _ _ (by omega) (by omega) (by omega) (by omega)
theorem ad_x (l : List Int) : ∀ x y, (ad l x y).1 % 65521 = (x + l.sum) % 65521 := by
  induction l with
  | nil => intro x y; simp [ad]
  | cons c l ih => intro x y; simp only [ad, ih, List.sum_cons]; omega
def sumOf (l : List Int) : Int := (ad l 1 0).2 * 65536 + (ad l 1 0).1
theorem sum_l0 (l : List Int) (hb : Byt l) (hn : l.length ≤ 140737488355328) : ∀ (d i : Nat) (x y : Int), i + d = l.length → 0 ≤ x → x < 65521 → 0 ≤ y → y < 65521 →
    Ev (fun k => sum_Sum.l0 k x y l (l.length : Int) (i : Int)) ((ad (l.drop i) x y).2 * 65536 + (ad (l.drop i) x y).1) := by
  intro d
  induction d with
  | zero =>
    intro i x y hi h1 h2 h3 h4
    refine Ev.step (f := fun _ => some ((ad (l.drop i) x y).2 * 65536 + (ad (l.drop i) x y).1)) (fun k => ?_) (Ev.now _)
    simp only [sum_Sum.l0]
    rw [if_neg (by omega), List.drop_eq_nil_of_le (by omega)]
    rw [w64 (by omega) (by omega)]
    exact congrArg some (bits_join .i64 63 (by decide) wraps_i64 16 (y * 65536) x (by omega) (by omega) (by omega) h1 (by omega) (by omega))
  | succ d ih =>
    intro i x y hi h1 h2 h3 h4
    have hlt : i < l.length := by omega
    obtain ⟨hc0, hc1⟩ := rd_byt hb i hlt
    rw [drop_rd l i hlt]
    simp only [ad]
    refine Ev.step (f := fun k => sum_Sum.l0 k ((x + rd l i) % 65521) ((y + (x + rd l i) % 65521) % 65521) l (l.length : Int) ((i + 1 : Nat) : Int)) (fun k => ?_) (ih (i + 1) _ _ (by omega) (by omega) (by omega) (by omega) (by omega))
    simp only [sum_Sum.l0]
    rw [if_pos (by omega), if_pos (by omega), if_pos (by omega), w64 (x := rd l i) (by omega) (by omega), w64 (x := x + rd l i) (by omega) (by omega), tmod_pos (a := x + rd l i) (by omega), w64 (x := y + _) (by omega) (by omega), tmod_pos (a := y + _) (by omega), w64 (x := (i : Int) + 1) (by omega) (by omega)]
    rfl
theorem ev_sum {l : List Int} (hb : Byt l) (hn : l.length ≤ 140737488355328) : Ev (fun k => sum_Sum.f k l) (sumOf l) := by
  have := sum_l0 l hb hn l.length 0 1 0 (by omega) (by omega) (by omega) (by omega) (by omega)
  rwa [List.drop_zero] at this
theorem sumOf_range (l : List Int) : 0 ≤ sumOf l ∧ sumOf l < 4294967296 := by
  have := ad_range l 1 0 (by omega) (by omega) (by omega) (by omega)
  unfold sumOf
  omega
def endOf (s : Int) : List Int := [(s / 16777216) % 256, (s / 65536) % 256, (s / 256) % 256, s % 256]
theorem ev_ending {l : List Int} (hb : Byt l) (hn : l.length ≤ 140737488355328) : Ev (fun k => sum_ending.f k l) (endOf (sumOf l)) := by
  refine Ev.congr (fun k => by unfold sum_ending.f; rfl) ?_
  exact Ev.bind (ev_sum hb hn) (Ev.now _)
theorem byt_endOf (s : Int) : Byt (endOf s) := by
  intro x hx
  simp only [endOf, List.mem_cons, List.not_mem_nil, or_false] at hx
  rcases hx with rfl | rfl | rfl | rfl <;> omega
theorem endOf_inj {s t : Int} (h0 : 0 ≤ s) (h1 : s < 4294967296) (h2 : 0 ≤ t) (h3 : t < 4294967296) (h : endOf s = endOf t) : s = t := by
  simp only [endOf, List.cons.injEq, and_true] at h
  omega

/-! ### a number's bytes -/
def numOf (n : Int) : List Int := if n < 128 then [n] else [n % 128 + 128, n / 128]
theorem and127 {n : Int} (h0 : 0 ≤ n) (h1 : n < 2 ^ 63) : Go.bits .and .i64 n 127 = n % 128 := bits_mask .i64 63 (by decide) wraps_i64 7 (by decide) n h0 h1
theorem or128 {a : Int} (h0 : 0 ≤ a) (h1 : a < 128) : Go.bits .or .i64 a 128 = a + 128 := by
  rw [or_comm_, bits_join .i64 63 (by decide) wraps_i64 7 128 a (by omega) (by omega) (by omega) h0 (by omega) (by omega)]
  omega
theorem ev_num {n : Int} (h0 : 0 ≤ n) (h1 : n < 16384) : Ev (fun k => codec_Num.f k n) (numOf n) := by
  refine Ev.congr (f := fun k => codec_Num.l0 k n []) (fun k => by unfold codec_Num.f; rw [if_neg (by omega)]) ?_
  unfold numOf
  by_cases h : n < 128
  · rw [if_pos h]
    refine Ev.step (f := fun _ => some [n]) (fun k => ?_) (Ev.now _)
    simp only [codec_Num.l0]
    rw [if_neg (by omega), if_pos (by simp)]
    simp only [List.nil_append]
    rw [Int.emod_eq_of_lt h0 (by omega)]
  · rw [if_neg h]
    refine Ev.step (f := fun k => codec_Num.l0 k (n / 128) [n % 128 + 128]) (fun k => ?_) ?_
    · simp only [codec_Num.l0]
      rw [if_pos (by omega), if_pos (by simp), and127 h0 (by omega), or128 (by omega) (by omega)]
      simp only [List.nil_append]
      rw [Int.emod_eq_of_lt (by omega) (by omega)]
    · refine Ev.step (f := fun _ => some [n % 128 + 128, n / 128]) (fun k => ?_) (Ev.now _)
      simp only [codec_Num.l0]
      rw [if_neg (by omega), if_pos (by simp)]
      simp only [List.cons_append, List.nil_append]
      rw [Int.emod_eq_of_lt (a := n / 128) (by omega) (by omega)]
theorem byt_num {n : Int} (h0 : 0 ≤ n) (h1 : n < 16384) : Byt (numOf n) := by
  unfold numOf
  split
  · intro x hx; simp at hx; omega
  · intro x hx; simp at hx; omega

/-! ### a frame -/
def frameOf (l : List Int) : List Int := numOf l.length ++ (l ++ endOf (sumOf l))
theorem ev_frame {l : List Int} (hb : Byt l) (hn : l.length ≤ 4000) : Ev (fun k => sum_Frame.f k l) (frameOf l, true) := by
  refine Ev.congr (f := fun k => (codec_Num.f k (l.length : Int)).bind fun t112 => ((sum_ending.f k l).bind fun t115 => ((slices_Concat_byte_byte.f (([t112, l, t115] : List (List Int)))).bind fun t121 => (some (t121, true))))) (fun k => by unfold sum_Frame.f; rw [if_neg (by omega)]) ?_
  refine Ev.bind (ev_num (by omega) (by omega)) (Ev.bind (ev_ending hb (by omega)) (Ev.congr (f := fun _ => some (frameOf l, true)) (fun k => ?_) (Ev.now _)))
  have hl : (numOf (l.length : Int)).length ≤ 2 := by unfold numOf; split <;> simp
  unfold slices_Concat_byte_byte.f
  rw [if_pos (by simp [endOf]; omega)]
  simp [frameOf]
theorem byt_frame {l : List Int} (hb : Byt l) (hn : l.length ≤ 4000) : Byt (frameOf l) := byt_append (byt_num (by omega) (by omega)) (byt_append hb (byt_endOf _))

end Go.Proofs.Ytjfmnjhkpkcakaa.Pure
