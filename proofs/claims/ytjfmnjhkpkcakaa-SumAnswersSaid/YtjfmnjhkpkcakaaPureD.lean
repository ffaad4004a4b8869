/- All the frames of bytes, as the program and as the reference tell them, in plain Lean; lists of bytes that are held against each other. -/
import Derived.Test.YtjfmnjhkpkcakaaQx26
import Derived.Test.YtjfmnjhkpkcakaaQx27
import Derived.Test.YtjfmnjhkpkcakaaQx28
import Derived.Test.YtjfmnjhkpkcakaaPureC
namespace Go.Proofs.Ytjfmnjhkpkcakaa.Pure
open Go.RowKit Go.Proofs.Ytjfmnjhkpkcakaa.Q Go.Proofs.YtjfmnjhkpkcakaaW.PrintWords Go.Proofs.YtjfmnjhkpkcakaaW.PrintLast Go.Proofs.YtjfmnjhkpkcakaaW.PrintMore

theorem next_spec {l : List Int} (hb : Byt l) : Byt (nextOf l).1 ∧ Byt (nextOf l).2.1 ∧ ((nextOf l).2.2 = 0 → (nextOf l).2.1.length < l.length) ∧ (nextOf l).1.length ≤ l.length := by
  obtain ⟨hn0, hrb, hrl, hrt⟩ := tk_spec 9 0 1 l (by omega) (by omega) hb
  rw [show tk 9 0 1 l = takeOf l from rfl] at hn0 hrb hrl hrt
  unfold nextOf
  split
  · simp [byt_nil]
  · split
    · simp [byt_nil]
    · rename_i h1 h2
      have hok : (takeOf l).2.2 = true := by
        cases h : (takeOf l).2.2 with
        | true => rfl
        | false => exact absurd (.inl h) h2
      have hlt := hrt hok
      split
      · simp [byt_nil]
      · split
        · simp [byt_nil]
        · refine ⟨byt_take hrb _, byt_drop hrb _, fun _ => ?_, ?_⟩
          · simp only [List.length_drop]; omega
          · simp only [List.length_take]; omega
def allGo : Nat → List (List Int) → List Int → List (List Int) × List Int × Int
  | 0, acc, l => (acc, l, 0)
  | f + 1, acc, l => if l = [] then (acc, [], 0) else if (nextOf l).2.2 = 0 then allGo f (acc ++ [(nextOf l).1]) (nextOf l).2.1 else (acc, l, (nextOf l).2.2)
theorem allGo_fuel : ∀ (f g : Nat) (acc : List (List Int)) (l : List Int), Byt l → l.length ≤ f → l.length ≤ g → allGo f acc l = allGo g acc l := by
  intro f
  induction f with
  | zero =>
    intro g acc l hb h1 h2
    obtain rfl : l = [] := List.eq_nil_of_length_eq_zero (by omega)
    cases g <;> simp [allGo]
  | succ f ih =>
    intro g acc l hb h1 h2
    by_cases hl : l = []
    · subst hl; cases g <;> simp [allGo]
    · obtain ⟨g, rfl⟩ : ∃ m, g = m + 1 := ⟨g - 1, by have := List.length_pos_iff.2 hl; omega⟩
      obtain ⟨hb1, hb2, hlt, _⟩ := next_spec hb
      simp only [allGo, if_neg hl]
      by_cases hw : (nextOf l).2.2 = 0
      · have := hlt hw
        rw [if_pos hw, if_pos hw]; exact ih g _ _ hb2 (by omega) (by omega)
      · rw [if_neg hw, if_neg hw]
/-- What was found ahead stands ahead. -/
theorem allGo_acc : ∀ (f : Nat) (acc : List (List Int)) (l : List Int), allGo f acc l = (acc ++ (allGo f [] l).1, (allGo f [] l).2.1, (allGo f [] l).2.2) := by
  intro f
  induction f with
  | zero => intro acc l; simp [allGo]
  | succ f ih =>
    intro acc l
    simp only [allGo]
    by_cases hl : l = []
    · simp [hl]
    · rw [if_neg hl, if_neg hl]
      by_cases hw : (nextOf l).2.2 = 0
      · rw [if_pos hw, if_pos hw, ih (acc ++ _), ih ([] ++ _)]
        simp [List.append_assoc]
      · rw [if_neg hw, if_neg hw]; simp
theorem allGo_len : ∀ (f : Nat) (acc : List (List Int)) (l : List Int), Byt l → (allGo f acc l).2.1.length ≤ l.length := by
  intro f
  induction f with
  | zero => intro acc l _; simp [allGo]
  | succ f ih =>
    intro acc l hb
    simp only [allGo]
    split
    · simp
    · split
      · rename_i h1 h2
        obtain ⟨_, hb2, hlt, _⟩ := next_spec hb
        have := ih (acc ++ [(nextOf l).1]) _ hb2
        have := hlt h2
        omega
      · simp
def allOf (l : List Int) : List (List Int) × Int × Int := ((allGo l.length [] l).1, (l.length : Int) - ((allGo l.length [] l).2.1.length : Int), (allGo l.length [] l).2.2)
theorem all_l0 (L : List Int) (hL : L.length < 5864062014805) : ∀ (f : Nat) (acc : List (List Int)) (l : List Int), Byt l → l.length ≤ f → l.length ≤ L.length → acc.length + l.length ≤ L.length →
    Ev (fun k => sum_All.l0 k L acc l) ((allGo f acc l).1, (L.length : Int) - ((allGo f acc l).2.1.length : Int), (allGo f acc l).2.2) := by
  intro f
  induction f with
  | zero =>
    intro acc l hb h1 h2 h3
    obtain rfl : l = [] := List.eq_nil_of_length_eq_zero (by omega)
    refine Ev.step (f := fun _ => some (acc, (L.length : Int), 0)) (fun k => ?_) (Ev.congr (fun _ => by simp [allGo]) (Ev.now _))
    simp only [sum_All.l0]
    rw [if_neg (by simp)]
  | succ f ih =>
    intro acc l hb h1 h2 h3
    simp only [allGo]
    by_cases hl : l = []
    · subst hl
      refine Ev.step (f := fun _ => some (acc, (L.length : Int), 0)) (fun k => ?_) (Ev.congr (fun _ => by simp) (Ev.now _))
      simp only [sum_All.l0]
      rw [if_neg (by simp)]
    · have hp := List.length_pos_iff.2 hl
      obtain ⟨hb1, hb2, hlt, _⟩ := next_spec hb
      rw [if_neg hl]
      refine Ev.step (f := fun k => (sum_Next.f k l).bind fun bt275 => (if bt275.2.2 = 0 then (if acc.length < 5864062014805 then (sum_All.l0 k L (acc ++ [bt275.1]) bt275.2.1) else (none)) else (some (acc, wrap64 ((L.length : Int) - (l.length : Int)), bt275.2.2)))) (fun k => ?_) (Ev.bind (ev_next hb (by omega)) ?_)
      · simp only [sum_All.l0]
        rw [if_pos (by omega)]
      · by_cases hw : (nextOf l).2.2 = 0
        · have hlt := hlt hw
          have ha : acc.length < 5864062014805 := by omega
          simp only [if_pos hw, if_pos ha]
          exact ih _ _ hb2 (by omega) (by omega) (by simp; omega)
        · simp only [if_neg hw]
          exact Ev.congr (fun _ => by rw [w64 (by omega) (by omega)]) (Ev.now _)
theorem ev_all {l : List Int} (hb : Byt l) (hn : l.length < 5864062014805) : Ev (fun k => sum_All.f k l) (allOf l) := all_l0 l hn l.length [] l hb (Nat.le_refl _) (Nat.le_refl _) (by simp)
theorem refall_l0 (L : List Int) (hL : L.length < 5864062014805) : ∀ (f : Nat) (acc : List (List Int)) (l : List Int), Byt l → l.length ≤ f → l.length ≤ L.length → acc.length + l.length ≤ L.length →
    Ev (fun k => joistref04_All.l0 k L acc l) ((allGo f acc l).1, (L.length : Int) - ((allGo f acc l).2.1.length : Int), (allGo f acc l).2.2) := by
  intro f
  induction f with
  | zero =>
    intro acc l hb h1 h2 h3
    obtain rfl : l = [] := List.eq_nil_of_length_eq_zero (by omega)
    refine Ev.step (f := fun _ => some (acc, (L.length : Int), 0)) (fun k => ?_) (Ev.congr (fun _ => by simp [allGo]) (Ev.now _))
    simp only [joistref04_All.l0]
    rw [if_neg (by simp)]
  | succ f ih =>
    intro acc l hb h1 h2 h3
    simp only [allGo]
    by_cases hl : l = []
    · subst hl
      refine Ev.step (f := fun _ => some (acc, (L.length : Int), 0)) (fun k => ?_) (Ev.congr (fun _ => by simp) (Ev.now _))
      simp only [joistref04_All.l0]
      rw [if_neg (by simp)]
    · have hp := List.length_pos_iff.2 hl
      obtain ⟨hb1, hb2, hlt, _⟩ := next_spec hb
      rw [if_neg hl]
      refine Ev.step (f := fun k => (joistref04_Next.f k l).bind fun bt275 => (if bt275.2.2 = 0 then (if acc.length < 5864062014805 then (joistref04_All.l0 k L (acc ++ [bt275.1]) bt275.2.1) else (none)) else (some (acc, wrap64 ((L.length : Int) - (l.length : Int)), bt275.2.2)))) (fun k => ?_) (Ev.bind (ev_refnext hb (by omega)) ?_)
      · simp only [joistref04_All.l0]
        rw [if_pos (by omega)]
      · by_cases hw : (nextOf l).2.2 = 0
        · have hlt := hlt hw
          have ha : acc.length < 5864062014805 := by omega
          simp only [if_pos hw, if_pos ha]
          exact ih _ _ hb2 (by omega) (by omega) (by simp; omega)
        · simp only [if_neg hw]
          exact Ev.congr (fun _ => by rw [w64 (by omega) (by omega)]) (Ev.now _)
theorem ev_refall {l : List Int} (hb : Byt l) (hn : l.length < 5864062014805) : Ev (fun k => joistref04_All.f k l) (allOf l) := refall_l0 l hn l.length [] l hb (Nat.le_refl _) (Nat.le_refl _) (by simp)

/-! ### lists of rows of bytes -/
theorem rdL_nat (l : List (List Int)) (i : Nat) (h : i < l.length) : rd_L1 l (i : Int) = l[i] := by
  unfold rd_L1
  simp [List.getD_eq_getElem?_getD, List.getElem?_eq_getElem h]
theorem drop_rdL (l : List (List Int)) (i : Nat) (h : i < l.length) : l.drop i = rd_L1 l (i : Int) :: l.drop (i + 1) := by
  rw [rdL_nat l i h]; exact List.drop_eq_getElem_cons h
theorem lists_l0 (a b : List (List Int)) (hn : a.length ≤ 140737488355328) (hs : ∀ x ∈ a, x.length ≤ 140737488355328) (hl : a.length = b.length) : ∀ (d i : Nat), i + d = a.length →
    Ev (fun k => joistref00_SameLists.l0 k a b (i : Int)) (decide (a.drop i = b.drop i)) := by
  intro d
  induction d with
  | zero =>
    intro i hi
    rw [List.drop_eq_nil_of_le (by omega), List.drop_eq_nil_of_le (by omega)]
    refine Ev.step (f := fun _ => some true) (fun k => ?_) (Ev.now _)
    simp only [joistref00_SameLists.l0]
    rw [if_neg (by omega)]
  | succ d ih =>
    intro i hi
    have hx : (rd_L1 a (i : Int)).length ≤ 140737488355328 := by rw [rdL_nat a i (by omega)]; exact hs _ (List.getElem_mem _)
    have hstep : ∀ k, joistref00_SameLists.l0 (k + 1) a b (i : Int) = (joistref00_SameBytes.f k (rd_L1 a (i : Int)) (rd_L1 b (i : Int))).bind fun t300 => (if t300 = true then (joistref00_SameLists.l0 k a b ((i + 1 : Nat) : Int)) else (some false)) := by
      intro k
      simp only [joistref00_SameLists.l0]
      rw [if_pos (by omega), if_pos (by omega), if_pos (by omega), w64 (by omega) (by omega)]
      rfl
    rw [drop_rdL a i (by omega), drop_rdL b i (by omega)]
    refine Ev.step hstep (Ev.bind (ev_same _ _ hx) ?_)
    by_cases h : rd_L1 a (i : Int) = rd_L1 b (i : Int)
    · rw [show decide (rd_L1 a (i : Int) :: a.drop (i + 1) = rd_L1 b (i : Int) :: b.drop (i + 1)) = decide (a.drop (i + 1) = b.drop (i + 1)) by simp [h]]
      simp only [decide_eq_true h, if_true]
      exact ih (i + 1) (by omega)
    · rw [decide_eq_false (by simp [h] : ¬ (rd_L1 a (i : Int) :: a.drop (i + 1) = rd_L1 b (i : Int) :: b.drop (i + 1)))]
      simp only [decide_eq_false h]
      exact Ev.now _
theorem ev_lists (a b : List (List Int)) (hn : a.length ≤ 140737488355328) (hs : ∀ x ∈ a, x.length ≤ 140737488355328) : Ev (fun k => joistref00_SameLists.f k a b) (decide (a = b)) := by
  by_cases hl : a.length = b.length
  · have := lists_l0 a b hn hs hl a.length 0 (by omega)
    rw [List.drop_zero, List.drop_zero] at this
    exact Ev.congr (fun k => by unfold joistref00_SameLists.f; rw [if_pos (by omega)]; rfl) this
  · rw [decide_eq_false (fun h => hl (by rw [h]))]
    exact Ev.congr (fun k => by unfold joistref00_SameLists.f; rw [if_neg (by omega)]) (Ev.now _)
theorem allGo_sizes : ∀ (f : Nat) (acc : List (List Int)) (l : List Int) (B : Nat), Byt l → l.length ≤ B → (∀ x ∈ acc, x.length ≤ B) → (∀ x ∈ (allGo f acc l).1, x.length ≤ B) ∧ (allGo f acc l).1.length ≤ acc.length + l.length := by
  intro f
  induction f with
  | zero => intro acc l B hb h1 h2; simp [allGo]; exact h2
  | succ f ih =>
    intro acc l B hb h1 h2
    simp only [allGo]
    split
    · simp; exact h2
    · split
      · rename_i h3 h4
        obtain ⟨_, hb2, hlt, hx⟩ := next_spec hb
        have hlt := hlt h4
        obtain ⟨a, b⟩ := ih (acc ++ [(nextOf l).1]) _ B hb2 (by omega) (fun x hx2 => by
          rcases List.mem_append.1 hx2 with h | h
          · exact h2 x h
          · simp at h; subst h; omega)
        refine ⟨a, ?_⟩
        simp at b
        omega
      · simp; exact h2
end Go.Proofs.Ytjfmnjhkpkcakaa.Pure
