/- Frames, one behind the other, are told again; cut anywhere, those that stand whole ahead of the cut are, and what is left is torn. -/
import Derived.Test.YtjfmnjhkpkcakaaQx31
import Derived.Test.YtjfmnjhkpkcakaaPureE
namespace Go.Proofs.Ytjfmnjhkpkcakaa.Pure
open Go.RowKit Go.Proofs.Ytjfmnjhkpkcakaa.Q Go.Proofs.YtjfmnjhkpkcakaaW.PrintWords Go.Proofs.YtjfmnjhkpkcakaaW.PrintLast Go.Proofs.YtjfmnjhkpkcakaaW.PrintMore

/-- The lengths of the first frames. -/
def endsOf (l : List (List Int)) (i : Nat) : List Int := (List.range (i + 1)).map fun j => ((framesOf (l.take j)).length : Int)
theorem endsOf_length (l : List (List Int)) (i : Nat) : (endsOf l i).length = i + 1 := by simp [endsOf]
theorem endsOf_rd (l : List (List Int)) (i j : Nat) (h : j ≤ i) : rd (endsOf l i) (j : Int) = ((framesOf (l.take j)).length : Int) := by
  rw [rd_nat _ j (by rw [endsOf_length]; omega)]
  simp [endsOf]
theorem endsOf_snoc (l : List (List Int)) (i : Nat) : endsOf l i ++ [((framesOf (l.take (i + 1))).length : Int)] = endsOf l (i + 1) := by
  simp [endsOf, List.range_succ]
theorem take_snocL (l : List (List Int)) (i : Nat) (h : i < l.length) : l.take (i + 1) = l.take i ++ [rd_L1 l (i : Int)] := by
  rw [rdL_nat l i h]; exact List.take_succ_eq_append_getElem h
theorem frames_take_le (l : List (List Int)) (i : Nat) : (framesOf (l.take i)).length ≤ (framesOf l).length := by
  conv => rhs; rw [← List.take_append_drop i l]
  rw [framesOf_append, List.length_append]; omega
theorem frames_take_mono (l : List (List Int)) {i j : Nat} (h : i ≤ j) : (framesOf (l.take i)).length ≤ (framesOf (l.take j)).length := by
  have := frames_take_le (l.take j) i
  rwa [List.take_take, Nat.min_eq_left h] at this
/-- What All tells of the frames, cut behind the first ones and within the next. -/
theorem all_cut {l : List (List Int)} (hb : ∀ x ∈ l, Byt x ∧ x.length ≤ 4000) (c k : Nat) (hk : k ≤ l.length) (h1 : (framesOf (l.take k)).length ≤ c) (h2 : k = l.length ∧ c = (framesOf l).length ∨ k < l.length ∧ c < (framesOf (l.take (k + 1))).length) :
    allOf ((framesOf l).take c) = (l.take k, ((framesOf (l.take k)).length : Int), if (framesOf (l.take k)).length = c then 0 else 1) := by
  have hbt : ∀ x ∈ l.take k, Byt x ∧ x.length ≤ 4000 := fun x hx => hb x (List.mem_of_mem_take hx)
  rcases h2 with ⟨rfl, rfl⟩ | ⟨hlt, hc⟩
  · rw [List.take_length, List.take_length]
    unfold allOf
    have h := allGo_frames l (framesOf l).length [] [] hb byt_nil (by simp)
    rw [List.append_nil] at h
    rw [h]
    simp [allGo]
  · have hx : Byt (rd_L1 l (k : Int)) ∧ (rd_L1 l (k : Int)).length ≤ 4000 := by rw [rdL_nat l k hlt]; exact hb _ (List.getElem_mem _)
    have hsn := take_snocL l k hlt
    have hlen : (framesOf (l.take (k + 1))).length = (framesOf (l.take k)).length + (frameOf (rd_L1 l (k : Int))).length := by rw [hsn, framesOf_snoc, List.length_append]
    have hsplit : (framesOf l).take c = framesOf (l.take k) ++ (frameOf (rd_L1 l (k : Int))).take (c - (framesOf (l.take k)).length) := by
      have e : framesOf l = framesOf (l.take (k + 1)) ++ framesOf (l.drop (k + 1)) := by rw [← framesOf_append, List.take_append_drop]
      rw [e, List.take_append_of_le_length (by omega), hsn, framesOf_snoc, List.take_append, List.take_of_length_le h1]
    obtain ⟨d, hd⟩ : ∃ d, d = c - (framesOf (l.take k)).length := ⟨_, rfl⟩
    rw [hsplit, ← hd]
    unfold allOf
    rw [allGo_frames (l.take k) _ [] _ hbt (byt_take (byt_frame hx.1 hx.2) _) (Nat.le_refl _)]
    by_cases h0 : d = 0
    · subst h0
      simp only [List.take_zero, List.append_nil, List.length_nil, allGo, List.nil_append]
      rw [if_pos (by omega)]
      simp
    · rw [allGo_torn hx.2 d (by omega) (by omega), if_neg (by omega)]
      simp only [List.nil_append, List.length_append, Prod.mk.injEq, true_and, and_true]
      omega
/-- The search for the last frame that stands whole. -/
theorem back_l1 {l : List (List Int)} (hn : l.length ≤ 3000) (cut : Int) (A : List Int) (r : Bool) : ∀ (d i : Nat), i + d = l.length →
    ((framesOf (l.take i)).length : Int) ≤ cut →
    (∀ k : Nat, i ≤ k → k ≤ l.length → ((framesOf (l.take k)).length : Int) ≤ cut → (k = l.length ∨ k < l.length ∧ cut < ((framesOf (l.take (k + 1))).length : Int)) → Ev (fun n => joistlaw04_SumBack.j4 n l cut A (endsOf l l.length) (k : Int)) r) →
    Ev (fun n => joistlaw04_SumBack.l1 n l cut A (endsOf l l.length) (i : Int)) r := by
  intro d
  induction d with
  | zero =>
    intro i hi h1 h
    refine Ev.step (f := fun n => joistlaw04_SumBack.j4 n l cut A (endsOf l l.length) (i : Int)) (fun n => ?_) (h i (Nat.le_refl _) (by omega) h1 (.inl (by omega)))
    simp only [joistlaw04_SumBack.l1]
    rw [if_neg (by omega)]
  | succ d ih =>
    intro i hi h1 h
    have hw : wrap64 ((i : Int) + 1) = ((i + 1 : Nat) : Int) := by rw [w64 (by omega) (by omega)]; rfl
    have hrd := endsOf_rd l l.length (i + 1) (by omega)
    have hln := endsOf_length l l.length
    by_cases hc : ((framesOf (l.take (i + 1))).length : Int) ≤ cut
    · refine Ev.step (f := fun n => joistlaw04_SumBack.l1 n l cut A (endsOf l l.length) ((i + 1 : Nat) : Int)) (fun n => ?_) (ih (i + 1) (by omega) hc (fun k hk => h k (by omega)))
      simp only [joistlaw04_SumBack.l1]
      rw [if_pos (by omega), hw, if_pos (by omega), if_pos (by omega), hrd, if_pos hc]
    · refine Ev.step (f := fun n => joistlaw04_SumBack.j4 n l cut A (endsOf l l.length) (i : Int)) (fun n => ?_) (h i (Nat.le_refl _) (by omega) h1 (.inr ⟨by omega, by omega⟩))
      simp only [joistlaw04_SumBack.l1]
      rw [if_pos (by omega), hw, if_pos (by omega), if_pos (by omega), hrd, if_neg hc]
theorem back_j2 {l : List (List Int)} (hb : ∀ x ∈ l, Byt x ∧ x.length ≤ 3000) (hn : l.length ≤ 3000) (hw : (framesOf l).length ≤ 30000) (c : Nat) (hc : c ≤ (framesOf l).length) :
    Ev (fun n => joistlaw04_SumBack.j2 n l (c : Int) (framesOf l) (endsOf l l.length)) true := by
  have hb4 : ∀ x ∈ l, Byt x ∧ x.length ≤ 4000 := fun x hx => ⟨(hb x hx).1, by have := (hb x hx).2; omega⟩
  refine Ev.step (f := fun n => joistlaw04_SumBack.l1 n l (c : Int) (framesOf l) (endsOf l l.length) ((0 : Nat) : Int)) (fun n => rfl) (back_l1 hn _ _ _ l.length 0 (by omega) (by simp [framesOf]) ?_)
  intro k _ hk h1 h2
  have hcut := all_cut hb4 c k hk (by omega) (by
    rcases h2 with h | ⟨h, h'⟩
    · refine .inl ⟨h, ?_⟩
      subst h; rw [List.take_length] at h1; omega
    · exact .inr ⟨h, by omega⟩)
  have hrd := endsOf_rd l l.length k hk
  have hln := endsOf_length l l.length
  have hev := ev_all (l := (framesOf l).take c) (byt_take (byt_frames hb4) c) (by rw [List.length_take]; omega)
  rw [hcut] at hev
  have b1 : (0 : Int) ≤ (c : Int) := by omega
  have b2 : (c : Int) ≤ ((framesOf l).length : Int) := by omega
  have b3 : (0 : Int) ≤ (k : Int) := by omega
  have b4 : (k : Int) < ((endsOf l l.length).length : Int) := by omega
  have b5 : (k : Int) ≤ (l.length : Int) := by omega
  refine Ev.step (f := fun n => (sum_All.f n ((framesOf l).take c)).bind fun bt370 => (if ((framesOf (l.take k)).length : Int) = (c : Int) then ((joistref00_SameLists.f n bt370.1 (l.take k)).bind fun t380 => (if t380 = true then (if bt370.2.1 = ((framesOf (l.take k)).length : Int) then (some (bt370.2.2 == 0)) else (some false)) else (some false))) else ((joistref00_SameLists.f n bt370.1 (l.take k)).bind fun t386 => (if t386 = true then (if bt370.2.1 = ((framesOf (l.take k)).length : Int) then (some (bt370.2.2 == 1)) else (some false)) else (some false))))) (fun n => ?_) (Ev.bind hev ?_)
  · simp only [joistlaw04_SumBack.j4]
    rw [if_pos b1, if_pos b2]
    simp only [if_pos b3, if_pos b4, if_pos b5, hrd, Int.toNat_natCast]
  · have hl : Ev (fun n => joistref00_SameLists.f n (l.take k) (l.take k)) true := by
      have := ev_lists (l.take k) (l.take k) (by rw [List.length_take]; omega) (fun x hx => by have := (hb x (List.mem_of_mem_take hx)).2; omega)
      rwa [decide_eq_true rfl] at this
    by_cases he : (framesOf (l.take k)).length = c
    · have he' : ((framesOf (l.take k)).length : Int) = (c : Int) := by omega
      simp only [if_pos he, if_pos he']
      refine Ev.bind hl ?_
      simp only [if_true]
      exact Ev.now _
    · have he' : ¬ ((framesOf (l.take k)).length : Int) = (c : Int) := by omega
      simp only [if_neg he, if_neg he']
      refine Ev.bind hl ?_
      simp only [if_true]
      exact Ev.now _
theorem back_l0 {l : List (List Int)} (hb : ∀ x ∈ l, Byt x ∧ x.length ≤ 3000) (hn : l.length ≤ 3000) (hw : (framesOf l).length ≤ 30000) (cut : Int) : ∀ (d i : Nat), i + d = l.length →
    Ev (fun n => joistlaw04_SumBack.l0 n l cut (framesOf (l.take i)) (endsOf l i) (i : Int)) true := by
  intro d
  induction d with
  | zero =>
    intro i hi
    obtain rfl : i = l.length := by omega
    have key : ∀ b : Bool, (b = false → 0 ≤ cut ∧ cut ≤ ((framesOf l).length : Int)) → Ev (fun n => joistlaw04_SumBack.j1 n l cut (framesOf l) (endsOf l l.length) b) true := by
      intro b hbb
      cases b with
      | true =>
        refine Ev.step (f := fun n => joistlaw04_SumBack.j2 n l (((framesOf l).length : Nat) : Int) (framesOf l) (endsOf l l.length)) (fun n => ?_) (back_j2 hb hn hw _ (Nat.le_refl _))
        simp only [joistlaw04_SumBack.j1]
        rw [if_pos trivial]
      | false =>
        obtain ⟨h0, h1⟩ := hbb rfl
        obtain ⟨c, rfl⟩ := Int.eq_ofNat_of_zero_le h0
        refine Ev.step (f := fun n => joistlaw04_SumBack.j2 n l (c : Int) (framesOf l) (endsOf l l.length)) (fun n => ?_) (back_j2 hb hn hw c (by omega))
        simp only [joistlaw04_SumBack.j1]
        rw [if_neg (by decide)]
    rw [List.take_length]
    by_cases hc : cut < 0
    · refine Ev.step (fun n => ?_) (key true (fun h => by cases h))
      simp only [joistlaw04_SumBack.l0]
      rw [if_neg (by omega), if_pos hc]
    · refine Ev.step (fun n => ?_) (key (decide (cut > ((framesOf l).length : Int))) (fun h => ⟨by omega, by have := of_decide_eq_false h; omega⟩))
      simp only [joistlaw04_SumBack.l0]
      rw [if_neg (by omega), if_neg hc]
  | succ d ih =>
    intro i hi
    have hlt : i < l.length := by omega
    have hx : Byt (rd_L1 l (i : Int)) ∧ (rd_L1 l (i : Int)).length ≤ 3000 := by rw [rdL_nat l i hlt]; exact hb _ (List.getElem_mem _)
    have hsn := take_snocL l i hlt
    have hfs : framesOf (l.take i) ++ frameOf (rd_L1 l (i : Int)) = framesOf (l.take (i + 1)) := by rw [hsn, framesOf_snoc]
    have hle := frames_take_le l (i + 1)
    have hsz : (framesOf (l.take i)).length + (frameOf (rd_L1 l (i : Int))).length < 140737488355328 := by
      rw [← List.length_append, hfs]; omega
    have hln := endsOf_length l i
    have hl2 : (endsOf l i).length < 17592186044416 := by omega
    have hw1 : wrap64 ((i : Int) + 1) = ((i + 1 : Nat) : Int) := by rw [w64 (by omega) (by omega)]; rfl
    refine Ev.step (f := fun n => (sum_Frame.f n (rd_L1 l (i : Int))).bind fun bt354 => (if bt354.2 = true then (if (framesOf (l.take i)).length + bt354.1.length < 140737488355328 then (joistlaw04_SumBack.l0 n l cut (framesOf (l.take i) ++ bt354.1) (endsOf l i ++ [((framesOf (l.take i) ++ bt354.1).length : Int)]) ((i + 1 : Nat) : Int)) else (none)) else (some false))) (fun n => ?_) (Ev.bind (ev_frame hx.1 (by omega)) ?_)
    · simp only [joistlaw04_SumBack.l0]
      rw [if_pos (by omega), if_pos (by omega), hw1]
      simp only [Option.bind_some, if_pos hl2]
    · simp only [if_true, if_pos hsz, hfs, endsOf_snoc]
      exact ih (i + 1) (by omega)
theorem SumBack (l : List (List Int)) (cut : Int) (hb : ∀ x ∈ l, Byt x) (hs : ∀ x ∈ l, x.length ≤ 140737488355328) (hn : l.length ≤ 140737488355328) : ∃ k, joistlaw04_SumBack.f k l cut = some true := by
  refine Ev.rounds ?_
  obtain ⟨v, hv, hv2⟩ := ev_weigh l 3000 (by omega) (by omega) hs hn
  refine Ev.congr (f := fun k => (joistref00_Weigh.f k l 3000).bind fun t346 => (if t346 > 3000 then (some true) else (joistlaw04_SumBack.l0 k l cut (([] : List Int)) (([0] : List Int)) 0))) (fun k => ?_) (Ev.bind hv ?_)
  · unfold joistlaw04_SumBack.f joistlaw04_alive.f
    simp only [Option.bind_some, if_true]
  · by_cases h : v > 3000
    · simp only [if_pos h]
      exact Ev.now _
    · simp only [if_neg h]
      have hwt := hv2 (by omega)
      have hfl := frames_length l
      have hll := weight_length l
      have := back_l0 (l := l) (fun x hx => ⟨hb x hx, by have := weight_mem hx; omega⟩) (by omega) (by omega) cut l.length 0 (by omega)
      exact this

end Go.Proofs.Ytjfmnjhkpkcakaa.Pure
