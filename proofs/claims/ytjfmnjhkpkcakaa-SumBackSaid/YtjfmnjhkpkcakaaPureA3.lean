/- What sum.Next tells of bytes, in plain Lean; on bytes alone. -/
import Derived.Test.YtjfmnjhkpkcakaaPureA2
namespace Go.Proofs.Ytjfmnjhkpkcakaa.Pure
open Go.RowKit Go.Proofs.Ytjfmnjhkpkcakaa.Q Go.Proofs.YtjfmnjhkpkcakaaW.PrintWords Go.Proofs.YtjfmnjhkpkcakaaW.PrintLast Go.Proofs.YtjfmnjhkpkcakaaW.PrintMore

/-! ### what stands at the beginning of bytes -/
def nextOf (l : List Int) : List Int × List Int × Int :=
  if l.length ≤ 8 ∧ anyLow l = false then ([], [], 1)
  else if (takeOf l).2.2 = false ∨ (takeOf l).1 > 65536 then ([], [], 2)
  else if ((takeOf l).2.1.length : Int) < (takeOf l).1 + 4 then ([], [], 1)
  else if endOf (sumOf ((takeOf l).2.1.take (takeOf l).1.toNat)) ≠ ((takeOf l).2.1.take ((takeOf l).1.toNat + 4)).drop (takeOf l).1.toNat then ([], [], 2)
  else ((takeOf l).2.1.take (takeOf l).1.toNat, (takeOf l).2.1.drop ((takeOf l).1.toNat + 4), 0)
theorem strOfNums_inj {a b : List Int} (ha : Byt a) (hb : Byt b) : ((strOfNums a).toList == (strOfNums b).toList) = decide (a = b) := by
  rw [ByteArray.toList_eq, ByteArray.toList_eq]
  have key : ∀ (a b : List Int), Byt a → Byt b → (strOfNums a).data.toList = (strOfNums b).data.toList → a = b := by
    intro a
    induction a with
    | nil => intro b _ hb h; cases b with
      | nil => rfl
      | cons x l => simp [strOfNums] at h
    | cons x l ih => intro b ha hb h; cases b with
      | nil => simp [strOfNums] at h
      | cons y m =>
        simp only [strOfNums, List.map_cons, List.cons.injEq] at h
        obtain ⟨hx, hl⟩ := byt_cons ha
        obtain ⟨hy, hm⟩ := byt_cons hb
        have h1 := congrArg UInt8.toNat h.1
        simp only [UInt8.toNat_ofNat'] at h1
        have : x = y := by omega
        rw [this, ih m hl hm (by simpa [strOfNums] using h.2)]
  by_cases h : a = b
  · subst h; simp
  · rw [decide_eq_false h, beq_eq_false_iff_ne]
    exact fun e => h (key a b ha hb e)
theorem ev_next {l : List Int} (hb : Byt l) (hn : l.length < 140737488351232) : Ev (fun k => sum_Next.f k l) (nextOf l) := by
  unfold nextOf
  have hbg : sum_begun.f l = some (decide (l.length ≤ 8 ∧ anyLow l = false)) := by
    unfold sum_begun.f
    congr 1
    cases anyLow l <;> simp
    omega
  by_cases hg : l.length ≤ 8 ∧ anyLow l = false
  · rw [if_pos hg]
    exact Ev.congr (fun k => by unfold sum_Next.f; rw [hbg, decide_eq_true hg]; rfl) (Ev.now _)
  · rw [if_neg hg]
    obtain ⟨hn0, hrb, hrl, hrt⟩ := tk_spec 9 0 1 l (by omega) (by omega) hb
    refine Ev.congr (f := fun k => (codec_Take.f k l).bind fun bt135 => (if bt135.2.2 = true then (sum_Next.j0 k bt135.1 bt135.2.1 (decide (bt135.1 > 65536))) else (sum_Next.j0 k bt135.1 bt135.2.1 true))) (fun k => by unfold sum_Next.f; rw [hbg, decide_eq_false hg]; rfl) (Ev.bind (ev_take hb (by omega)) ?_)
    rw [show tk 9 0 1 l = takeOf l from rfl] at hn0 hrb hrl hrt
    generalize takeOf l = T at *
    obtain ⟨n, rest, ok⟩ := T
    simp only at *
    cases ok with
    | false =>
      simp only [true_or, if_true]
      refine Ev.congr (fun k => if_neg (by decide)) (Ev.step (f := fun _ => some ([], [], 2)) (fun k => ?_) (Ev.now _))
      simp only [sum_Next.j0, if_true]
    | true =>
      simp only [if_true, Bool.true_eq_false, false_or]
      by_cases h65 : n > 65536
      · rw [if_pos h65, decide_eq_true h65]
        refine Ev.step (f := fun _ => some ([], [], 2)) (fun k => ?_) (Ev.now _)
        simp only [sum_Next.j0, if_true]
      · rw [if_neg h65, decide_eq_false h65]
        obtain ⟨m, rfl⟩ := Int.eq_ofNat_of_zero_le hn0
        have hw : wrap64 ((m : Int) + 4) = ((m + 4 : Nat) : Int) := by rw [w64 (by omega) (by omega)]; rfl
        simp only [Int.toNat_natCast]
        by_cases hs : (rest.length : Int) < (m : Int) + 4
        · rw [if_pos hs]
          refine Ev.step (f := fun _ => some ([], [], 1)) (fun k => ?_) (Ev.now _)
          simp only [sum_Next.j0]
          rw [if_neg (by decide), hw, if_pos (by omega)]
        · rw [if_neg hs]
          have hen : ∀ k, sum_Next.j0 (k + 1) (m : Int) rest false = (sum_ending.f k (rest.take m)).bind fun t144 => ((bytes_Equal.f t144 ((rest.take (m + 4)).drop m)).bind fun t151 => (if t151 = true then ((slices_Clone_byte_byte.f (rest.drop (m + 4))).bind fun t161 => (some (rest.take m, t161, 0))) else (some (([] : List Int), ([] : List Int), 2)))) := by
            intro k
            simp only [sum_Next.j0]
            have b1 : (m : Int) ≤ ((m + 4 : Nat) : Int) := by omega
            have b2 : ((m + 4 : Nat) : Int) ≤ (rest.length : Int) := by omega
            have b3 : (0 : Int) ≤ ((m + 4 : Nat) : Int) := by omega
            rw [if_neg (by decide), hw, if_neg (by omega), if_pos (by omega), if_pos (by omega)]
            simp only [if_pos b1, if_pos b2, if_pos b3, Int.toNat_natCast]
          refine Ev.step hen (Ev.bind (ev_ending (byt_take hrb m) (by rw [List.length_take]; omega)) ?_)
          have hcl : slices_Clone_byte_byte.f (rest.drop (m + 4)) = some (rest.drop (m + 4)) := by
            unfold slices_Clone_byte_byte.f; rw [if_pos (by rw [List.length_drop]; omega)]
          refine Ev.congr (f := fun _ => if endOf (sumOf (rest.take m)) = (rest.take (m + 4)).drop m then some (rest.take m, rest.drop (m + 4), 0) else some ([], [], 2)) (fun k => ?_) ?_
          · rw [show bytes_Equal.f (endOf (sumOf (rest.take m))) ((rest.take (m + 4)).drop m) = some (decide (endOf (sumOf (rest.take m)) = (rest.take (m + 4)).drop m)) from congrArg some (strOfNums_inj (byt_endOf _) (byt_drop (byt_take hrb _) _)), hcl]
            simp only [Option.bind_some, decide_eq_true_eq]
          · by_cases he : endOf (sumOf (rest.take m)) = (rest.take (m + 4)).drop m
            · simp only [if_pos he, if_neg (show ¬ (endOf (sumOf (rest.take m)) ≠ (rest.take (m + 4)).drop m) from fun h => h he)]
              exact Ev.now _
            · simp only [if_neg he, if_pos (show endOf (sumOf (rest.take m)) ≠ (rest.take (m + 4)).drop m from he)]
              exact Ev.now _
end Go.Proofs.Ytjfmnjhkpkcakaa.Pure
