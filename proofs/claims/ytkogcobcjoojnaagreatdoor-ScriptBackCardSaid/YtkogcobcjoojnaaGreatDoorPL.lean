/- Script: the reader's request: plain parts. -/
import Derived.Test.YtkogcobcjoojnaaGreatDoorPK
namespace Go.Proofs.YtkogcobcjoojnaaGreatDoor.Fl
open Go.RowKit Go.Maps
set_option linter.unusedVariables false
set_option linter.unusedSimpArgs false
/-- A reading that takes no word back. -/
def Shr {α : Type} (a : Pr α) : Prop := ∀ ws x r, a ws = some (x, r) → r.length ≤ ws.length
def Shs {α : Type} (a : Pr α) : Prop := ∀ ws x r, a ws = some (x, r) → r.length < ws.length
theorem Shs.shr {α : Type} {a : Pr α} (h : Shs a) : Shr a := fun ws x r e => Nat.le_of_lt (h ws x r e)
theorem Shr.then {α β : Type} {a : Pr α} {f : α → Pr β} (h : Shr a) (hf : ∀ x, Shr (f x)) : Shr (a.then f) := by
  intro ws x r e
  unfold Pr.then at e
  cases ha : a ws with
  | none => rw [ha] at e; cases e
  | some y =>
    obtain ⟨y, r2⟩ := y
    rw [ha] at e
    exact Nat.le_trans (hf y r2 x r e) (h ws y r2 ha)
theorem Shs.then {α β : Type} {a : Pr α} {f : α → Pr β} (h : Shs a) (hf : ∀ x, Shr (f x)) : Shs (a.then f) := by
  intro ws x r e
  unfold Pr.then at e
  cases ha : a ws with
  | none => rw [ha] at e; cases e
  | some y =>
    obtain ⟨y, r2⟩ := y
    rw [ha] at e
    exact Nat.lt_of_le_of_lt (hf y r2 x r e) (h ws y r2 ha)
theorem shr_give {α : Type} (x : α) : Shr (Pr.give x) := fun ws y r e => by
  have := Option.some.inj e
  rw [show r = ws from (congrArg Prod.snd this).symm]
  exact Nat.le_refl _
theorem shs_word : Shs rWord := fun ws x r e => by
  rw [rWord_mem e]
  simp
theorem shr_text : Shr rText := (shs_word.then fun _ => shr_give _).shr
theorem shs_one (l : List ByteArray) : Shs (rOne l) := shs_word.then fun w => fun ws x r e => by
  split at e
  · have := Option.some.inj e
    rw [show r = ws from (congrArg Prod.snd this).symm]
    exact Nat.le_refl _
  · cases e
theorem shr_val : Shr rVal := (shs_word.then fun w => fun ws x r e => by
  split at e
  · have := Option.some.inj e
    rw [show r = ws from (congrArg Prod.snd this).symm]
    exact Nat.le_refl _
  · split at e
    · have := Option.some.inj e
      rw [show r = ws from (congrArg Prod.snd this).symm]
      exact Nat.le_refl _
    · cases e).shr
theorem shs_mut : Shs rMut := (shs_one _).then fun k => by
  split
  · exact shr_give _
  · refine (shs_word.shr).then fun f => ?_
    split
    · exact shr_give _
    · refine shr_text.then fun q => ?_
      split
      · exact shr_give _
      · exact shr_val.then fun v => shr_give _
/-- A row of texts of one's own, in blocks from B to H. -/
def OwnF (B H : Nat) (v : Value) (xs : List ByteArray) (W : World) : Prop := W.ownsRow B 9 1 v xs.length (strs xs) ∧ ∀ g, v.ownBlock = some g → g < H
theorem OwnF.keep {B H : Nat} {v : Value} {xs : List ByteArray} {W W' : World} (h : OwnF B H v xs W) (hk : ∀ g, B ≤ g → g < H → W'.heap[g]? = W.heap[g]?) : OwnF B H v xs W' := by
  obtain ⟨⟨hl, h1⟩, h2⟩ := h
  refine ⟨⟨hl, ?_⟩, h2⟩
  rcases h1 with h0 | ⟨g, cap, cur, hv, hB, hg, r⟩
  · exact Or.inl h0
  · exact Or.inr ⟨g, cap, cur, hv, hB, by rw [hk g hB (h2 g (by rw [hv]; rfl))]; exact hg, r⟩
theorem OwnF.nil (B H : Nat) (W : World) : OwnF B H (.slice none 0 0) [] W := ⟨⟨rfl, Or.inl ⟨rfl, rfl⟩⟩, fun g h => by cases h⟩
theorem rMuts_step (g : Nat) (m : MutE) (r r2 : List ByteArray) (done : List MutE) (hne : r ≠ []) (hm : rMut r = some (m, r2)) (f : List MutE → ReqE) : ((rMuts (g + 1)).then fun l => Pr.give (f (done ++ l))) r = ((rMuts g).then fun l => Pr.give (f ((done ++ [m]) ++ l))) r2 := by
  unfold Pr.then
  rw [rMuts, if_neg hne]
  unfold Pr.then
  rw [hm]
  simp only
  cases h : rMuts g r2 with
  | none => rfl
  | some x =>
    obtain ⟨l, r3⟩ := x
    simp [Pr.give]
theorem rMuts_bad (g : Nat) (r : List ByteArray) (done : List MutE) (hne : r ≠ []) (hm : rMut r = none) (f : List MutE → ReqE) : ((rMuts (g + 1)).then fun l => Pr.give (f (done ++ l))) r = none := by
  unfold Pr.then
  rw [rMuts, if_neg hne]
  unfold Pr.then
  rw [hm]
theorem rMuts_end (g : Nat) (done : List MutE) (f : List MutE → ReqE) : ((rMuts g).then fun l => Pr.give (f (done ++ l))) [] = some (f done, []) := by
  unfold Pr.then
  cases g with
  | zero => rw [rMuts, if_pos rfl]; simp [Pr.give]
  | succ g => rw [rMuts, if_pos rfl]; simp [Pr.give]
def mlist (l : List MutE) : List Value := l.flatMap fun m => (mcells m).toList
theorem mlist_at : ∀ (l : List MutE) (j : Nat) (m : MutE) (r : Nat) (x : Value), l[j]? = some m → (mcells m)[r]? = some x → (mlist l)[j * 6 + r]? = some x
  | [], j, m, r, x, h, _ => by simp at h
  | a :: l, 0, m, r, x, h, hx => by
    have h : a = m := by simpa using h
    subst h
    unfold mlist
    rw [List.flatMap_cons, Nat.zero_mul, Nat.zero_add, List.getElem?_append_left (by
      have := (Array.getElem?_eq_some_iff.1 hx).1
      simpa using this)]
    simpa using hx
  | a :: l, j + 1, m, r, x, h, hx => by
    have ih := mlist_at l j m r x (by simpa using h) hx
    unfold mlist at ih ⊢
    rw [List.flatMap_cons, List.getElem?_append_right (by
      show (mcells a).toList.length ≤ _
      rw [show (mcells a).toList.length = 6 from rfl]
      omega), show (mcells a).toList.length = 6 from rfl, show (j + 1) * 6 + r - 6 = j * 6 + r by omega]
    exact ih
/-- Rows of mutations, as they were made. -/
theorem own_hasM {W : World} {B : Nat} {v : Value} {ms : List MutE} (h : W.ownsRow B 90 6 v ms.length (mlist ms)) : HasM W v ms := by
  have hc := fun g (hg : v.ownBlock = some g) => h.cells hg
  rcases h.2 with ⟨rfl, h0⟩ | ⟨g, cap, cur, rfl, _⟩
  · have : ms = [] := List.length_eq_zero_iff.1 h0
    subst this
    exact ⟨none, 0, rfl, fun j m h => by simp at h⟩
  · have hadd : ∀ j, (⟨g, 0, none⟩ : Addr).add j = ⟨g, j, none⟩ := fun j => by unfold Addr.add; split <;> simp_all
    refine ⟨_, _, rfl, fun j m hj => ⟨_, rfl, ?_, fun r x h1 hx => ?_⟩⟩
    · have := hc g rfl (j * 6) _ (mlist_at ms j m 0 _ hj rfl)
      exact this
    · have := hc g rfl (j * 6 + r) _ (mlist_at ms j m r x hj hx)
      rw [hadd] at this ⊢
      exact this
end Go.Proofs.YtkogcobcjoojnaaGreatDoor.Fl

namespace Go.Proofs.YtkogcobcjoojnaaGreatDoor.Fl
open Go.RowKit Go.Maps
set_option linter.unusedVariables false
set_option linter.unusedSimpArgs false
def qH (ms : Value) (q : ReqE) : List Value := [.int .i64 q.kind, .string q.row, .string q.stop, ms, .string q.fam, .string q.qual]
def qV (ms : Value) (q : ReqE) : List Value := qH ms q ++ (vcells q.vk q.vn q.vs).toList
theorem nqH (ms : Value) (q : ReqE) : (qH ms q).length = 6 := rfl
theorem nqV (ms : Value) (q : ReqE) : (qV ms q).length = 9 := rfl
theorem nF (v : Value) (f : FilE) : (fcells v f).size = 7 := rfl
theorem nFl (v : Value) (f : FilE) : (fcells v f).toList.length = 7 := rfl
theorem zQ_nn : zQ.size = 16 := rfl
set_option maxHeartbeats 8000000 in
set_option maxRecDepth 100000 in
theorem c_rreq {w0 : World} (hg : Gv w0) {p q : Nat} {ws : List ByteArray} {w : World} (h : Rr w0 p q ws w) :
    Calls Tryz.prog 79 #[.pointer (some ⟨p, 0, none⟩)] w fun e w' => RdR (fun f x W => ∃ ms fv B H B0, x = .agg (qcells ms fv f) ∧ W.ownsRow B0 90 6 ms f.muts.length (mlist f.muts) ∧ OwnF B H fv f.fil.fams W ∧ p < B ∧ w.heap.size ≤ B ∧ w.heap.size ≤ B0) (rReq ws) w0 p q w e w' := by
  have szQ := szQ
  have szF := szF
  have szV := szV
  obtain ⟨i9, hi9, hz0, hz1, hz2⟩ := info_parts infoM
  have HG := Lib.hid hg
  have HA0 := Lib.hid (Ra.start h zQ 35)
  have hW1 : w.heap.size + 1 = (w.alloc (.cells zQ 35)).heap.size := by show _ = (w.heap.push _).size; simp
  have HPL := Lib.hid (show w.heap.size + 1 ≠ p by have := h.is.plt; omega)
  clear h hg
  go_enter Tryz.func79, Tryz.ntmps79
  go_wp2_with fail
  refine (c_requests _).mono ?_
  rintro e w2 ⟨rfl, hr2, hb2⟩
  have HA2 := Lib.hid (HA0.out.next hb2)
  rw [← hW1] at hr2 ⊢
  have HM2 := Lib.hid (show Bk (w.heap.size + 1) (strs reqN).toArray 9 w2 from hr2)
  clear hr2 hb2 hW1 HA0
  go_wp2_with fail
  refine (c_rone reqN (w.heap.size + 1) (by decide) HPL.out HM2.out HA2.out.r).mono ?_
  rintro e w3 ⟨⟨k, rest, v, hx, rfl, rfl, h3⟩ | ⟨hx, rfl, hb⟩, hf⟩
  case inr => exact ⟨rfl, Or.inr ⟨by unfold rReq Pr.then; rw [hx], rfl, hb⟩, HA2.out.fr.trans hf⟩
  have HA3 := Lib.hid (HA2.out.call h3 hf)
  have hk := rOne_range hx
  have hk3 : k ≤ 3 := hk.2
  have HX := Lib.hid (show rReq ws = (rText.then fun row =>
  (if k = 3 then rText.then fun sp => rFil.then fun f => Pr.give (sp, noB, noB, ((0 : Int), (0 : Int), noB), f) else if k = 2 then rWord.then fun fam => rText.then fun q => rVal.then fun v => Pr.give (noB, fam, q, v, noFil) else Pr.give (noB, noB, noB, ((0 : Int), (0 : Int), noB), noFil)).then
    fun x ws => (rMuts ws.length |>.then fun ms => Pr.give ⟨k, row, x.1, ms, x.2.1, x.2.2.1, x.2.2.2.1.1, x.2.2.2.1.2.1, x.2.2.2.1.2.2, x.2.2.2.2⟩) ws) rest by unfold rReq Pr.then; rw [hx])
  clear hx h3 hf HA2 HM2 HPL
  have HB4 := Lib.hid (HA3.out.box zQ)
  obtain ⟨W4, hW4⟩ : ∃ W, w3.alloc (.cells zQ 35) = W := ⟨_, rfl⟩
  rw [hW4] at HB4
  have HH4 := Lib.hid (show W4.heap.size = w3.heap.size + 1 by rw [← hW4]; show (w3.heap.push _).size = _; simp)
  go_wp2_with (with_reducible show wpList _ _ _ ({ dst := _, op := Op.store 35 _ _, type := _, pos := _, after := _, guard := _ } :: _) _ _; refine wpList_store_all rfl 35 _ _ rfl w3.heap.size (qcells nilV nilV ⟨k, noB, noB, [], noB, noB, 0, 0, noB, noFil⟩) rfl rfl 35 _ HB4.out.k3 16 szQ (nQ _ _ _) rfl (qcells_one _ _ _ _ _ _ _) ?_; have HB5 := Lib.hid (HB4.out.put (qcells nilV nilV ⟨k, noB, noB, [], noB, noB, 0, 0, noB, noFil⟩)); generalize World.setRow _ w3.heap.size _ = W5 at HB5 ⊢; clear hW4)
  refine (c_rtext HB5.out.a.r).mono ?_
  rintro e w6 ⟨⟨row, rest2, v, hx, rfl, rfl, h6⟩ | ⟨hx, rfl, hb⟩, hf⟩
  case inr => exact ⟨rfl, Or.inr ⟨by rw [HX.out]; unfold Pr.then; rw [hx], rfl, hb⟩, HB5.out.a.fr.trans hf⟩
  have HB6 := Lib.hid (HB5.out.call h6 hf)
  obtain ⟨W7, hW7⟩ : ∃ W, w6.setCell ⟨w3.heap.size, 1, none⟩ (.string row) = W := ⟨_, rfl⟩
  have HB7 := Lib.hid (show Rb w0 w p q rest2 35 w3.heap.size zQ (qcells nilV nilV ⟨k, row, noB, [], noB, noB, 0, 0, noB, noFil⟩) W7 from hW7 ▸ HB6.out.set 1 (.string row))
  have HXl := Lib.hid (show rReq ws = ((if k = 3 then rText.then fun sp => rFil.then fun f => Pr.give (sp, noB, noB, ((0 : Int), (0 : Int), noB), f) else if k = 2 then rWord.then fun fam => rText.then fun q => rVal.then fun v => Pr.give (noB, fam, q, v, noFil) else Pr.give (noB, noB, noB, ((0 : Int), (0 : Int), noB), noFil)).then
    fun x ws => (rMuts ws.length |>.then fun ms => Pr.give ⟨k, row, x.1, ms, x.2.1, x.2.2.1, x.2.2.2.1.1, x.2.2.2.1.2.1, x.2.2.2.1.2.2, x.2.2.2.2⟩) ws) rest2 by rw [HX.out]; unfold Pr.then; rw [hx])
  have y0 := HB6.out.k3.cell 1 (.string noB) rfl
  have f0 := HB6.out.k3.frozen 1
  have x0 := HB7.out.k3.cell 0 (.int .i64 k) rfl
  clear hx h6 hf HX HB4 HB5
  have HPW := Lib.hid (show p < w3.heap.size + 1 by have := HA3.out.r.is.plt; omega)
  have HLB := Lib.hid (show w.heap.size < w3.heap.size from HB7.out.n3)
  have hkk : k = 1 ∨ k = 2 ∨ k = 3 := by omega
  clear hk hk3
  rcases hkk with rfl | rfl | rfl
  · have HXk := Lib.hid (show rReq ws = ((rMuts rest2.length).then fun ms => Pr.give (⟨1, row, noB, ms, noB, noB, 0, 0, noB, noFil⟩ : ReqE)) rest2 by rw [HXl.out]; rfl)
    clear HXl
    have HBP := Lib.hid (show p < w3.heap.size + 1 by have := HB7.out.a.r.is.plt; have := HB6.out.a.r.is.plt; exact HPW.out)
    have HBF := Lib.hid (show w.heap.size < w3.heap.size + 1 by have := HLB.out; omega)
    have HBB3 := Lib.hid (show w3.heap.size < w3.heap.size + 1 by omega)
    generalize hBF : w3.heap.size + 1 = BF at HBP HBF HBB3
    go_wp2_with fail
    clear hW7 y0 f0 x0
    have HZ := Lib.hid (show p < W7.heap.size ∧ q < W7.heap.size ∧ w3.heap.size < W7.heap.size from ⟨HB7.out.a.r.is.plt, HB7.out.a.r.is.lt, HB7.out.k3.lt⟩)
    have HC0 := Lib.hid (show Rc w0 w p q rest2 35 w3.heap.size W7.heap.size zQ (qcells (.slice none 0 0) nilV ⟨1, row, noB, [], noB, noB, 0, 0, noB, noFil⟩) 90 6 (.slice none 0 0) 0 [] W7 from ⟨HB7.out, ⟨rfl, Or.inl ⟨rfl, rfl⟩⟩, HZ.out.2.2, HZ.out.1, HZ.out.2.1, Nat.le_refl _⟩)
    have HO0 := Lib.hid (show OwnF BF W7.heap.size nilV [] W7 from OwnF.nil _ _ _)
    have HR0 := Lib.hid (show rReq ws = ((rMuts rest2.length).then fun l => Pr.give ((fun ms => (⟨1, row, noB, ms, noB, noB, 0, 0, noB, noFil⟩ : ReqE)) ([] ++ l))) rest2 from by rw [HXk.out]; rfl)
    have HLL := Lib.hid (show rest2.length ≤ 1000000 from HB7.out.a.r.is.len)
    obtain ⟨G0, hG0⟩ : ∃ g, rest2.length = g := ⟨_, rfl⟩
    rw [hG0] at HR0 HLL
    have HG0 := Lib.hid (Nat.le_of_eq hG0)
    clear hG0 HB7 HXk
    generalize W7.heap.size = B0 at HC0 HO0
    go_loopg [] G0 (fun gg W => ∃ (done : List MutE) (r : List ByteArray) (vM : Value), Hid (r.length ≤ gg) ∧ Hid (done.length + gg = G0) ∧ Hid (rReq ws = ((rMuts gg).then fun l => Pr.give ((fun ms => (⟨1, row, noB, ms, noB, noB, 0, 0, noB, noFil⟩ : ReqE)) (done ++ l))) r) ∧ Hid (Rc w0 w p q r 35 w3.heap.size B0 zQ (qcells vM nilV ⟨1, row, noB, [], noB, noB, 0, 0, noB, noFil⟩) 90 6 vM done.length (mlist done) W) ∧ Hid (OwnF BF B0 nilV [] W))
    case atStart => exact ⟨[], rest2, .slice none 0 0, HG0, Lib.hid (by simp), HR0, HC0, HO0⟩
    case round =>
      obtain ⟨done, r, vM, HRL, HDG, HXi, HC, HOF⟩ := hrel
      clear HC0 HO0 HR0 HG0
      obtain ⟨ra, rc, hrb, _, _⟩ := HC.out.rb.a.r.is.blk
      have x1 : wr.cell? ⟨p, 0, none⟩ = some (.slice ra r.length rc) := by simp [World.cell?, hrb]
      clear hrb
      by_cases hne : r = []
      · have hl0 : r.length = 0 := by rw [hne]; rfl
        rw [hl0] at x1
        have HXf := Lib.hid (show rReq ws = some (⟨1, row, noB, done, noB, noB, 0, 0, noB, noFil⟩, []) from by have h := HXi.out; rw [hne] at h; exact h.trans (rMuts_end gk done (fun ms => (⟨1, row, noB, ms, noB, noB, 0, 0, noB, noFil⟩ : ReqE))))
        subst hne
        clear HXi
        obtain ⟨ma, mn, mc, rfl⟩ : ∃ a n c, vM = .slice a n c := by
          rcases HC.out.own.2 with ⟨rfl, _⟩ | ⟨g, cap, cur, rfl, _⟩
          · exact ⟨_, _, _, rfl⟩
          · exact ⟨_, _, _, rfl⟩
        have HBB := Lib.hid (And.intro HC.out.hb HC.out.rb.n3)
        go_wp2_with (first | (with_reducible show wpList _ _ _ ({ dst := _, op := Op.load 35 _, type := _, pos := _, after := _, guard := _ } :: _) _ _; refine wpList_load_all rfl 35 _ rfl w3.heap.size rfl 35 (qcells (.slice ma mn mc) nilV ⟨1, row, noB, [], noB, noB, 0, 0, noB, noFil⟩) HC.out.rb.k3 16 szQ (nQ _ _ _) ruQ ?_) | (with_reducible show wpList _ _ _ ({ dst := _, op := Op.store 35 _ _, type := _, pos := _, after := _, guard := _ } :: _) _ _; refine wpList_store_all rfl 35 _ _ rfl w.heap.size (qcells (.slice ma mn mc) nilV ⟨1, row, noB, [], noB, noB, 0, 0, noB, noFil⟩) rfl rfl 35 _ HC.out.rb.a.k2 16 szQ (nQ _ _ _) zQ_nn (qcells_one _ _ _ none 0 0 _) ?_; have HAf := Lib.hid (HC.out.rb.fin (qcells (.slice ma mn mc) nilV ⟨1, row, noB, [], noB, noB, 0, 0, noB, noFil⟩)); have HOf := Lib.hid (own_keep (W' := wr.setRow w.heap.size (qcells (.slice ma mn mc) nilV ⟨1, row, noB, [], noB, noB, 0, 0, noB, noFil⟩)) HC.out.own (fun g hg hl => setRow_other _ _ _ _ (by have := HBB.out; omega))); have HFf := Lib.hid (HOF.out.keep (W' := wr.setRow w.heap.size (qcells (.slice ma mn mc) nilV ⟨1, row, noB, [], noB, noB, 0, 0, noB, noFil⟩)) (fun g hg hl => setRow_other _ _ _ _ (by have := HBF.out; omega))); generalize World.setRow _ w.heap.size _ = Wf at HAf HOf HFf ⊢))
        exact bodyPost_ret (results_cell_row rfl _ _ w.heap.size _ _ (0, 0) _ rfl HAf.out.k2 Tryz.underlying35 rfl szQ) rfl ⟨Or.inl ⟨⟨1, row, noB, done, noB, noB, 0, 0, noB, noFil⟩, [], _, HXf.out, rfl, ⟨.slice ma mn mc, nilV, BF, B0, B0, rfl, HOf.out, HFf.out, HBP.out, Nat.le_of_lt HBF.out, by have := HBB.out; omega⟩, HAf.out.r⟩, HAf.out.fr⟩
      have hpos : 0 < (r.length : Int) := by
        have : r.length ≠ 0 := fun h => hne (List.length_eq_zero_iff.1 h)
        omega
      obtain ⟨g', rfl⟩ : ∃ g', gk = g' + 1 := ⟨gk - 1, by have := HRL.out; omega⟩
      have HNE := Lib.hid hne
      clear hne
      go_wp2_with fail
      have HC1 := Lib.hid (HC.out.next (Below.refl _ _).drew)
      have HF1 := Lib.hid (show OwnF BF B0 nilV [] wr.drew from HOF.out)
      clear HC HOF x1 hpos
      refine wp_region_held_drew (S := fun _ => True) (by kernel_rfl) trivial (fun hHeld => ?_)
      generalize wr.drew = X0 at HC1 HF1 ⊢
      refine tk 0 (v := ?v_1001) ?y1001 ?_; (case y1001 => (refine Or.inl ⟨by rfl, ?_⟩; intro w hSw; go_simp; first | done | with_reducible rfl)); (try simp only [Act.put, List.setIfInBounds_toArray, List.set_cons_zero, List.set_cons_succ])
      refine tk 2 (v := ?v_1002) ?y1002 ?_; (case y1002 => (refine Or.inl ⟨by rfl, ?_⟩; intro w hSw; go_simp; first | done | with_reducible rfl)); (try simp only [Act.put, List.setIfInBounds_toArray, List.set_cons_zero, List.set_cons_succ])
      refine wpAnyH_ready (rs := [1, 3]) (by kernel_rfl) (by simp) ?_
      refine AllReadyH.cons (o := ?o_1003_0) ?hi_1003_0 (fun K hK => ?m_1003_0) (AllReadyH.cons (o := ?o_1003_1) ?hi_1003_1 (fun K hK => ?m_1003_1) (AllReadyH.nil))
      case hi_1003_0 => (simp only [List.getElem?_toArray, List.getElem?_cons_zero, List.getElem?_cons_succ]; rfl)
      case hi_1003_1 => (simp only [List.getElem?_toArray, List.getElem?_cons_zero, List.getElem?_cons_succ]; rfl)
      case m_1003_0 =>
        have x0 := HC1.out.rb.k3.cell 3 vM rfl
        go_simp
        refine hK.out _ _ trivial (fun hHeld => ?_)
        clear hK K
        (try simp only [Act.put, List.setIfInBounds_toArray, List.set_cons_zero, List.set_cons_succ])
        clear x0
        refine wpAnyH_ready (rs := [3]) (by kernel_rfl) (by simp) ?_
        refine AllReadyH.cons (o := ?o_1004_0) ?hi_1004_0 (fun K hK => ?m_1004_0) (AllReadyH.nil)
        case hi_1004_0 => (simp only [List.getElem?_toArray, List.getElem?_cons_zero, List.getElem?_cons_succ]; rfl)
        case m_1004_0 =>
          go_simp
          refine (c_rmut HG.out HC1.out.rb.a.r).mono ?_
          rintro e w6 ⟨⟨m, r2, v, hx, rfl, rfl, h6⟩ | ⟨hx, rfl, hb⟩, hf⟩
          case inr => exact ⟨rfl, Or.inr ⟨HXi.out.trans (rMuts_bad g' r done HNE.out hx (fun ms => (⟨1, row, noB, ms, noB, noB, 0, 0, noB, noFil⟩ : ReqE))), rfl, hb⟩, HC1.out.rb.a.fr.trans hf⟩
          have HC6 := Lib.hid (HC1.out.call h6 hf)
          have HF6 := Lib.hid (show OwnF BF B0 nilV [] w6 from HF1.out.keep (fun g hg hl => hf.keeps g (Nat.lt_of_lt_of_le hl HC1.out.hs) (by have := HBP.out; omega)))
          have HX6 := Lib.hid (show rReq ws = ((rMuts g').then fun l => Pr.give ((fun ms => (⟨1, row, noB, ms, noB, noB, 0, 0, noB, noFil⟩ : ReqE)) ((done ++ [m]) ++ l))) r2 from HXi.out.trans (rMuts_step g' m r r2 done HNE.out hx (fun ms => (⟨1, row, noB, ms, noB, noB, 0, 0, noB, noFil⟩ : ReqE))))
          have HR6 := Lib.hid (show r2.length ≤ g' by have := shs_mut _ _ _ hx; have := HRL.out; omega)
          clear h6 hf hx HC1 HF1 HXi HRL
          refine hK.out _ _ trivial (fun hHeld => ?_)
          clear hK K
          (try simp only [Act.put, List.setIfInBounds_toArray, List.set_cons_zero, List.set_cons_succ])
          refine wpAnyH_ready (rs := [4]) (by kernel_rfl) (by simp) ?_
          refine AllReadyH.cons (o := ?o_1005_0) ?hi_1005_0 (fun K hK => ?m_1005_0) (AllReadyH.nil)
          case hi_1005_0 => (simp only [List.getElem?_toArray, List.getElem?_cons_zero, List.getElem?_cons_succ]; rfl)
          case m_1005_0 =>
            unfold mcells
            go_simp
            have HN7 := Lib.hid (show Bk w6.heap.size (mcells m) 90 (w6.alloc (.cells #[.int .i64 m.kind, .string m.fam, .string m.qual, .int .i64 m.vk, .int .i64 m.vn, .string m.vs] 90)) from Bk.new w6 (mcells m) 90)
            have HC7 := Lib.hid (HC6.out.next (below_box (w := w6) #[.int .i64 m.kind, .string m.fam, .string m.qual, .int .i64 m.vk, .int .i64 m.vn, .string m.vs] 90))
            have HF7 := Lib.hid (show OwnF BF B0 nilV [] (w6.alloc (.cells #[.int .i64 m.kind, .string m.fam, .string m.qual, .int .i64 m.vk, .int .i64 m.vn, .string m.vs] 90)) from HF6.out.keep (fun g hg hl => (below_box (w := w6) #[.int .i64 m.kind, .string m.fam, .string m.qual, .int .i64 m.vk, .int .i64 m.vn, .string m.vs] 90).block g (Nat.lt_of_lt_of_le hl HC6.out.hs)))
            clear HC6 HF6
            generalize w6.heap.size = nb at HN7 ⊢
            generalize w6.alloc (.cells #[.int .i64 m.kind, .string m.fam, .string m.qual, .int .i64 m.vk, .int .i64 m.vn, .string m.vs] 90) = X7 at HN7 HC7 HF7 ⊢
            refine hK.out _ _ trivial (fun hHeld => ?_)
            clear hK K
            (try simp only [Act.put, List.setIfInBounds_toArray, List.set_cons_zero, List.set_cons_succ])
            refine wpAnyH_ready (rs := [5]) (by kernel_rfl) (by simp) ?_
            refine AllReadyH.cons (o := ?o_1006_0) ?hi_1006_0 (fun K hK => ?m_1006_0) (AllReadyH.nil)
            case hi_1006_0 => (simp only [List.getElem?_toArray, List.getElem?_cons_zero, List.getElem?_cons_succ]; rfl)
            case m_1006_0 =>
              rw [if_pos (by rfl)]
              refine wp_append_at (.tmp 39) (.tmp 42) 28 rfl B0 90 i9 (.agg zM) 6 72 Tryz.underlying28 hi9 hz0 hz1 hz2 rfl (by decide) vM done.length (mlist done) rfl HC7.out.own ⟨nb, 0, none⟩ 1 1 (mcells m).toList rfl rfl ?n1 ?o1 ?m1 ?b1 HC7.out.hs ?_
              case n1 =>
                intro j u hj
                have hadd : (⟨nb, 0, none⟩ : Addr).add j = ⟨nb, j, none⟩ := by unfold Addr.add; split <;> simp_all
                rw [hadd]
                exact HN7.out.cell j u (by simpa using hj)
              case o1 => exact fun u hu => (Array.all_eq_true_iff_forall_mem.1 (mcells_one m)) u (by simpa using hu)
              case m1 => have := HDG.out; have := HLL.out; unfold maxLen; omega
              case b1 => have := HDG.out; have := HLL.out; omega
              intro v8 w8 ho hg
              have HF8 := Lib.hid (show OwnF BF B0 nilV [] w8 from HF7.out.keep (fun g hg2 hl => hg.block g (Nat.lt_of_lt_of_le hl HC7.out.hs) (fun e => by have := (HC7.out.own.lt g e.symm).1; omega)))
              have HC8 := Lib.hid (HC7.out.grown ho hg)
              obtain ⟨g8, c8, rfl⟩ : ∃ g cap, v8 = .slice (some ⟨g, 0, none⟩) (done.length + 1) cap := by
                rcases ho.2 with ⟨_, h0⟩ | ⟨g, cap, cur, hv, _⟩
                · omega
                · exact ⟨g, cap, hv⟩
              clear ho hg HC7 HN7 HF7
              refine hK.out _ _ trivial (fun hHeld => ?_)
              clear hK K
              (try simp only [Act.put, List.setIfInBounds_toArray, List.set_cons_zero, List.set_cons_succ])
              refine tk 6 (v := ?v_1007) ?y1007 ?_; (case y1007 => (refine Or.inl ⟨by rfl, ?_⟩; intro w hSw; go_simp; first | done | with_reducible rfl)); (try simp only [Act.put, List.setIfInBounds_toArray, List.set_cons_zero, List.set_cons_succ])
              refine wpAnyH_ready (rs := [7]) (by kernel_rfl) (by simp) ?_
              refine AllReadyH.cons (o := ?o_1008_0) ?hi_1008_0 (fun K hK => ?m_1008_0) (AllReadyH.nil)
              case hi_1008_0 => (simp only [List.getElem?_toArray, List.getElem?_cons_zero, List.getElem?_cons_succ]; rfl)
              case m_1008_0 =>
                have y0 := HC8.out.rb.k3.cell 3 vM rfl
                have f0 := HC8.out.rb.k3.frozen 3
                have HC9 := Lib.hid (show Rc w0 w p q r2 35 w3.heap.size B0 zQ (qcells (.slice (some ⟨g8, 0, none⟩) (done.length + 1) c8) nilV ⟨1, row, noB, [], noB, noB, 0, 0, noB, noFil⟩) 90 6 (.slice (some ⟨g8, 0, none⟩) (done.length + 1) c8) (done ++ [m]).length (mlist (done ++ [m])) (w8.setCell ⟨w3.heap.size, 3, none⟩ (.slice (some ⟨g8, 0, none⟩) (done.length + 1) c8)) from by have := HC8.out.set 3 (.slice (some ⟨g8, 0, none⟩) (done.length + 1) c8); rw [show mlist (done ++ [m]) = mlist done ++ (mcells m).toList by unfold mlist; rw [List.flatMap_append]; simp, show (done ++ [m]).length = done.length + 1 by simp]; exact this)
                have HF9 := Lib.hid (show OwnF BF B0 nilV [] (w8.setCell ⟨w3.heap.size, 3, none⟩ (.slice (some ⟨g8, 0, none⟩) (done.length + 1) c8)) from HF8.out.keep (fun g hg hl => Below.heap_setCell _ _ _ _ (by have := HBB3.out; show g ≠ w3.heap.size; omega)))
                have HDG2 := Lib.hid (show (done ++ [m]).length + g' = G0 by have := HDG.out; simp; omega)
                go_simp
                refine hK.out _ _ trivial (fun hHeld => ?_)
                clear hK K
                (try simp only [Act.put, List.setIfInBounds_toArray, List.set_cons_zero, List.set_cons_succ])
                refine wpAnyH_done (by kernel_rfl) ?_ _
                clear y0 f0
                go_wp2
                go_roundg g'
                case measure => omega
                case rel => exact ⟨done ++ [m], r2, _, HR6, HDG2, HX6, HC9, HF9⟩
      case m_1003_1 =>
        go_simp
        refine (c_rmut HG.out HC1.out.rb.a.r).mono ?_
        rintro e w6 ⟨⟨m, r2, v, hx, rfl, rfl, h6⟩ | ⟨hx, rfl, hb⟩, hf⟩
        case inr => exact ⟨rfl, Or.inr ⟨HXi.out.trans (rMuts_bad g' r done HNE.out hx (fun ms => (⟨1, row, noB, ms, noB, noB, 0, 0, noB, noFil⟩ : ReqE))), rfl, hb⟩, HC1.out.rb.a.fr.trans hf⟩
        have HC6 := Lib.hid (HC1.out.call h6 hf)
        have HF6 := Lib.hid (show OwnF BF B0 nilV [] w6 from HF1.out.keep (fun g hg hl => hf.keeps g (Nat.lt_of_lt_of_le hl HC1.out.hs) (by have := HBP.out; omega)))
        have HX6 := Lib.hid (show rReq ws = ((rMuts g').then fun l => Pr.give ((fun ms => (⟨1, row, noB, ms, noB, noB, 0, 0, noB, noFil⟩ : ReqE)) ((done ++ [m]) ++ l))) r2 from HXi.out.trans (rMuts_step g' m r r2 done HNE.out hx (fun ms => (⟨1, row, noB, ms, noB, noB, 0, 0, noB, noFil⟩ : ReqE))))
        have HR6 := Lib.hid (show r2.length ≤ g' by have := shs_mut _ _ _ hx; have := HRL.out; omega)
        clear h6 hf hx HC1 HF1 HXi HRL
        refine hK.out _ _ trivial (fun hHeld => ?_)
        clear hK K
        (try simp only [Act.put, List.setIfInBounds_toArray, List.set_cons_zero, List.set_cons_succ])
        refine wpAnyH_ready (rs := [1, 4]) (by kernel_rfl) (by simp) ?_
        refine AllReadyH.cons (o := ?o_1009_0) ?hi_1009_0 (fun K hK => ?m_1009_0) (AllReadyH.cons (o := ?o_1009_1) ?hi_1009_1 (fun K hK => ?m_1009_1) (AllReadyH.nil))
        case hi_1009_0 => (simp only [List.getElem?_toArray, List.getElem?_cons_zero, List.getElem?_cons_succ]; rfl)
        case hi_1009_1 => (simp only [List.getElem?_toArray, List.getElem?_cons_zero, List.getElem?_cons_succ]; rfl)
        case m_1009_0 =>
          have x0 := HC6.out.rb.k3.cell 3 vM rfl
          go_simp
          refine hK.out _ _ trivial (fun hHeld => ?_)
          clear hK K
          (try simp only [Act.put, List.setIfInBounds_toArray, List.set_cons_zero, List.set_cons_succ])
          clear x0
          refine wpAnyH_ready (rs := [4]) (by kernel_rfl) (by simp) ?_
          refine AllReadyH.cons (o := ?o_1010_0) ?hi_1010_0 (fun K hK => ?m_1010_0) (AllReadyH.nil)
          case hi_1010_0 => (simp only [List.getElem?_toArray, List.getElem?_cons_zero, List.getElem?_cons_succ]; rfl)
          case m_1010_0 =>
            unfold mcells
            go_simp
            have HN7 := Lib.hid (show Bk w6.heap.size (mcells m) 90 (w6.alloc (.cells #[.int .i64 m.kind, .string m.fam, .string m.qual, .int .i64 m.vk, .int .i64 m.vn, .string m.vs] 90)) from Bk.new w6 (mcells m) 90)
            have HC7 := Lib.hid (HC6.out.next (below_box (w := w6) #[.int .i64 m.kind, .string m.fam, .string m.qual, .int .i64 m.vk, .int .i64 m.vn, .string m.vs] 90))
            have HF7 := Lib.hid (show OwnF BF B0 nilV [] (w6.alloc (.cells #[.int .i64 m.kind, .string m.fam, .string m.qual, .int .i64 m.vk, .int .i64 m.vn, .string m.vs] 90)) from HF6.out.keep (fun g hg hl => (below_box (w := w6) #[.int .i64 m.kind, .string m.fam, .string m.qual, .int .i64 m.vk, .int .i64 m.vn, .string m.vs] 90).block g (Nat.lt_of_lt_of_le hl HC6.out.hs)))
            clear HC6 HF6
            generalize w6.heap.size = nb at HN7 ⊢
            generalize w6.alloc (.cells #[.int .i64 m.kind, .string m.fam, .string m.qual, .int .i64 m.vk, .int .i64 m.vn, .string m.vs] 90) = X7 at HN7 HC7 HF7 ⊢
            refine hK.out _ _ trivial (fun hHeld => ?_)
            clear hK K
            (try simp only [Act.put, List.setIfInBounds_toArray, List.set_cons_zero, List.set_cons_succ])
            refine wpAnyH_ready (rs := [5]) (by kernel_rfl) (by simp) ?_
            refine AllReadyH.cons (o := ?o_1011_0) ?hi_1011_0 (fun K hK => ?m_1011_0) (AllReadyH.nil)
            case hi_1011_0 => (simp only [List.getElem?_toArray, List.getElem?_cons_zero, List.getElem?_cons_succ]; rfl)
            case m_1011_0 =>
              rw [if_pos (by rfl)]
              refine wp_append_at (.tmp 39) (.tmp 42) 28 rfl B0 90 i9 (.agg zM) 6 72 Tryz.underlying28 hi9 hz0 hz1 hz2 rfl (by decide) vM done.length (mlist done) rfl HC7.out.own ⟨nb, 0, none⟩ 1 1 (mcells m).toList rfl rfl ?n1 ?o1 ?m1 ?b1 HC7.out.hs ?_
              case n1 =>
                intro j u hj
                have hadd : (⟨nb, 0, none⟩ : Addr).add j = ⟨nb, j, none⟩ := by unfold Addr.add; split <;> simp_all
                rw [hadd]
                exact HN7.out.cell j u (by simpa using hj)
              case o1 => exact fun u hu => (Array.all_eq_true_iff_forall_mem.1 (mcells_one m)) u (by simpa using hu)
              case m1 => have := HDG.out; have := HLL.out; unfold maxLen; omega
              case b1 => have := HDG.out; have := HLL.out; omega
              intro v8 w8 ho hg
              have HF8 := Lib.hid (show OwnF BF B0 nilV [] w8 from HF7.out.keep (fun g hg2 hl => hg.block g (Nat.lt_of_lt_of_le hl HC7.out.hs) (fun e => by have := (HC7.out.own.lt g e.symm).1; omega)))
              have HC8 := Lib.hid (HC7.out.grown ho hg)
              obtain ⟨g8, c8, rfl⟩ : ∃ g cap, v8 = .slice (some ⟨g, 0, none⟩) (done.length + 1) cap := by
                rcases ho.2 with ⟨_, h0⟩ | ⟨g, cap, cur, hv, _⟩
                · omega
                · exact ⟨g, cap, hv⟩
              clear ho hg HC7 HN7 HF7
              refine hK.out _ _ trivial (fun hHeld => ?_)
              clear hK K
              (try simp only [Act.put, List.setIfInBounds_toArray, List.set_cons_zero, List.set_cons_succ])
              refine tk 6 (v := ?v_1012) ?y1012 ?_; (case y1012 => (refine Or.inl ⟨by rfl, ?_⟩; intro w hSw; go_simp; first | done | with_reducible rfl)); (try simp only [Act.put, List.setIfInBounds_toArray, List.set_cons_zero, List.set_cons_succ])
              refine wpAnyH_ready (rs := [7]) (by kernel_rfl) (by simp) ?_
              refine AllReadyH.cons (o := ?o_1013_0) ?hi_1013_0 (fun K hK => ?m_1013_0) (AllReadyH.nil)
              case hi_1013_0 => (simp only [List.getElem?_toArray, List.getElem?_cons_zero, List.getElem?_cons_succ]; rfl)
              case m_1013_0 =>
                have y0 := HC8.out.rb.k3.cell 3 vM rfl
                have f0 := HC8.out.rb.k3.frozen 3
                have HC9 := Lib.hid (show Rc w0 w p q r2 35 w3.heap.size B0 zQ (qcells (.slice (some ⟨g8, 0, none⟩) (done.length + 1) c8) nilV ⟨1, row, noB, [], noB, noB, 0, 0, noB, noFil⟩) 90 6 (.slice (some ⟨g8, 0, none⟩) (done.length + 1) c8) (done ++ [m]).length (mlist (done ++ [m])) (w8.setCell ⟨w3.heap.size, 3, none⟩ (.slice (some ⟨g8, 0, none⟩) (done.length + 1) c8)) from by have := HC8.out.set 3 (.slice (some ⟨g8, 0, none⟩) (done.length + 1) c8); rw [show mlist (done ++ [m]) = mlist done ++ (mcells m).toList by unfold mlist; rw [List.flatMap_append]; simp, show (done ++ [m]).length = done.length + 1 by simp]; exact this)
                have HF9 := Lib.hid (show OwnF BF B0 nilV [] (w8.setCell ⟨w3.heap.size, 3, none⟩ (.slice (some ⟨g8, 0, none⟩) (done.length + 1) c8)) from HF8.out.keep (fun g hg hl => Below.heap_setCell _ _ _ _ (by have := HBB3.out; show g ≠ w3.heap.size; omega)))
                have HDG2 := Lib.hid (show (done ++ [m]).length + g' = G0 by have := HDG.out; simp; omega)
                go_simp
                refine hK.out _ _ trivial (fun hHeld => ?_)
                clear hK K
                (try simp only [Act.put, List.setIfInBounds_toArray, List.set_cons_zero, List.set_cons_succ])
                refine wpAnyH_done (by kernel_rfl) ?_ _
                clear y0 f0
                go_wp2
                go_roundg g'
                case measure => omega
                case rel => exact ⟨done ++ [m], r2, _, HR6, HDG2, HX6, HC9, HF9⟩
        case m_1009_1 =>
          unfold mcells
          go_simp
          have HN7 := Lib.hid (show Bk w6.heap.size (mcells m) 90 (w6.alloc (.cells #[.int .i64 m.kind, .string m.fam, .string m.qual, .int .i64 m.vk, .int .i64 m.vn, .string m.vs] 90)) from Bk.new w6 (mcells m) 90)
          have HC7 := Lib.hid (HC6.out.next (below_box (w := w6) #[.int .i64 m.kind, .string m.fam, .string m.qual, .int .i64 m.vk, .int .i64 m.vn, .string m.vs] 90))
          have HF7 := Lib.hid (show OwnF BF B0 nilV [] (w6.alloc (.cells #[.int .i64 m.kind, .string m.fam, .string m.qual, .int .i64 m.vk, .int .i64 m.vn, .string m.vs] 90)) from HF6.out.keep (fun g hg hl => (below_box (w := w6) #[.int .i64 m.kind, .string m.fam, .string m.qual, .int .i64 m.vk, .int .i64 m.vn, .string m.vs] 90).block g (Nat.lt_of_lt_of_le hl HC6.out.hs)))
          clear HC6 HF6
          generalize w6.heap.size = nb at HN7 ⊢
          generalize w6.alloc (.cells #[.int .i64 m.kind, .string m.fam, .string m.qual, .int .i64 m.vk, .int .i64 m.vn, .string m.vs] 90) = X7 at HN7 HC7 HF7 ⊢
          refine hK.out _ _ trivial (fun hHeld => ?_)
          clear hK K
          (try simp only [Act.put, List.setIfInBounds_toArray, List.set_cons_zero, List.set_cons_succ])
          refine wpAnyH_ready (rs := [1]) (by kernel_rfl) (by simp) ?_
          refine AllReadyH.cons (o := ?o_1014_0) ?hi_1014_0 (fun K hK => ?m_1014_0) (AllReadyH.nil)
          case hi_1014_0 => (simp only [List.getElem?_toArray, List.getElem?_cons_zero, List.getElem?_cons_succ]; rfl)
          case m_1014_0 =>
            have x0 := HC7.out.rb.k3.cell 3 vM rfl
            go_simp
            refine hK.out _ _ trivial (fun hHeld => ?_)
            clear hK K
            (try simp only [Act.put, List.setIfInBounds_toArray, List.set_cons_zero, List.set_cons_succ])
            clear x0
            refine wpAnyH_ready (rs := [5]) (by kernel_rfl) (by simp) ?_
            refine AllReadyH.cons (o := ?o_1015_0) ?hi_1015_0 (fun K hK => ?m_1015_0) (AllReadyH.nil)
            case hi_1015_0 => (simp only [List.getElem?_toArray, List.getElem?_cons_zero, List.getElem?_cons_succ]; rfl)
            case m_1015_0 =>
              rw [if_pos (by rfl)]
              refine wp_append_at (.tmp 39) (.tmp 42) 28 rfl B0 90 i9 (.agg zM) 6 72 Tryz.underlying28 hi9 hz0 hz1 hz2 rfl (by decide) vM done.length (mlist done) rfl HC7.out.own ⟨nb, 0, none⟩ 1 1 (mcells m).toList rfl rfl ?n1 ?o1 ?m1 ?b1 HC7.out.hs ?_
              case n1 =>
                intro j u hj
                have hadd : (⟨nb, 0, none⟩ : Addr).add j = ⟨nb, j, none⟩ := by unfold Addr.add; split <;> simp_all
                rw [hadd]
                exact HN7.out.cell j u (by simpa using hj)
              case o1 => exact fun u hu => (Array.all_eq_true_iff_forall_mem.1 (mcells_one m)) u (by simpa using hu)
              case m1 => have := HDG.out; have := HLL.out; unfold maxLen; omega
              case b1 => have := HDG.out; have := HLL.out; omega
              intro v8 w8 ho hg
              have HF8 := Lib.hid (show OwnF BF B0 nilV [] w8 from HF7.out.keep (fun g hg2 hl => hg.block g (Nat.lt_of_lt_of_le hl HC7.out.hs) (fun e => by have := (HC7.out.own.lt g e.symm).1; omega)))
              have HC8 := Lib.hid (HC7.out.grown ho hg)
              obtain ⟨g8, c8, rfl⟩ : ∃ g cap, v8 = .slice (some ⟨g, 0, none⟩) (done.length + 1) cap := by
                rcases ho.2 with ⟨_, h0⟩ | ⟨g, cap, cur, hv, _⟩
                · omega
                · exact ⟨g, cap, hv⟩
              clear ho hg HC7 HN7 HF7
              refine hK.out _ _ trivial (fun hHeld => ?_)
              clear hK K
              (try simp only [Act.put, List.setIfInBounds_toArray, List.set_cons_zero, List.set_cons_succ])
              refine tk 6 (v := ?v_1016) ?y1016 ?_; (case y1016 => (refine Or.inl ⟨by rfl, ?_⟩; intro w hSw; go_simp; first | done | with_reducible rfl)); (try simp only [Act.put, List.setIfInBounds_toArray, List.set_cons_zero, List.set_cons_succ])
              refine wpAnyH_ready (rs := [7]) (by kernel_rfl) (by simp) ?_
              refine AllReadyH.cons (o := ?o_1017_0) ?hi_1017_0 (fun K hK => ?m_1017_0) (AllReadyH.nil)
              case hi_1017_0 => (simp only [List.getElem?_toArray, List.getElem?_cons_zero, List.getElem?_cons_succ]; rfl)
              case m_1017_0 =>
                have y0 := HC8.out.rb.k3.cell 3 vM rfl
                have f0 := HC8.out.rb.k3.frozen 3
                have HC9 := Lib.hid (show Rc w0 w p q r2 35 w3.heap.size B0 zQ (qcells (.slice (some ⟨g8, 0, none⟩) (done.length + 1) c8) nilV ⟨1, row, noB, [], noB, noB, 0, 0, noB, noFil⟩) 90 6 (.slice (some ⟨g8, 0, none⟩) (done.length + 1) c8) (done ++ [m]).length (mlist (done ++ [m])) (w8.setCell ⟨w3.heap.size, 3, none⟩ (.slice (some ⟨g8, 0, none⟩) (done.length + 1) c8)) from by have := HC8.out.set 3 (.slice (some ⟨g8, 0, none⟩) (done.length + 1) c8); rw [show mlist (done ++ [m]) = mlist done ++ (mcells m).toList by unfold mlist; rw [List.flatMap_append]; simp, show (done ++ [m]).length = done.length + 1 by simp]; exact this)
                have HF9 := Lib.hid (show OwnF BF B0 nilV [] (w8.setCell ⟨w3.heap.size, 3, none⟩ (.slice (some ⟨g8, 0, none⟩) (done.length + 1) c8)) from HF8.out.keep (fun g hg hl => Below.heap_setCell _ _ _ _ (by have := HBB3.out; show g ≠ w3.heap.size; omega)))
                have HDG2 := Lib.hid (show (done ++ [m]).length + g' = G0 by have := HDG.out; simp; omega)
                go_simp
                refine hK.out _ _ trivial (fun hHeld => ?_)
                clear hK K
                (try simp only [Act.put, List.setIfInBounds_toArray, List.set_cons_zero, List.set_cons_succ])
                refine wpAnyH_done (by kernel_rfl) ?_ _
                clear y0 f0
                go_wp2
                go_roundg g'
                case measure => omega
                case rel => exact ⟨done ++ [m], r2, _, HR6, HDG2, HX6, HC9, HF9⟩
  · have HXk := Lib.hid (show rReq ws = ((rWord.then fun fam => rText.then fun q => rVal.then fun v => Pr.give (noB, fam, q, v, noFil)).then (fun x ws => (rMuts ws.length |>.then fun ms => Pr.give (⟨2, row, x.1, ms, x.2.1, x.2.2.1, x.2.2.2.1.1, x.2.2.2.1.2.1, x.2.2.2.1.2.2, x.2.2.2.2⟩ : ReqE)) ws)) rest2 by rw [HXl.out]; rfl)
    clear HXl
    go_wp2_with fail
    refine (c_rword HB7.out.a.r).mono ?_
    rintro e w8 ⟨⟨fam, rest3, v, hx, rfl, rfl, h6⟩ | ⟨hx, rfl, hb⟩, hf⟩
    case inr => exact ⟨rfl, Or.inr ⟨by rw [HXk.out]; unfold Pr.then; rw [hx], rfl, hb⟩, HB7.out.a.fr.trans hf⟩
    clear hW7 y0 f0 x0
    have HB8 := Lib.hid (HB7.out.call h6 hf)
    obtain ⟨W9, hW9⟩ : ∃ W, w8.setCell ⟨w3.heap.size, 4, none⟩ (.string fam) = W := ⟨_, rfl⟩
    have HB9 := Lib.hid (show Rb w0 w p q rest3 35 w3.heap.size zQ (qcells nilV nilV ⟨2, row, noB, [], fam, noB, 0, 0, noB, noFil⟩) W9 from hW9 ▸ HB8.out.set 4 (.string fam))
    have HXm := Lib.hid (show rReq ws = ((rText.then fun q => rVal.then fun v => Pr.give (noB, fam, q, v, noFil)).then (fun x ws => (rMuts ws.length |>.then fun ms => Pr.give (⟨2, row, x.1, ms, x.2.1, x.2.2.1, x.2.2.2.1.1, x.2.2.2.1.2.1, x.2.2.2.1.2.2, x.2.2.2.2⟩ : ReqE)) ws)) rest3 by rw [HXk.out]; unfold Pr.then; rw [hx]; first | done | rfl)
    clear hx h6 hf HXk
    have y0 := HB8.out.k3.cell 4 (.string noB) rfl
    have f0 := HB8.out.k3.frozen 4
    go_wp2_with fail
    refine (c_rtext HB9.out.a.r).mono ?_
    rintro e w10 ⟨⟨qq, rest4, v, hx, rfl, rfl, h6⟩ | ⟨hx, rfl, hb⟩, hf⟩
    case inr => exact ⟨rfl, Or.inr ⟨by rw [HXm.out]; unfold Pr.then; rw [hx], rfl, hb⟩, HB9.out.a.fr.trans hf⟩
    clear hW9 y0 f0
    have HB10 := Lib.hid (HB9.out.call h6 hf)
    obtain ⟨W11, hW11⟩ : ∃ W, w10.setCell ⟨w3.heap.size, 5, none⟩ (.string qq) = W := ⟨_, rfl⟩
    have HB11 := Lib.hid (show Rb w0 w p q rest4 35 w3.heap.size zQ (qcells nilV nilV ⟨2, row, noB, [], fam, qq, 0, 0, noB, noFil⟩) W11 from hW11 ▸ HB10.out.set 5 (.string qq))
    have HXn := Lib.hid (show rReq ws = ((rVal.then fun v => Pr.give (noB, fam, qq, v, noFil)).then (fun x ws => (rMuts ws.length |>.then fun ms => Pr.give (⟨2, row, x.1, ms, x.2.1, x.2.2.1, x.2.2.2.1.1, x.2.2.2.1.2.1, x.2.2.2.1.2.2, x.2.2.2.2⟩ : ReqE)) ws)) rest4 by rw [HXm.out]; unfold Pr.then; rw [hx]; first | done | rfl)
    clear hx h6 hf HXm
    have y0 := HB10.out.k3.cell 5 (.string noB) rfl
    have f0 := HB10.out.k3.frozen 5
    go_wp2_with fail
    refine (c_rvalue HG.out HB11.out.a.r).mono ?_
    rintro e w12 ⟨⟨⟨vk, vn, vs⟩, rest5, v, hx, rfl, rfl, h6⟩ | ⟨hx, rfl, hb⟩, hf⟩
    case inr => exact ⟨rfl, Or.inr ⟨by rw [HXn.out]; unfold Pr.then; rw [hx], rfl, hb⟩, HB11.out.a.fr.trans hf⟩
    clear hW11 y0 f0
    have HB12 := Lib.hid (HB11.out.call h6 hf)
    have HXo := Lib.hid (show rReq ws = ((rMuts rest5.length).then fun ms => Pr.give (⟨2, row, noB, ms, fam, qq, vk, vn, vs, noFil⟩ : ReqE)) rest5 by rw [HXn.out]; unfold Pr.then; rw [hx]; first | done | rfl)
    clear hx h6 hf HXn
    unfold v3 vv
    simp only
    have HOP := Lib.hid (show Bk w3.heap.size (qH nilV ⟨2, row, noB, [], fam, qq, 0, 0, noB, noFil⟩ ++ (vcells 0 0 noB).toList ++ (fcells nilV noFil).toList).toArray 35 w12 from HB12.out.k3)
    have KP : ∀ {X}, Hid (Rb w0 w p q rest5 35 w3.heap.size zQ (qH nilV ⟨2, row, noB, [], fam, qq, 0, 0, noB, noFil⟩ ++ (vcells vk vn vs).toList ++ (fcells nilV noFil).toList).toArray X) → Hid (Rb w0 w p q rest5 35 w3.heap.size zQ (qcells nilV nilV ⟨2, row, noB, [], fam, qq, vk, vn, vs, noFil⟩) X) := fun h => h
    have HBP := Lib.hid HPW.out
    have HBF := Lib.hid (show w.heap.size < w3.heap.size + 1 by have := HLB.out; omega)
    have HBB3 := Lib.hid (show w3.heap.size < w3.heap.size + 1 by omega)
    generalize hBF : w3.heap.size + 1 = BF at HBP HBF HBB3
    go_wp2_with (with_reducible show wpList _ _ _ ({ dst := _, op := Op.store 30 _ _, type := _, pos := _, after := _, guard := _ } :: _) _ _; refine wpList_store_part rfl 30 _ _ rfl w3.heap.size 6 (vcells vk vn vs) rfl rfl 35 (qH nilV ⟨2, row, noB, [], fam, qq, 0, 0, noB, noFil⟩) (vcells 0 0 noB).toList (fcells nilV noFil).toList HOP.out (nqH _ _) 3 szV (nV _ _ _) (nVl _ _ _) (vcells_one _ _ _) ?_; have HB13 := KP (Lib.hid (HB12.out.put (qH nilV ⟨2, row, noB, [], fam, qq, 0, 0, noB, noFil⟩ ++ (vcells vk vn vs).toList ++ (fcells nilV noFil).toList).toArray)); generalize World.setRow _ w3.heap.size _ = W13 at HB13 ⊢)
    (try simp only [Act.put, List.setIfInBounds_toArray, List.set_cons_zero, List.set_cons_succ])
    have HZ := Lib.hid (show p < W13.heap.size ∧ q < W13.heap.size ∧ w3.heap.size < W13.heap.size from ⟨HB13.out.a.r.is.plt, HB13.out.a.r.is.lt, HB13.out.k3.lt⟩)
    have HC0 := Lib.hid (show Rc w0 w p q rest5 35 w3.heap.size W13.heap.size zQ (qcells (.slice none 0 0) nilV ⟨2, row, noB, [], fam, qq, vk, vn, vs, noFil⟩) 90 6 (.slice none 0 0) 0 [] W13 from ⟨HB13.out, ⟨rfl, Or.inl ⟨rfl, rfl⟩⟩, HZ.out.2.2, HZ.out.1, HZ.out.2.1, Nat.le_refl _⟩)
    have HO0 := Lib.hid (show OwnF BF W13.heap.size nilV [] W13 from OwnF.nil _ _ _)
    have HR0 := Lib.hid (show rReq ws = ((rMuts rest5.length).then fun l => Pr.give ((fun ms => (⟨2, row, noB, ms, fam, qq, vk, vn, vs, noFil⟩ : ReqE)) ([] ++ l))) rest5 from by rw [HXo.out]; rfl)
    have HLL := Lib.hid (show rest5.length ≤ 1000000 from HB13.out.a.r.is.len)
    obtain ⟨G0, hG0⟩ : ∃ g, rest5.length = g := ⟨_, rfl⟩
    rw [hG0] at HR0 HLL
    have HG0 := Lib.hid (Nat.le_of_eq hG0)
    clear hG0 HB13 HXo
    generalize W13.heap.size = B0 at HC0 HO0
    go_loopg [] G0 (fun gg W => ∃ (done : List MutE) (r : List ByteArray) (vM : Value), Hid (r.length ≤ gg) ∧ Hid (done.length + gg = G0) ∧ Hid (rReq ws = ((rMuts gg).then fun l => Pr.give ((fun ms => (⟨2, row, noB, ms, fam, qq, vk, vn, vs, noFil⟩ : ReqE)) (done ++ l))) r) ∧ Hid (Rc w0 w p q r 35 w3.heap.size B0 zQ (qcells vM nilV ⟨2, row, noB, [], fam, qq, vk, vn, vs, noFil⟩) 90 6 vM done.length (mlist done) W) ∧ Hid (OwnF BF B0 nilV [] W))
    case atStart => exact ⟨[], rest5, .slice none 0 0, HG0, Lib.hid (by simp), HR0, HC0, HO0⟩
    case round =>
      obtain ⟨done, r, vM, HRL, HDG, HXi, HC, HOF⟩ := hrel
      clear HC0 HO0 HR0 HG0
      obtain ⟨ra, rc, hrb, _, _⟩ := HC.out.rb.a.r.is.blk
      have x1 : wr.cell? ⟨p, 0, none⟩ = some (.slice ra r.length rc) := by simp [World.cell?, hrb]
      clear hrb
      by_cases hne : r = []
      · have hl0 : r.length = 0 := by rw [hne]; rfl
        rw [hl0] at x1
        have HXf := Lib.hid (show rReq ws = some (⟨2, row, noB, done, fam, qq, vk, vn, vs, noFil⟩, []) from by have h := HXi.out; rw [hne] at h; exact h.trans (rMuts_end gk done (fun ms => (⟨2, row, noB, ms, fam, qq, vk, vn, vs, noFil⟩ : ReqE))))
        subst hne
        clear HXi
        obtain ⟨ma, mn, mc, rfl⟩ : ∃ a n c, vM = .slice a n c := by
          rcases HC.out.own.2 with ⟨rfl, _⟩ | ⟨g, cap, cur, rfl, _⟩
          · exact ⟨_, _, _, rfl⟩
          · exact ⟨_, _, _, rfl⟩
        have HBB := Lib.hid (And.intro HC.out.hb HC.out.rb.n3)
        go_wp2_with (first | (with_reducible show wpList _ _ _ ({ dst := _, op := Op.load 35 _, type := _, pos := _, after := _, guard := _ } :: _) _ _; refine wpList_load_all rfl 35 _ rfl w3.heap.size rfl 35 (qcells (.slice ma mn mc) nilV ⟨2, row, noB, [], fam, qq, vk, vn, vs, noFil⟩) HC.out.rb.k3 16 szQ (nQ _ _ _) ruQ ?_) | (with_reducible show wpList _ _ _ ({ dst := _, op := Op.store 35 _ _, type := _, pos := _, after := _, guard := _ } :: _) _ _; refine wpList_store_all rfl 35 _ _ rfl w.heap.size (qcells (.slice ma mn mc) nilV ⟨2, row, noB, [], fam, qq, vk, vn, vs, noFil⟩) rfl rfl 35 _ HC.out.rb.a.k2 16 szQ (nQ _ _ _) zQ_nn (qcells_one _ _ _ none 0 0 _) ?_; have HAf := Lib.hid (HC.out.rb.fin (qcells (.slice ma mn mc) nilV ⟨2, row, noB, [], fam, qq, vk, vn, vs, noFil⟩)); have HOf := Lib.hid (own_keep (W' := wr.setRow w.heap.size (qcells (.slice ma mn mc) nilV ⟨2, row, noB, [], fam, qq, vk, vn, vs, noFil⟩)) HC.out.own (fun g hg hl => setRow_other _ _ _ _ (by have := HBB.out; omega))); have HFf := Lib.hid (HOF.out.keep (W' := wr.setRow w.heap.size (qcells (.slice ma mn mc) nilV ⟨2, row, noB, [], fam, qq, vk, vn, vs, noFil⟩)) (fun g hg hl => setRow_other _ _ _ _ (by have := HBF.out; omega))); generalize World.setRow _ w.heap.size _ = Wf at HAf HOf HFf ⊢))
        exact bodyPost_ret (results_cell_row rfl _ _ w.heap.size _ _ (0, 0) _ rfl HAf.out.k2 Tryz.underlying35 rfl szQ) rfl ⟨Or.inl ⟨⟨2, row, noB, done, fam, qq, vk, vn, vs, noFil⟩, [], _, HXf.out, rfl, ⟨.slice ma mn mc, nilV, BF, B0, B0, rfl, HOf.out, HFf.out, HBP.out, Nat.le_of_lt HBF.out, by have := HBB.out; omega⟩, HAf.out.r⟩, HAf.out.fr⟩
      have hpos : 0 < (r.length : Int) := by
        have : r.length ≠ 0 := fun h => hne (List.length_eq_zero_iff.1 h)
        omega
      obtain ⟨g', rfl⟩ : ∃ g', gk = g' + 1 := ⟨gk - 1, by have := HRL.out; omega⟩
      have HNE := Lib.hid hne
      clear hne
      go_wp2_with fail
      have HC1 := Lib.hid (HC.out.next (Below.refl _ _).drew)
      have HF1 := Lib.hid (show OwnF BF B0 nilV [] wr.drew from HOF.out)
      clear HC HOF x1 hpos
      refine wp_region_held_drew (S := fun _ => True) (by kernel_rfl) trivial (fun hHeld => ?_)
      generalize wr.drew = X0 at HC1 HF1 ⊢
      refine tk 0 (v := ?v_2018) ?y2018 ?_; (case y2018 => (refine Or.inl ⟨by rfl, ?_⟩; intro w hSw; go_simp; first | done | with_reducible rfl)); (try simp only [Act.put, List.setIfInBounds_toArray, List.set_cons_zero, List.set_cons_succ])
      refine tk 2 (v := ?v_2019) ?y2019 ?_; (case y2019 => (refine Or.inl ⟨by rfl, ?_⟩; intro w hSw; go_simp; first | done | with_reducible rfl)); (try simp only [Act.put, List.setIfInBounds_toArray, List.set_cons_zero, List.set_cons_succ])
      refine wpAnyH_ready (rs := [1, 3]) (by kernel_rfl) (by simp) ?_
      refine AllReadyH.cons (o := ?o_2020_0) ?hi_2020_0 (fun K hK => ?m_2020_0) (AllReadyH.cons (o := ?o_2020_1) ?hi_2020_1 (fun K hK => ?m_2020_1) (AllReadyH.nil))
      case hi_2020_0 => (simp only [List.getElem?_toArray, List.getElem?_cons_zero, List.getElem?_cons_succ]; rfl)
      case hi_2020_1 => (simp only [List.getElem?_toArray, List.getElem?_cons_zero, List.getElem?_cons_succ]; rfl)
      case m_2020_0 =>
        have x0 := HC1.out.rb.k3.cell 3 vM rfl
        go_simp
        refine hK.out _ _ trivial (fun hHeld => ?_)
        clear hK K
        (try simp only [Act.put, List.setIfInBounds_toArray, List.set_cons_zero, List.set_cons_succ])
        clear x0
        refine wpAnyH_ready (rs := [3]) (by kernel_rfl) (by simp) ?_
        refine AllReadyH.cons (o := ?o_2021_0) ?hi_2021_0 (fun K hK => ?m_2021_0) (AllReadyH.nil)
        case hi_2021_0 => (simp only [List.getElem?_toArray, List.getElem?_cons_zero, List.getElem?_cons_succ]; rfl)
        case m_2021_0 =>
          go_simp
          refine (c_rmut HG.out HC1.out.rb.a.r).mono ?_
          rintro e w6 ⟨⟨m, r2, v, hx, rfl, rfl, h6⟩ | ⟨hx, rfl, hb⟩, hf⟩
          case inr => exact ⟨rfl, Or.inr ⟨HXi.out.trans (rMuts_bad g' r done HNE.out hx (fun ms => (⟨2, row, noB, ms, fam, qq, vk, vn, vs, noFil⟩ : ReqE))), rfl, hb⟩, HC1.out.rb.a.fr.trans hf⟩
          have HC6 := Lib.hid (HC1.out.call h6 hf)
          have HF6 := Lib.hid (show OwnF BF B0 nilV [] w6 from HF1.out.keep (fun g hg hl => hf.keeps g (Nat.lt_of_lt_of_le hl HC1.out.hs) (by have := HBP.out; omega)))
          have HX6 := Lib.hid (show rReq ws = ((rMuts g').then fun l => Pr.give ((fun ms => (⟨2, row, noB, ms, fam, qq, vk, vn, vs, noFil⟩ : ReqE)) ((done ++ [m]) ++ l))) r2 from HXi.out.trans (rMuts_step g' m r r2 done HNE.out hx (fun ms => (⟨2, row, noB, ms, fam, qq, vk, vn, vs, noFil⟩ : ReqE))))
          have HR6 := Lib.hid (show r2.length ≤ g' by have := shs_mut _ _ _ hx; have := HRL.out; omega)
          clear h6 hf hx HC1 HF1 HXi HRL
          refine hK.out _ _ trivial (fun hHeld => ?_)
          clear hK K
          (try simp only [Act.put, List.setIfInBounds_toArray, List.set_cons_zero, List.set_cons_succ])
          refine wpAnyH_ready (rs := [4]) (by kernel_rfl) (by simp) ?_
          refine AllReadyH.cons (o := ?o_2022_0) ?hi_2022_0 (fun K hK => ?m_2022_0) (AllReadyH.nil)
          case hi_2022_0 => (simp only [List.getElem?_toArray, List.getElem?_cons_zero, List.getElem?_cons_succ]; rfl)
          case m_2022_0 =>
            unfold mcells
            go_simp
            have HN7 := Lib.hid (show Bk w6.heap.size (mcells m) 90 (w6.alloc (.cells #[.int .i64 m.kind, .string m.fam, .string m.qual, .int .i64 m.vk, .int .i64 m.vn, .string m.vs] 90)) from Bk.new w6 (mcells m) 90)
            have HC7 := Lib.hid (HC6.out.next (below_box (w := w6) #[.int .i64 m.kind, .string m.fam, .string m.qual, .int .i64 m.vk, .int .i64 m.vn, .string m.vs] 90))
            have HF7 := Lib.hid (show OwnF BF B0 nilV [] (w6.alloc (.cells #[.int .i64 m.kind, .string m.fam, .string m.qual, .int .i64 m.vk, .int .i64 m.vn, .string m.vs] 90)) from HF6.out.keep (fun g hg hl => (below_box (w := w6) #[.int .i64 m.kind, .string m.fam, .string m.qual, .int .i64 m.vk, .int .i64 m.vn, .string m.vs] 90).block g (Nat.lt_of_lt_of_le hl HC6.out.hs)))
            clear HC6 HF6
            generalize w6.heap.size = nb at HN7 ⊢
            generalize w6.alloc (.cells #[.int .i64 m.kind, .string m.fam, .string m.qual, .int .i64 m.vk, .int .i64 m.vn, .string m.vs] 90) = X7 at HN7 HC7 HF7 ⊢
            refine hK.out _ _ trivial (fun hHeld => ?_)
            clear hK K
            (try simp only [Act.put, List.setIfInBounds_toArray, List.set_cons_zero, List.set_cons_succ])
            refine wpAnyH_ready (rs := [5]) (by kernel_rfl) (by simp) ?_
            refine AllReadyH.cons (o := ?o_2023_0) ?hi_2023_0 (fun K hK => ?m_2023_0) (AllReadyH.nil)
            case hi_2023_0 => (simp only [List.getElem?_toArray, List.getElem?_cons_zero, List.getElem?_cons_succ]; rfl)
            case m_2023_0 =>
              rw [if_pos (by rfl)]
              refine wp_append_at (.tmp 39) (.tmp 42) 28 rfl B0 90 i9 (.agg zM) 6 72 Tryz.underlying28 hi9 hz0 hz1 hz2 rfl (by decide) vM done.length (mlist done) rfl HC7.out.own ⟨nb, 0, none⟩ 1 1 (mcells m).toList rfl rfl ?n1 ?o1 ?m1 ?b1 HC7.out.hs ?_
              case n1 =>
                intro j u hj
                have hadd : (⟨nb, 0, none⟩ : Addr).add j = ⟨nb, j, none⟩ := by unfold Addr.add; split <;> simp_all
                rw [hadd]
                exact HN7.out.cell j u (by simpa using hj)
              case o1 => exact fun u hu => (Array.all_eq_true_iff_forall_mem.1 (mcells_one m)) u (by simpa using hu)
              case m1 => have := HDG.out; have := HLL.out; unfold maxLen; omega
              case b1 => have := HDG.out; have := HLL.out; omega
              intro v8 w8 ho hg
              have HF8 := Lib.hid (show OwnF BF B0 nilV [] w8 from HF7.out.keep (fun g hg2 hl => hg.block g (Nat.lt_of_lt_of_le hl HC7.out.hs) (fun e => by have := (HC7.out.own.lt g e.symm).1; omega)))
              have HC8 := Lib.hid (HC7.out.grown ho hg)
              obtain ⟨g8, c8, rfl⟩ : ∃ g cap, v8 = .slice (some ⟨g, 0, none⟩) (done.length + 1) cap := by
                rcases ho.2 with ⟨_, h0⟩ | ⟨g, cap, cur, hv, _⟩
                · omega
                · exact ⟨g, cap, hv⟩
              clear ho hg HC7 HN7 HF7
              refine hK.out _ _ trivial (fun hHeld => ?_)
              clear hK K
              (try simp only [Act.put, List.setIfInBounds_toArray, List.set_cons_zero, List.set_cons_succ])
              refine tk 6 (v := ?v_2024) ?y2024 ?_; (case y2024 => (refine Or.inl ⟨by rfl, ?_⟩; intro w hSw; go_simp; first | done | with_reducible rfl)); (try simp only [Act.put, List.setIfInBounds_toArray, List.set_cons_zero, List.set_cons_succ])
              refine wpAnyH_ready (rs := [7]) (by kernel_rfl) (by simp) ?_
              refine AllReadyH.cons (o := ?o_2025_0) ?hi_2025_0 (fun K hK => ?m_2025_0) (AllReadyH.nil)
              case hi_2025_0 => (simp only [List.getElem?_toArray, List.getElem?_cons_zero, List.getElem?_cons_succ]; rfl)
              case m_2025_0 =>
                have y0 := HC8.out.rb.k3.cell 3 vM rfl
                have f0 := HC8.out.rb.k3.frozen 3
                have HC9 := Lib.hid (show Rc w0 w p q r2 35 w3.heap.size B0 zQ (qcells (.slice (some ⟨g8, 0, none⟩) (done.length + 1) c8) nilV ⟨2, row, noB, [], fam, qq, vk, vn, vs, noFil⟩) 90 6 (.slice (some ⟨g8, 0, none⟩) (done.length + 1) c8) (done ++ [m]).length (mlist (done ++ [m])) (w8.setCell ⟨w3.heap.size, 3, none⟩ (.slice (some ⟨g8, 0, none⟩) (done.length + 1) c8)) from by have := HC8.out.set 3 (.slice (some ⟨g8, 0, none⟩) (done.length + 1) c8); rw [show mlist (done ++ [m]) = mlist done ++ (mcells m).toList by unfold mlist; rw [List.flatMap_append]; simp, show (done ++ [m]).length = done.length + 1 by simp]; exact this)
                have HF9 := Lib.hid (show OwnF BF B0 nilV [] (w8.setCell ⟨w3.heap.size, 3, none⟩ (.slice (some ⟨g8, 0, none⟩) (done.length + 1) c8)) from HF8.out.keep (fun g hg hl => Below.heap_setCell _ _ _ _ (by have := HBB3.out; show g ≠ w3.heap.size; omega)))
                have HDG2 := Lib.hid (show (done ++ [m]).length + g' = G0 by have := HDG.out; simp; omega)
                go_simp
                refine hK.out _ _ trivial (fun hHeld => ?_)
                clear hK K
                (try simp only [Act.put, List.setIfInBounds_toArray, List.set_cons_zero, List.set_cons_succ])
                refine wpAnyH_done (by kernel_rfl) ?_ _
                clear y0 f0
                go_wp2
                go_roundg g'
                case measure => omega
                case rel => exact ⟨done ++ [m], r2, _, HR6, HDG2, HX6, HC9, HF9⟩
      case m_2020_1 =>
        go_simp
        refine (c_rmut HG.out HC1.out.rb.a.r).mono ?_
        rintro e w6 ⟨⟨m, r2, v, hx, rfl, rfl, h6⟩ | ⟨hx, rfl, hb⟩, hf⟩
        case inr => exact ⟨rfl, Or.inr ⟨HXi.out.trans (rMuts_bad g' r done HNE.out hx (fun ms => (⟨2, row, noB, ms, fam, qq, vk, vn, vs, noFil⟩ : ReqE))), rfl, hb⟩, HC1.out.rb.a.fr.trans hf⟩
        have HC6 := Lib.hid (HC1.out.call h6 hf)
        have HF6 := Lib.hid (show OwnF BF B0 nilV [] w6 from HF1.out.keep (fun g hg hl => hf.keeps g (Nat.lt_of_lt_of_le hl HC1.out.hs) (by have := HBP.out; omega)))
        have HX6 := Lib.hid (show rReq ws = ((rMuts g').then fun l => Pr.give ((fun ms => (⟨2, row, noB, ms, fam, qq, vk, vn, vs, noFil⟩ : ReqE)) ((done ++ [m]) ++ l))) r2 from HXi.out.trans (rMuts_step g' m r r2 done HNE.out hx (fun ms => (⟨2, row, noB, ms, fam, qq, vk, vn, vs, noFil⟩ : ReqE))))
        have HR6 := Lib.hid (show r2.length ≤ g' by have := shs_mut _ _ _ hx; have := HRL.out; omega)
        clear h6 hf hx HC1 HF1 HXi HRL
        refine hK.out _ _ trivial (fun hHeld => ?_)
        clear hK K
        (try simp only [Act.put, List.setIfInBounds_toArray, List.set_cons_zero, List.set_cons_succ])
        refine wpAnyH_ready (rs := [1, 4]) (by kernel_rfl) (by simp) ?_
        refine AllReadyH.cons (o := ?o_2026_0) ?hi_2026_0 (fun K hK => ?m_2026_0) (AllReadyH.cons (o := ?o_2026_1) ?hi_2026_1 (fun K hK => ?m_2026_1) (AllReadyH.nil))
        case hi_2026_0 => (simp only [List.getElem?_toArray, List.getElem?_cons_zero, List.getElem?_cons_succ]; rfl)
        case hi_2026_1 => (simp only [List.getElem?_toArray, List.getElem?_cons_zero, List.getElem?_cons_succ]; rfl)
        case m_2026_0 =>
          have x0 := HC6.out.rb.k3.cell 3 vM rfl
          go_simp
          refine hK.out _ _ trivial (fun hHeld => ?_)
          clear hK K
          (try simp only [Act.put, List.setIfInBounds_toArray, List.set_cons_zero, List.set_cons_succ])
          clear x0
          refine wpAnyH_ready (rs := [4]) (by kernel_rfl) (by simp) ?_
          refine AllReadyH.cons (o := ?o_2027_0) ?hi_2027_0 (fun K hK => ?m_2027_0) (AllReadyH.nil)
          case hi_2027_0 => (simp only [List.getElem?_toArray, List.getElem?_cons_zero, List.getElem?_cons_succ]; rfl)
          case m_2027_0 =>
            unfold mcells
            go_simp
            have HN7 := Lib.hid (show Bk w6.heap.size (mcells m) 90 (w6.alloc (.cells #[.int .i64 m.kind, .string m.fam, .string m.qual, .int .i64 m.vk, .int .i64 m.vn, .string m.vs] 90)) from Bk.new w6 (mcells m) 90)
            have HC7 := Lib.hid (HC6.out.next (below_box (w := w6) #[.int .i64 m.kind, .string m.fam, .string m.qual, .int .i64 m.vk, .int .i64 m.vn, .string m.vs] 90))
            have HF7 := Lib.hid (show OwnF BF B0 nilV [] (w6.alloc (.cells #[.int .i64 m.kind, .string m.fam, .string m.qual, .int .i64 m.vk, .int .i64 m.vn, .string m.vs] 90)) from HF6.out.keep (fun g hg hl => (below_box (w := w6) #[.int .i64 m.kind, .string m.fam, .string m.qual, .int .i64 m.vk, .int .i64 m.vn, .string m.vs] 90).block g (Nat.lt_of_lt_of_le hl HC6.out.hs)))
            clear HC6 HF6
            generalize w6.heap.size = nb at HN7 ⊢
            generalize w6.alloc (.cells #[.int .i64 m.kind, .string m.fam, .string m.qual, .int .i64 m.vk, .int .i64 m.vn, .string m.vs] 90) = X7 at HN7 HC7 HF7 ⊢
            refine hK.out _ _ trivial (fun hHeld => ?_)
            clear hK K
            (try simp only [Act.put, List.setIfInBounds_toArray, List.set_cons_zero, List.set_cons_succ])
            refine wpAnyH_ready (rs := [5]) (by kernel_rfl) (by simp) ?_
            refine AllReadyH.cons (o := ?o_2028_0) ?hi_2028_0 (fun K hK => ?m_2028_0) (AllReadyH.nil)
            case hi_2028_0 => (simp only [List.getElem?_toArray, List.getElem?_cons_zero, List.getElem?_cons_succ]; rfl)
            case m_2028_0 =>
              rw [if_pos (by rfl)]
              refine wp_append_at (.tmp 39) (.tmp 42) 28 rfl B0 90 i9 (.agg zM) 6 72 Tryz.underlying28 hi9 hz0 hz1 hz2 rfl (by decide) vM done.length (mlist done) rfl HC7.out.own ⟨nb, 0, none⟩ 1 1 (mcells m).toList rfl rfl ?n1 ?o1 ?m1 ?b1 HC7.out.hs ?_
              case n1 =>
                intro j u hj
                have hadd : (⟨nb, 0, none⟩ : Addr).add j = ⟨nb, j, none⟩ := by unfold Addr.add; split <;> simp_all
                rw [hadd]
                exact HN7.out.cell j u (by simpa using hj)
              case o1 => exact fun u hu => (Array.all_eq_true_iff_forall_mem.1 (mcells_one m)) u (by simpa using hu)
              case m1 => have := HDG.out; have := HLL.out; unfold maxLen; omega
              case b1 => have := HDG.out; have := HLL.out; omega
              intro v8 w8 ho hg
              have HF8 := Lib.hid (show OwnF BF B0 nilV [] w8 from HF7.out.keep (fun g hg2 hl => hg.block g (Nat.lt_of_lt_of_le hl HC7.out.hs) (fun e => by have := (HC7.out.own.lt g e.symm).1; omega)))
              have HC8 := Lib.hid (HC7.out.grown ho hg)
              obtain ⟨g8, c8, rfl⟩ : ∃ g cap, v8 = .slice (some ⟨g, 0, none⟩) (done.length + 1) cap := by
                rcases ho.2 with ⟨_, h0⟩ | ⟨g, cap, cur, hv, _⟩
                · omega
                · exact ⟨g, cap, hv⟩
              clear ho hg HC7 HN7 HF7
              refine hK.out _ _ trivial (fun hHeld => ?_)
              clear hK K
              (try simp only [Act.put, List.setIfInBounds_toArray, List.set_cons_zero, List.set_cons_succ])
              refine tk 6 (v := ?v_2029) ?y2029 ?_; (case y2029 => (refine Or.inl ⟨by rfl, ?_⟩; intro w hSw; go_simp; first | done | with_reducible rfl)); (try simp only [Act.put, List.setIfInBounds_toArray, List.set_cons_zero, List.set_cons_succ])
              refine wpAnyH_ready (rs := [7]) (by kernel_rfl) (by simp) ?_
              refine AllReadyH.cons (o := ?o_2030_0) ?hi_2030_0 (fun K hK => ?m_2030_0) (AllReadyH.nil)
              case hi_2030_0 => (simp only [List.getElem?_toArray, List.getElem?_cons_zero, List.getElem?_cons_succ]; rfl)
              case m_2030_0 =>
                have y0 := HC8.out.rb.k3.cell 3 vM rfl
                have f0 := HC8.out.rb.k3.frozen 3
                have HC9 := Lib.hid (show Rc w0 w p q r2 35 w3.heap.size B0 zQ (qcells (.slice (some ⟨g8, 0, none⟩) (done.length + 1) c8) nilV ⟨2, row, noB, [], fam, qq, vk, vn, vs, noFil⟩) 90 6 (.slice (some ⟨g8, 0, none⟩) (done.length + 1) c8) (done ++ [m]).length (mlist (done ++ [m])) (w8.setCell ⟨w3.heap.size, 3, none⟩ (.slice (some ⟨g8, 0, none⟩) (done.length + 1) c8)) from by have := HC8.out.set 3 (.slice (some ⟨g8, 0, none⟩) (done.length + 1) c8); rw [show mlist (done ++ [m]) = mlist done ++ (mcells m).toList by unfold mlist; rw [List.flatMap_append]; simp, show (done ++ [m]).length = done.length + 1 by simp]; exact this)
                have HF9 := Lib.hid (show OwnF BF B0 nilV [] (w8.setCell ⟨w3.heap.size, 3, none⟩ (.slice (some ⟨g8, 0, none⟩) (done.length + 1) c8)) from HF8.out.keep (fun g hg hl => Below.heap_setCell _ _ _ _ (by have := HBB3.out; show g ≠ w3.heap.size; omega)))
                have HDG2 := Lib.hid (show (done ++ [m]).length + g' = G0 by have := HDG.out; simp; omega)
                go_simp
                refine hK.out _ _ trivial (fun hHeld => ?_)
                clear hK K
                (try simp only [Act.put, List.setIfInBounds_toArray, List.set_cons_zero, List.set_cons_succ])
                refine wpAnyH_done (by kernel_rfl) ?_ _
                clear y0 f0
                go_wp2
                go_roundg g'
                case measure => omega
                case rel => exact ⟨done ++ [m], r2, _, HR6, HDG2, HX6, HC9, HF9⟩
        case m_2026_1 =>
          unfold mcells
          go_simp
          have HN7 := Lib.hid (show Bk w6.heap.size (mcells m) 90 (w6.alloc (.cells #[.int .i64 m.kind, .string m.fam, .string m.qual, .int .i64 m.vk, .int .i64 m.vn, .string m.vs] 90)) from Bk.new w6 (mcells m) 90)
          have HC7 := Lib.hid (HC6.out.next (below_box (w := w6) #[.int .i64 m.kind, .string m.fam, .string m.qual, .int .i64 m.vk, .int .i64 m.vn, .string m.vs] 90))
          have HF7 := Lib.hid (show OwnF BF B0 nilV [] (w6.alloc (.cells #[.int .i64 m.kind, .string m.fam, .string m.qual, .int .i64 m.vk, .int .i64 m.vn, .string m.vs] 90)) from HF6.out.keep (fun g hg hl => (below_box (w := w6) #[.int .i64 m.kind, .string m.fam, .string m.qual, .int .i64 m.vk, .int .i64 m.vn, .string m.vs] 90).block g (Nat.lt_of_lt_of_le hl HC6.out.hs)))
          clear HC6 HF6
          generalize w6.heap.size = nb at HN7 ⊢
          generalize w6.alloc (.cells #[.int .i64 m.kind, .string m.fam, .string m.qual, .int .i64 m.vk, .int .i64 m.vn, .string m.vs] 90) = X7 at HN7 HC7 HF7 ⊢
          refine hK.out _ _ trivial (fun hHeld => ?_)
          clear hK K
          (try simp only [Act.put, List.setIfInBounds_toArray, List.set_cons_zero, List.set_cons_succ])
          refine wpAnyH_ready (rs := [1]) (by kernel_rfl) (by simp) ?_
          refine AllReadyH.cons (o := ?o_2031_0) ?hi_2031_0 (fun K hK => ?m_2031_0) (AllReadyH.nil)
          case hi_2031_0 => (simp only [List.getElem?_toArray, List.getElem?_cons_zero, List.getElem?_cons_succ]; rfl)
          case m_2031_0 =>
            have x0 := HC7.out.rb.k3.cell 3 vM rfl
            go_simp
            refine hK.out _ _ trivial (fun hHeld => ?_)
            clear hK K
            (try simp only [Act.put, List.setIfInBounds_toArray, List.set_cons_zero, List.set_cons_succ])
            clear x0
            refine wpAnyH_ready (rs := [5]) (by kernel_rfl) (by simp) ?_
            refine AllReadyH.cons (o := ?o_2032_0) ?hi_2032_0 (fun K hK => ?m_2032_0) (AllReadyH.nil)
            case hi_2032_0 => (simp only [List.getElem?_toArray, List.getElem?_cons_zero, List.getElem?_cons_succ]; rfl)
            case m_2032_0 =>
              rw [if_pos (by rfl)]
              refine wp_append_at (.tmp 39) (.tmp 42) 28 rfl B0 90 i9 (.agg zM) 6 72 Tryz.underlying28 hi9 hz0 hz1 hz2 rfl (by decide) vM done.length (mlist done) rfl HC7.out.own ⟨nb, 0, none⟩ 1 1 (mcells m).toList rfl rfl ?n1 ?o1 ?m1 ?b1 HC7.out.hs ?_
              case n1 =>
                intro j u hj
                have hadd : (⟨nb, 0, none⟩ : Addr).add j = ⟨nb, j, none⟩ := by unfold Addr.add; split <;> simp_all
                rw [hadd]
                exact HN7.out.cell j u (by simpa using hj)
              case o1 => exact fun u hu => (Array.all_eq_true_iff_forall_mem.1 (mcells_one m)) u (by simpa using hu)
              case m1 => have := HDG.out; have := HLL.out; unfold maxLen; omega
              case b1 => have := HDG.out; have := HLL.out; omega
              intro v8 w8 ho hg
              have HF8 := Lib.hid (show OwnF BF B0 nilV [] w8 from HF7.out.keep (fun g hg2 hl => hg.block g (Nat.lt_of_lt_of_le hl HC7.out.hs) (fun e => by have := (HC7.out.own.lt g e.symm).1; omega)))
              have HC8 := Lib.hid (HC7.out.grown ho hg)
              obtain ⟨g8, c8, rfl⟩ : ∃ g cap, v8 = .slice (some ⟨g, 0, none⟩) (done.length + 1) cap := by
                rcases ho.2 with ⟨_, h0⟩ | ⟨g, cap, cur, hv, _⟩
                · omega
                · exact ⟨g, cap, hv⟩
              clear ho hg HC7 HN7 HF7
              refine hK.out _ _ trivial (fun hHeld => ?_)
              clear hK K
              (try simp only [Act.put, List.setIfInBounds_toArray, List.set_cons_zero, List.set_cons_succ])
              refine tk 6 (v := ?v_2033) ?y2033 ?_; (case y2033 => (refine Or.inl ⟨by rfl, ?_⟩; intro w hSw; go_simp; first | done | with_reducible rfl)); (try simp only [Act.put, List.setIfInBounds_toArray, List.set_cons_zero, List.set_cons_succ])
              refine wpAnyH_ready (rs := [7]) (by kernel_rfl) (by simp) ?_
              refine AllReadyH.cons (o := ?o_2034_0) ?hi_2034_0 (fun K hK => ?m_2034_0) (AllReadyH.nil)
              case hi_2034_0 => (simp only [List.getElem?_toArray, List.getElem?_cons_zero, List.getElem?_cons_succ]; rfl)
              case m_2034_0 =>
                have y0 := HC8.out.rb.k3.cell 3 vM rfl
                have f0 := HC8.out.rb.k3.frozen 3
                have HC9 := Lib.hid (show Rc w0 w p q r2 35 w3.heap.size B0 zQ (qcells (.slice (some ⟨g8, 0, none⟩) (done.length + 1) c8) nilV ⟨2, row, noB, [], fam, qq, vk, vn, vs, noFil⟩) 90 6 (.slice (some ⟨g8, 0, none⟩) (done.length + 1) c8) (done ++ [m]).length (mlist (done ++ [m])) (w8.setCell ⟨w3.heap.size, 3, none⟩ (.slice (some ⟨g8, 0, none⟩) (done.length + 1) c8)) from by have := HC8.out.set 3 (.slice (some ⟨g8, 0, none⟩) (done.length + 1) c8); rw [show mlist (done ++ [m]) = mlist done ++ (mcells m).toList by unfold mlist; rw [List.flatMap_append]; simp, show (done ++ [m]).length = done.length + 1 by simp]; exact this)
                have HF9 := Lib.hid (show OwnF BF B0 nilV [] (w8.setCell ⟨w3.heap.size, 3, none⟩ (.slice (some ⟨g8, 0, none⟩) (done.length + 1) c8)) from HF8.out.keep (fun g hg hl => Below.heap_setCell _ _ _ _ (by have := HBB3.out; show g ≠ w3.heap.size; omega)))
                have HDG2 := Lib.hid (show (done ++ [m]).length + g' = G0 by have := HDG.out; simp; omega)
                go_simp
                refine hK.out _ _ trivial (fun hHeld => ?_)
                clear hK K
                (try simp only [Act.put, List.setIfInBounds_toArray, List.set_cons_zero, List.set_cons_succ])
                refine wpAnyH_done (by kernel_rfl) ?_ _
                clear y0 f0
                go_wp2
                go_roundg g'
                case measure => omega
                case rel => exact ⟨done ++ [m], r2, _, HR6, HDG2, HX6, HC9, HF9⟩
  · have HXk := Lib.hid (show rReq ws = ((rText.then fun sp => rFil.then fun f => Pr.give (sp, noB, noB, ((0 : Int), (0 : Int), noB), f)).then (fun x ws => (rMuts ws.length |>.then fun ms => Pr.give (⟨3, row, x.1, ms, x.2.1, x.2.2.1, x.2.2.2.1.1, x.2.2.2.1.2.1, x.2.2.2.1.2.2, x.2.2.2.2⟩ : ReqE)) ws)) rest2 by rw [HXl.out]; rfl)
    clear HXl
    go_wp2_with fail
    refine (c_rtext HB7.out.a.r).mono ?_
    rintro e w8 ⟨⟨sp, rest3, v, hx, rfl, rfl, h6⟩ | ⟨hx, rfl, hb⟩, hf⟩
    case inr => exact ⟨rfl, Or.inr ⟨by rw [HXk.out]; unfold Pr.then; rw [hx], rfl, hb⟩, HB7.out.a.fr.trans hf⟩
    clear hW7 y0 f0 x0
    have HB8 := Lib.hid (HB7.out.call h6 hf)
    obtain ⟨W9, hW9⟩ : ∃ W, w8.setCell ⟨w3.heap.size, 2, none⟩ (.string sp) = W := ⟨_, rfl⟩
    have HB9 := Lib.hid (show Rb w0 w p q rest3 35 w3.heap.size zQ (qcells nilV nilV ⟨3, row, sp, [], noB, noB, 0, 0, noB, noFil⟩) W9 from hW9 ▸ HB8.out.set 2 (.string sp))
    have HXm := Lib.hid (show rReq ws = ((rFil.then fun f => Pr.give (sp, noB, noB, ((0 : Int), (0 : Int), noB), f)).then (fun x ws => (rMuts ws.length |>.then fun ms => Pr.give (⟨3, row, x.1, ms, x.2.1, x.2.2.1, x.2.2.2.1.1, x.2.2.2.1.2.1, x.2.2.2.1.2.2, x.2.2.2.2⟩ : ReqE)) ws)) rest3 by rw [HXk.out]; unfold Pr.then; rw [hx]; first | done | rfl)
    clear hx h6 hf HXk
    have y0 := HB8.out.k3.cell 2 (.string noB) rfl
    have f0 := HB8.out.k3.frozen 2
    go_wp2_with fail
    refine (c_rfil0 HG.out HB9.out.a.r).mono ?_
    rintro e w10 ⟨⟨fil, rest4, v, hx, rfl, hres, h6⟩ | ⟨hx, rfl, hb⟩, hf⟩
    case inr => exact ⟨rfl, Or.inr ⟨by rw [HXm.out]; unfold Pr.then; rw [hx], rfl, hb⟩, HB9.out.a.fr.trans hf⟩
    obtain ⟨sv, BF, rfl, hown, hpB, hwB⟩ := hres
    have HBP := Lib.hid hpB
    have HBB3 := Lib.hid (show w3.heap.size < BF from Nat.lt_of_lt_of_le HB9.out.k3.lt hwB)
    have HBF := Lib.hid (show w.heap.size < BF by have := HLB.out; have := HBB3.out; omega)
    have HON := Lib.hid hown
    obtain ⟨sa, sn, sc, rfl⟩ : ∃ a n c, sv = .slice a n c := by
      rcases hown.2 with ⟨rfl, _⟩ | ⟨g, cap, cur, rfl, _⟩
      · exact ⟨_, _, _, rfl⟩
      · exact ⟨_, _, _, rfl⟩
    clear hW9 y0 f0 hown hpB hwB
    have HB10 := Lib.hid (HB9.out.call h6 hf)
    have HXo := Lib.hid (show rReq ws = ((rMuts rest4.length).then fun ms => Pr.give (⟨3, row, sp, ms, noB, noB, 0, 0, noB, fil⟩ : ReqE)) rest4 by rw [HXm.out]; unfold Pr.then; rw [hx]; first | done | rfl)
    clear hx h6 hf HXm
    have HOP := Lib.hid (show Bk w3.heap.size (qV nilV ⟨3, row, sp, [], noB, noB, 0, 0, noB, noFil⟩ ++ (fcells nilV noFil).toList ++ []).toArray 35 w10 from HB10.out.k3)
    have KP : ∀ {X}, Hid (Rb w0 w p q rest4 35 w3.heap.size zQ (qV nilV ⟨3, row, sp, [], noB, noB, 0, 0, noB, noFil⟩ ++ (fcells (.slice sa sn sc) fil).toList ++ []).toArray X) → Hid (Rb w0 w p q rest4 35 w3.heap.size zQ (qcells nilV (.slice sa sn sc) ⟨3, row, sp, [], noB, noB, 0, 0, noB, fil⟩) X) := fun h => h
    have HON2 := Lib.hid (show OwnF BF (w10.setRow w3.heap.size (qV nilV ⟨3, row, sp, [], noB, noB, 0, 0, noB, noFil⟩ ++ (fcells (.slice sa sn sc) fil).toList ++ []).toArray).heap.size (.slice sa sn sc) fil.fams (w10.setRow w3.heap.size (qV nilV ⟨3, row, sp, [], noB, noB, 0, 0, noB, noFil⟩ ++ (fcells (.slice sa sn sc) fil).toList ++ []).toArray) from ⟨own_keep HON.out (fun g hg hl => setRow_other _ _ _ _ (by have := HBB3.out; omega)), fun g hg => by rw [setRow_size]; exact (HON.out.lt g hg).2⟩)
    go_wp2_with (with_reducible show wpList _ _ _ ({ dst := _, op := Op.store 33 _ _, type := _, pos := _, after := _, guard := _ } :: _) _ _; refine wpList_store_part rfl 33 _ _ rfl w3.heap.size 9 (fcells (.slice sa sn sc) fil) rfl rfl 35 (qV nilV ⟨3, row, sp, [], noB, noB, 0, 0, noB, noFil⟩) (fcells nilV noFil).toList [] HOP.out (nqV _ _) 7 szF (nF _ _) (nFl _ _) (fcells_one _ _ _ _) ?_; have HB13 := KP (Lib.hid (HB10.out.put (qV nilV ⟨3, row, sp, [], noB, noB, 0, 0, noB, noFil⟩ ++ (fcells (.slice sa sn sc) fil).toList ++ []).toArray)); generalize World.setRow _ w3.heap.size _ = W13 at HB13 HON2 ⊢)
    (try simp only [Act.put, List.setIfInBounds_toArray, List.set_cons_zero, List.set_cons_succ])
    have HZ := Lib.hid (show p < W13.heap.size ∧ q < W13.heap.size ∧ w3.heap.size < W13.heap.size from ⟨HB13.out.a.r.is.plt, HB13.out.a.r.is.lt, HB13.out.k3.lt⟩)
    have HC0 := Lib.hid (show Rc w0 w p q rest4 35 w3.heap.size W13.heap.size zQ (qcells (.slice none 0 0) (.slice sa sn sc) ⟨3, row, sp, [], noB, noB, 0, 0, noB, fil⟩) 90 6 (.slice none 0 0) 0 [] W13 from ⟨HB13.out, ⟨rfl, Or.inl ⟨rfl, rfl⟩⟩, HZ.out.2.2, HZ.out.1, HZ.out.2.1, Nat.le_refl _⟩)
    have HO0 := Lib.hid (show OwnF BF W13.heap.size (.slice sa sn sc) fil.fams W13 from HON2.out)
    have HR0 := Lib.hid (show rReq ws = ((rMuts rest4.length).then fun l => Pr.give ((fun ms => (⟨3, row, sp, ms, noB, noB, 0, 0, noB, fil⟩ : ReqE)) ([] ++ l))) rest4 from by rw [HXo.out]; rfl)
    have HLL := Lib.hid (show rest4.length ≤ 1000000 from HB13.out.a.r.is.len)
    obtain ⟨G0, hG0⟩ : ∃ g, rest4.length = g := ⟨_, rfl⟩
    rw [hG0] at HR0 HLL
    have HG0 := Lib.hid (Nat.le_of_eq hG0)
    clear hG0 HB13 HXo
    generalize W13.heap.size = B0 at HC0 HO0
    go_loopg [] G0 (fun gg W => ∃ (done : List MutE) (r : List ByteArray) (vM : Value), Hid (r.length ≤ gg) ∧ Hid (done.length + gg = G0) ∧ Hid (rReq ws = ((rMuts gg).then fun l => Pr.give ((fun ms => (⟨3, row, sp, ms, noB, noB, 0, 0, noB, fil⟩ : ReqE)) (done ++ l))) r) ∧ Hid (Rc w0 w p q r 35 w3.heap.size B0 zQ (qcells vM (.slice sa sn sc) ⟨3, row, sp, [], noB, noB, 0, 0, noB, fil⟩) 90 6 vM done.length (mlist done) W) ∧ Hid (OwnF BF B0 (.slice sa sn sc) fil.fams W))
    case atStart => exact ⟨[], rest4, .slice none 0 0, HG0, Lib.hid (by simp), HR0, HC0, HO0⟩
    case round =>
      obtain ⟨done, r, vM, HRL, HDG, HXi, HC, HOF⟩ := hrel
      clear HC0 HO0 HR0 HG0
      obtain ⟨ra, rc, hrb, _, _⟩ := HC.out.rb.a.r.is.blk
      have x1 : wr.cell? ⟨p, 0, none⟩ = some (.slice ra r.length rc) := by simp [World.cell?, hrb]
      clear hrb
      by_cases hne : r = []
      · have hl0 : r.length = 0 := by rw [hne]; rfl
        rw [hl0] at x1
        have HXf := Lib.hid (show rReq ws = some (⟨3, row, sp, done, noB, noB, 0, 0, noB, fil⟩, []) from by have h := HXi.out; rw [hne] at h; exact h.trans (rMuts_end gk done (fun ms => (⟨3, row, sp, ms, noB, noB, 0, 0, noB, fil⟩ : ReqE))))
        subst hne
        clear HXi
        obtain ⟨ma, mn, mc, rfl⟩ : ∃ a n c, vM = .slice a n c := by
          rcases HC.out.own.2 with ⟨rfl, _⟩ | ⟨g, cap, cur, rfl, _⟩
          · exact ⟨_, _, _, rfl⟩
          · exact ⟨_, _, _, rfl⟩
        have HBB := Lib.hid (And.intro HC.out.hb HC.out.rb.n3)
        go_wp2_with (first | (with_reducible show wpList _ _ _ ({ dst := _, op := Op.load 35 _, type := _, pos := _, after := _, guard := _ } :: _) _ _; refine wpList_load_all rfl 35 _ rfl w3.heap.size rfl 35 (qcells (.slice ma mn mc) (.slice sa sn sc) ⟨3, row, sp, [], noB, noB, 0, 0, noB, fil⟩) HC.out.rb.k3 16 szQ (nQ _ _ _) ruQ ?_) | (with_reducible show wpList _ _ _ ({ dst := _, op := Op.store 35 _ _, type := _, pos := _, after := _, guard := _ } :: _) _ _; refine wpList_store_all rfl 35 _ _ rfl w.heap.size (qcells (.slice ma mn mc) (.slice sa sn sc) ⟨3, row, sp, [], noB, noB, 0, 0, noB, fil⟩) rfl rfl 35 _ HC.out.rb.a.k2 16 szQ (nQ _ _ _) zQ_nn (qcells_one _ _ _ _ _ _ _) ?_; have HAf := Lib.hid (HC.out.rb.fin (qcells (.slice ma mn mc) (.slice sa sn sc) ⟨3, row, sp, [], noB, noB, 0, 0, noB, fil⟩)); have HOf := Lib.hid (own_keep (W' := wr.setRow w.heap.size (qcells (.slice ma mn mc) (.slice sa sn sc) ⟨3, row, sp, [], noB, noB, 0, 0, noB, fil⟩)) HC.out.own (fun g hg hl => setRow_other _ _ _ _ (by have := HBB.out; omega))); have HFf := Lib.hid (HOF.out.keep (W' := wr.setRow w.heap.size (qcells (.slice ma mn mc) (.slice sa sn sc) ⟨3, row, sp, [], noB, noB, 0, 0, noB, fil⟩)) (fun g hg hl => setRow_other _ _ _ _ (by have := HBF.out; omega))); generalize World.setRow _ w.heap.size _ = Wf at HAf HOf HFf ⊢))
        exact bodyPost_ret (results_cell_row rfl _ _ w.heap.size _ _ (0, 0) _ rfl HAf.out.k2 Tryz.underlying35 rfl szQ) rfl ⟨Or.inl ⟨⟨3, row, sp, done, noB, noB, 0, 0, noB, fil⟩, [], _, HXf.out, rfl, ⟨.slice ma mn mc, (.slice sa sn sc), BF, B0, B0, rfl, HOf.out, HFf.out, HBP.out, Nat.le_of_lt HBF.out, by have := HBB.out; omega⟩, HAf.out.r⟩, HAf.out.fr⟩
      have hpos : 0 < (r.length : Int) := by
        have : r.length ≠ 0 := fun h => hne (List.length_eq_zero_iff.1 h)
        omega
      obtain ⟨g', rfl⟩ : ∃ g', gk = g' + 1 := ⟨gk - 1, by have := HRL.out; omega⟩
      have HNE := Lib.hid hne
      clear hne
      go_wp2_with fail
      have HC1 := Lib.hid (HC.out.next (Below.refl _ _).drew)
      have HF1 := Lib.hid (show OwnF BF B0 (.slice sa sn sc) fil.fams wr.drew from HOF.out)
      clear HC HOF x1 hpos
      refine wp_region_held_drew (S := fun _ => True) (by kernel_rfl) trivial (fun hHeld => ?_)
      generalize wr.drew = X0 at HC1 HF1 ⊢
      refine tk 0 (v := ?v_3035) ?y3035 ?_; (case y3035 => (refine Or.inl ⟨by rfl, ?_⟩; intro w hSw; go_simp; first | done | with_reducible rfl)); (try simp only [Act.put, List.setIfInBounds_toArray, List.set_cons_zero, List.set_cons_succ])
      refine tk 2 (v := ?v_3036) ?y3036 ?_; (case y3036 => (refine Or.inl ⟨by rfl, ?_⟩; intro w hSw; go_simp; first | done | with_reducible rfl)); (try simp only [Act.put, List.setIfInBounds_toArray, List.set_cons_zero, List.set_cons_succ])
      refine wpAnyH_ready (rs := [1, 3]) (by kernel_rfl) (by simp) ?_
      refine AllReadyH.cons (o := ?o_3037_0) ?hi_3037_0 (fun K hK => ?m_3037_0) (AllReadyH.cons (o := ?o_3037_1) ?hi_3037_1 (fun K hK => ?m_3037_1) (AllReadyH.nil))
      case hi_3037_0 => (simp only [List.getElem?_toArray, List.getElem?_cons_zero, List.getElem?_cons_succ]; rfl)
      case hi_3037_1 => (simp only [List.getElem?_toArray, List.getElem?_cons_zero, List.getElem?_cons_succ]; rfl)
      case m_3037_0 =>
        have x0 := HC1.out.rb.k3.cell 3 vM rfl
        go_simp
        refine hK.out _ _ trivial (fun hHeld => ?_)
        clear hK K
        (try simp only [Act.put, List.setIfInBounds_toArray, List.set_cons_zero, List.set_cons_succ])
        clear x0
        refine wpAnyH_ready (rs := [3]) (by kernel_rfl) (by simp) ?_
        refine AllReadyH.cons (o := ?o_3038_0) ?hi_3038_0 (fun K hK => ?m_3038_0) (AllReadyH.nil)
        case hi_3038_0 => (simp only [List.getElem?_toArray, List.getElem?_cons_zero, List.getElem?_cons_succ]; rfl)
        case m_3038_0 =>
          go_simp
          refine (c_rmut HG.out HC1.out.rb.a.r).mono ?_
          rintro e w6 ⟨⟨m, r2, v, hx, rfl, rfl, h6⟩ | ⟨hx, rfl, hb⟩, hf⟩
          case inr => exact ⟨rfl, Or.inr ⟨HXi.out.trans (rMuts_bad g' r done HNE.out hx (fun ms => (⟨3, row, sp, ms, noB, noB, 0, 0, noB, fil⟩ : ReqE))), rfl, hb⟩, HC1.out.rb.a.fr.trans hf⟩
          have HC6 := Lib.hid (HC1.out.call h6 hf)
          have HF6 := Lib.hid (show OwnF BF B0 (.slice sa sn sc) fil.fams w6 from HF1.out.keep (fun g hg hl => hf.keeps g (Nat.lt_of_lt_of_le hl HC1.out.hs) (by have := HBP.out; omega)))
          have HX6 := Lib.hid (show rReq ws = ((rMuts g').then fun l => Pr.give ((fun ms => (⟨3, row, sp, ms, noB, noB, 0, 0, noB, fil⟩ : ReqE)) ((done ++ [m]) ++ l))) r2 from HXi.out.trans (rMuts_step g' m r r2 done HNE.out hx (fun ms => (⟨3, row, sp, ms, noB, noB, 0, 0, noB, fil⟩ : ReqE))))
          have HR6 := Lib.hid (show r2.length ≤ g' by have := shs_mut _ _ _ hx; have := HRL.out; omega)
          clear h6 hf hx HC1 HF1 HXi HRL
          refine hK.out _ _ trivial (fun hHeld => ?_)
          clear hK K
          (try simp only [Act.put, List.setIfInBounds_toArray, List.set_cons_zero, List.set_cons_succ])
          refine wpAnyH_ready (rs := [4]) (by kernel_rfl) (by simp) ?_
          refine AllReadyH.cons (o := ?o_3039_0) ?hi_3039_0 (fun K hK => ?m_3039_0) (AllReadyH.nil)
          case hi_3039_0 => (simp only [List.getElem?_toArray, List.getElem?_cons_zero, List.getElem?_cons_succ]; rfl)
          case m_3039_0 =>
            unfold mcells
            go_simp
            have HN7 := Lib.hid (show Bk w6.heap.size (mcells m) 90 (w6.alloc (.cells #[.int .i64 m.kind, .string m.fam, .string m.qual, .int .i64 m.vk, .int .i64 m.vn, .string m.vs] 90)) from Bk.new w6 (mcells m) 90)
            have HC7 := Lib.hid (HC6.out.next (below_box (w := w6) #[.int .i64 m.kind, .string m.fam, .string m.qual, .int .i64 m.vk, .int .i64 m.vn, .string m.vs] 90))
            have HF7 := Lib.hid (show OwnF BF B0 (.slice sa sn sc) fil.fams (w6.alloc (.cells #[.int .i64 m.kind, .string m.fam, .string m.qual, .int .i64 m.vk, .int .i64 m.vn, .string m.vs] 90)) from HF6.out.keep (fun g hg hl => (below_box (w := w6) #[.int .i64 m.kind, .string m.fam, .string m.qual, .int .i64 m.vk, .int .i64 m.vn, .string m.vs] 90).block g (Nat.lt_of_lt_of_le hl HC6.out.hs)))
            clear HC6 HF6
            generalize w6.heap.size = nb at HN7 ⊢
            generalize w6.alloc (.cells #[.int .i64 m.kind, .string m.fam, .string m.qual, .int .i64 m.vk, .int .i64 m.vn, .string m.vs] 90) = X7 at HN7 HC7 HF7 ⊢
            refine hK.out _ _ trivial (fun hHeld => ?_)
            clear hK K
            (try simp only [Act.put, List.setIfInBounds_toArray, List.set_cons_zero, List.set_cons_succ])
            refine wpAnyH_ready (rs := [5]) (by kernel_rfl) (by simp) ?_
            refine AllReadyH.cons (o := ?o_3040_0) ?hi_3040_0 (fun K hK => ?m_3040_0) (AllReadyH.nil)
            case hi_3040_0 => (simp only [List.getElem?_toArray, List.getElem?_cons_zero, List.getElem?_cons_succ]; rfl)
            case m_3040_0 =>
              rw [if_pos (by rfl)]
              refine wp_append_at (.tmp 39) (.tmp 42) 28 rfl B0 90 i9 (.agg zM) 6 72 Tryz.underlying28 hi9 hz0 hz1 hz2 rfl (by decide) vM done.length (mlist done) rfl HC7.out.own ⟨nb, 0, none⟩ 1 1 (mcells m).toList rfl rfl ?n1 ?o1 ?m1 ?b1 HC7.out.hs ?_
              case n1 =>
                intro j u hj
                have hadd : (⟨nb, 0, none⟩ : Addr).add j = ⟨nb, j, none⟩ := by unfold Addr.add; split <;> simp_all
                rw [hadd]
                exact HN7.out.cell j u (by simpa using hj)
              case o1 => exact fun u hu => (Array.all_eq_true_iff_forall_mem.1 (mcells_one m)) u (by simpa using hu)
              case m1 => have := HDG.out; have := HLL.out; unfold maxLen; omega
              case b1 => have := HDG.out; have := HLL.out; omega
              intro v8 w8 ho hg
              have HF8 := Lib.hid (show OwnF BF B0 (.slice sa sn sc) fil.fams w8 from HF7.out.keep (fun g hg2 hl => hg.block g (Nat.lt_of_lt_of_le hl HC7.out.hs) (fun e => by have := (HC7.out.own.lt g e.symm).1; omega)))
              have HC8 := Lib.hid (HC7.out.grown ho hg)
              obtain ⟨g8, c8, rfl⟩ : ∃ g cap, v8 = .slice (some ⟨g, 0, none⟩) (done.length + 1) cap := by
                rcases ho.2 with ⟨_, h0⟩ | ⟨g, cap, cur, hv, _⟩
                · omega
                · exact ⟨g, cap, hv⟩
              clear ho hg HC7 HN7 HF7
              refine hK.out _ _ trivial (fun hHeld => ?_)
              clear hK K
              (try simp only [Act.put, List.setIfInBounds_toArray, List.set_cons_zero, List.set_cons_succ])
              refine tk 6 (v := ?v_3041) ?y3041 ?_; (case y3041 => (refine Or.inl ⟨by rfl, ?_⟩; intro w hSw; go_simp; first | done | with_reducible rfl)); (try simp only [Act.put, List.setIfInBounds_toArray, List.set_cons_zero, List.set_cons_succ])
              refine wpAnyH_ready (rs := [7]) (by kernel_rfl) (by simp) ?_
              refine AllReadyH.cons (o := ?o_3042_0) ?hi_3042_0 (fun K hK => ?m_3042_0) (AllReadyH.nil)
              case hi_3042_0 => (simp only [List.getElem?_toArray, List.getElem?_cons_zero, List.getElem?_cons_succ]; rfl)
              case m_3042_0 =>
                have y0 := HC8.out.rb.k3.cell 3 vM rfl
                have f0 := HC8.out.rb.k3.frozen 3
                have HC9 := Lib.hid (show Rc w0 w p q r2 35 w3.heap.size B0 zQ (qcells (.slice (some ⟨g8, 0, none⟩) (done.length + 1) c8) (.slice sa sn sc) ⟨3, row, sp, [], noB, noB, 0, 0, noB, fil⟩) 90 6 (.slice (some ⟨g8, 0, none⟩) (done.length + 1) c8) (done ++ [m]).length (mlist (done ++ [m])) (w8.setCell ⟨w3.heap.size, 3, none⟩ (.slice (some ⟨g8, 0, none⟩) (done.length + 1) c8)) from by have := HC8.out.set 3 (.slice (some ⟨g8, 0, none⟩) (done.length + 1) c8); rw [show mlist (done ++ [m]) = mlist done ++ (mcells m).toList by unfold mlist; rw [List.flatMap_append]; simp, show (done ++ [m]).length = done.length + 1 by simp]; exact this)
                have HF9 := Lib.hid (show OwnF BF B0 (.slice sa sn sc) fil.fams (w8.setCell ⟨w3.heap.size, 3, none⟩ (.slice (some ⟨g8, 0, none⟩) (done.length + 1) c8)) from HF8.out.keep (fun g hg hl => Below.heap_setCell _ _ _ _ (by have := HBB3.out; show g ≠ w3.heap.size; omega)))
                have HDG2 := Lib.hid (show (done ++ [m]).length + g' = G0 by have := HDG.out; simp; omega)
                go_simp
                refine hK.out _ _ trivial (fun hHeld => ?_)
                clear hK K
                (try simp only [Act.put, List.setIfInBounds_toArray, List.set_cons_zero, List.set_cons_succ])
                refine wpAnyH_done (by kernel_rfl) ?_ _
                clear y0 f0
                go_wp2
                go_roundg g'
                case measure => omega
                case rel => exact ⟨done ++ [m], r2, _, HR6, HDG2, HX6, HC9, HF9⟩
      case m_3037_1 =>
        go_simp
        refine (c_rmut HG.out HC1.out.rb.a.r).mono ?_
        rintro e w6 ⟨⟨m, r2, v, hx, rfl, rfl, h6⟩ | ⟨hx, rfl, hb⟩, hf⟩
        case inr => exact ⟨rfl, Or.inr ⟨HXi.out.trans (rMuts_bad g' r done HNE.out hx (fun ms => (⟨3, row, sp, ms, noB, noB, 0, 0, noB, fil⟩ : ReqE))), rfl, hb⟩, HC1.out.rb.a.fr.trans hf⟩
        have HC6 := Lib.hid (HC1.out.call h6 hf)
        have HF6 := Lib.hid (show OwnF BF B0 (.slice sa sn sc) fil.fams w6 from HF1.out.keep (fun g hg hl => hf.keeps g (Nat.lt_of_lt_of_le hl HC1.out.hs) (by have := HBP.out; omega)))
        have HX6 := Lib.hid (show rReq ws = ((rMuts g').then fun l => Pr.give ((fun ms => (⟨3, row, sp, ms, noB, noB, 0, 0, noB, fil⟩ : ReqE)) ((done ++ [m]) ++ l))) r2 from HXi.out.trans (rMuts_step g' m r r2 done HNE.out hx (fun ms => (⟨3, row, sp, ms, noB, noB, 0, 0, noB, fil⟩ : ReqE))))
        have HR6 := Lib.hid (show r2.length ≤ g' by have := shs_mut _ _ _ hx; have := HRL.out; omega)
        clear h6 hf hx HC1 HF1 HXi HRL
        refine hK.out _ _ trivial (fun hHeld => ?_)
        clear hK K
        (try simp only [Act.put, List.setIfInBounds_toArray, List.set_cons_zero, List.set_cons_succ])
        refine wpAnyH_ready (rs := [1, 4]) (by kernel_rfl) (by simp) ?_
        refine AllReadyH.cons (o := ?o_3043_0) ?hi_3043_0 (fun K hK => ?m_3043_0) (AllReadyH.cons (o := ?o_3043_1) ?hi_3043_1 (fun K hK => ?m_3043_1) (AllReadyH.nil))
        case hi_3043_0 => (simp only [List.getElem?_toArray, List.getElem?_cons_zero, List.getElem?_cons_succ]; rfl)
        case hi_3043_1 => (simp only [List.getElem?_toArray, List.getElem?_cons_zero, List.getElem?_cons_succ]; rfl)
        case m_3043_0 =>
          have x0 := HC6.out.rb.k3.cell 3 vM rfl
          go_simp
          refine hK.out _ _ trivial (fun hHeld => ?_)
          clear hK K
          (try simp only [Act.put, List.setIfInBounds_toArray, List.set_cons_zero, List.set_cons_succ])
          clear x0
          refine wpAnyH_ready (rs := [4]) (by kernel_rfl) (by simp) ?_
          refine AllReadyH.cons (o := ?o_3044_0) ?hi_3044_0 (fun K hK => ?m_3044_0) (AllReadyH.nil)
          case hi_3044_0 => (simp only [List.getElem?_toArray, List.getElem?_cons_zero, List.getElem?_cons_succ]; rfl)
          case m_3044_0 =>
            unfold mcells
            go_simp
            have HN7 := Lib.hid (show Bk w6.heap.size (mcells m) 90 (w6.alloc (.cells #[.int .i64 m.kind, .string m.fam, .string m.qual, .int .i64 m.vk, .int .i64 m.vn, .string m.vs] 90)) from Bk.new w6 (mcells m) 90)
            have HC7 := Lib.hid (HC6.out.next (below_box (w := w6) #[.int .i64 m.kind, .string m.fam, .string m.qual, .int .i64 m.vk, .int .i64 m.vn, .string m.vs] 90))
            have HF7 := Lib.hid (show OwnF BF B0 (.slice sa sn sc) fil.fams (w6.alloc (.cells #[.int .i64 m.kind, .string m.fam, .string m.qual, .int .i64 m.vk, .int .i64 m.vn, .string m.vs] 90)) from HF6.out.keep (fun g hg hl => (below_box (w := w6) #[.int .i64 m.kind, .string m.fam, .string m.qual, .int .i64 m.vk, .int .i64 m.vn, .string m.vs] 90).block g (Nat.lt_of_lt_of_le hl HC6.out.hs)))
            clear HC6 HF6
            generalize w6.heap.size = nb at HN7 ⊢
            generalize w6.alloc (.cells #[.int .i64 m.kind, .string m.fam, .string m.qual, .int .i64 m.vk, .int .i64 m.vn, .string m.vs] 90) = X7 at HN7 HC7 HF7 ⊢
            refine hK.out _ _ trivial (fun hHeld => ?_)
            clear hK K
            (try simp only [Act.put, List.setIfInBounds_toArray, List.set_cons_zero, List.set_cons_succ])
            refine wpAnyH_ready (rs := [5]) (by kernel_rfl) (by simp) ?_
            refine AllReadyH.cons (o := ?o_3045_0) ?hi_3045_0 (fun K hK => ?m_3045_0) (AllReadyH.nil)
            case hi_3045_0 => (simp only [List.getElem?_toArray, List.getElem?_cons_zero, List.getElem?_cons_succ]; rfl)
            case m_3045_0 =>
              rw [if_pos (by rfl)]
              refine wp_append_at (.tmp 39) (.tmp 42) 28 rfl B0 90 i9 (.agg zM) 6 72 Tryz.underlying28 hi9 hz0 hz1 hz2 rfl (by decide) vM done.length (mlist done) rfl HC7.out.own ⟨nb, 0, none⟩ 1 1 (mcells m).toList rfl rfl ?n1 ?o1 ?m1 ?b1 HC7.out.hs ?_
              case n1 =>
                intro j u hj
                have hadd : (⟨nb, 0, none⟩ : Addr).add j = ⟨nb, j, none⟩ := by unfold Addr.add; split <;> simp_all
                rw [hadd]
                exact HN7.out.cell j u (by simpa using hj)
              case o1 => exact fun u hu => (Array.all_eq_true_iff_forall_mem.1 (mcells_one m)) u (by simpa using hu)
              case m1 => have := HDG.out; have := HLL.out; unfold maxLen; omega
              case b1 => have := HDG.out; have := HLL.out; omega
              intro v8 w8 ho hg
              have HF8 := Lib.hid (show OwnF BF B0 (.slice sa sn sc) fil.fams w8 from HF7.out.keep (fun g hg2 hl => hg.block g (Nat.lt_of_lt_of_le hl HC7.out.hs) (fun e => by have := (HC7.out.own.lt g e.symm).1; omega)))
              have HC8 := Lib.hid (HC7.out.grown ho hg)
              obtain ⟨g8, c8, rfl⟩ : ∃ g cap, v8 = .slice (some ⟨g, 0, none⟩) (done.length + 1) cap := by
                rcases ho.2 with ⟨_, h0⟩ | ⟨g, cap, cur, hv, _⟩
                · omega
                · exact ⟨g, cap, hv⟩
              clear ho hg HC7 HN7 HF7
              refine hK.out _ _ trivial (fun hHeld => ?_)
              clear hK K
              (try simp only [Act.put, List.setIfInBounds_toArray, List.set_cons_zero, List.set_cons_succ])
              refine tk 6 (v := ?v_3046) ?y3046 ?_; (case y3046 => (refine Or.inl ⟨by rfl, ?_⟩; intro w hSw; go_simp; first | done | with_reducible rfl)); (try simp only [Act.put, List.setIfInBounds_toArray, List.set_cons_zero, List.set_cons_succ])
              refine wpAnyH_ready (rs := [7]) (by kernel_rfl) (by simp) ?_
              refine AllReadyH.cons (o := ?o_3047_0) ?hi_3047_0 (fun K hK => ?m_3047_0) (AllReadyH.nil)
              case hi_3047_0 => (simp only [List.getElem?_toArray, List.getElem?_cons_zero, List.getElem?_cons_succ]; rfl)
              case m_3047_0 =>
                have y0 := HC8.out.rb.k3.cell 3 vM rfl
                have f0 := HC8.out.rb.k3.frozen 3
                have HC9 := Lib.hid (show Rc w0 w p q r2 35 w3.heap.size B0 zQ (qcells (.slice (some ⟨g8, 0, none⟩) (done.length + 1) c8) (.slice sa sn sc) ⟨3, row, sp, [], noB, noB, 0, 0, noB, fil⟩) 90 6 (.slice (some ⟨g8, 0, none⟩) (done.length + 1) c8) (done ++ [m]).length (mlist (done ++ [m])) (w8.setCell ⟨w3.heap.size, 3, none⟩ (.slice (some ⟨g8, 0, none⟩) (done.length + 1) c8)) from by have := HC8.out.set 3 (.slice (some ⟨g8, 0, none⟩) (done.length + 1) c8); rw [show mlist (done ++ [m]) = mlist done ++ (mcells m).toList by unfold mlist; rw [List.flatMap_append]; simp, show (done ++ [m]).length = done.length + 1 by simp]; exact this)
                have HF9 := Lib.hid (show OwnF BF B0 (.slice sa sn sc) fil.fams (w8.setCell ⟨w3.heap.size, 3, none⟩ (.slice (some ⟨g8, 0, none⟩) (done.length + 1) c8)) from HF8.out.keep (fun g hg hl => Below.heap_setCell _ _ _ _ (by have := HBB3.out; show g ≠ w3.heap.size; omega)))
                have HDG2 := Lib.hid (show (done ++ [m]).length + g' = G0 by have := HDG.out; simp; omega)
                go_simp
                refine hK.out _ _ trivial (fun hHeld => ?_)
                clear hK K
                (try simp only [Act.put, List.setIfInBounds_toArray, List.set_cons_zero, List.set_cons_succ])
                refine wpAnyH_done (by kernel_rfl) ?_ _
                clear y0 f0
                go_wp2
                go_roundg g'
                case measure => omega
                case rel => exact ⟨done ++ [m], r2, _, HR6, HDG2, HX6, HC9, HF9⟩
        case m_3043_1 =>
          unfold mcells
          go_simp
          have HN7 := Lib.hid (show Bk w6.heap.size (mcells m) 90 (w6.alloc (.cells #[.int .i64 m.kind, .string m.fam, .string m.qual, .int .i64 m.vk, .int .i64 m.vn, .string m.vs] 90)) from Bk.new w6 (mcells m) 90)
          have HC7 := Lib.hid (HC6.out.next (below_box (w := w6) #[.int .i64 m.kind, .string m.fam, .string m.qual, .int .i64 m.vk, .int .i64 m.vn, .string m.vs] 90))
          have HF7 := Lib.hid (show OwnF BF B0 (.slice sa sn sc) fil.fams (w6.alloc (.cells #[.int .i64 m.kind, .string m.fam, .string m.qual, .int .i64 m.vk, .int .i64 m.vn, .string m.vs] 90)) from HF6.out.keep (fun g hg hl => (below_box (w := w6) #[.int .i64 m.kind, .string m.fam, .string m.qual, .int .i64 m.vk, .int .i64 m.vn, .string m.vs] 90).block g (Nat.lt_of_lt_of_le hl HC6.out.hs)))
          clear HC6 HF6
          generalize w6.heap.size = nb at HN7 ⊢
          generalize w6.alloc (.cells #[.int .i64 m.kind, .string m.fam, .string m.qual, .int .i64 m.vk, .int .i64 m.vn, .string m.vs] 90) = X7 at HN7 HC7 HF7 ⊢
          refine hK.out _ _ trivial (fun hHeld => ?_)
          clear hK K
          (try simp only [Act.put, List.setIfInBounds_toArray, List.set_cons_zero, List.set_cons_succ])
          refine wpAnyH_ready (rs := [1]) (by kernel_rfl) (by simp) ?_
          refine AllReadyH.cons (o := ?o_3048_0) ?hi_3048_0 (fun K hK => ?m_3048_0) (AllReadyH.nil)
          case hi_3048_0 => (simp only [List.getElem?_toArray, List.getElem?_cons_zero, List.getElem?_cons_succ]; rfl)
          case m_3048_0 =>
            have x0 := HC7.out.rb.k3.cell 3 vM rfl
            go_simp
            refine hK.out _ _ trivial (fun hHeld => ?_)
            clear hK K
            (try simp only [Act.put, List.setIfInBounds_toArray, List.set_cons_zero, List.set_cons_succ])
            clear x0
            refine wpAnyH_ready (rs := [5]) (by kernel_rfl) (by simp) ?_
            refine AllReadyH.cons (o := ?o_3049_0) ?hi_3049_0 (fun K hK => ?m_3049_0) (AllReadyH.nil)
            case hi_3049_0 => (simp only [List.getElem?_toArray, List.getElem?_cons_zero, List.getElem?_cons_succ]; rfl)
            case m_3049_0 =>
              rw [if_pos (by rfl)]
              refine wp_append_at (.tmp 39) (.tmp 42) 28 rfl B0 90 i9 (.agg zM) 6 72 Tryz.underlying28 hi9 hz0 hz1 hz2 rfl (by decide) vM done.length (mlist done) rfl HC7.out.own ⟨nb, 0, none⟩ 1 1 (mcells m).toList rfl rfl ?n1 ?o1 ?m1 ?b1 HC7.out.hs ?_
              case n1 =>
                intro j u hj
                have hadd : (⟨nb, 0, none⟩ : Addr).add j = ⟨nb, j, none⟩ := by unfold Addr.add; split <;> simp_all
                rw [hadd]
                exact HN7.out.cell j u (by simpa using hj)
              case o1 => exact fun u hu => (Array.all_eq_true_iff_forall_mem.1 (mcells_one m)) u (by simpa using hu)
              case m1 => have := HDG.out; have := HLL.out; unfold maxLen; omega
              case b1 => have := HDG.out; have := HLL.out; omega
              intro v8 w8 ho hg
              have HF8 := Lib.hid (show OwnF BF B0 (.slice sa sn sc) fil.fams w8 from HF7.out.keep (fun g hg2 hl => hg.block g (Nat.lt_of_lt_of_le hl HC7.out.hs) (fun e => by have := (HC7.out.own.lt g e.symm).1; omega)))
              have HC8 := Lib.hid (HC7.out.grown ho hg)
              obtain ⟨g8, c8, rfl⟩ : ∃ g cap, v8 = .slice (some ⟨g, 0, none⟩) (done.length + 1) cap := by
                rcases ho.2 with ⟨_, h0⟩ | ⟨g, cap, cur, hv, _⟩
                · omega
                · exact ⟨g, cap, hv⟩
              clear ho hg HC7 HN7 HF7
              refine hK.out _ _ trivial (fun hHeld => ?_)
              clear hK K
              (try simp only [Act.put, List.setIfInBounds_toArray, List.set_cons_zero, List.set_cons_succ])
              refine tk 6 (v := ?v_3050) ?y3050 ?_; (case y3050 => (refine Or.inl ⟨by rfl, ?_⟩; intro w hSw; go_simp; first | done | with_reducible rfl)); (try simp only [Act.put, List.setIfInBounds_toArray, List.set_cons_zero, List.set_cons_succ])
              refine wpAnyH_ready (rs := [7]) (by kernel_rfl) (by simp) ?_
              refine AllReadyH.cons (o := ?o_3051_0) ?hi_3051_0 (fun K hK => ?m_3051_0) (AllReadyH.nil)
              case hi_3051_0 => (simp only [List.getElem?_toArray, List.getElem?_cons_zero, List.getElem?_cons_succ]; rfl)
              case m_3051_0 =>
                have y0 := HC8.out.rb.k3.cell 3 vM rfl
                have f0 := HC8.out.rb.k3.frozen 3
                have HC9 := Lib.hid (show Rc w0 w p q r2 35 w3.heap.size B0 zQ (qcells (.slice (some ⟨g8, 0, none⟩) (done.length + 1) c8) (.slice sa sn sc) ⟨3, row, sp, [], noB, noB, 0, 0, noB, fil⟩) 90 6 (.slice (some ⟨g8, 0, none⟩) (done.length + 1) c8) (done ++ [m]).length (mlist (done ++ [m])) (w8.setCell ⟨w3.heap.size, 3, none⟩ (.slice (some ⟨g8, 0, none⟩) (done.length + 1) c8)) from by have := HC8.out.set 3 (.slice (some ⟨g8, 0, none⟩) (done.length + 1) c8); rw [show mlist (done ++ [m]) = mlist done ++ (mcells m).toList by unfold mlist; rw [List.flatMap_append]; simp, show (done ++ [m]).length = done.length + 1 by simp]; exact this)
                have HF9 := Lib.hid (show OwnF BF B0 (.slice sa sn sc) fil.fams (w8.setCell ⟨w3.heap.size, 3, none⟩ (.slice (some ⟨g8, 0, none⟩) (done.length + 1) c8)) from HF8.out.keep (fun g hg hl => Below.heap_setCell _ _ _ _ (by have := HBB3.out; show g ≠ w3.heap.size; omega)))
                have HDG2 := Lib.hid (show (done ++ [m]).length + g' = G0 by have := HDG.out; simp; omega)
                go_simp
                refine hK.out _ _ trivial (fun hHeld => ?_)
                clear hK K
                (try simp only [Act.put, List.setIfInBounds_toArray, List.set_cons_zero, List.set_cons_succ])
                refine wpAnyH_done (by kernel_rfl) ?_ _
                clear y0 f0
                go_wp2
                go_roundg g'
                case measure => omega
                case rel => exact ⟨done ++ [m], r2, _, HR6, HDG2, HX6, HC9, HF9⟩
end Go.Proofs.YtkogcobcjoojnaaGreatDoor.Fl
