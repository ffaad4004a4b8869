/- Script: the reader's one of some words, its value. -/
import Derived.Test.YtkogcobcjoojnaaGreatDoorPJ
namespace Go.Proofs.YtkogcobcjoojnaaGreatDoor.Fl
open Go.RowKit Go.Maps
set_option linter.unusedVariables false
set_option linter.unusedSimpArgs false
theorem Bk.fr {b p : Nat} {cs : Array Value} {T : TypeId} {W W' : World} (h : Bk b cs T W) (hf : FrR p W W') (hne : b ≠ p) : Bk b cs T W' := (hf.keeps b h.lt hne).trans h
theorem Rr.other {w0 : World} {p q : Nat} {ws : List ByteArray} {w : World} (h : Rr w0 p q ws w) (g : Nat) (cs : Array Value) (hB : w0.heap.size ≤ g) (hp : g ≠ p) (hq : g ≠ q) : Rr w0 p q ws (w.setRow g cs) :=
  ⟨h.is.other (by rw [setRow_size]; exact Nat.le_refl _) (setRow_other _ _ _ _ (Ne.symm hp)) (setRow_other _ _ _ _ (Ne.symm hq)), below_row h.bel hB cs, h.base⟩
def idxI (xs : List ByteArray) (x : ByteArray) : Int := match xs.findIdx? (fun y => decide (y = x)) with
  | some i => (i : Int)
  | none => -1
set_option maxHeartbeats 2000000 in
set_option maxRecDepth 100000 in
theorem c_sindex (xs : List ByteArray) (g : Nat) (x : ByteArray) (w : World) (hb : Bk g (strs xs).toArray 9 w) (hlen : xs.length ≤ 1000000) :
    Calls Tryz.prog 109 #[.slice (some ⟨g, 0, none⟩) xs.length xs.length, .string x] w fun e w' => e = .returned (.int .i64 (idxI xs x)) ∧ Below w.heap.size w w' := by
  obtain ⟨I, hI⟩ : ∃ I, idxI xs x = I := ⟨_, rfl⟩
  rw [hI]
  have HI := Lib.hid hI
  have HB0 := Lib.hid hb
  have HW := Lib.hid (Below.refl w.heap.size w)
  clear hI hb
  go_enter Tryz.func109, Tryz.ntmps109
  go_wp2
  go_loopw [8] (fun s8 wr => ∃ kk : Nat, kk ≤ xs.length ∧ s8 = .int .i64 kk ∧ Hid (Below w.heap.size w wr) ∧ Hid (∀ j, j < kk → ∀ h : j < xs.length, ¬ xs[j] = x)) (fun v _ => xs.length - (intOf v).toNat)
  case atStart => exact ⟨0, Nat.zero_le _, rfl, HW, Lib.hid (fun j h => by omega)⟩
  case round =>
    obtain ⟨kk, hkk, rfl, HB, A⟩ := hrel
    by_cases hlt : kk < xs.length
    · have hltz : decide ((kk : Int) < (xs.length : Int)) = true := decide_eq_true (by omega)
      have hk0 : (0 : Int) ≤ (kk : Int) := by omega
      have hk1 : (kk : Int) < (xs.length : Int) := by omega
      have y0 := (HB0.out.cell kk (.string xs[kk]) (by simp [strs, hlt]))
      have y0 := (HB.out.cell (World.block_lt_of_cell? w _ y0)).trans y0
      have y1 : wr.cell? ⟨g, 0 + kk, none⟩ = some (.string xs[kk]) := by rw [Nat.zero_add]; exact y0
      by_cases he : x.toList = (xs[kk]).toList
      · have HE := Lib.hid (show I = kk by
          rw [← HI.out]
          have hx := (tl_iff _ _).1 he
          unfold idxI
          rw [(List.findIdx?_eq_some_iff_getElem).2 ⟨hlt, by simp [hx], fun j hj => by simpa using A.out j hj (by omega)⟩])
        have e1 : (x.toList == (xs[kk]).toList) = true := by simp [he]
        generalize xs[kk] = y at y0 y1 he e1
        go_wp2
        go_ret
        exact ⟨by rw [HE.out]; first | done | rfl, HB.out⟩
      · have HN := Lib.hid (show ¬ xs[kk] = x from fun h => he (by rw [h]))
        have e1 : (x.toList == (xs[kk]).toList) = false := by simp [he]
        have HN2 := Lib.hid (show ∀ j, j < kk + 1 → ∀ h : j < xs.length, ¬ xs[j] = x from fun j hj h => by
          by_cases hjk : j = kk
          · subst hjk; exact HN.out
          · exact A.out j (by omega) h)
        clear HN
        generalize xs[kk] = y at y0 y1 he e1
        go_wp2
        go_roundw
        case rel => exact ⟨kk + 1, by omega, by go_num, HB, HN2⟩
        case measure => simp [intOf]; omega
    · have hltz : decide ((kk : Int) < (xs.length : Int)) = false := decide_eq_false (by omega)
      have HE := Lib.hid (show I = -1 by
        rw [← HI.out]
        unfold idxI
        rw [(List.findIdx?_eq_none_iff).2 (fun y hy => by
          obtain ⟨j, hj, rfl⟩ := List.getElem_of_mem hy
          simpa using A.out j (by omega) hj)])
      go_wp2
      go_ret
      exact ⟨by rw [HE.out]; first | done | rfl, HB.out⟩
set_option maxHeartbeats 4000000 in
set_option maxRecDepth 100000 in
theorem c_rone {w0 : World} {p q : Nat} {ws : List ByteArray} (xs : List ByteArray) (g : Nat) (hlen : xs.length ≤ 1000000) {w : World} (hg : g ≠ p) (hbk : Bk g (strs xs).toArray 9 w) (h : Rr w0 p q ws w) :
    Calls Tryz.prog 77 #[.pointer (some ⟨p, 0, none⟩), .slice (some ⟨g, 0, none⟩) xs.length xs.length] w fun e w' => RdR (fun x v _ => v = .int .i64 x) (rOne xs ws) w0 p q w e w' := by
  have C0 := Lib.hid (fun (_ : Unit) => c_rword h)
  have HBK := Lib.hid hbk
  clear h hbk
  go_enter Tryz.func77, Tryz.ntmps77
  go_wp2_with fail
  refine (C0.out ()).mono ?_
  rintro e w1 ⟨⟨s, rest, v, hx, rfl, rfl, h1⟩ | ⟨hx, rfl, hb⟩, hf⟩
  case inr => exact ⟨rfl, Or.inr ⟨by unfold rOne Pr.then; rw [hx], rfl, hb⟩, hf⟩
  have C1 := Lib.hid (c_sindex xs g s w1 (HBK.out.fr hf hg) hlen)
  have H1 := Lib.hid h1
  have HF := Lib.hid hf
  have HX : Hid (rOne xs ws = (match xs.findIdx? (fun x => decide (x = s)) with | some i => some ((i : Int) + 1, rest) | none => none)) := Lib.hid (by unfold rOne Pr.then; rw [hx]; rfl)
  clear hx hf h1 C0
  unfold idxI at C1
  go_wp2_with fail
  refine C1.out.mono ?_
  rintro e w2 ⟨rfl, hb⟩
  have H2 := Lib.hid (H1.out.keep hb)
  have HF2 := Lib.hid (HF.out.trans (FrR.below hb))
  clear hb C1
  cases hi : xs.findIdx? (fun x => decide (x = s)) with
  | none =>
    have HA := Lib.hid (show rOne xs ws = none by rw [HX.out, hi])
    clear hi HX
    simp only
    go_wp2_with (go_at_call 43; refine (c_need0 _ (by first | rfl | decide) _).mono ?_)
    rintro e w3 ⟨rfl, rfl⟩
    exact ⟨rfl, Or.inr ⟨HA.out, rfl, H2.out.bel⟩, HF2.out⟩
  | some i =>
    have HA := Lib.hid (show rOne xs ws = some ((i : Int) + 1, rest) by rw [HX.out, hi])
    have hi2 : i < xs.length := (List.findIdx?_eq_some_iff_getElem.1 hi).1
    have i0 : (0 : Int) ≤ (i : Int) := by omega
    have i1 : wrap64 ((i : Int) + 1) = (i : Int) + 1 := by unfold wrap64; omega
    clear hi HX
    simp only
    go_wp2_with (go_at_call 43; refine (c_need1 _ (by first | (simp; done) | simp | rfl) _).mono ?_)
    rintro e w3 ⟨rfl, rfl⟩
    go_wp2
    go_ret
    exact ⟨Or.inl ⟨_, rest, _, HA.out, rfl, rfl, H2.out⟩, HF2.out⟩
end Go.Proofs.YtkogcobcjoojnaaGreatDoor.Fl

namespace Go.Proofs.YtkogcobcjoojnaaGreatDoor.Fl
open Go.RowKit Go.Maps
set_option linter.unusedVariables false
set_option linter.unusedSimpArgs false
theorem repl_len {old new : List UInt8} (hne : old ≠ []) (hl : new.length ≤ old.length) : ∀ (n : Nat) (s : List UInt8), s.length ≤ n → (Sc.repl old new s).length ≤ s.length
  | 0, s, h => by
    have : s = [] := List.length_eq_zero_iff.1 (by omega)
    subst this
    rw [Sc.repl_nil hne]
    exact Nat.le_refl _
  | n + 1, [], h => by rw [Sc.repl_nil hne]; exact Nat.le_refl _
  | n + 1, b :: l, h => by
    by_cases hp : old.isPrefixOf (b :: l) = true
    · have hpl : old.length ≤ (b :: l).length := (List.isPrefixOf_iff_prefix.1 hp).length_le
      have ho : 1 ≤ old.length := by cases old with | nil => exact absurd rfl hne | cons x y => simp
      have ih := repl_len hne hl n ((b :: l).drop old.length) (by rw [List.length_drop]; omega)
      rw [Sc.repl_pre hne hp, List.length_append]
      rw [List.length_drop] at ih
      omega
    · have ih := repl_len hne hl n l (by simp at h; omega)
      rw [Sc.repl_step hne hp, List.length_cons, List.length_cons]
      omega
theorem unSpc_size (s : ByteArray) : (unSpc s).size ≤ s.size := by
  unfold unSpc
  rw [Lib.size_mk]
  exact repl_len (by decide) (by decide) _ s.data.toList (Nat.le_refl _)
theorem c_unspc (s : ByteArray) (hs : s.size ≤ 1000000) (w : World) (hg : Gv w) :
    Calls Tryz.prog 130 #[.string s, .string ⟨#[92, 50, 48]⟩, .string ⟨#[32]⟩] w fun e w' => e = .returned (.string (unSpc s)) ∧ Below w.heap.size w w' := by
  obtain ⟨m, hm⟩ := hg.ml
  have hc := Lib.countB_le ⟨#[92, 50, 48]⟩ (by decide) s.size s (Nat.le_refl _)
  refine (Tryz.strings_ReplaceAll s ⟨#[92, 50, 48]⟩ ⟨#[32]⟩ m w (by omega) hm (by decide) (by show _ + _ * 1 ≤ _; omega)).mono ?_
  rintro e w' ⟨rfl, hb⟩
  refine ⟨?_, hb⟩
  rw [Sc.replaceAll_repl (by decide)]
  rfl
def v3 (v : Int × Int × ByteArray) : Value := vv v.1 v.2.1 v.2.2
abbrev zV : Array Value := #[.int .i64 0, .int .i64 0, .string ⟨#[]⟩]
def vcells (k n : Int) (s : ByteArray) : Array Value := #[.int .i64 k, .int .i64 n, .string s]
theorem vcells_one (k n : Int) (s : ByteArray) : (vcells k n s).all (·.oneCell') = true := by simp [vcells, Value.oneCell']
theorem FrR.row {p g : Nat} {w W : World} (h : FrR p w W) (hg : w.heap.size ≤ g) (cs : Array Value) : FrR p w (W.setRow g cs) :=
  ⟨by rw [setRow_size]; exact h.size, fun k hk hne => (setRow_other _ _ _ _ (by omega)).trans (h.keeps k hk hne)⟩
theorem zV_one : zV.all (·.oneCell') = true := vcells_one 0 0 ⟨#[]⟩
theorem rVal_none {ws : List ByteArray} (h : rWord ws = none) : rVal ws = none := by unfold rVal Pr.then; rw [h]
set_option maxHeartbeats 4000000 in
set_option maxRecDepth 100000 in
theorem c_rvalue {w0 : World} (hg : Gv w0) {p q : Nat} {ws : List ByteArray} {w : World} (h : Rr w0 p q ws w) :
    Calls Tryz.prog 114 #[.pointer (some ⟨p, 0, none⟩)] w fun e w' => RdR (fun v x _ => x = v3 v) (rVal ws) w0 p q w e w' := by
  have szV := szV
  have HP := Lib.hid (show w.heap.size ≠ p by have := h.is.plt; omega)
  have HQ := Lib.hid (show w.heap.size ≠ q by have := h.is.lt; omega)
  have HB0 := Lib.hid (show w0.heap.size ≤ w.heap.size from h.bel.size)
  have HSZ := Lib.hid h.is.szs
  obtain ⟨W1, hW1⟩ : ∃ W, w.alloc (.cells zV 30) = W := ⟨_, rfl⟩
  have hb1 : Below w.heap.size w W1 := hW1 ▸ below_box _ _
  have HK1 := Lib.hid (show Bk w.heap.size zV 30 W1 from hW1 ▸ Bk.new _ _ _)
  have C0 := Lib.hid (fun (_ : Unit) => c_rword (h.keep hb1))
  have HF1 := Lib.hid (FrR.below (p := p) hb1)
  have HG := Lib.hid hg
  clear h hb1 hg
  go_enter Tryz.func114, Tryz.ntmps114
  go_wp2_with fail
  refine (C0.out ()).mono ?_
  rintro e w2 ⟨⟨s, rest, v, hx, rfl, rfl, h1⟩ | ⟨hx, rfl, hb⟩, hf⟩
  case inr => exact ⟨rfl, Or.inr ⟨rVal_none hx, rfl, hb⟩, HF1.out.trans hf⟩
  have HX : Hid (rVal ws = (if s = wNone then some ((0, 0, noB), rest) else match readV (unSpc s) with | some v => some (v, rest) | none => none)) := Lib.hid (by unfold rVal Pr.then; rw [hx]; rfl)
  have HSS := Lib.hid (show s.size ≤ 1000000 from HSZ.out s (by rw [rWord_mem hx]; simp))
  have HK2 := Lib.hid (HK1.out.fr hf HP.out)
  have H2 := Lib.hid h1
  have HF2 := Lib.hid (HF1.out.trans hf)
  clear hx hf h1 C0 hW1 HK1 HF1
  by_cases hs : s = wNone
  · have e1 : (s.toList == [110, 111, 110, 101]) = true := tl_true (s := s) (by rw [hs]; rfl)
    have HA := Lib.hid (show rVal ws = some ((0, 0, noB), rest) by rw [HX.out, if_pos hs])
    clear HX hs
    go_wp2_with (with_reducible show wpList _ _ _ ({ dst := _, op := Op.store 30 _ _, type := _, pos := _, after := _, guard := _ } :: _) _ _; refine wpList_store_all rfl 30 _ _ rfl w.heap.size zV rfl rfl 30 _ HK2.out 3 szV rfl rfl zV_one ?_; have HKf := Lib.hid (HK2.out.row zV); have HRf := Lib.hid (H2.out.other w.heap.size zV HB0.out HP.out HQ.out); have HFf := Lib.hid (HF2.out.row (Nat.le_refl _) zV); generalize World.setRow _ w.heap.size _ = Wf at HKf HRf HFf ⊢)
    exact bodyPost_ret (results_cell_row rfl _ _ w.heap.size _ _ (0, 0) _ rfl HKf.out Tryz.underlying30 rfl szV) rfl ⟨Or.inl ⟨_, rest, _, HA.out, rfl, rfl, HRf.out⟩, HFf.out⟩
  · have e1 : (s.toList == [110, 111, 110, 101]) = false := tl_false (s := s) (by intro e; exact hs (by rw [e]; rfl))
    have HX2 : Hid (rVal ws = (match readV (unSpc s) with | some v => some (v, rest) | none => none)) := Lib.hid (by rw [HX.out, if_neg hs])
    clear HX hs
    have hus := unSpc_size s
    have C1 := Lib.hid (c_unspc s HSS.out w2 (H2.out.gv HG.out))
    have C2 : Hid (∀ W, Below w2.heap.size w2 W → ∃ k n t b, RdV (unSpc s) k n t b ∧ (readV (unSpc s) = if b = true then some (k, n, t) else none) ∧ Calls Tryz.prog 141 #[.string (unSpc s)] W fun e w' => e = .returned (.tuple #[vv k n t, .bool b]) ∧ Below W.heap.size W w') := Lib.hid (fun W hW => by
      have hgw := (H2.out.gv HG.out).below hW
      rcases readV_spec (unSpc s) with ⟨k, n, t, he, hr⟩ | ⟨he, hr⟩
      · exact ⟨k, n, t, true, hr, by rw [he]; rfl, c_vread (unSpc s) (by have := HSS.out; omega) W hgw k n t true hr⟩
      · exact ⟨0, 0, ⟨#[]⟩, false, hr, by rw [he]; rfl, c_vread (unSpc s) (by have := HSS.out; omega) W hgw 0 0 ⟨#[]⟩ false hr⟩)
    clear hus
    go_wp2_with fail
    refine C1.out.mono ?_
    rintro e w3 ⟨rfl, hb⟩
    obtain ⟨k, n, t, b, hrd, hrv, hcall⟩ := C2.out w3 hb
    have H3 := Lib.hid (H2.out.keep hb)
    have HK3 := Lib.hid (HK2.out.next hb)
    have HF3 := Lib.hid (HF2.out.trans (FrR.below hb))
    have HX3 : Hid (rVal ws = if b = true then some ((k, n, t), rest) else none) := Lib.hid (by rw [HX2.out, hrv]; cases b <;> rfl)
    have HC := Lib.hid hcall
    clear hb hrd hrv hcall C1 C2 HX2
    go_wp2_with fail
    refine HC.out.mono ?_
    rintro e w4 ⟨rfl, hb⟩
    have H4 := Lib.hid (H3.out.keep hb)
    have HK4 := Lib.hid (HK3.out.next hb)
    have HF4 := Lib.hid (HF3.out.trans (FrR.below hb))
    clear hb HC
    obtain ⟨W5, hW5⟩ : ∃ W, w4.alloc (.cells zV 30) = W := ⟨_, rfl⟩
    have hb5 : Below w4.heap.size w4 W5 := hW5 ▸ below_box _ _
    have HN5 := Lib.hid (show Bk w4.heap.size zV 30 W5 from hW5 ▸ Bk.new _ _ _)
    have H5 := Lib.hid (H4.out.keep hb5)
    have HK5 := Lib.hid (HK4.out.next hb5)
    have HF5 := Lib.hid (HF4.out.trans (FrR.below hb5))
    have hne := Lib.hid (show w4.heap.size ≠ w.heap.size ∧ w4.heap.size ≠ p ∧ w4.heap.size ≠ q ∧ w.heap.size ≤ w4.heap.size ∧ w0.heap.size ≤ w4.heap.size from ⟨by have := HK4.out.lt; omega, by have := H4.out.is.plt; omega, by have := H4.out.is.lt; omega, HF4.out.size, H4.out.bel.size⟩)
    clear hb5
    unfold vv
    go_wp2_with (with_reducible show wpList _ _ _ ({ dst := _, op := Op.store 30 _ _, type := _, pos := _, after := _, guard := _ } :: _) _ _; refine wpList_store_all rfl 30 _ _ rfl w4.heap.size (vcells k n t) rfl rfl 30 _ HN5.out 3 szV rfl rfl (vcells_one _ _ _) ?_; have HN6 := Lib.hid (HN5.out.row (vcells k n t)); have H6 := Lib.hid (H5.out.other w4.heap.size (vcells k n t) hne.out.2.2.2.2 hne.out.2.1 hne.out.2.2.1); have HK6 := Lib.hid (HK5.out.off hne.out.1 (vcells k n t)); have HF6 := Lib.hid (HF5.out.row hne.out.2.2.2.1 (vcells k n t)); generalize World.setRow _ w4.heap.size _ = W6 at HN6 H6 HK6 HF6 ⊢)
    cases b with
    | false =>
      have HA := Lib.hid (show rVal ws = none by rw [HX3.out]; rfl)
      clear HX3 hW5
      refine (c_need0 _ rfl _).mono ?_
      rintro e w7 ⟨rfl, rfl⟩
      exact ⟨rfl, Or.inr ⟨HA.out, rfl, H6.out.bel⟩, HF6.out⟩
    | true =>
      have HA := Lib.hid (show rVal ws = some ((k, n, t), rest) by rw [HX3.out]; rfl)
      clear HX3 hW5
      refine (c_need1 _ rfl _).mono ?_
      rintro e w7 ⟨rfl, rfl⟩
      go_wp2_with (first | (with_reducible show wpList _ _ _ ({ dst := _, op := Op.load 30 _, type := _, pos := _, after := _, guard := _ } :: _) _ _; refine wpList_load_all rfl 30 _ rfl w4.heap.size rfl 30 (vcells k n t) HN6.out 3 szV rfl ruV ?_) | (with_reducible show wpList _ _ _ ({ dst := _, op := Op.store 30 _ _, type := _, pos := _, after := _, guard := _ } :: _) _ _; refine wpList_store_all rfl 30 _ _ rfl w.heap.size (vcells k n t) rfl rfl 30 _ HK6.out 3 szV rfl rfl (vcells_one _ _ _) ?_; have HKf := Lib.hid (HK6.out.row (vcells k n t)); have HRf := Lib.hid (H6.out.other w.heap.size (vcells k n t) HB0.out HP.out HQ.out); have HFf := Lib.hid (HF6.out.row (Nat.le_refl _) (vcells k n t)); generalize World.setRow _ w.heap.size _ = Wf at HKf HRf HFf ⊢))
      exact bodyPost_ret (results_cell_row rfl _ _ w.heap.size _ _ (0, 0) _ rfl HKf.out Tryz.underlying30 rfl szV) rfl ⟨Or.inl ⟨_, rest, _, HA.out, rfl, rfl, HRf.out⟩, HFf.out⟩
end Go.Proofs.YtkogcobcjoojnaaGreatDoor.Fl

namespace Go.Proofs.YtkogcobcjoojnaaGreatDoor.Fl
open Go.RowKit Go.Maps
set_option linter.unusedVariables false
set_option linter.unusedSimpArgs false
/-- A reader at work in a call that began in w, and the box of its result. -/
structure Ra (w0 w : World) (p q : Nat) (ws : List ByteArray) (T : TypeId) (Z : Array Value) (W : World) : Prop where
  r : Rr w0 p q ws W
  fr : FrR p w W
  k2 : Bk w.heap.size Z T W
  s0 : w0.heap.size ≤ w.heap.size
  p2 : w.heap.size ≠ p
  q2 : w.heap.size ≠ q
theorem Ra.start {w0 w : World} {p q : Nat} {ws : List ByteArray} (h : Rr w0 p q ws w) (Z : Array Value) (T : TypeId) : Ra w0 w p q ws T Z (w.alloc (.cells Z T)) :=
  ⟨h.keep (below_box _ _), FrR.below (below_box _ _), Bk.new _ _ _, h.bel.size, by have := h.is.plt; omega, by have := h.is.lt; omega⟩
theorem Ra.call {w0 w : World} {p q : Nat} {ws ws' : List ByteArray} {T : TypeId} {Z : Array Value} {W W' : World} (h : Ra w0 w p q ws T Z W) (hr : Rr w0 p q ws' W') (hf : FrR p W W') : Ra w0 w p q ws' T Z W' := ⟨hr, h.fr.trans hf, h.k2.fr hf h.p2, h.s0, h.p2, h.q2⟩
theorem Ra.next {w0 w : World} {p q : Nat} {ws : List ByteArray} {T : TypeId} {Z : Array Value} {W W' : World} (h : Ra w0 w p q ws T Z W) (hb : Below W.heap.size W W') : Ra w0 w p q ws T Z W' := h.call (h.r.keep hb) (FrR.below hb)
theorem Ra.put {w0 w : World} {p q : Nat} {ws : List ByteArray} {T : TypeId} {Z : Array Value} {W : World} (h : Ra w0 w p q ws T Z W) (Z' : Array Value) : Ra w0 w p q ws T Z' (W.setRow w.heap.size Z') :=
  ⟨h.r.other _ _ h.s0 h.p2 h.q2, h.fr.row (Nat.le_refl _) _, h.k2.row _, h.s0, h.p2, h.q2⟩
/-- .. and a box at work. -/
structure Rb (w0 w : World) (p q : Nat) (ws : List ByteArray) (T : TypeId) (b : Nat) (Z cs : Array Value) (W : World) : Prop where
  a : Ra w0 w p q ws T Z W
  k3 : Bk b cs T W
  p3 : b ≠ p
  q3 : b ≠ q
  n3 : w.heap.size < b
theorem Ra.box {w0 w : World} {p q : Nat} {ws : List ByteArray} {T : TypeId} {Z : Array Value} {W : World} (h : Ra w0 w p q ws T Z W) (cs : Array Value) : Rb w0 w p q ws T W.heap.size Z cs (W.alloc (.cells cs T)) :=
  ⟨h.next (below_box _ _), Bk.new _ _ _, by have := h.r.is.plt; omega, by have := h.r.is.lt; omega, h.k2.lt⟩
theorem Rb.call {w0 w : World} {p q : Nat} {ws ws' : List ByteArray} {T : TypeId} {b : Nat} {Z cs : Array Value} {W W' : World} (h : Rb w0 w p q ws T b Z cs W) (hr : Rr w0 p q ws' W') (hf : FrR p W W') : Rb w0 w p q ws' T b Z cs W' := ⟨h.a.call hr hf, h.k3.fr hf h.p3, h.p3, h.q3, h.n3⟩
theorem Rb.next {w0 w : World} {p q : Nat} {ws : List ByteArray} {T : TypeId} {b : Nat} {Z cs : Array Value} {W W' : World} (h : Rb w0 w p q ws T b Z cs W) (hb : Below W.heap.size W W') : Rb w0 w p q ws T b Z cs W' := h.call (h.a.r.keep hb) (FrR.below hb)
theorem Rb.put {w0 w : World} {p q : Nat} {ws : List ByteArray} {T : TypeId} {b : Nat} {Z cs : Array Value} {W : World} (h : Rb w0 w p q ws T b Z cs W) (cs' : Array Value) : Rb w0 w p q ws T b Z cs' (W.setRow b cs') :=
  ⟨⟨h.a.r.other _ _ (by have := h.a.s0; have := h.n3; omega) h.p3 h.q3, h.a.fr.row (by have := h.n3; omega) _, h.a.k2.off (by have := h.n3; omega) _, h.a.s0, h.a.p2, h.a.q2⟩, h.k3.row _, h.p3, h.q3, h.n3⟩
theorem Rb.set {w0 w : World} {p q : Nat} {ws : List ByteArray} {T : TypeId} {b : Nat} {Z cs : Array Value} {W : World} (h : Rb w0 w p q ws T b Z cs W) (j : Nat) (v : Value) : Rb w0 w p q ws T b Z (cs.setIfInBounds j v) (W.setCell ⟨b, j, none⟩ v) := by
  rw [h.k3.set j v]
  exact h.put _
theorem Rb.fin {w0 w : World} {p q : Nat} {ws : List ByteArray} {T : TypeId} {b : Nat} {Z cs : Array Value} {W : World} (h : Rb w0 w p q ws T b Z cs W) (Z' : Array Value) : Ra w0 w p q ws T Z' (W.setRow w.heap.size Z') := h.a.put Z'
theorem rOne_range {l ws r : List ByteArray} {k : Int} (h : rOne l ws = some (k, r)) : 1 ≤ k ∧ k ≤ l.length := by
  unfold rOne Pr.then at h
  cases hw : rWord ws with
  | none => rw [hw] at h; cases h
  | some x =>
    obtain ⟨s, rest⟩ := x
    rw [hw] at h
    simp only at h
    cases hi : l.findIdx? (fun x => decide (x = s)) with
    | none => rw [hi] at h; cases h
    | some i =>
      rw [hi] at h
      have hl := (List.findIdx?_eq_some_iff_getElem.1 hi).1
      have : (i : Int) + 1 = k := by
        have := Option.some.inj h
        exact congrArg Prod.fst this
      omega
abbrev zM : Array Value := #[.int .i64 0, .string ⟨#[]⟩, .string ⟨#[]⟩, .int .i64 0, .int .i64 0, .string ⟨#[]⟩]
theorem nV (k n : Int) (s : ByteArray) : (vcells k n s).size = 3 := rfl
theorem nVl (k n : Int) (s : ByteArray) : (vcells k n s).toList.length = 3 := rfl
set_option maxHeartbeats 4000000 in
set_option maxRecDepth 100000 in
theorem c_rmut {w0 : World} (hg : Gv w0) {p q : Nat} {ws : List ByteArray} {w : World} (h : Rr w0 p q ws w) :
    Calls Tryz.prog 115 #[.pointer (some ⟨p, 0, none⟩)] w fun e w' => RdR (fun m x _ => x = .agg (mcells m)) (rMut ws) w0 p q w e w' := by
  have szM := szM
  have szV := szV
  have HG := Lib.hid hg
  have HA0 := Lib.hid (Ra.start h zM 90)
  have hW1 : w.heap.size + 1 = (w.alloc (.cells zM 90)).heap.size := by show _ = (w.heap.push _).size; simp
  have HPL := Lib.hid (show w.heap.size + 1 ≠ p by have := h.is.plt; omega)
  clear h hg
  go_enter Tryz.func115, Tryz.ntmps115
  go_wp2_with fail
  refine (c_muts _).mono ?_
  rintro e w2 ⟨rfl, hr2, hb2⟩
  have HA2 := Lib.hid (HA0.out.next hb2)
  rw [← hW1] at hr2 ⊢
  have HM2 := Lib.hid (show Bk (w.heap.size + 1) (strs mutN).toArray 9 w2 from hr2)
  clear hr2 hb2 hW1 HA0
  go_wp2_with fail
  refine (c_rone mutN (w.heap.size + 1) (by decide) HPL.out HM2.out HA2.out.r).mono ?_
  rintro e w3 ⟨⟨k, rest, v, hx, rfl, rfl, h3⟩ | ⟨hx, rfl, hb⟩, hf⟩
  case inr => exact ⟨rfl, Or.inr ⟨by unfold rMut Pr.then; rw [hx], rfl, hb⟩, HA2.out.fr.trans hf⟩
  have HA3 := Lib.hid (HA2.out.call h3 hf)
  have hk := rOne_range hx
  have hk4 : k ≤ 4 := hk.2
  have HX := Lib.hid (show rMut ws = (if k = 4 then Pr.give ⟨k, noB, noB, 0, 0, noB⟩ else rWord.then fun f => if k = 3 then Pr.give ⟨k, f, noB, 0, 0, noB⟩ else rText.then fun q => if k = 2 then Pr.give ⟨k, f, q, 0, 0, noB⟩ else rVal.then fun v => Pr.give ⟨k, f, q, v.1, v.2.1, v.2.2⟩) rest by unfold rMut Pr.then; rw [hx])
  clear hx h3 hf HA2 HM2 HPL
  have HB4 := Lib.hid (HA3.out.box zM)
  obtain ⟨W4, hW4⟩ : ∃ W, w3.alloc (.cells zM 90) = W := ⟨_, rfl⟩
  rw [hW4] at HB4
  have hkk : k = 1 ∨ k = 2 ∨ k = 3 ∨ k = 4 := by omega
  clear hk hk4
  rcases hkk with rfl | rfl | rfl | rfl
  · have HXk := Lib.hid (show rMut ws = (rWord.then fun f => if (1 : Int) = 3 then Pr.give ⟨1, f, noB, 0, 0, noB⟩ else rText.then fun q => if (1 : Int) = 2 then Pr.give ⟨1, f, q, 0, 0, noB⟩ else rVal.then fun v => Pr.give ⟨1, f, q, v.1, v.2.1, v.2.2⟩) rest by rw [HX.out]; rw [if_neg (by decide)])
    clear HX
    go_wp2_with (with_reducible show wpList _ _ _ ({ dst := _, op := Op.store 90 _ _, type := _, pos := _, after := _, guard := _ } :: _) _ _; refine wpList_store_all rfl 90 _ _ rfl w3.heap.size (mcells ⟨1, noB, noB, 0, 0, noB⟩) rfl rfl 90 _ HB4.out.k3 6 szM (nM _) rfl (mcells_one _) ?_; have HB5 := Lib.hid (HB4.out.put (mcells ⟨1, noB, noB, 0, 0, noB⟩)); generalize World.setRow _ w3.heap.size _ = W5 at HB5 ⊢; clear hW4; have x0 := HB5.out.k3.cell 0 (.int .i64 1) rfl)
    refine (c_rword HB5.out.a.r).mono ?_
    rintro e w6 ⟨⟨f, rest2, v, hx, rfl, rfl, h6⟩ | ⟨hx, rfl, hb⟩, hf⟩
    case inr => exact ⟨rfl, Or.inr ⟨by rw [HXk.out]; unfold Pr.then; rw [hx], rfl, hb⟩, HB5.out.a.fr.trans hf⟩
    have HB6 := Lib.hid (HB5.out.call h6 hf)
    have HB7 := Lib.hid (show Rb w0 w p q rest2 90 w3.heap.size zM (mcells ⟨1, f, noB, 0, 0, noB⟩) (w6.setCell ⟨w3.heap.size, 1, none⟩ (.string f)) from HB6.out.set 1 (.string f))
    have HXl := Lib.hid (show rMut ws = (rText.then fun q => if (1 : Int) = 2 then Pr.give ⟨1, f, q, 0, 0, noB⟩ else rVal.then fun v => Pr.give ⟨1, f, q, v.1, v.2.1, v.2.2⟩) rest2 by rw [HXk.out]; unfold Pr.then; rw [hx]; rfl)
    clear hx h6 hf x0 HXk
    have x0 := HB6.out.k3.cell 0 (.int .i64 1) rfl
    have y0 := HB6.out.k3.cell 1 (.string noB) rfl
    have f0 := HB6.out.k3.frozen 1
    go_wp2_with fail
    refine (c_rtext HB7.out.a.r).mono ?_
    rintro e w8 ⟨⟨t, rest3, v, hx, rfl, rfl, h6⟩ | ⟨hx, rfl, hb⟩, hf⟩
    case inr => exact ⟨rfl, Or.inr ⟨by rw [HXl.out]; unfold Pr.then; rw [hx], rfl, hb⟩, HB7.out.a.fr.trans hf⟩
    have HB8 := Lib.hid (HB7.out.call h6 hf)
    have HB9 := Lib.hid (show Rb w0 w p q rest3 90 w3.heap.size zM (mcells ⟨1, f, t, 0, 0, noB⟩) (w8.setCell ⟨w3.heap.size, 2, none⟩ (.string t)) from HB8.out.set 2 (.string t))
    have HXm := Lib.hid (show rMut ws = (rVal.then fun v => Pr.give ⟨1, f, t, v.1, v.2.1, v.2.2⟩) rest3 by rw [HXl.out]; unfold Pr.then; rw [hx]; rfl)
    clear hx h6 hf x0 y0 f0 HXl
    have x0 := HB8.out.k3.cell 0 (.int .i64 1) rfl
    have y0 := HB8.out.k3.cell 2 (.string noB) rfl
    have f0 := HB8.out.k3.frozen 2
    go_wp2_with fail
    refine (c_rvalue HG.out HB9.out.a.r).mono ?_
    rintro e w10 ⟨⟨⟨vk, vn, vs⟩, rest4, v, hx, rfl, rfl, h6⟩ | ⟨hx, rfl, hb⟩, hf⟩
    case inr => exact ⟨rfl, Or.inr ⟨by rw [HXm.out]; unfold Pr.then; rw [hx], rfl, hb⟩, HB9.out.a.fr.trans hf⟩
    have HB10 := Lib.hid (HB9.out.call h6 hf)
    have HXn := Lib.hid (show rMut ws = some (⟨1, f, t, vk, vn, vs⟩, rest4) by rw [HXm.out]; unfold Pr.then; rw [hx]; rfl)
    clear hx h6 hf x0 y0 f0 HXm
    unfold v3 vv
    simp only
    have HOP := Lib.hid (show Bk w3.heap.size (([.int .i64 1, .string f, .string t] : List Value) ++ (vcells 0 0 noB).toList ++ []).toArray 90 w10 from HB10.out.k3)
    have KP : ∀ {X}, Hid (Rb w0 w p q rest4 90 w3.heap.size zM (([.int .i64 1, .string f, .string t] : List Value) ++ (vcells vk vn vs).toList ++ []).toArray X) → Hid (Rb w0 w p q rest4 90 w3.heap.size zM (mcells ⟨1, f, t, vk, vn, vs⟩) X) := fun h => h
    go_wp2_with (first | (with_reducible show wpList _ _ _ ({ dst := _, op := Op.store 30 _ _, type := _, pos := _, after := _, guard := _ } :: _) _ _; refine wpList_store_part rfl 30 _ _ rfl w3.heap.size 3 (vcells vk vn vs) rfl rfl 90 ([.int .i64 1, .string f, .string t] : List Value) (vcells 0 0 noB).toList [] HOP.out rfl 3 szV (nV _ _ _) (nVl _ _ _) (vcells_one _ _ _) ?_; have HB11 := KP (Lib.hid (HB10.out.put (([.int .i64 1, .string f, .string t] : List Value) ++ (vcells vk vn vs).toList ++ []).toArray)); generalize World.setRow _ w3.heap.size _ = W11 at HB11 ⊢) | (with_reducible show wpList _ _ _ ({ dst := _, op := Op.load 90 _, type := _, pos := _, after := _, guard := _ } :: _) _ _; refine wpList_load_all rfl 90 _ rfl w3.heap.size rfl 90 (mcells ⟨1, f, t, vk, vn, vs⟩) HB11.out.k3 6 szM (nM _) ruM ?_) | (with_reducible show wpList _ _ _ ({ dst := _, op := Op.store 90 _ _, type := _, pos := _, after := _, guard := _ } :: _) _ _; refine wpList_store_all rfl 90 _ _ rfl w.heap.size (mcells ⟨1, f, t, vk, vn, vs⟩) rfl rfl 90 _ HB11.out.a.k2 6 szM (nM _) rfl (mcells_one _) ?_; have HAf := Lib.hid (HB11.out.fin (mcells ⟨1, f, t, vk, vn, vs⟩)); generalize World.setRow _ w.heap.size _ = Wf at HAf ⊢))
    exact bodyPost_ret (results_cell_row rfl _ _ w.heap.size _ _ (0, 0) _ rfl HAf.out.k2 Tryz.underlying90 rfl szM) rfl ⟨Or.inl ⟨⟨1, f, t, vk, vn, vs⟩, _, _, HXn.out, rfl, rfl, HAf.out.r⟩, HAf.out.fr⟩
  · have HXk := Lib.hid (show rMut ws = (rWord.then fun f => if (2 : Int) = 3 then Pr.give ⟨2, f, noB, 0, 0, noB⟩ else rText.then fun q => if (2 : Int) = 2 then Pr.give ⟨2, f, q, 0, 0, noB⟩ else rVal.then fun v => Pr.give ⟨2, f, q, v.1, v.2.1, v.2.2⟩) rest by rw [HX.out]; rw [if_neg (by decide)])
    clear HX
    go_wp2_with (with_reducible show wpList _ _ _ ({ dst := _, op := Op.store 90 _ _, type := _, pos := _, after := _, guard := _ } :: _) _ _; refine wpList_store_all rfl 90 _ _ rfl w3.heap.size (mcells ⟨2, noB, noB, 0, 0, noB⟩) rfl rfl 90 _ HB4.out.k3 6 szM (nM _) rfl (mcells_one _) ?_; have HB5 := Lib.hid (HB4.out.put (mcells ⟨2, noB, noB, 0, 0, noB⟩)); generalize World.setRow _ w3.heap.size _ = W5 at HB5 ⊢; clear hW4; have x0 := HB5.out.k3.cell 0 (.int .i64 2) rfl)
    refine (c_rword HB5.out.a.r).mono ?_
    rintro e w6 ⟨⟨f, rest2, v, hx, rfl, rfl, h6⟩ | ⟨hx, rfl, hb⟩, hf⟩
    case inr => exact ⟨rfl, Or.inr ⟨by rw [HXk.out]; unfold Pr.then; rw [hx], rfl, hb⟩, HB5.out.a.fr.trans hf⟩
    have HB6 := Lib.hid (HB5.out.call h6 hf)
    have HB7 := Lib.hid (show Rb w0 w p q rest2 90 w3.heap.size zM (mcells ⟨2, f, noB, 0, 0, noB⟩) (w6.setCell ⟨w3.heap.size, 1, none⟩ (.string f)) from HB6.out.set 1 (.string f))
    have HXl := Lib.hid (show rMut ws = (rText.then fun q => if (2 : Int) = 2 then Pr.give ⟨2, f, q, 0, 0, noB⟩ else rVal.then fun v => Pr.give ⟨2, f, q, v.1, v.2.1, v.2.2⟩) rest2 by rw [HXk.out]; unfold Pr.then; rw [hx]; rfl)
    clear hx h6 hf x0 HXk
    have x0 := HB6.out.k3.cell 0 (.int .i64 2) rfl
    have y0 := HB6.out.k3.cell 1 (.string noB) rfl
    have f0 := HB6.out.k3.frozen 1
    go_wp2_with fail
    refine (c_rtext HB7.out.a.r).mono ?_
    rintro e w8 ⟨⟨t, rest3, v, hx, rfl, rfl, h6⟩ | ⟨hx, rfl, hb⟩, hf⟩
    case inr => exact ⟨rfl, Or.inr ⟨by rw [HXl.out]; unfold Pr.then; rw [hx], rfl, hb⟩, HB7.out.a.fr.trans hf⟩
    have HB8 := Lib.hid (HB7.out.call h6 hf)
    have HB9 := Lib.hid (show Rb w0 w p q rest3 90 w3.heap.size zM (mcells ⟨2, f, t, 0, 0, noB⟩) (w8.setCell ⟨w3.heap.size, 2, none⟩ (.string t)) from HB8.out.set 2 (.string t))
    have HXm := Lib.hid (show rMut ws = some (⟨2, f, t, 0, 0, noB⟩, rest3) by rw [HXl.out]; unfold Pr.then; rw [hx]; rfl)
    clear hx h6 hf x0 y0 f0 HXl
    have x0 := HB8.out.k3.cell 0 (.int .i64 2) rfl
    have y0 := HB8.out.k3.cell 2 (.string noB) rfl
    have f0 := HB8.out.k3.frozen 2
    go_wp2_with (first | (with_reducible show wpList _ _ _ ({ dst := _, op := Op.load 90 _, type := _, pos := _, after := _, guard := _ } :: _) _ _; refine wpList_load_all rfl 90 _ rfl w3.heap.size rfl 90 (mcells ⟨2, f, t, 0, 0, noB⟩) HB9.out.k3 6 szM (nM _) ruM ?_) | (with_reducible show wpList _ _ _ ({ dst := _, op := Op.store 90 _ _, type := _, pos := _, after := _, guard := _ } :: _) _ _; refine wpList_store_all rfl 90 _ _ rfl w.heap.size (mcells ⟨2, f, t, 0, 0, noB⟩) rfl rfl 90 _ HB9.out.a.k2 6 szM (nM _) rfl (mcells_one _) ?_; have HAf := Lib.hid (HB9.out.fin (mcells ⟨2, f, t, 0, 0, noB⟩)); generalize World.setRow _ w.heap.size _ = Wf at HAf ⊢))
    exact bodyPost_ret (results_cell_row rfl _ _ w.heap.size _ _ (0, 0) _ rfl HAf.out.k2 Tryz.underlying90 rfl szM) rfl ⟨Or.inl ⟨⟨2, f, t, 0, 0, noB⟩, _, _, HXm.out, rfl, rfl, HAf.out.r⟩, HAf.out.fr⟩
  · have HXk := Lib.hid (show rMut ws = (rWord.then fun f => if (3 : Int) = 3 then Pr.give ⟨3, f, noB, 0, 0, noB⟩ else rText.then fun q => if (3 : Int) = 2 then Pr.give ⟨3, f, q, 0, 0, noB⟩ else rVal.then fun v => Pr.give ⟨3, f, q, v.1, v.2.1, v.2.2⟩) rest by rw [HX.out]; rw [if_neg (by decide)])
    clear HX
    go_wp2_with (with_reducible show wpList _ _ _ ({ dst := _, op := Op.store 90 _ _, type := _, pos := _, after := _, guard := _ } :: _) _ _; refine wpList_store_all rfl 90 _ _ rfl w3.heap.size (mcells ⟨3, noB, noB, 0, 0, noB⟩) rfl rfl 90 _ HB4.out.k3 6 szM (nM _) rfl (mcells_one _) ?_; have HB5 := Lib.hid (HB4.out.put (mcells ⟨3, noB, noB, 0, 0, noB⟩)); generalize World.setRow _ w3.heap.size _ = W5 at HB5 ⊢; clear hW4; have x0 := HB5.out.k3.cell 0 (.int .i64 3) rfl)
    refine (c_rword HB5.out.a.r).mono ?_
    rintro e w6 ⟨⟨f, rest2, v, hx, rfl, rfl, h6⟩ | ⟨hx, rfl, hb⟩, hf⟩
    case inr => exact ⟨rfl, Or.inr ⟨by rw [HXk.out]; unfold Pr.then; rw [hx], rfl, hb⟩, HB5.out.a.fr.trans hf⟩
    have HB6 := Lib.hid (HB5.out.call h6 hf)
    have HB7 := Lib.hid (show Rb w0 w p q rest2 90 w3.heap.size zM (mcells ⟨3, f, noB, 0, 0, noB⟩) (w6.setCell ⟨w3.heap.size, 1, none⟩ (.string f)) from HB6.out.set 1 (.string f))
    have HXm := Lib.hid (show rMut ws = some (⟨3, f, noB, 0, 0, noB⟩, rest2) by rw [HXk.out]; unfold Pr.then; rw [hx]; rfl)
    clear hx h6 hf x0 HXk
    have x0 := HB6.out.k3.cell 0 (.int .i64 3) rfl
    have y0 := HB6.out.k3.cell 1 (.string noB) rfl
    have f0 := HB6.out.k3.frozen 1
    go_wp2_with (first | (with_reducible show wpList _ _ _ ({ dst := _, op := Op.load 90 _, type := _, pos := _, after := _, guard := _ } :: _) _ _; refine wpList_load_all rfl 90 _ rfl w3.heap.size rfl 90 (mcells ⟨3, f, noB, 0, 0, noB⟩) HB7.out.k3 6 szM (nM _) ruM ?_) | (with_reducible show wpList _ _ _ ({ dst := _, op := Op.store 90 _ _, type := _, pos := _, after := _, guard := _ } :: _) _ _; refine wpList_store_all rfl 90 _ _ rfl w.heap.size (mcells ⟨3, f, noB, 0, 0, noB⟩) rfl rfl 90 _ HB7.out.a.k2 6 szM (nM _) rfl (mcells_one _) ?_; have HAf := Lib.hid (HB7.out.fin (mcells ⟨3, f, noB, 0, 0, noB⟩)); generalize World.setRow _ w.heap.size _ = Wf at HAf ⊢))
    exact bodyPost_ret (results_cell_row rfl _ _ w.heap.size _ _ (0, 0) _ rfl HAf.out.k2 Tryz.underlying90 rfl szM) rfl ⟨Or.inl ⟨⟨3, f, noB, 0, 0, noB⟩, _, _, HXm.out, rfl, rfl, HAf.out.r⟩, HAf.out.fr⟩
  · have HXk := Lib.hid (show rMut ws = (Pr.give ⟨4, noB, noB, 0, 0, noB⟩) rest by rw [HX.out]; rw [if_pos rfl])
    clear HX
    go_wp2_with (first | (with_reducible show wpList _ _ _ ({ dst := _, op := Op.load 90 _, type := _, pos := _, after := _, guard := _ } :: _) _ _; refine wpList_load_all rfl 90 _ rfl w3.heap.size rfl 90 (mcells ⟨4, noB, noB, 0, 0, noB⟩) HB5.out.k3 6 szM (nM _) ruM ?_) | (with_reducible show wpList _ _ _ ({ dst := _, op := Op.store 90 _ _, type := _, pos := _, after := _, guard := _ } :: _) _ _; refine wpList_store_all rfl 90 _ _ rfl w.heap.size (mcells ⟨4, noB, noB, 0, 0, noB⟩) rfl rfl 90 _ HB5.out.a.k2 6 szM (nM _) rfl (mcells_one _) ?_; have HAf := Lib.hid (HB5.out.fin (mcells ⟨4, noB, noB, 0, 0, noB⟩)); generalize World.setRow _ w.heap.size _ = Wf at HAf ⊢) | (with_reducible show wpList _ _ _ ({ dst := _, op := Op.store 90 _ _, type := _, pos := _, after := _, guard := _ } :: _) _ _; refine wpList_store_all rfl 90 _ _ rfl w3.heap.size (mcells ⟨4, noB, noB, 0, 0, noB⟩) rfl rfl 90 _ HB4.out.k3 6 szM (nM _) rfl (mcells_one _) ?_; have HB5 := Lib.hid (HB4.out.put (mcells ⟨4, noB, noB, 0, 0, noB⟩)); generalize World.setRow _ w3.heap.size _ = W5 at HB5 ⊢; clear hW4; have x0 := HB5.out.k3.cell 0 (.int .i64 4) rfl))
    exact bodyPost_ret (results_cell_row rfl _ _ w.heap.size _ _ (0, 0) _ rfl HAf.out.k2 Tryz.underlying90 rfl szM) rfl ⟨Or.inl ⟨⟨4, noB, noB, 0, 0, noB⟩, _, _, HXk.out, rfl, rfl, HAf.out.r⟩, HAf.out.fr⟩
end Go.Proofs.YtkogcobcjoojnaaGreatDoor.Fl

namespace Go.Proofs.YtkogcobcjoojnaaGreatDoor.Fl
open Go.RowKit Go.Maps
set_option linter.unusedVariables false
set_option linter.unusedSimpArgs false
set_option maxHeartbeats 8000000 in
set_option maxRecDepth 100000 in
theorem c_rchg {w0 : World} (hg : Gv w0) {p q : Nat} {ws : List ByteArray} {w : World} (h : Rr w0 p q ws w) :
    Calls Tryz.prog 80 #[.pointer (some ⟨p, 0, none⟩)] w fun e w' => RdR (fun c x _ => x = .agg (ccells c)) (rChg ws) w0 p q w e w' := by
  have szC := szC
  have HG := Lib.hid hg
  have HA0 := Lib.hid (Ra.start h zC 37)
  have hW1 : w.heap.size + 1 = (w.alloc (.cells zC 37)).heap.size := by show _ = (w.heap.push _).size; simp
  have HPL := Lib.hid (show w.heap.size + 1 ≠ p by have := h.is.plt; omega)
  clear h hg
  go_enter Tryz.func80, Tryz.ntmps80
  go_wp2_with fail
  refine (c_changes _).mono ?_
  rintro e w2 ⟨rfl, hr2, hb2⟩
  have HA2 := Lib.hid (HA0.out.next hb2)
  rw [← hW1] at hr2 ⊢
  have HM2 := Lib.hid (show Bk (w.heap.size + 1) (strs chgN).toArray 9 w2 from hr2)
  clear hr2 hb2 hW1 HA0
  go_wp2_with fail
  refine (c_rone chgN (w.heap.size + 1) (by decide) HPL.out HM2.out HA2.out.r).mono ?_
  rintro e w3 ⟨⟨k, rest, v, hx, rfl, rfl, h3⟩ | ⟨hx, rfl, hb⟩, hf⟩
  case inr => exact ⟨rfl, Or.inr ⟨by unfold rChg Pr.then; rw [hx], rfl, hb⟩, HA2.out.fr.trans hf⟩
  have HA3 := Lib.hid (HA2.out.call h3 hf)
  have hk := rOne_range hx
  have hk4 : k ≤ 5 := hk.2
  have HX := Lib.hid (show rChg ws = (rWord.then fun f => (if k = 3 ∨ k = 4 then rText else Pr.give noB).then fun q =>
    if k = 1 then rNum.then fun a => rNum.then fun b => rNum.then fun c => Pr.give ⟨k, f, q, 0, a, b, c⟩ else if k = 3 then rNum.then fun a => Pr.give ⟨k, f, q, a, 0, 0, 0⟩ else if k = 5 then rNum.then fun a => Pr.give ⟨k, f, q, 0, a, 0, 0⟩ else Pr.give ⟨k, f, q, 0, 0, 0, 0⟩) rest by unfold rChg Pr.then; rw [hx])
  clear hx h3 hf HA2 HM2 HPL
  have HB4 := Lib.hid (HA3.out.box zC)
  obtain ⟨W4, hW4⟩ : ∃ W, w3.alloc (.cells zC 37) = W := ⟨_, rfl⟩
  rw [hW4] at HB4
  have hkk : k = 1 ∨ k = 2 ∨ k = 3 ∨ k = 4 ∨ k = 5 := by omega
  clear hk hk4
  rcases hkk with rfl | rfl | rfl | rfl | rfl
  · have HXk := Lib.hid (show rChg ws = (rWord.then fun f => rNum.then fun a0 => rNum.then fun a1 => rNum.then fun a2 => Pr.give (⟨1, f, noB, 0, a0, a1, a2⟩ : ChgE)) rest by rw [HX.out]; rfl)
    clear HX
    go_wp2_with (with_reducible show wpList _ _ _ ({ dst := _, op := Op.store 37 _ _, type := _, pos := _, after := _, guard := _ } :: _) _ _; refine wpList_store_all rfl 37 _ _ rfl w3.heap.size (ccells ⟨1, noB, noB, 0, 0, 0, 0⟩) rfl rfl 37 _ HB4.out.k3 7 szC (nC _) rfl (ccells_one _) ?_; have HB5 := Lib.hid (HB4.out.put (ccells ⟨1, noB, noB, 0, 0, 0, 0⟩)); generalize World.setRow _ w3.heap.size _ = W5 at HB5 ⊢; clear hW4; have x0 := HB5.out.k3.cell 0 (.int .i64 1) rfl)
    refine (c_rword HB5.out.a.r).mono ?_
    rintro e w6 ⟨⟨f, rest2, v, hx, rfl, rfl, h6⟩ | ⟨hx, rfl, hb⟩, hf⟩
    case inr => exact ⟨rfl, Or.inr ⟨by rw [HXk.out]; unfold Pr.then; rw [hx], rfl, hb⟩, HB5.out.a.fr.trans hf⟩
    have HB6 := Lib.hid (HB5.out.call h6 hf)
    obtain ⟨W7, hW7⟩ : ∃ W, w6.setCell ⟨w3.heap.size, 1, none⟩ (.string f) = W := ⟨_, rfl⟩
    have HB7 := Lib.hid (show Rb w0 w p q rest2 37 w3.heap.size zC (ccells ⟨1, f, noB, 0, 0, 0, 0⟩) W7 from hW7 ▸ HB6.out.set 1 (.string f))
    have HXl := Lib.hid (show rChg ws = (rNum.then fun a0 => rNum.then fun a1 => rNum.then fun a2 => Pr.give (⟨1, f, noB, 0, a0, a1, a2⟩ : ChgE)) rest2 by rw [HXk.out]; unfold Pr.then; rw [hx]; first | done | rfl)
    clear hx h6 hf x0 HXk
    have y0 := HB6.out.k3.cell 1 (.string noB) rfl
    have f0 := HB6.out.k3.frozen 1
    have x0 := HB7.out.k3.cell 0 (.int .i64 1) rfl
    go_wp2_with fail
    refine (qual_no (by omega) _).mono ?_
    rintro e wq ⟨rfl, rfl⟩
    go_wp2_with fail
    refine (c_knobs1 _ _ x0).mono ?_
    rintro e wk ⟨vk, rfl, rfl, hrk, hbk⟩
    have HBk := Lib.hid (HB7.out.next hbk)
    have HGk := Lib.hid (show Bk W7.heap.size (ptrs w3.heap.size (knobsC 1)).toArray 70 wk from hrk)
    have HGN := Lib.hid (show W7.heap.size ≠ p ∧ W7.heap.size ≠ w3.heap.size ∧ w.heap.size < W7.heap.size from ⟨by have := HB7.out.a.r.is.plt; omega, by have := HB7.out.k3.lt; omega, by have := HB7.out.k3.lt; have := HB7.out.n3; omega⟩)
    clear hrk hbk hW7 y0 f0 x0 HB7
    generalize W7.heap.size = gb at *
    go_wp2
    go_loopw [21] (fun v21 W => (∃ (r : List ByteArray), v21 = .int .i64 0 ∧ Hid (rChg ws = (rNum.then fun a0 => rNum.then fun a1 => rNum.then fun a2 => Pr.give (⟨1, f, noB, 0, a0, a1, a2⟩ : ChgE)) r) ∧ Hid (Rb w0 w p q r 37 w3.heap.size zC (ccells ⟨1, f, noB, 0, 0, 0, 0⟩) W) ∧ Hid (Bk gb (ptrs w3.heap.size (knobsC 1)).toArray 70 W)) ∨ (∃ (r : List ByteArray) (a0 : Int), v21 = .int .i64 1 ∧ Hid (rChg ws = (rNum.then fun a1 => rNum.then fun a2 => Pr.give (⟨1, f, noB, 0, a0, a1, a2⟩ : ChgE)) r) ∧ Hid (Rb w0 w p q r 37 w3.heap.size zC (ccells ⟨1, f, noB, 0, a0, 0, 0⟩) W) ∧ Hid (Bk gb (ptrs w3.heap.size (knobsC 1)).toArray 70 W)) ∨ (∃ (r : List ByteArray) (a0 : Int) (a1 : Int), v21 = .int .i64 2 ∧ Hid (rChg ws = (rNum.then fun a2 => Pr.give (⟨1, f, noB, 0, a0, a1, a2⟩ : ChgE)) r) ∧ Hid (Rb w0 w p q r 37 w3.heap.size zC (ccells ⟨1, f, noB, 0, a0, a1, 0⟩) W) ∧ Hid (Bk gb (ptrs w3.heap.size (knobsC 1)).toArray 70 W)) ∨ (∃ (r : List ByteArray) (a0 : Int) (a1 : Int) (a2 : Int), v21 = .int .i64 3 ∧ Hid (rChg ws = (Pr.give (⟨1, f, noB, 0, a0, a1, a2⟩ : ChgE)) r) ∧ Hid (Rb w0 w p q r 37 w3.heap.size zC (ccells ⟨1, f, noB, 0, a0, a1, a2⟩) W) ∧ Hid (Bk gb (ptrs w3.heap.size (knobsC 1)).toArray 70 W))) (fun v21 _ => 3 - (intOf v21).toNat)
    case atStart => exact Or.inl (⟨rest2, rfl, HXl, HBk, HGk⟩)
    case round =>
      clear HBk HGk HXl
      rcases hrel with ⟨r, rfl, HXi, HE, HGi⟩ | ⟨r, a0, rfl, HXi, HE, HGi⟩ | ⟨r, a0, a1, rfl, HXi, HE, HGi⟩ | ⟨r, a0, a1, a2, rfl, HXi, HE, HGi⟩
      · have y0 := HGi.out.cell 0 (.pointer (some ⟨w3.heap.size, 4, none⟩)) rfl
        go_wp2_with fail
        refine (c_rnum HG.out HE.out.a.r).mono ?_
        rintro e w8 ⟨⟨a0, r2, v, hx, rfl, rfl, h6⟩ | ⟨hx, rfl, hb⟩, hf⟩
        case inr => exact ⟨rfl, Or.inr ⟨by rw [HXi.out]; unfold Pr.then; rw [hx], rfl, hb⟩, HE.out.a.fr.trans hf⟩
        have HE2 := Lib.hid (HE.out.call h6 hf)
        have HGj := Lib.hid (HGi.out.fr hf HGN.out.1)
        have HXj := Lib.hid (show rChg ws = (rNum.then fun a1 => rNum.then fun a2 => Pr.give (⟨1, f, noB, 0, a0, a1, a2⟩ : ChgE)) r2 by rw [HXi.out]; unfold Pr.then; rw [hx]; first | done | rfl)
        clear hx h6 hf y0
        have y1 := HE2.out.k3.cell 4 (.int .i64 0) rfl
        have f1 := HE2.out.k3.frozen 4
        have HE3 := Lib.hid (show Rb w0 w p q r2 37 w3.heap.size zC (ccells ⟨1, f, noB, 0, a0, 0, 0⟩) (w8.setCell ⟨w3.heap.size, 4, none⟩ (.int .i64 a0)) from HE2.out.set 4 (.int .i64 a0))
        have HGl := Lib.hid (show Bk gb (ptrs w3.heap.size (knobsC 1)).toArray 70 (w8.setCell ⟨w3.heap.size, 4, none⟩ (.int .i64 a0)) by rw [HE2.out.k3.set]; exact HGj.out.off (Ne.symm HGN.out.2.1) _)
        go_wp2
        go_roundw
        case rel => exact Or.inr (Or.inl (⟨r2, a0, by go_num, HXj, HE3, HGl⟩))
        case measure => simp [intOf]
      · have y0 := HGi.out.cell 1 (.pointer (some ⟨w3.heap.size, 5, none⟩)) rfl
        go_wp2_with fail
        refine (c_rnum HG.out HE.out.a.r).mono ?_
        rintro e w8 ⟨⟨a1, r2, v, hx, rfl, rfl, h6⟩ | ⟨hx, rfl, hb⟩, hf⟩
        case inr => exact ⟨rfl, Or.inr ⟨by rw [HXi.out]; unfold Pr.then; rw [hx], rfl, hb⟩, HE.out.a.fr.trans hf⟩
        have HE2 := Lib.hid (HE.out.call h6 hf)
        have HGj := Lib.hid (HGi.out.fr hf HGN.out.1)
        have HXj := Lib.hid (show rChg ws = (rNum.then fun a2 => Pr.give (⟨1, f, noB, 0, a0, a1, a2⟩ : ChgE)) r2 by rw [HXi.out]; unfold Pr.then; rw [hx]; first | done | rfl)
        clear hx h6 hf y0
        have y1 := HE2.out.k3.cell 5 (.int .i64 0) rfl
        have f1 := HE2.out.k3.frozen 5
        have HE3 := Lib.hid (show Rb w0 w p q r2 37 w3.heap.size zC (ccells ⟨1, f, noB, 0, a0, a1, 0⟩) (w8.setCell ⟨w3.heap.size, 5, none⟩ (.int .i64 a1)) from HE2.out.set 5 (.int .i64 a1))
        have HGl := Lib.hid (show Bk gb (ptrs w3.heap.size (knobsC 1)).toArray 70 (w8.setCell ⟨w3.heap.size, 5, none⟩ (.int .i64 a1)) by rw [HE2.out.k3.set]; exact HGj.out.off (Ne.symm HGN.out.2.1) _)
        go_wp2
        go_roundw
        case rel => exact Or.inr (Or.inr (Or.inl (⟨r2, a0, a1, by go_num, HXj, HE3, HGl⟩)))
        case measure => simp [intOf]
      · have y0 := HGi.out.cell 2 (.pointer (some ⟨w3.heap.size, 6, none⟩)) rfl
        go_wp2_with fail
        refine (c_rnum HG.out HE.out.a.r).mono ?_
        rintro e w8 ⟨⟨a2, r2, v, hx, rfl, rfl, h6⟩ | ⟨hx, rfl, hb⟩, hf⟩
        case inr => exact ⟨rfl, Or.inr ⟨by rw [HXi.out]; unfold Pr.then; rw [hx], rfl, hb⟩, HE.out.a.fr.trans hf⟩
        have HE2 := Lib.hid (HE.out.call h6 hf)
        have HGj := Lib.hid (HGi.out.fr hf HGN.out.1)
        have HXj := Lib.hid (show rChg ws = (Pr.give (⟨1, f, noB, 0, a0, a1, a2⟩ : ChgE)) r2 by rw [HXi.out]; unfold Pr.then; rw [hx]; first | done | rfl)
        clear hx h6 hf y0
        have y1 := HE2.out.k3.cell 6 (.int .i64 0) rfl
        have f1 := HE2.out.k3.frozen 6
        have HE3 := Lib.hid (show Rb w0 w p q r2 37 w3.heap.size zC (ccells ⟨1, f, noB, 0, a0, a1, a2⟩) (w8.setCell ⟨w3.heap.size, 6, none⟩ (.int .i64 a2)) from HE2.out.set 6 (.int .i64 a2))
        have HGl := Lib.hid (show Bk gb (ptrs w3.heap.size (knobsC 1)).toArray 70 (w8.setCell ⟨w3.heap.size, 6, none⟩ (.int .i64 a2)) by rw [HE2.out.k3.set]; exact HGj.out.off (Ne.symm HGN.out.2.1) _)
        go_wp2
        go_roundw
        case rel => exact Or.inr (Or.inr (Or.inr (⟨r2, a0, a1, a2, by go_num, HXj, HE3, HGl⟩)))
        case measure => simp [intOf]
      · go_wp2_with (first | (with_reducible show wpList _ _ _ ({ dst := _, op := Op.load 37 _, type := _, pos := _, after := _, guard := _ } :: _) _ _; refine wpList_load_all rfl 37 _ rfl w3.heap.size rfl 37 (ccells ⟨1, f, noB, 0, a0, a1, a2⟩) HE.out.k3 7 szC (nC _) ruC ?_) | (with_reducible show wpList _ _ _ ({ dst := _, op := Op.store 37 _ _, type := _, pos := _, after := _, guard := _ } :: _) _ _; refine wpList_store_all rfl 37 _ _ rfl w.heap.size (ccells ⟨1, f, noB, 0, a0, a1, a2⟩) rfl rfl 37 _ HE.out.a.k2 7 szC (nC _) rfl (ccells_one _) ?_; have HAf := Lib.hid (HE.out.fin (ccells ⟨1, f, noB, 0, a0, a1, a2⟩)); generalize World.setRow _ w.heap.size _ = Wf at HAf ⊢))
        exact bodyPost_ret (results_cell_row rfl _ _ w.heap.size _ _ (0, 0) _ rfl HAf.out.k2 Tryz.underlying37 rfl szC) rfl ⟨Or.inl ⟨⟨1, f, noB, 0, a0, a1, a2⟩, _, _, HXi.out, rfl, rfl, HAf.out.r⟩, HAf.out.fr⟩
  · have HXk := Lib.hid (show rChg ws = (rWord.then fun f => Pr.give (⟨2, f, noB, 0, 0, 0, 0⟩ : ChgE)) rest by rw [HX.out]; rfl)
    clear HX
    go_wp2_with (with_reducible show wpList _ _ _ ({ dst := _, op := Op.store 37 _ _, type := _, pos := _, after := _, guard := _ } :: _) _ _; refine wpList_store_all rfl 37 _ _ rfl w3.heap.size (ccells ⟨2, noB, noB, 0, 0, 0, 0⟩) rfl rfl 37 _ HB4.out.k3 7 szC (nC _) rfl (ccells_one _) ?_; have HB5 := Lib.hid (HB4.out.put (ccells ⟨2, noB, noB, 0, 0, 0, 0⟩)); generalize World.setRow _ w3.heap.size _ = W5 at HB5 ⊢; clear hW4; have x0 := HB5.out.k3.cell 0 (.int .i64 2) rfl)
    refine (c_rword HB5.out.a.r).mono ?_
    rintro e w6 ⟨⟨f, rest2, v, hx, rfl, rfl, h6⟩ | ⟨hx, rfl, hb⟩, hf⟩
    case inr => exact ⟨rfl, Or.inr ⟨by rw [HXk.out]; unfold Pr.then; rw [hx], rfl, hb⟩, HB5.out.a.fr.trans hf⟩
    have HB6 := Lib.hid (HB5.out.call h6 hf)
    obtain ⟨W7, hW7⟩ : ∃ W, w6.setCell ⟨w3.heap.size, 1, none⟩ (.string f) = W := ⟨_, rfl⟩
    have HB7 := Lib.hid (show Rb w0 w p q rest2 37 w3.heap.size zC (ccells ⟨2, f, noB, 0, 0, 0, 0⟩) W7 from hW7 ▸ HB6.out.set 1 (.string f))
    have HXl := Lib.hid (show rChg ws = (Pr.give (⟨2, f, noB, 0, 0, 0, 0⟩ : ChgE)) rest2 by rw [HXk.out]; unfold Pr.then; rw [hx]; first | done | rfl)
    clear hx h6 hf x0 HXk
    have y0 := HB6.out.k3.cell 1 (.string noB) rfl
    have f0 := HB6.out.k3.frozen 1
    have x0 := HB7.out.k3.cell 0 (.int .i64 2) rfl
    go_wp2_with fail
    refine (qual_no (by omega) _).mono ?_
    rintro e wq ⟨rfl, rfl⟩
    go_wp2_with fail
    refine (c_knobs2 _ _ x0).mono ?_
    rintro e wk ⟨rfl, rfl⟩
    clear hW7 y0 f0 x0
    go_wp2
    go_loopw [21] (fun v21 W => v21 = .int .i64 0 ∧ Hid (Rb w0 w p q rest2 37 w3.heap.size zC (ccells ⟨2, f, noB, 0, 0, 0, 0⟩) W)) (fun v21 _ => 0)
    case atStart => exact ⟨rfl, HB7⟩
    case round =>
      obtain ⟨rfl, HE⟩ := hrel
      clear HB7
      go_wp2_with (first | (with_reducible show wpList _ _ _ ({ dst := _, op := Op.load 37 _, type := _, pos := _, after := _, guard := _ } :: _) _ _; refine wpList_load_all rfl 37 _ rfl w3.heap.size rfl 37 (ccells ⟨2, f, noB, 0, 0, 0, 0⟩) HE.out.k3 7 szC (nC _) ruC ?_) | (with_reducible show wpList _ _ _ ({ dst := _, op := Op.store 37 _ _, type := _, pos := _, after := _, guard := _ } :: _) _ _; refine wpList_store_all rfl 37 _ _ rfl w.heap.size (ccells ⟨2, f, noB, 0, 0, 0, 0⟩) rfl rfl 37 _ HE.out.a.k2 7 szC (nC _) rfl (ccells_one _) ?_; have HAf := Lib.hid (HE.out.fin (ccells ⟨2, f, noB, 0, 0, 0, 0⟩)); generalize World.setRow _ w.heap.size _ = Wf at HAf ⊢))
      exact bodyPost_ret (results_cell_row rfl _ _ w.heap.size _ _ (0, 0) _ rfl HAf.out.k2 Tryz.underlying37 rfl szC) rfl ⟨Or.inl ⟨⟨2, f, noB, 0, 0, 0, 0⟩, _, _, HXl.out, rfl, rfl, HAf.out.r⟩, HAf.out.fr⟩
  · have HXk := Lib.hid (show rChg ws = (rWord.then fun f => rText.then fun q => rNum.then fun a0 => Pr.give (⟨3, f, q, a0, 0, 0, 0⟩ : ChgE)) rest by rw [HX.out]; rfl)
    clear HX
    go_wp2_with (with_reducible show wpList _ _ _ ({ dst := _, op := Op.store 37 _ _, type := _, pos := _, after := _, guard := _ } :: _) _ _; refine wpList_store_all rfl 37 _ _ rfl w3.heap.size (ccells ⟨3, noB, noB, 0, 0, 0, 0⟩) rfl rfl 37 _ HB4.out.k3 7 szC (nC _) rfl (ccells_one _) ?_; have HB5 := Lib.hid (HB4.out.put (ccells ⟨3, noB, noB, 0, 0, 0, 0⟩)); generalize World.setRow _ w3.heap.size _ = W5 at HB5 ⊢; clear hW4; have x0 := HB5.out.k3.cell 0 (.int .i64 3) rfl)
    refine (c_rword HB5.out.a.r).mono ?_
    rintro e w6 ⟨⟨f, rest2, v, hx, rfl, rfl, h6⟩ | ⟨hx, rfl, hb⟩, hf⟩
    case inr => exact ⟨rfl, Or.inr ⟨by rw [HXk.out]; unfold Pr.then; rw [hx], rfl, hb⟩, HB5.out.a.fr.trans hf⟩
    have HB6 := Lib.hid (HB5.out.call h6 hf)
    obtain ⟨W7, hW7⟩ : ∃ W, w6.setCell ⟨w3.heap.size, 1, none⟩ (.string f) = W := ⟨_, rfl⟩
    have HB7 := Lib.hid (show Rb w0 w p q rest2 37 w3.heap.size zC (ccells ⟨3, f, noB, 0, 0, 0, 0⟩) W7 from hW7 ▸ HB6.out.set 1 (.string f))
    have HXl := Lib.hid (show rChg ws = (rText.then fun q => rNum.then fun a0 => Pr.give (⟨3, f, q, a0, 0, 0, 0⟩ : ChgE)) rest2 by rw [HXk.out]; unfold Pr.then; rw [hx]; first | done | rfl)
    clear hx h6 hf x0 HXk
    have y0 := HB6.out.k3.cell 1 (.string noB) rfl
    have f0 := HB6.out.k3.frozen 1
    have x0 := HB7.out.k3.cell 0 (.int .i64 3) rfl
    go_wp2_with fail
    refine (qual_yes (by omega) _).mono ?_
    rintro e wq ⟨rfl, rfl⟩
    clear hW7 y0 f0 x0
    go_wp2_with fail
    refine (c_rtext HB7.out.a.r).mono ?_
    rintro e w8 ⟨⟨t, rest3, v, hx, rfl, rfl, h6⟩ | ⟨hx, rfl, hb⟩, hf⟩
    case inr => exact ⟨rfl, Or.inr ⟨by rw [HXl.out]; unfold Pr.then; rw [hx], rfl, hb⟩, HB7.out.a.fr.trans hf⟩
    have HB8 := Lib.hid (HB7.out.call h6 hf)
    obtain ⟨W9, hW9⟩ : ∃ W, w8.setCell ⟨w3.heap.size, 2, none⟩ (.string t) = W := ⟨_, rfl⟩
    have HB9 := Lib.hid (show Rb w0 w p q rest3 37 w3.heap.size zC (ccells ⟨3, f, t, 0, 0, 0, 0⟩) W9 from hW9 ▸ HB8.out.set 2 (.string t))
    have HXm := Lib.hid (show rChg ws = (rNum.then fun a0 => Pr.give (⟨3, f, t, a0, 0, 0, 0⟩ : ChgE)) rest3 by rw [HXl.out]; unfold Pr.then; rw [hx]; first | done | rfl)
    clear hx h6 hf HXl
    have y0 := HB8.out.k3.cell 2 (.string noB) rfl
    have f0 := HB8.out.k3.frozen 2
    have x0 := HB9.out.k3.cell 0 (.int .i64 3) rfl
    go_wp2_with fail
    refine (c_knobs3 _ _ x0).mono ?_
    rintro e wk ⟨vk, rfl, rfl, hrk, hbk⟩
    have HBk := Lib.hid (HB9.out.next hbk)
    have HGk := Lib.hid (show Bk W9.heap.size (ptrs w3.heap.size (knobsC 3)).toArray 70 wk from hrk)
    have HGN := Lib.hid (show W9.heap.size ≠ p ∧ W9.heap.size ≠ w3.heap.size ∧ w.heap.size < W9.heap.size from ⟨by have := HB9.out.a.r.is.plt; omega, by have := HB9.out.k3.lt; omega, by have := HB9.out.k3.lt; have := HB9.out.n3; omega⟩)
    clear hrk hbk hW9 y0 f0 x0 HB9
    generalize W9.heap.size = gb at *
    go_wp2
    go_loopw [21] (fun v21 W => (∃ (r : List ByteArray), v21 = .int .i64 0 ∧ Hid (rChg ws = (rNum.then fun a0 => Pr.give (⟨3, f, t, a0, 0, 0, 0⟩ : ChgE)) r) ∧ Hid (Rb w0 w p q r 37 w3.heap.size zC (ccells ⟨3, f, t, 0, 0, 0, 0⟩) W) ∧ Hid (Bk gb (ptrs w3.heap.size (knobsC 3)).toArray 70 W)) ∨ (∃ (r : List ByteArray) (a0 : Int), v21 = .int .i64 1 ∧ Hid (rChg ws = (Pr.give (⟨3, f, t, a0, 0, 0, 0⟩ : ChgE)) r) ∧ Hid (Rb w0 w p q r 37 w3.heap.size zC (ccells ⟨3, f, t, a0, 0, 0, 0⟩) W) ∧ Hid (Bk gb (ptrs w3.heap.size (knobsC 3)).toArray 70 W))) (fun v21 _ => 1 - (intOf v21).toNat)
    case atStart => exact Or.inl (⟨rest3, rfl, HXm, HBk, HGk⟩)
    case round =>
      clear HBk HGk HXm
      rcases hrel with ⟨r, rfl, HXi, HE, HGi⟩ | ⟨r, a0, rfl, HXi, HE, HGi⟩
      · have y0 := HGi.out.cell 0 (.pointer (some ⟨w3.heap.size, 3, none⟩)) rfl
        go_wp2_with fail
        refine (c_rnum HG.out HE.out.a.r).mono ?_
        rintro e w8 ⟨⟨a0, r2, v, hx, rfl, rfl, h6⟩ | ⟨hx, rfl, hb⟩, hf⟩
        case inr => exact ⟨rfl, Or.inr ⟨by rw [HXi.out]; unfold Pr.then; rw [hx], rfl, hb⟩, HE.out.a.fr.trans hf⟩
        have HE2 := Lib.hid (HE.out.call h6 hf)
        have HGj := Lib.hid (HGi.out.fr hf HGN.out.1)
        have HXj := Lib.hid (show rChg ws = (Pr.give (⟨3, f, t, a0, 0, 0, 0⟩ : ChgE)) r2 by rw [HXi.out]; unfold Pr.then; rw [hx]; first | done | rfl)
        clear hx h6 hf y0
        have y1 := HE2.out.k3.cell 3 (.int .i64 0) rfl
        have f1 := HE2.out.k3.frozen 3
        have HE3 := Lib.hid (show Rb w0 w p q r2 37 w3.heap.size zC (ccells ⟨3, f, t, a0, 0, 0, 0⟩) (w8.setCell ⟨w3.heap.size, 3, none⟩ (.int .i64 a0)) from HE2.out.set 3 (.int .i64 a0))
        have HGl := Lib.hid (show Bk gb (ptrs w3.heap.size (knobsC 3)).toArray 70 (w8.setCell ⟨w3.heap.size, 3, none⟩ (.int .i64 a0)) by rw [HE2.out.k3.set]; exact HGj.out.off (Ne.symm HGN.out.2.1) _)
        go_wp2
        go_roundw
        case rel => exact Or.inr (⟨r2, a0, by go_num, HXj, HE3, HGl⟩)
        case measure => simp [intOf]
      · go_wp2_with (first | (with_reducible show wpList _ _ _ ({ dst := _, op := Op.load 37 _, type := _, pos := _, after := _, guard := _ } :: _) _ _; refine wpList_load_all rfl 37 _ rfl w3.heap.size rfl 37 (ccells ⟨3, f, t, a0, 0, 0, 0⟩) HE.out.k3 7 szC (nC _) ruC ?_) | (with_reducible show wpList _ _ _ ({ dst := _, op := Op.store 37 _ _, type := _, pos := _, after := _, guard := _ } :: _) _ _; refine wpList_store_all rfl 37 _ _ rfl w.heap.size (ccells ⟨3, f, t, a0, 0, 0, 0⟩) rfl rfl 37 _ HE.out.a.k2 7 szC (nC _) rfl (ccells_one _) ?_; have HAf := Lib.hid (HE.out.fin (ccells ⟨3, f, t, a0, 0, 0, 0⟩)); generalize World.setRow _ w.heap.size _ = Wf at HAf ⊢))
        exact bodyPost_ret (results_cell_row rfl _ _ w.heap.size _ _ (0, 0) _ rfl HAf.out.k2 Tryz.underlying37 rfl szC) rfl ⟨Or.inl ⟨⟨3, f, t, a0, 0, 0, 0⟩, _, _, HXi.out, rfl, rfl, HAf.out.r⟩, HAf.out.fr⟩
  · have HXk := Lib.hid (show rChg ws = (rWord.then fun f => rText.then fun q => Pr.give (⟨4, f, q, 0, 0, 0, 0⟩ : ChgE)) rest by rw [HX.out]; rfl)
    clear HX
    go_wp2_with (with_reducible show wpList _ _ _ ({ dst := _, op := Op.store 37 _ _, type := _, pos := _, after := _, guard := _ } :: _) _ _; refine wpList_store_all rfl 37 _ _ rfl w3.heap.size (ccells ⟨4, noB, noB, 0, 0, 0, 0⟩) rfl rfl 37 _ HB4.out.k3 7 szC (nC _) rfl (ccells_one _) ?_; have HB5 := Lib.hid (HB4.out.put (ccells ⟨4, noB, noB, 0, 0, 0, 0⟩)); generalize World.setRow _ w3.heap.size _ = W5 at HB5 ⊢; clear hW4; have x0 := HB5.out.k3.cell 0 (.int .i64 4) rfl)
    refine (c_rword HB5.out.a.r).mono ?_
    rintro e w6 ⟨⟨f, rest2, v, hx, rfl, rfl, h6⟩ | ⟨hx, rfl, hb⟩, hf⟩
    case inr => exact ⟨rfl, Or.inr ⟨by rw [HXk.out]; unfold Pr.then; rw [hx], rfl, hb⟩, HB5.out.a.fr.trans hf⟩
    have HB6 := Lib.hid (HB5.out.call h6 hf)
    obtain ⟨W7, hW7⟩ : ∃ W, w6.setCell ⟨w3.heap.size, 1, none⟩ (.string f) = W := ⟨_, rfl⟩
    have HB7 := Lib.hid (show Rb w0 w p q rest2 37 w3.heap.size zC (ccells ⟨4, f, noB, 0, 0, 0, 0⟩) W7 from hW7 ▸ HB6.out.set 1 (.string f))
    have HXl := Lib.hid (show rChg ws = (rText.then fun q => Pr.give (⟨4, f, q, 0, 0, 0, 0⟩ : ChgE)) rest2 by rw [HXk.out]; unfold Pr.then; rw [hx]; first | done | rfl)
    clear hx h6 hf x0 HXk
    have y0 := HB6.out.k3.cell 1 (.string noB) rfl
    have f0 := HB6.out.k3.frozen 1
    have x0 := HB7.out.k3.cell 0 (.int .i64 4) rfl
    go_wp2_with fail
    refine (qual_yes (by omega) _).mono ?_
    rintro e wq ⟨rfl, rfl⟩
    clear hW7 y0 f0 x0
    go_wp2_with fail
    refine (c_rtext HB7.out.a.r).mono ?_
    rintro e w8 ⟨⟨t, rest3, v, hx, rfl, rfl, h6⟩ | ⟨hx, rfl, hb⟩, hf⟩
    case inr => exact ⟨rfl, Or.inr ⟨by rw [HXl.out]; unfold Pr.then; rw [hx], rfl, hb⟩, HB7.out.a.fr.trans hf⟩
    have HB8 := Lib.hid (HB7.out.call h6 hf)
    obtain ⟨W9, hW9⟩ : ∃ W, w8.setCell ⟨w3.heap.size, 2, none⟩ (.string t) = W := ⟨_, rfl⟩
    have HB9 := Lib.hid (show Rb w0 w p q rest3 37 w3.heap.size zC (ccells ⟨4, f, t, 0, 0, 0, 0⟩) W9 from hW9 ▸ HB8.out.set 2 (.string t))
    have HXm := Lib.hid (show rChg ws = (Pr.give (⟨4, f, t, 0, 0, 0, 0⟩ : ChgE)) rest3 by rw [HXl.out]; unfold Pr.then; rw [hx]; first | done | rfl)
    clear hx h6 hf HXl
    have y0 := HB8.out.k3.cell 2 (.string noB) rfl
    have f0 := HB8.out.k3.frozen 2
    have x0 := HB9.out.k3.cell 0 (.int .i64 4) rfl
    go_wp2_with fail
    refine (c_knobs4 _ _ x0).mono ?_
    rintro e wk ⟨rfl, rfl⟩
    clear hW9 y0 f0 x0
    go_wp2
    go_loopw [21] (fun v21 W => v21 = .int .i64 0 ∧ Hid (Rb w0 w p q rest3 37 w3.heap.size zC (ccells ⟨4, f, t, 0, 0, 0, 0⟩) W)) (fun v21 _ => 0)
    case atStart => exact ⟨rfl, HB9⟩
    case round =>
      obtain ⟨rfl, HE⟩ := hrel
      clear HB9
      go_wp2_with (first | (with_reducible show wpList _ _ _ ({ dst := _, op := Op.load 37 _, type := _, pos := _, after := _, guard := _ } :: _) _ _; refine wpList_load_all rfl 37 _ rfl w3.heap.size rfl 37 (ccells ⟨4, f, t, 0, 0, 0, 0⟩) HE.out.k3 7 szC (nC _) ruC ?_) | (with_reducible show wpList _ _ _ ({ dst := _, op := Op.store 37 _ _, type := _, pos := _, after := _, guard := _ } :: _) _ _; refine wpList_store_all rfl 37 _ _ rfl w.heap.size (ccells ⟨4, f, t, 0, 0, 0, 0⟩) rfl rfl 37 _ HE.out.a.k2 7 szC (nC _) rfl (ccells_one _) ?_; have HAf := Lib.hid (HE.out.fin (ccells ⟨4, f, t, 0, 0, 0, 0⟩)); generalize World.setRow _ w.heap.size _ = Wf at HAf ⊢))
      exact bodyPost_ret (results_cell_row rfl _ _ w.heap.size _ _ (0, 0) _ rfl HAf.out.k2 Tryz.underlying37 rfl szC) rfl ⟨Or.inl ⟨⟨4, f, t, 0, 0, 0, 0⟩, _, _, HXm.out, rfl, rfl, HAf.out.r⟩, HAf.out.fr⟩
  · have HXk := Lib.hid (show rChg ws = (rWord.then fun f => rNum.then fun a0 => Pr.give (⟨5, f, noB, 0, a0, 0, 0⟩ : ChgE)) rest by rw [HX.out]; rfl)
    clear HX
    go_wp2_with (with_reducible show wpList _ _ _ ({ dst := _, op := Op.store 37 _ _, type := _, pos := _, after := _, guard := _ } :: _) _ _; refine wpList_store_all rfl 37 _ _ rfl w3.heap.size (ccells ⟨5, noB, noB, 0, 0, 0, 0⟩) rfl rfl 37 _ HB4.out.k3 7 szC (nC _) rfl (ccells_one _) ?_; have HB5 := Lib.hid (HB4.out.put (ccells ⟨5, noB, noB, 0, 0, 0, 0⟩)); generalize World.setRow _ w3.heap.size _ = W5 at HB5 ⊢; clear hW4; have x0 := HB5.out.k3.cell 0 (.int .i64 5) rfl)
    refine (c_rword HB5.out.a.r).mono ?_
    rintro e w6 ⟨⟨f, rest2, v, hx, rfl, rfl, h6⟩ | ⟨hx, rfl, hb⟩, hf⟩
    case inr => exact ⟨rfl, Or.inr ⟨by rw [HXk.out]; unfold Pr.then; rw [hx], rfl, hb⟩, HB5.out.a.fr.trans hf⟩
    have HB6 := Lib.hid (HB5.out.call h6 hf)
    obtain ⟨W7, hW7⟩ : ∃ W, w6.setCell ⟨w3.heap.size, 1, none⟩ (.string f) = W := ⟨_, rfl⟩
    have HB7 := Lib.hid (show Rb w0 w p q rest2 37 w3.heap.size zC (ccells ⟨5, f, noB, 0, 0, 0, 0⟩) W7 from hW7 ▸ HB6.out.set 1 (.string f))
    have HXl := Lib.hid (show rChg ws = (rNum.then fun a0 => Pr.give (⟨5, f, noB, 0, a0, 0, 0⟩ : ChgE)) rest2 by rw [HXk.out]; unfold Pr.then; rw [hx]; first | done | rfl)
    clear hx h6 hf x0 HXk
    have y0 := HB6.out.k3.cell 1 (.string noB) rfl
    have f0 := HB6.out.k3.frozen 1
    have x0 := HB7.out.k3.cell 0 (.int .i64 5) rfl
    go_wp2_with fail
    refine (qual_no (by omega) _).mono ?_
    rintro e wq ⟨rfl, rfl⟩
    go_wp2_with fail
    refine (c_knobs5 _ _ x0).mono ?_
    rintro e wk ⟨vk, rfl, rfl, hrk, hbk⟩
    have HBk := Lib.hid (HB7.out.next hbk)
    have HGk := Lib.hid (show Bk W7.heap.size (ptrs w3.heap.size (knobsC 5)).toArray 70 wk from hrk)
    have HGN := Lib.hid (show W7.heap.size ≠ p ∧ W7.heap.size ≠ w3.heap.size ∧ w.heap.size < W7.heap.size from ⟨by have := HB7.out.a.r.is.plt; omega, by have := HB7.out.k3.lt; omega, by have := HB7.out.k3.lt; have := HB7.out.n3; omega⟩)
    clear hrk hbk hW7 y0 f0 x0 HB7
    generalize W7.heap.size = gb at *
    go_wp2
    go_loopw [21] (fun v21 W => (∃ (r : List ByteArray), v21 = .int .i64 0 ∧ Hid (rChg ws = (rNum.then fun a0 => Pr.give (⟨5, f, noB, 0, a0, 0, 0⟩ : ChgE)) r) ∧ Hid (Rb w0 w p q r 37 w3.heap.size zC (ccells ⟨5, f, noB, 0, 0, 0, 0⟩) W) ∧ Hid (Bk gb (ptrs w3.heap.size (knobsC 5)).toArray 70 W)) ∨ (∃ (r : List ByteArray) (a0 : Int), v21 = .int .i64 1 ∧ Hid (rChg ws = (Pr.give (⟨5, f, noB, 0, a0, 0, 0⟩ : ChgE)) r) ∧ Hid (Rb w0 w p q r 37 w3.heap.size zC (ccells ⟨5, f, noB, 0, a0, 0, 0⟩) W) ∧ Hid (Bk gb (ptrs w3.heap.size (knobsC 5)).toArray 70 W))) (fun v21 _ => 1 - (intOf v21).toNat)
    case atStart => exact Or.inl (⟨rest2, rfl, HXl, HBk, HGk⟩)
    case round =>
      clear HBk HGk HXl
      rcases hrel with ⟨r, rfl, HXi, HE, HGi⟩ | ⟨r, a0, rfl, HXi, HE, HGi⟩
      · have y0 := HGi.out.cell 0 (.pointer (some ⟨w3.heap.size, 4, none⟩)) rfl
        go_wp2_with fail
        refine (c_rnum HG.out HE.out.a.r).mono ?_
        rintro e w8 ⟨⟨a0, r2, v, hx, rfl, rfl, h6⟩ | ⟨hx, rfl, hb⟩, hf⟩
        case inr => exact ⟨rfl, Or.inr ⟨by rw [HXi.out]; unfold Pr.then; rw [hx], rfl, hb⟩, HE.out.a.fr.trans hf⟩
        have HE2 := Lib.hid (HE.out.call h6 hf)
        have HGj := Lib.hid (HGi.out.fr hf HGN.out.1)
        have HXj := Lib.hid (show rChg ws = (Pr.give (⟨5, f, noB, 0, a0, 0, 0⟩ : ChgE)) r2 by rw [HXi.out]; unfold Pr.then; rw [hx]; first | done | rfl)
        clear hx h6 hf y0
        have y1 := HE2.out.k3.cell 4 (.int .i64 0) rfl
        have f1 := HE2.out.k3.frozen 4
        have HE3 := Lib.hid (show Rb w0 w p q r2 37 w3.heap.size zC (ccells ⟨5, f, noB, 0, a0, 0, 0⟩) (w8.setCell ⟨w3.heap.size, 4, none⟩ (.int .i64 a0)) from HE2.out.set 4 (.int .i64 a0))
        have HGl := Lib.hid (show Bk gb (ptrs w3.heap.size (knobsC 5)).toArray 70 (w8.setCell ⟨w3.heap.size, 4, none⟩ (.int .i64 a0)) by rw [HE2.out.k3.set]; exact HGj.out.off (Ne.symm HGN.out.2.1) _)
        go_wp2
        go_roundw
        case rel => exact Or.inr (⟨r2, a0, by go_num, HXj, HE3, HGl⟩)
        case measure => simp [intOf]
      · go_wp2_with (first | (with_reducible show wpList _ _ _ ({ dst := _, op := Op.load 37 _, type := _, pos := _, after := _, guard := _ } :: _) _ _; refine wpList_load_all rfl 37 _ rfl w3.heap.size rfl 37 (ccells ⟨5, f, noB, 0, a0, 0, 0⟩) HE.out.k3 7 szC (nC _) ruC ?_) | (with_reducible show wpList _ _ _ ({ dst := _, op := Op.store 37 _ _, type := _, pos := _, after := _, guard := _ } :: _) _ _; refine wpList_store_all rfl 37 _ _ rfl w.heap.size (ccells ⟨5, f, noB, 0, a0, 0, 0⟩) rfl rfl 37 _ HE.out.a.k2 7 szC (nC _) rfl (ccells_one _) ?_; have HAf := Lib.hid (HE.out.fin (ccells ⟨5, f, noB, 0, a0, 0, 0⟩)); generalize World.setRow _ w.heap.size _ = Wf at HAf ⊢))
        exact bodyPost_ret (results_cell_row rfl _ _ w.heap.size _ _ (0, 0) _ rfl HAf.out.k2 Tryz.underlying37 rfl szC) rfl ⟨Or.inl ⟨⟨5, f, noB, 0, a0, 0, 0⟩, _, _, HXi.out, rfl, rfl, HAf.out.r⟩, HAf.out.fr⟩
end Go.Proofs.YtkogcobcjoojnaaGreatDoor.Fl

namespace Go.Proofs.YtkogcobcjoojnaaGreatDoor.Fl
open Go.RowKit Go.Maps
set_option linter.unusedVariables false
set_option linter.unusedSimpArgs false
theorem own_keep {W W' : World} {B : Nat} {e : TypeId} {sz : Nat} {v : Value} {n : Nat} {xs : List Value} (h : W.ownsRow B e sz v n xs) (hk : ∀ g, B ≤ g → g < W.heap.size → W'.heap[g]? = W.heap[g]?) : W'.ownsRow B e sz v n xs := by
  refine ⟨h.1, ?_⟩
  rcases h.2 with h0 | ⟨g, cap, cur, hv, hB, hg, r⟩
  · exact Or.inl h0
  · exact Or.inr ⟨g, cap, cur, hv, hB, by rw [hk g hB (Array.getElem?_eq_some_iff.1 hg).1]; exact hg, r⟩
theorem wp_append_at {P : Program} {w : World} {o : Oper} {a : Act} {K : Act → World → Prop} {Q : Exit → Act → World → Prop} (s x : Operand) (t : TypeId)
    (ho : o.op = .call { callee := .builtin .append, args := #[s, x], argTypes := #[t, t] })
    (base : Nat) (e : TypeId) (i : TypeInfo) (z : Value) (size bytes : Nat) (ht : P.underlying t = some (.slice e)) (hi : P.info? e = some i) (hz : i.zero = some z)
    (hsize : i.size = size) (hby : i.bytes = bytes) (hzs : z.cells.size = size) (hsz : 0 < size)
    (v : Value) (n : Nat) (xs : List Value) (hs : a.eval s = v) (hown : w.ownsRow base e size v n xs)
    (ad : Addr) (m c : Nat) (news : List Value) (hx : a.eval x = .slice (some ad) m c) (hl : news.length = m * size) (hnews : ∀ j u, news[j]? = some u → w.cell? (ad.add j) = some u) (h1 : ∀ u ∈ news, u.oneCell' = true)
    (h63 : n + m ≤ maxLen) (hbytes : (n + m) * bytes ≤ 140737488355328) (hbase : base ≤ w.heap.size)
    (h : ∀ v' w', w'.ownsRow base e size v' (n + m) (xs ++ news) → w.grownBy w' v.ownBlock → K (a.put o.dst v') w') : o.wp P a w K Q := by
  obtain ⟨v', w', hr, h2, h3, h4, h5⟩ := run_append_own_at (P := P) w base t o.type e i z size bytes ht hi hz hsize hby hzs hsz v n xs hown ad m c news hl hnews h1 h63 hbytes hbase
  unfold Oper.wp execOp
  simp only [ho, resolve, invoke, builtin, Sem.run_bind, Sem.run_pure, Result.andThen_ok, List.map_toArray, List.map_cons, List.map_nil, hs, hx, hr]
  exact h v' w' h2 h3
theorem Rb.low {w0 w : World} {p q : Nat} {ws : List ByteArray} {T : TypeId} {b B : Nat} {Z cs : Array Value} {W W' : World} (h : Rb w0 w p q ws T b Z cs W) (hb : Below B W W') (h1 : b < B) (h2 : p < B) (h3 : q < B) : Rb w0 w p q ws T b Z cs W' := by
  have hn := h.n3
  have hs := h.a.s0
  exact ⟨⟨⟨h.a.r.is.other hb.size (hb.block _ h2) (hb.block _ h3), h.a.r.bel.trans (hb.mono (by omega)), h.a.r.base⟩, ⟨Nat.le_trans h.a.fr.size hb.size, fun k hk hne => (hb.block k (by omega)).trans (h.a.fr.keeps k hk hne)⟩, (hb.block _ (by omega)).trans h.a.k2, h.a.s0, h.a.p2, h.a.q2⟩, (hb.block _ h1).trans h.k3, h.p3, h.q3, h.n3⟩
/-- .. and a row of its own. -/
structure Rc (w0 w : World) (p q : Nat) (ws : List ByteArray) (T : TypeId) (b B : Nat) (Z cs : Array Value) (e : TypeId) (sz : Nat) (v : Value) (n : Nat) (xs : List Value) (W : World) : Prop where
  rb : Rb w0 w p q ws T b Z cs W
  own : W.ownsRow B e sz v n xs
  hb : b < B
  hp : p < B
  hq : q < B
  hs : B ≤ W.heap.size
theorem Rc.call {w0 w : World} {p q : Nat} {ws ws' : List ByteArray} {T : TypeId} {b B : Nat} {Z cs : Array Value} {e : TypeId} {sz : Nat} {v : Value} {n : Nat} {xs : List Value} {W W' : World} (h : Rc w0 w p q ws T b B Z cs e sz v n xs W) (hr : Rr w0 p q ws' W') (hf : FrR p W W') : Rc w0 w p q ws' T b B Z cs e sz v n xs W' :=
  ⟨h.rb.call hr hf, own_keep h.own (fun g hg hl => hf.keeps g hl (by have := h.hp; omega)), h.hb, h.hp, h.hq, Nat.le_trans h.hs hf.size⟩
theorem Rc.next {w0 w : World} {p q : Nat} {ws : List ByteArray} {T : TypeId} {b B : Nat} {Z cs : Array Value} {e : TypeId} {sz : Nat} {v : Value} {n : Nat} {xs : List Value} {W W' : World} (h : Rc w0 w p q ws T b B Z cs e sz v n xs W) (hb : Below W.heap.size W W') : Rc w0 w p q ws T b B Z cs e sz v n xs W' := h.call (h.rb.a.r.keep hb) (FrR.below hb)
theorem Rc.grown {w0 w : World} {p q : Nat} {ws : List ByteArray} {T : TypeId} {b B : Nat} {Z cs : Array Value} {e : TypeId} {sz : Nat} {v : Value} {n : Nat} {xs : List Value} {W W' : World} (h : Rc w0 w p q ws T b B Z cs e sz v n xs W) {v' : Value} {n' : Nat} {xs' : List Value} (ho : W'.ownsRow B e sz v' n' xs') (hg : W.grownBy W' v.ownBlock) : Rc w0 w p q ws T b B Z cs e sz v' n' xs' W' :=
  ⟨h.rb.low ((Below.refl B W).grown hg h.hs (fun k hk => (h.own.lt k hk).1)) h.hb h.hp h.hq, ho, h.hb, h.hp, h.hq, Nat.le_trans h.hs hg.size⟩
theorem Rc.set {w0 w : World} {p q : Nat} {ws : List ByteArray} {T : TypeId} {b B : Nat} {Z cs : Array Value} {e : TypeId} {sz : Nat} {v : Value} {n : Nat} {xs : List Value} {W : World} (h : Rc w0 w p q ws T b B Z cs e sz v n xs W) (j : Nat) (u : Value) : Rc w0 w p q ws T b B Z (cs.setIfInBounds j u) e sz v n xs (W.setCell ⟨b, j, none⟩ u) := by
  refine ⟨h.rb.set j u, own_keep h.own (fun g hg hl => ?_), h.hb, h.hp, h.hq, by rw [setCell_size]; exact h.hs⟩
  exact Below.heap_setCell _ _ _ _ (by have := h.hb; show g ≠ b; omega)
/-- Rows of texts, as they were made. -/
theorem own_hasS {W : World} {B : Nat} {v : Value} {xs : List ByteArray} (h : W.ownsRow B 9 1 v xs.length (strs xs)) : HasS W v xs := by
  have hc := fun g (hg : v.ownBlock = some g) => h.cells hg
  rcases h.2 with ⟨rfl, h0⟩ | ⟨g, cap, cur, rfl, _⟩
  · exact ⟨none, 0, by rw [h0], fun j hj => by omega⟩
  · exact ⟨_, _, rfl, fun j hj => ⟨_, rfl, hc g rfl j _ (by simp [strs, hj, List.getD])⟩⟩
theorem infoM : (Tryz.prog.info? 90).map (fun i => (i.zero, i.size, i.bytes)) = some (some (.agg zM), 6, 72) := by kernel_rfl
end Go.Proofs.YtkogcobcjoojnaaGreatDoor.Fl

namespace Go.Proofs.YtkogcobcjoojnaaGreatDoor.Fl
open Go.RowKit Go.Maps
set_option linter.unusedVariables false
set_option linter.unusedSimpArgs false
theorem c_rword_cons {w0 : World} {p q : Nat} {s : ByteArray} {rest : List ByteArray} {w : World} (h : Rr w0 p q (s :: rest) w) :
    Calls Tryz.prog 110 #[.pointer (some ⟨p, 0, none⟩)] w fun e w' => e = .returned (.string s) ∧ Rr w0 p q rest w' ∧ FrR p w w' :=
  (c_rword h).mono fun e w' hr => by
    rcases hr with ⟨⟨x, r, v, hx, he, hv, h1⟩ | ⟨hx, _⟩, hf⟩
    · obtain ⟨rfl, rfl⟩ : s = x ∧ rest = r := by simpa [rWord] using hx
      exact ⟨by rw [he, hv], h1, hf⟩
    · cases hx
def rFil2 (l : List ByteArray) : Pr FilE := rText.then fun lo => rText.then fun hi => rNum.then fun a => rNum.then fun b => rNum.then fun c => rNum.then fun d => Pr.give ⟨l, lo, hi, a, b, c, d⟩
theorem take_step (n : Nat) (fs : List ByteArray) (s : ByteArray) (r : List ByteArray) : ((rTake (n + 1)).then fun l => rFil2 (fs ++ l)) (s :: r) = ((rTake n).then fun l => rFil2 ((fs ++ [s]) ++ l)) r := by
  show (((rWord.then fun w => (rTake n).then fun l => Pr.give (w :: l)).then fun l => rFil2 (fs ++ l)) (s :: r)) = _
  unfold Pr.then
  simp only [rWord]
  cases h : rTake n r with
  | none => rfl
  | some x =>
    obtain ⟨l, r2⟩ := x
    simp [Pr.give]
theorem rFil_start {ws rest : List ByteArray} {n : Nat} (hx : rNum ws = some ((n : Int), rest)) (h : n ≤ rest.length) : rFil ws = ((rTake (n - 0)).then fun l => rFil2 ([] ++ l)) rest := by
  unfold rFil Pr.then
  rw [hx]
  simp only
  rw [if_pos ⟨by omega, by omega⟩, Int.toNat_natCast]
  rfl
theorem rFil_bad {ws rest : List ByteArray} {n : Int} (hx : rNum ws = some (n, rest)) (h : ¬ (0 ≤ n ∧ n ≤ (rest.length : Int))) : rFil ws = none := by
  unfold rFil Pr.then
  rw [hx]
  simp only
  rw [if_neg h]
set_option maxHeartbeats 8000000 in
set_option maxRecDepth 100000 in
theorem c_rfil0 {w0 : World} (hg : Gv w0) {p q : Nat} {ws : List ByteArray} {w : World} (h : Rr w0 p q ws w) :
    Calls Tryz.prog 113 #[.pointer (some ⟨p, 0, none⟩)] w fun e w' => RdR (fun f x W => ∃ v B, x = .agg (fcells v f) ∧ W.ownsRow B 9 1 v f.fams.length (strs f.fams) ∧ p < B ∧ w.heap.size ≤ B) (rFil ws) w0 p q w e w' := by
  have szF := szF
  obtain ⟨i0, hi0, hz0, hz1, hz2⟩ := info_parts infoS
  have HG := Lib.hid hg
  have HLW := Lib.hid h.is.len
  obtain ⟨W1, hW1⟩ : ∃ W, w.alloc (.cells zF 33) = W := ⟨_, rfl⟩
  have hs1 : W1.heap.size = w.heap.size + 1 := by rw [← hW1]; show (w.heap.push _).size = _; simp
  have HA1 : Ra w0 w p q ws 33 zF W1 := hW1 ▸ Ra.start h zF 33
  obtain ⟨W2, hW2⟩ : ∃ W, W1.alloc (.cells zF 33) = W := ⟨_, rfl⟩
  have HB2 := Lib.hid (show Rb w0 w p q ws 33 (w.heap.size + 1) zF zF W2 by rw [← hs1]; exact hW2 ▸ HA1.box zF)
  have HP2 := Lib.hid (show p < W2.heap.size ∧ q < W2.heap.size from ⟨HB2.out.a.r.is.plt, HB2.out.a.r.is.lt⟩)
  clear h hg HA1
  go_enter Tryz.func113, Tryz.ntmps113
  go_wp2_with fail
  refine (c_rnum HG.out HB2.out.a.r).mono ?_
  rintro e w3 ⟨⟨n, rest, v, hx, rfl, rfl, h3⟩ | ⟨hx, rfl, hb⟩, hf⟩
  case inr => exact ⟨rfl, Or.inr ⟨by unfold rFil Pr.then; rw [hx], rfl, hb⟩, HB2.out.a.fr.trans hf⟩
  have HB3 := Lib.hid (HB2.out.call h3 hf)
  have HP3 := Lib.hid (show p < w3.heap.size ∧ q < w3.heap.size ∧ w.heap.size + 1 < w3.heap.size from ⟨HB3.out.a.r.is.plt, HB3.out.a.r.is.lt, HB3.out.k3.lt⟩)
  have HX := Lib.hid hx
  clear hx h3 hf hW1 hW2 hs1 HB2 HP2
  obtain ⟨ra, rc, hrb, hrc, _⟩ := HB3.out.a.r.is.blk
  have x0 : w3.cell? ⟨p, 0, none⟩ = some (.slice ra rest.length rc) := by simp [World.cell?, hrb]
  clear hrb hrc
  by_cases hn0 : 0 ≤ n
  case neg =>
    have HB0 := Lib.hid (rFil_bad HX.out (fun h => hn0 h.1))
    have d1 : decide (0 ≤ n) = false := decide_eq_false hn0
    clear HX
    go_wp2_with fail
    refine (c_need0 _ rfl _).mono ?_
    rintro e w4 ⟨rfl, rfl⟩
    exact ⟨rfl, Or.inr ⟨HB0.out, rfl, HB3.out.a.r.bel⟩, HB3.out.a.fr⟩
  have d1 : decide (0 ≤ n) = true := decide_eq_true hn0
  by_cases hn1 : n ≤ (rest.length : Int)
  case neg =>
    have HB0 := Lib.hid (rFil_bad HX.out (fun h => hn1 h.2))
    have d2 : decide (n ≤ (rest.length : Int)) = false := decide_eq_false hn1
    clear HX
    go_wp2_with fail
    refine (c_need0 _ (by first | rfl | simpa using hn1) _).mono ?_
    rintro e w4 ⟨rfl, rfl⟩
    exact ⟨rfl, Or.inr ⟨HB0.out, rfl, HB3.out.a.r.bel⟩, HB3.out.a.fr⟩
  have d2 : decide (n ≤ (rest.length : Int)) = true := decide_eq_true hn1
  obtain ⟨N, rfl⟩ : ∃ N : Nat, n = N := ⟨n.toNat, by omega⟩
  have hNr : N ≤ rest.length := by omega
  have HNS := Lib.hid (rFil_start HX.out hNr)
  have HNL := Lib.hid (show N ≤ 1000000 from Nat.le_trans hNr HB3.out.a.r.is.len)
  have HNR := Lib.hid hNr
  clear HX
  go_wp2_with fail
  refine (c_need1 _ (by first | rfl | simpa using hn1) _).mono ?_
  rintro e w4 ⟨rfl, rfl⟩
  have HC4 := Lib.hid (show Rc w0 w p q rest 33 (w.heap.size + 1) w4.heap.size zF zF 9 1 (.slice none 0 0) 0 [] w4 from ⟨HB3.out, ⟨rfl, Or.inl ⟨rfl, rfl⟩⟩, HP3.out.2.2, HP3.out.1, HP3.out.2.1, Nat.le_refl _⟩)
  clear x0 d1 d2 hn0 hn1 hNr HB3 HP3
  generalize w4.heap.size = B0 at HC4
  go_wp2
  go_loopw [22] (fun v22 W => ∃ (i : Nat) (fs r : List ByteArray) (vS : Value), i ≤ N ∧ v22 = .int .i64 i ∧ Hid (fs.length = i) ∧ Hid (N - i ≤ r.length) ∧ Hid (rFil ws = ((rTake (N - i)).then fun l => rFil2 (fs ++ l)) r) ∧ Hid (Rc w0 w p q r 33 (w.heap.size + 1) B0 zF (fcells vS noFil) 9 1 vS i (strs fs) W)) (fun v22 _ => N - (intOf v22).toNat)
  case atStart => exact ⟨0, [], rest, .slice none 0 0, Nat.zero_le _, rfl, Lib.hid rfl, HNR, HNS, HC4⟩
  case round =>
    obtain ⟨i, fs, r, vS, hi, rfl, HFL, HRL, HXi, HC⟩ := hrel
    clear HC4 HNS
    by_cases hlt : i < N
    · have t1 : decide ((i : Int) < (N : Int)) = true := decide_eq_true (by omega)
      obtain ⟨s, r2, rfl⟩ : ∃ s r2, r = s :: r2 := by
        cases r with
        | nil => have := HRL.out; simp at this; omega
        | cons s r2 => exact ⟨s, r2, rfl⟩
      have HX2 := Lib.hid (show rFil ws = ((rTake (N - (i + 1))).then fun l => rFil2 ((fs ++ [s]) ++ l)) r2 by rw [HXi.out, show N - i = (N - (i + 1)) + 1 by omega, take_step])
      have HFL2 := Lib.hid (show (fs ++ [s]).length = i + 1 by rw [List.length_append, HFL.out]; rfl)
      have HRL2 := Lib.hid (show N - (i + 1) ≤ r2.length by have := HRL.out; simp at this; omega)
      clear HXi HFL HRL
      go_wp2_with fail
      have HC0 := Lib.hid (HC.out.next (Below.refl _ _).drew)
      clear HC
      refine wp_region_held_drew (S := fun _ => True) (by kernel_rfl) trivial (fun hHeld => ?_)
      generalize wr.drew = X0 at HC0 ⊢
      refine tk 0 (v := ?v_1) ?y1 ?_; (case y1 => (refine Or.inl ⟨by rfl, ?_⟩; intro w hSw; go_simp; first | done | with_reducible rfl)); (try simp only [Act.put, List.setIfInBounds_toArray, List.set_cons_zero, List.set_cons_succ])
      refine tk 2 (v := ?v_2) ?y2 ?_; (case y2 => (refine Or.inl ⟨by rfl, ?_⟩; intro w hSw; go_simp; first | done | with_reducible rfl)); (try simp only [Act.put, List.setIfInBounds_toArray, List.set_cons_zero, List.set_cons_succ])
      refine wpAnyH_ready (rs := [1, 3]) (by kernel_rfl) (by simp) ?_
      refine AllReadyH.cons (o := ?o_3_0) ?hi_3_0 (fun K hK => ?m_3_0) (AllReadyH.cons (o := ?o_3_1) ?hi_3_1 (fun K hK => ?m_3_1) (AllReadyH.nil))
      case hi_3_0 => (simp only [List.getElem?_toArray, List.getElem?_cons_zero, List.getElem?_cons_succ]; rfl)
      case hi_3_1 => (simp only [List.getElem?_toArray, List.getElem?_cons_zero, List.getElem?_cons_succ]; rfl)
      case m_3_0 =>
        have x0 := HC0.out.rb.k3.cell 0 vS rfl
        go_simp
        refine hK.out _ _ trivial (fun hHeld => ?_)
        clear hK K
        (try simp only [Act.put, List.setIfInBounds_toArray, List.set_cons_zero, List.set_cons_succ])
        clear x0
        refine wpAnyH_ready (rs := [3]) (by kernel_rfl) (by simp) ?_
        refine AllReadyH.cons (o := ?o_4_0) ?hi_4_0 (fun K hK => ?m_4_0) (AllReadyH.nil)
        case hi_4_0 => (simp only [List.getElem?_toArray, List.getElem?_cons_zero, List.getElem?_cons_succ]; rfl)
        case m_4_0 =>
          go_simp
          refine (c_rword_cons HC0.out.rb.a.r).mono ?_
          rintro e w6 ⟨rfl, h6, hf⟩
          have HC6 := Lib.hid (HC0.out.call h6 hf)
          clear h6 hf HC0
          refine hK.out _ _ trivial (fun hHeld => ?_)
          clear hK K
          (try simp only [Act.put, List.setIfInBounds_toArray, List.set_cons_zero, List.set_cons_succ])
          refine wpAnyH_ready (rs := [4]) (by kernel_rfl) (by simp) ?_
          refine AllReadyH.cons (o := ?o_5_0) ?hi_5_0 (fun K hK => ?m_5_0) (AllReadyH.nil)
          case hi_5_0 => (simp only [List.getElem?_toArray, List.getElem?_cons_zero, List.getElem?_cons_succ]; rfl)
          case m_5_0 =>
            go_simp
            have HN7 := Lib.hid (Bk.new w6 #[.string s] 9)
            have HC7 := Lib.hid (HC6.out.next (below_box (w := w6) #[.string s] 9))
            clear HC6
            generalize w6.heap.size = nb at HN7 ⊢
            generalize w6.alloc (.cells #[.string s] 9) = X7 at HN7 HC7 ⊢
            refine hK.out _ _ trivial (fun hHeld => ?_)
            clear hK K
            (try simp only [Act.put, List.setIfInBounds_toArray, List.set_cons_zero, List.set_cons_succ])
            refine wpAnyH_ready (rs := [5]) (by kernel_rfl) (by simp) ?_
            refine AllReadyH.cons (o := ?o_6_0) ?hi_6_0 (fun K hK => ?m_6_0) (AllReadyH.nil)
            case hi_6_0 => (simp only [List.getElem?_toArray, List.getElem?_cons_zero, List.getElem?_cons_succ]; rfl)
            case m_6_0 =>
              rw [if_pos (by rfl)]
              refine wp_append_at (.tmp 25) (.tmp 28) 31 rfl B0 9 i0 (.string ByteArray.empty) 1 16 Tryz.underlying31 hi0 hz0 hz1 hz2 rfl (by decide) vS i (strs fs) rfl HC7.out.own ⟨nb, 0, none⟩ 1 1 [.string s] rfl rfl ?n1 ?o1 ?m1 ?b1 HC7.out.hs ?_
              case n1 =>
                intro j u hj
                match j, hj with
                | 0, hj => simp at hj; subst hj; exact HN7.out.cell 0 _ rfl
              case o1 => intro u hu; simp at hu; subst hu; rfl
              case m1 => have := HNL.out; unfold maxLen; omega
              case b1 => have := HNL.out; omega
              intro v8 w8 ho hg
              have HC8 := Lib.hid (HC7.out.grown ho hg)
              obtain ⟨g8, c8, rfl⟩ : ∃ g cap, v8 = .slice (some ⟨g, 0, none⟩) (i + 1) cap := by
                rcases ho.2 with ⟨_, h0⟩ | ⟨g, cap, cur, hv, _⟩
                · omega
                · exact ⟨g, cap, hv⟩
              clear ho hg HC7 HN7
              refine hK.out _ _ trivial (fun hHeld => ?_)
              clear hK K
              (try simp only [Act.put, List.setIfInBounds_toArray, List.set_cons_zero, List.set_cons_succ])
              refine tk 6 (v := ?v_7) ?y7 ?_; (case y7 => (refine Or.inl ⟨by rfl, ?_⟩; intro w hSw; go_simp; first | done | with_reducible rfl)); (try simp only [Act.put, List.setIfInBounds_toArray, List.set_cons_zero, List.set_cons_succ])
              refine wpAnyH_ready (rs := [7]) (by kernel_rfl) (by simp) ?_
              refine AllReadyH.cons (o := ?o_8_0) ?hi_8_0 (fun K hK => ?m_8_0) (AllReadyH.nil)
              case hi_8_0 => (simp only [List.getElem?_toArray, List.getElem?_cons_zero, List.getElem?_cons_succ]; rfl)
              case m_8_0 =>
                have y0 := HC8.out.rb.k3.cell 0 vS rfl
                have f0 := HC8.out.rb.k3.frozen 0
                have HC9 := Lib.hid (show Rc w0 w p q r2 33 (w.heap.size + 1) B0 zF (fcells (.slice (some ⟨g8, 0, none⟩) (i + 1) c8) noFil) 9 1 (.slice (some ⟨g8, 0, none⟩) (i + 1) c8) (i + 1) (strs (fs ++ [s])) (w8.setCell ⟨w.heap.size + 1, 0, none⟩ (.slice (some ⟨g8, 0, none⟩) (i + 1) c8)) from by have := HC8.out.set 0 (.slice (some ⟨g8, 0, none⟩) (i + 1) c8); rw [strs_append]; exact this)
                go_simp
                refine hK.out _ _ trivial (fun hHeld => ?_)
                clear hK K
                (try simp only [Act.put, List.setIfInBounds_toArray, List.set_cons_zero, List.set_cons_succ])
                refine wpAnyH_done (by kernel_rfl) ?_ _
                clear y0 f0
                have hnl := HNL.out
                go_wp2
                go_roundw
                case rel => exact ⟨i + 1, fs ++ [s], r2, _, by omega, by go_num, HFL2, HRL2, HX2, HC9⟩
                case measure => simp [intOf]; omega
      case m_3_1 =>
        go_simp
        refine (c_rword_cons HC0.out.rb.a.r).mono ?_
        rintro e w6 ⟨rfl, h6, hf⟩
        have HC6 := Lib.hid (HC0.out.call h6 hf)
        clear h6 hf HC0
        refine hK.out _ _ trivial (fun hHeld => ?_)
        clear hK K
        (try simp only [Act.put, List.setIfInBounds_toArray, List.set_cons_zero, List.set_cons_succ])
        refine wpAnyH_ready (rs := [1, 4]) (by kernel_rfl) (by simp) ?_
        refine AllReadyH.cons (o := ?o_9_0) ?hi_9_0 (fun K hK => ?m_9_0) (AllReadyH.cons (o := ?o_9_1) ?hi_9_1 (fun K hK => ?m_9_1) (AllReadyH.nil))
        case hi_9_0 => (simp only [List.getElem?_toArray, List.getElem?_cons_zero, List.getElem?_cons_succ]; rfl)
        case hi_9_1 => (simp only [List.getElem?_toArray, List.getElem?_cons_zero, List.getElem?_cons_succ]; rfl)
        case m_9_0 =>
          have x0 := HC6.out.rb.k3.cell 0 vS rfl
          go_simp
          refine hK.out _ _ trivial (fun hHeld => ?_)
          clear hK K
          (try simp only [Act.put, List.setIfInBounds_toArray, List.set_cons_zero, List.set_cons_succ])
          clear x0
          refine wpAnyH_ready (rs := [4]) (by kernel_rfl) (by simp) ?_
          refine AllReadyH.cons (o := ?o_10_0) ?hi_10_0 (fun K hK => ?m_10_0) (AllReadyH.nil)
          case hi_10_0 => (simp only [List.getElem?_toArray, List.getElem?_cons_zero, List.getElem?_cons_succ]; rfl)
          case m_10_0 =>
            go_simp
            have HN7 := Lib.hid (Bk.new w6 #[.string s] 9)
            have HC7 := Lib.hid (HC6.out.next (below_box (w := w6) #[.string s] 9))
            clear HC6
            generalize w6.heap.size = nb at HN7 ⊢
            generalize w6.alloc (.cells #[.string s] 9) = X7 at HN7 HC7 ⊢
            refine hK.out _ _ trivial (fun hHeld => ?_)
            clear hK K
            (try simp only [Act.put, List.setIfInBounds_toArray, List.set_cons_zero, List.set_cons_succ])
            refine wpAnyH_ready (rs := [5]) (by kernel_rfl) (by simp) ?_
            refine AllReadyH.cons (o := ?o_11_0) ?hi_11_0 (fun K hK => ?m_11_0) (AllReadyH.nil)
            case hi_11_0 => (simp only [List.getElem?_toArray, List.getElem?_cons_zero, List.getElem?_cons_succ]; rfl)
            case m_11_0 =>
              rw [if_pos (by rfl)]
              refine wp_append_at (.tmp 25) (.tmp 28) 31 rfl B0 9 i0 (.string ByteArray.empty) 1 16 Tryz.underlying31 hi0 hz0 hz1 hz2 rfl (by decide) vS i (strs fs) rfl HC7.out.own ⟨nb, 0, none⟩ 1 1 [.string s] rfl rfl ?n1 ?o1 ?m1 ?b1 HC7.out.hs ?_
              case n1 =>
                intro j u hj
                match j, hj with
                | 0, hj => simp at hj; subst hj; exact HN7.out.cell 0 _ rfl
              case o1 => intro u hu; simp at hu; subst hu; rfl
              case m1 => have := HNL.out; unfold maxLen; omega
              case b1 => have := HNL.out; omega
              intro v8 w8 ho hg
              have HC8 := Lib.hid (HC7.out.grown ho hg)
              obtain ⟨g8, c8, rfl⟩ : ∃ g cap, v8 = .slice (some ⟨g, 0, none⟩) (i + 1) cap := by
                rcases ho.2 with ⟨_, h0⟩ | ⟨g, cap, cur, hv, _⟩
                · omega
                · exact ⟨g, cap, hv⟩
              clear ho hg HC7 HN7
              refine hK.out _ _ trivial (fun hHeld => ?_)
              clear hK K
              (try simp only [Act.put, List.setIfInBounds_toArray, List.set_cons_zero, List.set_cons_succ])
              refine tk 6 (v := ?v_12) ?y12 ?_; (case y12 => (refine Or.inl ⟨by rfl, ?_⟩; intro w hSw; go_simp; first | done | with_reducible rfl)); (try simp only [Act.put, List.setIfInBounds_toArray, List.set_cons_zero, List.set_cons_succ])
              refine wpAnyH_ready (rs := [7]) (by kernel_rfl) (by simp) ?_
              refine AllReadyH.cons (o := ?o_13_0) ?hi_13_0 (fun K hK => ?m_13_0) (AllReadyH.nil)
              case hi_13_0 => (simp only [List.getElem?_toArray, List.getElem?_cons_zero, List.getElem?_cons_succ]; rfl)
              case m_13_0 =>
                have y0 := HC8.out.rb.k3.cell 0 vS rfl
                have f0 := HC8.out.rb.k3.frozen 0
                have HC9 := Lib.hid (show Rc w0 w p q r2 33 (w.heap.size + 1) B0 zF (fcells (.slice (some ⟨g8, 0, none⟩) (i + 1) c8) noFil) 9 1 (.slice (some ⟨g8, 0, none⟩) (i + 1) c8) (i + 1) (strs (fs ++ [s])) (w8.setCell ⟨w.heap.size + 1, 0, none⟩ (.slice (some ⟨g8, 0, none⟩) (i + 1) c8)) from by have := HC8.out.set 0 (.slice (some ⟨g8, 0, none⟩) (i + 1) c8); rw [strs_append]; exact this)
                go_simp
                refine hK.out _ _ trivial (fun hHeld => ?_)
                clear hK K
                (try simp only [Act.put, List.setIfInBounds_toArray, List.set_cons_zero, List.set_cons_succ])
                refine wpAnyH_done (by kernel_rfl) ?_ _
                clear y0 f0
                have hnl := HNL.out
                go_wp2
                go_roundw
                case rel => exact ⟨i + 1, fs ++ [s], r2, _, by omega, by go_num, HFL2, HRL2, HX2, HC9⟩
                case measure => simp [intOf]; omega
        case m_9_1 =>
          go_simp
          have HN7 := Lib.hid (Bk.new w6 #[.string s] 9)
          have HC7 := Lib.hid (HC6.out.next (below_box (w := w6) #[.string s] 9))
          clear HC6
          generalize w6.heap.size = nb at HN7 ⊢
          generalize w6.alloc (.cells #[.string s] 9) = X7 at HN7 HC7 ⊢
          refine hK.out _ _ trivial (fun hHeld => ?_)
          clear hK K
          (try simp only [Act.put, List.setIfInBounds_toArray, List.set_cons_zero, List.set_cons_succ])
          refine wpAnyH_ready (rs := [1]) (by kernel_rfl) (by simp) ?_
          refine AllReadyH.cons (o := ?o_14_0) ?hi_14_0 (fun K hK => ?m_14_0) (AllReadyH.nil)
          case hi_14_0 => (simp only [List.getElem?_toArray, List.getElem?_cons_zero, List.getElem?_cons_succ]; rfl)
          case m_14_0 =>
            have x0 := HC7.out.rb.k3.cell 0 vS rfl
            go_simp
            refine hK.out _ _ trivial (fun hHeld => ?_)
            clear hK K
            (try simp only [Act.put, List.setIfInBounds_toArray, List.set_cons_zero, List.set_cons_succ])
            clear x0
            refine wpAnyH_ready (rs := [5]) (by kernel_rfl) (by simp) ?_
            refine AllReadyH.cons (o := ?o_15_0) ?hi_15_0 (fun K hK => ?m_15_0) (AllReadyH.nil)
            case hi_15_0 => (simp only [List.getElem?_toArray, List.getElem?_cons_zero, List.getElem?_cons_succ]; rfl)
            case m_15_0 =>
              rw [if_pos (by rfl)]
              refine wp_append_at (.tmp 25) (.tmp 28) 31 rfl B0 9 i0 (.string ByteArray.empty) 1 16 Tryz.underlying31 hi0 hz0 hz1 hz2 rfl (by decide) vS i (strs fs) rfl HC7.out.own ⟨nb, 0, none⟩ 1 1 [.string s] rfl rfl ?n1 ?o1 ?m1 ?b1 HC7.out.hs ?_
              case n1 =>
                intro j u hj
                match j, hj with
                | 0, hj => simp at hj; subst hj; exact HN7.out.cell 0 _ rfl
              case o1 => intro u hu; simp at hu; subst hu; rfl
              case m1 => have := HNL.out; unfold maxLen; omega
              case b1 => have := HNL.out; omega
              intro v8 w8 ho hg
              have HC8 := Lib.hid (HC7.out.grown ho hg)
              obtain ⟨g8, c8, rfl⟩ : ∃ g cap, v8 = .slice (some ⟨g, 0, none⟩) (i + 1) cap := by
                rcases ho.2 with ⟨_, h0⟩ | ⟨g, cap, cur, hv, _⟩
                · omega
                · exact ⟨g, cap, hv⟩
              clear ho hg HC7 HN7
              refine hK.out _ _ trivial (fun hHeld => ?_)
              clear hK K
              (try simp only [Act.put, List.setIfInBounds_toArray, List.set_cons_zero, List.set_cons_succ])
              refine tk 6 (v := ?v_16) ?y16 ?_; (case y16 => (refine Or.inl ⟨by rfl, ?_⟩; intro w hSw; go_simp; first | done | with_reducible rfl)); (try simp only [Act.put, List.setIfInBounds_toArray, List.set_cons_zero, List.set_cons_succ])
              refine wpAnyH_ready (rs := [7]) (by kernel_rfl) (by simp) ?_
              refine AllReadyH.cons (o := ?o_17_0) ?hi_17_0 (fun K hK => ?m_17_0) (AllReadyH.nil)
              case hi_17_0 => (simp only [List.getElem?_toArray, List.getElem?_cons_zero, List.getElem?_cons_succ]; rfl)
              case m_17_0 =>
                have y0 := HC8.out.rb.k3.cell 0 vS rfl
                have f0 := HC8.out.rb.k3.frozen 0
                have HC9 := Lib.hid (show Rc w0 w p q r2 33 (w.heap.size + 1) B0 zF (fcells (.slice (some ⟨g8, 0, none⟩) (i + 1) c8) noFil) 9 1 (.slice (some ⟨g8, 0, none⟩) (i + 1) c8) (i + 1) (strs (fs ++ [s])) (w8.setCell ⟨w.heap.size + 1, 0, none⟩ (.slice (some ⟨g8, 0, none⟩) (i + 1) c8)) from by have := HC8.out.set 0 (.slice (some ⟨g8, 0, none⟩) (i + 1) c8); rw [strs_append]; exact this)
                go_simp
                refine hK.out _ _ trivial (fun hHeld => ?_)
                clear hK K
                (try simp only [Act.put, List.setIfInBounds_toArray, List.set_cons_zero, List.set_cons_succ])
                refine wpAnyH_done (by kernel_rfl) ?_ _
                clear y0 f0
                have hnl := HNL.out
                go_wp2
                go_roundw
                case rel => exact ⟨i + 1, fs ++ [s], r2, _, by omega, by go_num, HFL2, HRL2, HX2, HC9⟩
                case measure => simp [intOf]; omega
    · have t1 : decide ((i : Int) < (N : Int)) = false := decide_eq_false (by omega)
      have HXl := Lib.hid (show rFil ws = rFil2 fs r by have := HXi.out; rw [show N - i = 0 by omega] at this; rw [this]; show rFil2 (fs ++ []) r = _; rw [List.append_nil])
      obtain rfl : i = N := by omega
      clear HXi HRL
      go_wp2_with fail
      refine (c_rtext HC.out.rb.a.r).mono ?_
      rintro e w5 ⟨⟨lo, r3, v, hx, rfl, rfl, h6⟩ | ⟨hx, rfl, hb⟩, hf⟩
      case inr => exact ⟨rfl, Or.inr ⟨by rw [HXl.out]; unfold rFil2 Pr.then; rw [hx], rfl, hb⟩, HC.out.rb.a.fr.trans hf⟩
      have HC5 := Lib.hid (HC.out.call h6 hf)
      have HXm := Lib.hid (show rFil ws = (rText.then fun hi => rNum.then fun a => rNum.then fun b => rNum.then fun c => rNum.then fun d => Pr.give ⟨fs, lo, hi, a, b, c, d⟩) r3 by rw [HXl.out]; unfold rFil2 Pr.then; rw [hx]; first | done | rfl)
      obtain ⟨W6, hW6⟩ : ∃ W, w5.setCell ⟨w.heap.size + 1, 1, none⟩ (.string lo) = W := ⟨_, rfl⟩
      have HC6 := Lib.hid (show Rc w0 w p q r3 33 (w.heap.size + 1) B0 zF (fcells vS ⟨[], lo, noB, 0, 0, 0, 0⟩) 9 1 vS i (strs fs) W6 from hW6 ▸ HC5.out.set 1 (.string lo))
      have y0 := HC5.out.rb.k3.cell 1 (.string noB) rfl
      have f0 := HC5.out.rb.k3.frozen 1
      clear hx h6 hf HXl
      go_wp2_with fail
      refine (c_rtext HC6.out.rb.a.r).mono ?_
      rintro e w7 ⟨⟨up, r4, v, hx, rfl, rfl, h6⟩ | ⟨hx, rfl, hb⟩, hf⟩
      case inr => exact ⟨rfl, Or.inr ⟨by rw [HXm.out]; unfold Pr.then; rw [hx], rfl, hb⟩, HC6.out.rb.a.fr.trans hf⟩
      clear hW6 y0 f0
      have HC7 := Lib.hid (HC6.out.call h6 hf)
      have HXn := Lib.hid (show rFil ws = (rNum.then fun a => rNum.then fun b => rNum.then fun c => rNum.then fun d => Pr.give ⟨fs, lo, up, a, b, c, d⟩) r4 by rw [HXm.out]; unfold Pr.then; rw [hx]; first | done | rfl)
      obtain ⟨W8, hW8⟩ : ∃ W, w7.setCell ⟨w.heap.size + 1, 2, none⟩ (.string up) = W := ⟨_, rfl⟩
      have HC8 := Lib.hid (show Rc w0 w p q r4 33 (w.heap.size + 1) B0 zF (fcells vS ⟨[], lo, up, 0, 0, 0, 0⟩) 9 1 vS i (strs fs) W8 from hW8 ▸ HC7.out.set 2 (.string up))
      have y0 := HC7.out.rb.k3.cell 2 (.string noB) rfl
      have f0 := HC7.out.rb.k3.frozen 2
      clear hx h6 hf HXm
      obtain ⟨W9, hW9⟩ : ∃ W, W8.alloc (.cells (ptrs (w.heap.size + 1) [3, 4, 5, 6]).toArray 70) = W := ⟨_, rfl⟩
      have hW9' : W8.alloc (.cells #[.pointer (some ⟨w.heap.size + 1, 3, none⟩), .pointer (some ⟨w.heap.size + 1, 4, none⟩), .pointer (some ⟨w.heap.size + 1, 5, none⟩), .pointer (some ⟨w.heap.size + 1, 6, none⟩)] 70) = W9 := hW9
      have HC9 := Lib.hid (show Rc w0 w p q r4 33 (w.heap.size + 1) B0 zF (fcells vS ⟨[], lo, up, 0, 0, 0, 0⟩) 9 1 vS i (strs fs) W9 from hW9 ▸ HC8.out.next (below_box _ _))
      have HGk := Lib.hid (show Bk W8.heap.size (ptrs (w.heap.size + 1) [3, 4, 5, 6]).toArray 70 W9 from hW9 ▸ Bk.new _ _ _)
      have HGN := Lib.hid (show W8.heap.size ≠ p ∧ W8.heap.size ≠ w.heap.size + 1 from ⟨by have := HC8.out.hp; have := HC8.out.hs; omega, by have := HC8.out.hb; have := HC8.out.hs; omega⟩)
      clear hW9
      go_wp2
      clear hW8 hW9' y0 f0 HC8 HC7 HC6 HC5 HC
      generalize W8.heap.size = gb at *
      go_loopw [44] (fun v44 W => (∃ (r : List ByteArray), v44 = .int .i64 0 ∧ Hid (rFil ws = (rNum.then fun a0 => rNum.then fun a1 => rNum.then fun a2 => rNum.then fun a3 => Pr.give (⟨fs, lo, up, a0, a1, a2, a3⟩ : FilE)) r) ∧ Hid (Rc w0 w p q r 33 (w.heap.size + 1) B0 zF (fcells vS ⟨[], lo, up, 0, 0, 0, 0⟩) 9 1 vS i (strs fs) W) ∧ Hid (Bk gb (ptrs (w.heap.size + 1) [3, 4, 5, 6]).toArray 70 W)) ∨ (∃ (r : List ByteArray) (a0 : Int), v44 = .int .i64 1 ∧ Hid (rFil ws = (rNum.then fun a1 => rNum.then fun a2 => rNum.then fun a3 => Pr.give (⟨fs, lo, up, a0, a1, a2, a3⟩ : FilE)) r) ∧ Hid (Rc w0 w p q r 33 (w.heap.size + 1) B0 zF (fcells vS ⟨[], lo, up, a0, 0, 0, 0⟩) 9 1 vS i (strs fs) W) ∧ Hid (Bk gb (ptrs (w.heap.size + 1) [3, 4, 5, 6]).toArray 70 W)) ∨ (∃ (r : List ByteArray) (a0 : Int) (a1 : Int), v44 = .int .i64 2 ∧ Hid (rFil ws = (rNum.then fun a2 => rNum.then fun a3 => Pr.give (⟨fs, lo, up, a0, a1, a2, a3⟩ : FilE)) r) ∧ Hid (Rc w0 w p q r 33 (w.heap.size + 1) B0 zF (fcells vS ⟨[], lo, up, a0, a1, 0, 0⟩) 9 1 vS i (strs fs) W) ∧ Hid (Bk gb (ptrs (w.heap.size + 1) [3, 4, 5, 6]).toArray 70 W)) ∨ (∃ (r : List ByteArray) (a0 : Int) (a1 : Int) (a2 : Int), v44 = .int .i64 3 ∧ Hid (rFil ws = (rNum.then fun a3 => Pr.give (⟨fs, lo, up, a0, a1, a2, a3⟩ : FilE)) r) ∧ Hid (Rc w0 w p q r 33 (w.heap.size + 1) B0 zF (fcells vS ⟨[], lo, up, a0, a1, a2, 0⟩) 9 1 vS i (strs fs) W) ∧ Hid (Bk gb (ptrs (w.heap.size + 1) [3, 4, 5, 6]).toArray 70 W)) ∨ (∃ (r : List ByteArray) (a0 : Int) (a1 : Int) (a2 : Int) (a3 : Int), v44 = .int .i64 4 ∧ Hid (rFil ws = (Pr.give (⟨fs, lo, up, a0, a1, a2, a3⟩ : FilE)) r) ∧ Hid (Rc w0 w p q r 33 (w.heap.size + 1) B0 zF (fcells vS ⟨[], lo, up, a0, a1, a2, a3⟩) 9 1 vS i (strs fs) W) ∧ Hid (Bk gb (ptrs (w.heap.size + 1) [3, 4, 5, 6]).toArray 70 W))) (fun v44 _ => 4 - (intOf v44).toNat)
      case atStart => exact Or.inl (⟨r4, rfl, HXn, HC9, HGk⟩)
      case round =>
        clear HC9 HGk HXn
        rcases hrel with ⟨r5, rfl, HXi, HE, HGi⟩ | ⟨r5, a0, rfl, HXi, HE, HGi⟩ | ⟨r5, a0, a1, rfl, HXi, HE, HGi⟩ | ⟨r5, a0, a1, a2, rfl, HXi, HE, HGi⟩ | ⟨r5, a0, a1, a2, a3, rfl, HXi, HE, HGi⟩
        · have y0 := HGi.out.cell 0 (.pointer (some ⟨w.heap.size + 1, 3, none⟩)) rfl
          go_wp2_with fail
          refine (c_rnum HG.out HE.out.rb.a.r).mono ?_
          rintro e w8 ⟨⟨a0, r6, v, hx, rfl, rfl, h6⟩ | ⟨hx, rfl, hb⟩, hf⟩
          case inr => exact ⟨rfl, Or.inr ⟨by rw [HXi.out]; unfold Pr.then; rw [hx], rfl, hb⟩, HE.out.rb.a.fr.trans hf⟩
          have HE2 := Lib.hid (HE.out.call h6 hf)
          have HGj := Lib.hid (HGi.out.fr hf HGN.out.1)
          have HXj := Lib.hid (show rFil ws = (rNum.then fun a1 => rNum.then fun a2 => rNum.then fun a3 => Pr.give (⟨fs, lo, up, a0, a1, a2, a3⟩ : FilE)) r6 by rw [HXi.out]; unfold Pr.then; rw [hx]; first | done | rfl)
          clear hx h6 hf y0
          have y1 := HE2.out.rb.k3.cell 3 (.int .i64 0) rfl
          have f1 := HE2.out.rb.k3.frozen 3
          have HE3 := Lib.hid (show Rc w0 w p q r6 33 (w.heap.size + 1) B0 zF (fcells vS ⟨[], lo, up, a0, 0, 0, 0⟩) 9 1 vS i (strs fs) (w8.setCell ⟨w.heap.size + 1, 3, none⟩ (.int .i64 a0)) from HE2.out.set 3 (.int .i64 a0))
          have HGl := Lib.hid (show Bk gb (ptrs (w.heap.size + 1) [3, 4, 5, 6]).toArray 70 (w8.setCell ⟨w.heap.size + 1, 3, none⟩ (.int .i64 a0)) by rw [HE2.out.rb.k3.set]; exact HGj.out.off (Ne.symm HGN.out.2) _)
          go_wp2
          go_roundw
          case rel => exact Or.inr (Or.inl (⟨r6, a0, by go_num, HXj, HE3, HGl⟩))
          case measure => simp [intOf]
        · have y0 := HGi.out.cell 1 (.pointer (some ⟨w.heap.size + 1, 4, none⟩)) rfl
          go_wp2_with fail
          refine (c_rnum HG.out HE.out.rb.a.r).mono ?_
          rintro e w8 ⟨⟨a1, r6, v, hx, rfl, rfl, h6⟩ | ⟨hx, rfl, hb⟩, hf⟩
          case inr => exact ⟨rfl, Or.inr ⟨by rw [HXi.out]; unfold Pr.then; rw [hx], rfl, hb⟩, HE.out.rb.a.fr.trans hf⟩
          have HE2 := Lib.hid (HE.out.call h6 hf)
          have HGj := Lib.hid (HGi.out.fr hf HGN.out.1)
          have HXj := Lib.hid (show rFil ws = (rNum.then fun a2 => rNum.then fun a3 => Pr.give (⟨fs, lo, up, a0, a1, a2, a3⟩ : FilE)) r6 by rw [HXi.out]; unfold Pr.then; rw [hx]; first | done | rfl)
          clear hx h6 hf y0
          have y1 := HE2.out.rb.k3.cell 4 (.int .i64 0) rfl
          have f1 := HE2.out.rb.k3.frozen 4
          have HE3 := Lib.hid (show Rc w0 w p q r6 33 (w.heap.size + 1) B0 zF (fcells vS ⟨[], lo, up, a0, a1, 0, 0⟩) 9 1 vS i (strs fs) (w8.setCell ⟨w.heap.size + 1, 4, none⟩ (.int .i64 a1)) from HE2.out.set 4 (.int .i64 a1))
          have HGl := Lib.hid (show Bk gb (ptrs (w.heap.size + 1) [3, 4, 5, 6]).toArray 70 (w8.setCell ⟨w.heap.size + 1, 4, none⟩ (.int .i64 a1)) by rw [HE2.out.rb.k3.set]; exact HGj.out.off (Ne.symm HGN.out.2) _)
          go_wp2
          go_roundw
          case rel => exact Or.inr (Or.inr (Or.inl (⟨r6, a0, a1, by go_num, HXj, HE3, HGl⟩)))
          case measure => simp [intOf]
        · have y0 := HGi.out.cell 2 (.pointer (some ⟨w.heap.size + 1, 5, none⟩)) rfl
          go_wp2_with fail
          refine (c_rnum HG.out HE.out.rb.a.r).mono ?_
          rintro e w8 ⟨⟨a2, r6, v, hx, rfl, rfl, h6⟩ | ⟨hx, rfl, hb⟩, hf⟩
          case inr => exact ⟨rfl, Or.inr ⟨by rw [HXi.out]; unfold Pr.then; rw [hx], rfl, hb⟩, HE.out.rb.a.fr.trans hf⟩
          have HE2 := Lib.hid (HE.out.call h6 hf)
          have HGj := Lib.hid (HGi.out.fr hf HGN.out.1)
          have HXj := Lib.hid (show rFil ws = (rNum.then fun a3 => Pr.give (⟨fs, lo, up, a0, a1, a2, a3⟩ : FilE)) r6 by rw [HXi.out]; unfold Pr.then; rw [hx]; first | done | rfl)
          clear hx h6 hf y0
          have y1 := HE2.out.rb.k3.cell 5 (.int .i64 0) rfl
          have f1 := HE2.out.rb.k3.frozen 5
          have HE3 := Lib.hid (show Rc w0 w p q r6 33 (w.heap.size + 1) B0 zF (fcells vS ⟨[], lo, up, a0, a1, a2, 0⟩) 9 1 vS i (strs fs) (w8.setCell ⟨w.heap.size + 1, 5, none⟩ (.int .i64 a2)) from HE2.out.set 5 (.int .i64 a2))
          have HGl := Lib.hid (show Bk gb (ptrs (w.heap.size + 1) [3, 4, 5, 6]).toArray 70 (w8.setCell ⟨w.heap.size + 1, 5, none⟩ (.int .i64 a2)) by rw [HE2.out.rb.k3.set]; exact HGj.out.off (Ne.symm HGN.out.2) _)
          go_wp2
          go_roundw
          case rel => exact Or.inr (Or.inr (Or.inr (Or.inl (⟨r6, a0, a1, a2, by go_num, HXj, HE3, HGl⟩))))
          case measure => simp [intOf]
        · have y0 := HGi.out.cell 3 (.pointer (some ⟨w.heap.size + 1, 6, none⟩)) rfl
          go_wp2_with fail
          refine (c_rnum HG.out HE.out.rb.a.r).mono ?_
          rintro e w8 ⟨⟨a3, r6, v, hx, rfl, rfl, h6⟩ | ⟨hx, rfl, hb⟩, hf⟩
          case inr => exact ⟨rfl, Or.inr ⟨by rw [HXi.out]; unfold Pr.then; rw [hx], rfl, hb⟩, HE.out.rb.a.fr.trans hf⟩
          have HE2 := Lib.hid (HE.out.call h6 hf)
          have HGj := Lib.hid (HGi.out.fr hf HGN.out.1)
          have HXj := Lib.hid (show rFil ws = (Pr.give (⟨fs, lo, up, a0, a1, a2, a3⟩ : FilE)) r6 by rw [HXi.out]; unfold Pr.then; rw [hx]; first | done | rfl)
          clear hx h6 hf y0
          have y1 := HE2.out.rb.k3.cell 6 (.int .i64 0) rfl
          have f1 := HE2.out.rb.k3.frozen 6
          have HE3 := Lib.hid (show Rc w0 w p q r6 33 (w.heap.size + 1) B0 zF (fcells vS ⟨[], lo, up, a0, a1, a2, a3⟩) 9 1 vS i (strs fs) (w8.setCell ⟨w.heap.size + 1, 6, none⟩ (.int .i64 a3)) from HE2.out.set 6 (.int .i64 a3))
          have HGl := Lib.hid (show Bk gb (ptrs (w.heap.size + 1) [3, 4, 5, 6]).toArray 70 (w8.setCell ⟨w.heap.size + 1, 6, none⟩ (.int .i64 a3)) by rw [HE2.out.rb.k3.set]; exact HGj.out.off (Ne.symm HGN.out.2) _)
          go_wp2
          go_roundw
          case rel => exact Or.inr (Or.inr (Or.inr (Or.inr (⟨r6, a0, a1, a2, a3, by go_num, HXj, HE3, HGl⟩))))
          case measure => simp [intOf]
        · have HON := Lib.hid HE.out.own
          have HEs := HE.out.hs
          have HPB := Lib.hid HE.out.hp
          have HBB := Lib.hid HE.out.hb
          obtain ⟨sa, sn, sc, rfl⟩ : ∃ sa sn sc, vS = .slice sa sn sc := by
            rcases HE.out.own.2 with ⟨rfl, _⟩ | ⟨g, cap, cur, rfl, _⟩
            · exact ⟨_, _, _, rfl⟩
            · exact ⟨_, _, _, rfl⟩
          clear HEs
          go_wp2_with (first | (with_reducible show wpList _ _ _ ({ dst := _, op := Op.load 33 _, type := _, pos := _, after := _, guard := _ } :: _) _ _; refine wpList_load_all rfl 33 _ rfl (w.heap.size + 1) rfl 33 (fcells (.slice sa sn sc) ⟨[], lo, up, a0, a1, a2, a3⟩) HE.out.rb.k3 7 szF rfl ruF ?_) | (with_reducible show wpList _ _ _ ({ dst := _, op := Op.store 33 _ _, type := _, pos := _, after := _, guard := _ } :: _) _ _; refine wpList_store_all rfl 33 _ _ rfl w.heap.size (fcells (.slice sa sn sc) ⟨[], lo, up, a0, a1, a2, a3⟩) rfl rfl 33 _ HE.out.rb.a.k2 7 szF rfl rfl (fcells_one _ _ _ _) ?_; have HAf := Lib.hid (HE.out.rb.fin (fcells (.slice sa sn sc) ⟨[], lo, up, a0, a1, a2, a3⟩)); have HOf := Lib.hid (own_keep (W' := wr.setRow w.heap.size (fcells (.slice sa sn sc) ⟨[], lo, up, a0, a1, a2, a3⟩)) HE.out.own (fun g hg hl => setRow_other _ _ _ _ (by have := HBB.out; omega))); generalize World.setRow _ w.heap.size _ = Wf at HAf HOf ⊢))
          exact bodyPost_ret (results_cell_row rfl _ _ w.heap.size _ _ (0, 0) _ rfl HAf.out.k2 Tryz.underlying33 rfl szF) rfl ⟨Or.inl ⟨⟨fs, lo, up, a0, a1, a2, a3⟩, _, _, HXi.out, rfl, ⟨.slice sa sn sc, B0, rfl, by rw [HFL.out]; exact HOf.out, HPB.out, by have := HBB.out; omega⟩, HAf.out.r⟩, HAf.out.fr⟩
end Go.Proofs.YtkogcobcjoojnaaGreatDoor.Fl
