/- The document's Apply of a right filter. -/
import Derived.Test.YthbgjaboghnpjaaRD
namespace Go.Proofs.Ythbgjaboghnpjaa.R
open Go.RowKit Go.Proofs.Ythbgjaboghnpjaa.Q Go.Proofs.Ythbgjaboghnpjaa.Pure Go.Proofs.YthbgjaboghnpjaaW.PrintWords Go.Proofs.YthbgjaboghnpjaaW.PrintLast Go.Proofs.YthbgjaboghnpjaaW.PrintMore
set_option linter.unusedVariables false
set_option linter.unusedSimpArgs false
theorem Ap.below {w W W' : World} {R : Nat} {A : Option Addr} {c : Nat} {f0 : List ByteArray} {f1 f2 : ByteArray} {f3 f4 f5 f6 : Int} {va vb v5 : Value} {s : Sv} {L : List S29} {T : List Bool} {out : List S29} (h : Ap w W R A c f0 f1 f2 f3 f4 f5 f6 va vb v5 s L T out) (hb : Below W.heap.size W W') : Ap w W' R A c f0 f1 f2 f3 f4 f5 f6 va vb v5 s L T out := ⟨h.ks.below hb, h.lk, h.x0.below hb, h.xr, Kd.R_below h.r5 hb⟩
theorem small_rd' {l : List S29} (h : ∀ c ∈ l, Small c) (k : Nat) (hk : k < l.length) : Small (rd_T29 l (k : Int)) := by
  rw [rd_at l k hk]
  exact h _ (List.getElem_mem hk)
theorem ap_start (w : World) (A : Option Addr) (c : Nat) (f0 : List ByteArray) (f1 f2 : ByteArray) (f3 f4 f5 f6 : Int) :
    Ap w (((w.alloc (.cells #[.slice A f0.length c, .string f1, .string f2, .int .i64 f3, .int .i64 f4, .int .i64 f5, .int .i64 f6] 24)).alloc (.cells #[] 29)).alloc (.cells #[.slice A f0.length c, .string f1, .string f2, .int .i64 f3, .int .i64 f4, .int .i64 f5, .int .i64 f6, .slice none 0 0, .slice none 0 0] 45)) (w.heap.size + 1 + 1) A c f0 f1 f2 f3 f4 f5 f6 (.slice none 0 0) (.slice none 0 0) (.slice (some ⟨w.heap.size + 1, 0, none⟩) 0 0) sv0 [] [] [] := by
  have s1 : (w.alloc (.cells #[.slice A f0.length c, .string f1, .string f2, .int .i64 f3, .int .i64 f4, .int .i64 f5, .int .i64 f6] 24)).heap.size = w.heap.size + 1 := by simp
  have s2 : ((w.alloc (.cells #[.slice A f0.length c, .string f1, .string f2, .int .i64 f3, .int .i64 f4, .int .i64 f5, .int .i64 f6] 24)).alloc (.cells #[] 29)).heap.size = w.heap.size + 1 + 1 := by simp
  have hx : X0 w (w.alloc (.cells #[.slice A f0.length c, .string f1, .string f2, .int .i64 f3, .int .i64 f4, .int .i64 f5, .int .i64 f6] 24)) w.heap.size A c f0 f1 f2 f3 f4 f5 f6 := X0.start
  have b2 := (Below.refl _ (w.alloc (.cells #[.slice A f0.length c, .string f1, .string f2, .int .i64 f3, .int .i64 f4, .int .i64 f5, .int .i64 f6] 24))).alloc (Nat.le_refl _) (.cells #[] 29)
  have hx2 := hx.below b2
  have hk := rk_start (A := A) (c := c) (f0 := f0) (f1 := f1) (f2 := f2) (f3 := f3) (f4 := f4) (f5 := f5) (f6 := f6) hx2.bel
  rw [s2] at hk
  have h2 := World.ownsRow_lit (base := w.heap.size) (e := 29) (size := 8) (w.alloc (.cells #[.slice A f0.length c, .string f1, .string f2, .int .i64 f3, .int .i64 f4, .int .i64 f5, .int .i64 f6] 24)) #[] 0 (by simp) (by simp [maxLen]) (by simp)
  rw [s1] at h2
  refine ⟨hk, Lk.start, hx2.below ((Below.refl _ _).alloc (Nat.le_refl _) _), ⟨by omega, by simp [Value.ownBlock], by simp [Value.ownBlock]⟩, fun k hk' => ?_, [], h2.alloc _, ⟨rfl, fun j x h => by simp at h⟩⟩
  have : w.heap.size + 1 = k := by simpa [Value.ownBlock] using hk'
  exact ⟨by omega, by simp [Value.ownBlock], by simp [Value.ownBlock]⟩
theorem ap_takeX {w W : World} {R : Nat} {A : Option Addr} {c : Nat} {f0 : List ByteArray} {f1 f2 : ByteArray} {f3 f4 f5 f6 : Int} {va vb v5 : Value} {s : Sv} {L : List S29} {T : List Bool} {out : List S29} (h : Ap w W R A c f0 f1 f2 f3 f4 f5 f6 va vb v5 s L T out) (x : S29) (r : Bool) (hr : svTake f0 f1 f2 f3 f4 f5 f6 s x = r) (hl : L.length ≤ 1000) (hf : SmallF f0 f1 f2) (hx : Small x) (fC : Kd.C Kd.string w A f0.length f0) (hc : f0.length ≤ c) :
    Calls Try.prog 22 #[.pointer (some ⟨R, 0, none⟩), .agg #[.string x.f0, .string x.f1, .string x.f2, .int .i64 x.f3, .int .i64 x.f4, .int .i64 x.f5.f0, .int .i64 x.f5.f1, .string x.f5.f2]] W fun e W' => ∃ va' vb', e = .returned (.bool r) ∧ Ap w W' R A c f0 f1 f2 f3 f4 f5 f6 va' vb' v5 (svNext f0 f1 f2 f3 f4 f5 f6 s x) (L ++ [x]) (T ++ [r]) out := ap_take h x r hr hl hf hx fC hc
set_option maxHeartbeats 4000000 in
set_option maxRecDepth 100000 in
theorem rApply_yes (w : World) (A : Option Addr) (c : Nat) (f0 : List ByteArray) (f1 f2 : ByteArray) (f3 f4 f5 f6 : Int) (A1 : Option Addr) (c1 : Nat) (l : List S29) (hr : rightB f0 f1 f2 f3 f4 f5 f6 = true) (hsf : SmallF f0 f1 f2) (hsm : ∀ x ∈ l, Small x) (hlen : l.length ≤ 80) (hf : Kd.C Kd.string w A f0.length f0) (hc : f0.length ≤ c) (hl : Kd.C k29 w A1 l.length l) :
    Calls Try.prog 18 #[.agg (fcells A c f0 f1 f2 f3 f4 f5 f6), .slice A1 l.length c1] w fun e w' => ∃ v, e = .returned v ∧ Row w' v (svRun f0 f1 f2 f3 f4 f5 f6 sv0 l) ∧ Below w.heap.size w w' := by
  have HF := Lib.hid hf
  have HC := Lib.hid hc
  have HL := Lib.hid hl
  have HSF := Lib.hid hsf
  have HSM := Lib.hid hsm
  have HR := Lib.hid hr
  have hu24 := Try.underlying24
  have hu29 := Try.underlying29
  have HA := Lib.hid (ap_start w A c f0 f1 f2 f3 f4 f5 f6)
  clear hf hc hsf hr hsm hl
  unfold fcells
  go_enter Try.func18, Try.ntmps18
  go_wp2_with fail
  generalize ((w.alloc (.cells #[.slice A f0.length c, .string f1, .string f2, .int .i64 f3, .int .i64 f4, .int .i64 f5, .int .i64 f6] 24)).alloc (.cells #[] 29)).alloc (.cells #[.slice A f0.length c, .string f1, .string f2, .int .i64 f3, .int .i64 f4, .int .i64 f5, .int .i64 f6, .slice none 0 0, .slice none 0 0] 45) = W0 at HA ⊢
  go_loopg [5, 7] l.length (fun gg v5 v7 W => ∃ (k : Nat) (T : List Bool) (va vb : Value), k ≤ l.length ∧ l.length - k ≤ gg ∧ v7 = .int .i64 k ∧ Hid (Ap w W (w.heap.size + 1 + 1) A c f0 f1 f2 f3 f4 f5 f6 va vb v5 (svEnd f0 f1 f2 f3 f4 f5 f6 sv0 (l.take k)) (l.take k) T (svRun f0 f1 f2 f3 f4 f5 f6 sv0 (l.take k))))
  case atStart => exact ⟨0, [], _, _, by omega, by omega, rfl, HA⟩
  case round =>
    clear HA
    obtain ⟨k, T, va, vb, hk, hg, rfl, HA⟩ := hrel
    by_cases hlt : k < l.length
    · have hk0 : (0 : Int) ≤ (k : Int) := by omega
      have hk1 : (k : Int) < (l.length : Int) := by omega
      obtain ⟨ad, e, x0, x1, x2, x3, x4, x5, x6, x7⟩ := at_T29 HL.out (k : Int) hk0 hk1
      subst e
      rw [Int.toNat_natCast] at x0 x1 x2 x3 x4 x5 x6 x7
      have HSX := Lib.hid (small_rd' HSM.out k hlt)
      have HTK := Lib.hid (take_snoc l k hlt)
      have HLT := Lib.hid (show (l.take k).length = k by rw [List.length_take]; omega)
      have ht1 := svRun_snoc f0 f1 f2 f3 f4 f5 f6 (rd_T29 l (k : Int)) (l.take k) sv0
      have ht2 := svEnd_snoc f0 f1 f2 f3 f4 f5 f6 (rd_T29 l (k : Int)) (l.take k) sv0
      rw [← take_snoc l k hlt] at ht1 ht2
      have hlo := svRun_length f0 f1 f2 f3 f4 f5 f6 (l.take k) sv0
      generalize rd_T29 l (k : Int) = x at x0 x1 x2 x3 x4 x5 x6 x7 HSX HTK ht1 ht2
      have HS2 := Lib.hid ht2
      have q0 := HA.out.x0.q0
      have q1 := HA.out.x0.q1
      have q2 := HA.out.x0.q2
      have q3 := HA.out.x0.q3
      have q4 := HA.out.x0.q4
      have q5 := HA.out.x0.q5
      have q6 := HA.out.x0.q6
      have HW : Hid (∀ W, Below w.heap.size w W → W.cell? (ad.add (k * 8)) = some (.string x.f0) ∧ W.cell? ⟨(ad.add (k * 8)).block, (ad.add (k * 8)).off + 1, none⟩ = some (.string x.f1) ∧ W.cell? ⟨(ad.add (k * 8)).block, (ad.add (k * 8)).off + 2, none⟩ = some (.string x.f2) ∧ W.cell? ⟨(ad.add (k * 8)).block, (ad.add (k * 8)).off + 3, none⟩ = some (.int .i64 x.f3) ∧ W.cell? ⟨(ad.add (k * 8)).block, (ad.add (k * 8)).off + 4, none⟩ = some (.int .i64 x.f4) ∧ W.cell? ⟨(ad.add (k * 8)).block, (ad.add (k * 8)).off + 5, none⟩ = some (.int .i64 x.f5.f0) ∧ W.cell? ⟨(ad.add (k * 8)).block, (ad.add (k * 8)).off + 6, none⟩ = some (.int .i64 x.f5.f1) ∧ W.cell? ⟨(ad.add (k * 8)).block, (ad.add (k * 8)).off + 7, none⟩ = some (.string x.f5.f2)) := fun W hb => ⟨cellB hb x0, cellB hb x1, cellB hb x2, cellB hb x3, cellB hb x4, cellB hb x5, cellB hb x6, cellB hb x7⟩
      clear x0 x1 x2 x3 x4 x5 x6 x7 ht2
      have hl1 : (l.take k).length ≤ 1000 := by rw [HLT.out]; omega
      have HL1 := Lib.hid hl1
      have HLO := Lib.hid (show (svRun f0 f1 f2 f3 f4 f5 f6 sv0 (l.take k)).length ≤ 1000 by omega)
      clear hl1 hlo
      generalize svEnd f0 f1 f2 f3 f4 f5 f6 sv0 (l.take k) = s at *
      generalize svRun f0 f1 f2 f3 f4 f5 f6 sv0 (l.take k) = out at *
      obtain ⟨r, hr⟩ : ∃ r, svTake f0 f1 f2 f3 f4 f5 f6 s x = r := ⟨_, rfl⟩
      have HRR := Lib.hid hr
      rw [hr] at ht1
      have HT1 := Lib.hid ht1
      clear hr ht1
      have arm13 := Lib.hid (fun W (hb : Below w.heap.size w W) => c_rright W A c f0 f1 f2 f3 f4 f5 f6 true HR.out HSF.out (Kd.C_below HF.out hb) HC.out)
      unfold fcells at arm13
      cases r with
      | false =>
        go_wp2_with (first
          | (go_at_call 13; ((with_reducible refine (arm13.out _ HA.out.x0.bel).mono ?_); rintro e w5 ⟨rfl, hb5⟩; have HA5 := Lib.hid (HA.out.below hb5); clear HA hb5; have HA := HA5; clear HA5; obtain ⟨x0, x1, x2, x3, x4, x5, x6, x7⟩ := HW.out _ HA.out.x0.bel))
          | (go_at_call 22; ((with_reducible refine (ap_takeX HA.out x _ HRR.out HL1.out HSF.out HSX.out HF.out HC.out).mono ?_); rintro e w6 ⟨va', vb', rfl, ha⟩; clear HA x0 x1 x2 x3 x4 x5 x6 x7; have HA := Lib.hid ha; clear ha; obtain ⟨x0, x1, x2, x3, x4, x5, x6, x7⟩ := HW.out _ HA.out.x0.bel))
          | fail)
        go_roundg (l.length - (k + 1))
        case measure => omega
        case rel => exact ⟨k + 1, _, _, _, by omega, by omega, by go_num, by rw [HTK.out, ← HTK.out, HT1.out, HS2.out, HTK.out]; simpa using HA⟩
      | true =>
        go_wp2_with (first
          | (go_at_call 13; ((with_reducible refine (arm13.out _ HA.out.x0.bel).mono ?_); rintro e w5 ⟨rfl, hb5⟩; have HA5 := Lib.hid (HA.out.below hb5); clear HA hb5; have HA := HA5; clear HA5; obtain ⟨x0, x1, x2, x3, x4, x5, x6, x7⟩ := HW.out _ HA.out.x0.bel))
          | (go_at_call 22; ((with_reducible refine (ap_takeX HA.out x _ HRR.out HL1.out HSF.out HSX.out HF.out HC.out).mono ?_); rintro e w6 ⟨va', vb', rfl, ha⟩; clear HA x0 x1 x2 x3 x4 x5 x6 x7; have HA := Lib.hid ha; clear ha; obtain ⟨x0, x1, x2, x3, x4, x5, x6, x7⟩ := HW.out _ HA.out.x0.bel))
          | ((with_reducible refine gate_builtin (b := .append) (xs := #[.tmp 28, .tmp 33]) rfl ?_); at_builtin; refine Kd.R_append k29 (w0 := w) w.heap.size rfl (.tmp 28) (.tmp 33) 25 29 (.agg #[(.string ⟨#[]⟩), (.string ⟨#[]⟩), (.string ⟨#[]⟩), (.int .i64 0), (.int .i64 0), (.int .i64 0), (.int .i64 0), (.string ⟨#[]⟩)]) 96 rfl Try.underlying25 info29 rfl (by decide) (by omega) u5 _ x [.string x.f0, .string x.f1, .string x.f2, .int .i64 x.f3, .int .i64 x.f4, .int .i64 x.f5.f0, .int .i64 x.f5.f1, .string x.f5.f2] (Rest (w.heap.size + 1 + 1) va' vb') (fun _ => False) rfl rfl ?aP (fun _ hk => hk.elim) ?aF HA.out.r5 HA.out.x0.bel ?aS ?aL ?_; (case aP => exact k29_mkM _ _ _ x); (case aF => exact ap_fresh HA.out); (case aS => exact HA.out.x0.bel.size); (case aL => have := HLO.out; omega); intro v6 w7 ho hb hg hat; have HA7 := Lib.hid (ap_app HA.out ho hb hg); clear HA ho hb hg hat; have HA := HA7; clear HA7)
          | fail)
        go_roundg (l.length - (k + 1))
        case measure => omega
        case rel => exact ⟨k + 1, _, _, _, by omega, by omega, by go_num, by rw [HTK.out, ← HTK.out, HT1.out, HS2.out, HTK.out]; simpa using HA⟩
    · have hk' : k = l.length := by omega
      subst hk'
      have HX := HA.out.x0.q0
      go_wp2_with fail
      go_ret
      have h := HA.out.r5
      rw [List.take_length] at h
      exact ⟨_, rfl, row_of_R h, HA.out.x0.bel⟩
end Go.Proofs.Ythbgjaboghnpjaa.R
