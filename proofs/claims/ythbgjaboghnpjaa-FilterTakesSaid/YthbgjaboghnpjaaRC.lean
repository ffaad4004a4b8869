/- FilterTakes: the walk. -/
import Derived.Test.YthbgjaboghnpjaaRB
import Derived.Deep.RegionHeld3
namespace Go.Proofs.Ythbgjaboghnpjaa.R
open Go.RowKit Go.Proofs.Ythbgjaboghnpjaa.Q Go.Proofs.Ythbgjaboghnpjaa.Pure Go.Proofs.YthbgjaboghnpjaaW.PrintWords Go.Proofs.YthbgjaboghnpjaaW.PrintLast Go.Proofs.YthbgjaboghnpjaaW.PrintMore
set_option linter.unusedVariables false
set_option linter.unusedSimpArgs false
section
variable {w0 w W W' : World} {g R : Nat} {A : Option Addr} {c : Nat} {f0 : List ByteArray} {f1 f2 : ByteArray} {f3 f4 f5 f6 : Int} {v7 v8 : Value} {s : Sv} {L : List S29} {T : List Bool}
theorem ft_takeX (h : Ft w0 W g R A c f0 f1 f2 f3 f4 f5 f6 v7 v8 s L T) (x : S29) (r : Bool) (hr : svTake f0 f1 f2 f3 f4 f5 f6 s x = r) :
    Calls Try.prog 21 #[.pointer (some ⟨g, 0, none⟩), .agg #[.string x.f0, .string x.f1, .string x.f2, .int .i64 x.f3, .int .i64 x.f4, .int .i64 x.f5.f0, .int .i64 x.f5.f1, .string x.f5.f2]] W fun e W' => e = .returned (.bool r) ∧ Ft w0 W' g R A c f0 f1 f2 f3 f4 f5 f6 v7 v8 (svNext f0 f1 f2 f3 f4 f5 f6 s x) L T := ft_take h x r hr
theorem ft_rtakeX (h : Ft w0 W g R A c f0 f1 f2 f3 f4 f5 f6 v7 v8 s L T) (x : S29) (r : Bool) (hl : L.length ≤ 1000) (hf : SmallF f0 f1 f2) (hx : Small x) (fC : Kd.C Kd.string w0 A f0.length f0) (hc : f0.length ≤ c) (hr : okB f0 f1 f2 f3 f4 f5 f6 x (runN x (L ++ [x]) (T ++ [false]) L.length) (rowSt (L ++ [x]) (T ++ [false]) L.length).1 = r) :
    Calls Try.prog 22 #[.pointer (some ⟨R, 0, none⟩), .agg #[.string x.f0, .string x.f1, .string x.f2, .int .i64 x.f3, .int .i64 x.f4, .int .i64 x.f5.f0, .int .i64 x.f5.f1, .string x.f5.f2]] W fun e W' => ∃ v7' v8', e = .returned (.bool r) ∧ Ft w0 W' g R A c f0 f1 f2 f3 f4 f5 f6 v7' v8' s (L ++ [x]) (T ++ [r]) := ft_rtake h x r hl hf hx fC hc hr
end
theorem ft_start {w0 w3 : World} {g : Nat} {A : Option Addr} {c : Nat} {f0 : List ByteArray} {f1 f2 : ByteArray} {f3 f4 f5 f6 : Int} (h : IsSv w0 w3 g f0 f1 f2 f3 f4 f5 f6 sv0) (hb : Below w0.heap.size w0 w3) :
    Ft w0 (w3.alloc (.cells #[.slice A f0.length c, .string f1, .string f2, .int .i64 f3, .int .i64 f4, .int .i64 f5, .int .i64 f6, .slice none 0 0, .slice none 0 0] 45)) g w3.heap.size A c f0 f1 f2 f3 f4 f5 f6 (.slice none 0 0) (.slice none 0 0) sv0 [] [] :=
  ⟨IsS60.alloc h _, heap_alloc_new _ _, Kd.R_nil _ _ _ _ _, World.ownsRow_nil _ _ _ _, hb.size, hb.alloc hb.size _, rfl⟩
theorem small_rd {l : List S29} (h : ∀ c ∈ l, Small c) (k : Nat) (hk : k < l.length) : Small (rd_T29 l (k : Int)) := by
  rw [rd_at l k hk]
  exact h _ (List.getElem_mem hk)
set_option maxHeartbeats 4000000 in
set_option maxRecDepth 100000 in
theorem filterTakes (w : World) (A : Option Addr) (c : Nat) (f0 : List ByteArray) (f1 f2 : ByteArray) (f3 f4 f5 f6 : Int) (A1 : Option Addr) (c1 : Nat) (l : List S29) (hf : Kd.C Kd.string w A f0.length f0) (hc : f0.length ≤ c) (hl : Kd.C k29 w A1 l.length l) (hc1 : l.length ≤ c1) :
    Calls Try.prog 4 #[.agg (fcells A c f0 f1 f2 f3 f4 f5 f6), .slice A1 l.length c1] w fun e w' => e = .returned (.bool true) ∧ Below w.heap.size w w' := by
  have HF := Lib.hid hf
  have HL := Lib.hid hl
  have HC := Lib.hid hc
  have HC1 := Lib.hid hc1
  have hu24 := Try.underlying24
  have hu29 := Try.underlying29
  have hu45 := Try.underlying45
  clear hf hl hc hc1
  obtain ⟨b1, hb1, C1⟩ := long_ex f0 f1 f2 f3 f4 f5 f6 l
  have D1 := Lib.hid C1
  have E1 := Lib.hid hb1
  clear C1 hb1
  unfold fcells at *
  go_enter Try.func4, Try.ntmps4
  go_wp2_with fail
  refine (c_alive _).mono ?_
  rintro e w1 ⟨rfl, hb1⟩
  have HX := Lib.hid (X0.start.below hb1)
  clear hb1
  have q0 := HX.out.q0
  have q1 := HX.out.q1
  have q2 := HX.out.q2
  have q3 := HX.out.q3
  have q4 := HX.out.q4
  have q5 := HX.out.q5
  have q6 := HX.out.q6
  go_wp2_with fail
  refine (D1.out _ A c A1 c1 (Kd.C_below HF.out HX.out.bel) HC.out (Kd.C_below HL.out HX.out.bel) HC1.out).mono ?_
  rintro e w2 ⟨rfl, hb2⟩
  have HX2 := Lib.hid (HX.out.below hb2)
  clear hb2 HX
  clear q0 q1 q2 q3 q4 q5 q6
  have q0 := HX2.out.q0
  have q1 := HX2.out.q1
  have q2 := HX2.out.q2
  have q3 := HX2.out.q3
  have q4 := HX2.out.q4
  have q5 := HX2.out.q5
  have q6 := HX2.out.q6
  cases b1 with
  | true =>
    go_wp2_with fail
    go_ret
    exact ⟨rfl, HX2.out.bel⟩
  | false =>
    obtain ⟨hsf, hl80, hsm⟩ := E1.out rfl
    have HSF := Lib.hid hsf
    have HSM := Lib.hid hsm
    clear hsf hsm
    go_wp2_with fail
    refine (filter_new A c f0 f1 f2 f3 f4 f5 f6 _ (Kd.C_below HF.out HX2.out.bel) HC.out (by have := HSF.out.1; omega)).mono ?_
    rintro e w3 ⟨g, w0, rfl, hsv, hb3, hb4⟩
    have HB0 := Lib.hid (HX2.out.bel.trans (hb3.mono HX2.out.bel.size))
    have HX3 := Lib.hid (HX2.out.below (hb3.trans (hb4.mono hb3.size)))
    have HSV := Lib.hid hsv
    have HBV := Lib.hid hb4
    clear hsv hb3 hb4 HX2
    clear q0 q1 q2 q3 q4 q5 q6
    have q0 := HX3.out.q0
    have q1 := HX3.out.q1
    have q2 := HX3.out.q2
    have q3 := HX3.out.q3
    have q4 := HX3.out.q4
    have q5 := HX3.out.q5
    have q6 := HX3.out.q6
    have HS0 := Lib.hid (ft_start (A := A) (c := c) HSV.out HBV.out)
    have HF0 : Hid (Kd.C Kd.string w0 A f0.length f0) := Kd.C_below HF.out HB0.out
    clear HSV HBV
    go_wp2_with fail
    generalize w3.alloc (.cells #[.slice A f0.length c, .string f1, .string f2, .int .i64 f3, .int .i64 f4, .int .i64 f5, .int .i64 f6, .slice none 0 0, .slice none 0 0] 45) = w4 at HS0 ⊢
    generalize w3.heap.size = R at HS0 ⊢
    clear q0 q1 q2 q3 q4 q5 q6 HX3
    go_loopg [7] l.length (fun gg v7 W => ∃ (k : Nat) (s : Sv) (T : List Bool) (va vb : Value), k ≤ l.length ∧ l.length - k ≤ gg ∧ v7 = .int .i64 k ∧ Hid (Ft w0 W g R A c f0 f1 f2 f3 f4 f5 f6 va vb s (l.take k) T) ∧ Hid (Lk s (l.take k) T))
    case atStart => exact ⟨0, sv0, [], _, _, by omega, by omega, rfl, HS0, Lk.start⟩
    case round =>
      clear HS0
      obtain ⟨k, s, T, va, vb, hk, hg, rfl, HS, HK⟩ := hrel
      by_cases hlt : k < l.length
      · have hk0 : (0 : Int) ≤ (k : Int) := by omega
        have hk1 : (k : Int) < (l.length : Int) := by omega
        obtain ⟨ad, e, x0, x1, x2, x3, x4, x5, x6, x7⟩ := at_T29 HL.out (k : Int) hk0 hk1
        subst e
        rw [Int.toNat_natCast] at x0 x1 x2 x3 x4 x5 x6 x7
        have HSX := Lib.hid (small_rd HSM.out k hlt)
        have HTK := Lib.hid (take_snoc l k hlt)
        have HLT := Lib.hid (show (l.take k).length = k by rw [List.length_take]; omega)
        generalize rd_T29 l (k : Int) = x at x0 x1 x2 x3 x4 x5 x6 x7 HSX HTK
        have HXW : Hid (w.cell? (ad.add (k * 8)) = some (.string x.f0) ∧ w.cell? ⟨(ad.add (k * 8)).block, (ad.add (k * 8)).off + 1, none⟩ = some (.string x.f1) ∧ w.cell? ⟨(ad.add (k * 8)).block, (ad.add (k * 8)).off + 2, none⟩ = some (.string x.f2) ∧ w.cell? ⟨(ad.add (k * 8)).block, (ad.add (k * 8)).off + 3, none⟩ = some (.int .i64 x.f3) ∧ w.cell? ⟨(ad.add (k * 8)).block, (ad.add (k * 8)).off + 4, none⟩ = some (.int .i64 x.f4) ∧ w.cell? ⟨(ad.add (k * 8)).block, (ad.add (k * 8)).off + 5, none⟩ = some (.int .i64 x.f5.f0) ∧ w.cell? ⟨(ad.add (k * 8)).block, (ad.add (k * 8)).off + 6, none⟩ = some (.int .i64 x.f5.f1) ∧ w.cell? ⟨(ad.add (k * 8)).block, (ad.add (k * 8)).off + 7, none⟩ = some (.string x.f5.f2)) := ⟨x0, x1, x2, x3, x4, x5, x6, x7⟩
        clear x0 x1 x2 x3 x4 x5 x6 x7
        have HBW := Lib.hid (HB0.out.trans (HS.out.ks.bel.mono HB0.out.size))
        have x0 := cellB HBW.out HXW.out.1
        have x1 := cellB HBW.out HXW.out.2.1
        have x2 := cellB HBW.out HXW.out.2.2.1
        have x3 := cellB HBW.out HXW.out.2.2.2.1
        have x4 := cellB HBW.out HXW.out.2.2.2.2.1
        have x5 := cellB HBW.out HXW.out.2.2.2.2.2.1
        have x6 := cellB HBW.out HXW.out.2.2.2.2.2.2.1
        have x7 := cellB HBW.out HXW.out.2.2.2.2.2.2.2
        have hl1 : (l.take k).length ≤ 1000 := by rw [HLT.out]; omega
        obtain ⟨r, hr⟩ : ∃ r, svTake f0 f1 f2 f3 f4 f5 f6 s x = r := ⟨_, rfl⟩
        have hr2 := (HK.out.take f0 f1 f2 f3 f4 f5 f6 hl1 x false).symm.trans hr
        have hnx := HK.out.next f0 f1 f2 f3 f4 f5 f6 hl1 x
        rw [hr] at hnx
        have hrw := (hnx.cons k (by simp [HLT.out])).2.2.2.1
        obtain ⟨d, hd⟩ : ∃ d, doneB f6 (svNext f0 f1 f2 f3 f4 f5 f6 s x).rows = d := ⟨_, rfl⟩
        have hd2 := hd
        rw [hrw] at hd2
        have HR := Lib.hid hr
        have HR2 := Lib.hid hr2
        have HNX := Lib.hid hnx
        have HD := Lib.hid hd
        have HD2 := Lib.hid hd2
        have HL1 := Lib.hid hl1
        clear hr hr2 hnx hrw hd hd2 hl1 HK
        have hrr : (r != r) = false := by simp
        have hdd : (d != d) = false := by simp
        go_wp2_with fail
        go_region_held3 (fun W => W.cell? (ad.add (k * 8)) = some (.string x.f0) ∧ W.cell? ⟨(ad.add (k * 8)).block, (ad.add (k * 8)).off + 1, none⟩ = some (.string x.f1) ∧ W.cell? ⟨(ad.add (k * 8)).block, (ad.add (k * 8)).off + 2, none⟩ = some (.string x.f2) ∧ W.cell? ⟨(ad.add (k * 8)).block, (ad.add (k * 8)).off + 3, none⟩ = some (.int .i64 x.f3) ∧ W.cell? ⟨(ad.add (k * 8)).block, (ad.add (k * 8)).off + 4, none⟩ = some (.int .i64 x.f4) ∧ W.cell? ⟨(ad.add (k * 8)).block, (ad.add (k * 8)).off + 5, none⟩ = some (.int .i64 x.f5.f0) ∧ W.cell? ⟨(ad.add (k * 8)).block, (ad.add (k * 8)).off + 6, none⟩ = some (.int .i64 x.f5.f1) ∧ W.cell? ⟨(ad.add (k * 8)).block, (ad.add (k * 8)).off + 7, none⟩ = some (.string x.f5.f2))
          (first | exact ⟨x0, x1, x2, x3, x4, x5, x6, x7⟩ | go_keep | (have HBX := HB0.out.trans (HS.out.ks.bel.mono HB0.out.size); exact ⟨cellB HBX HXW.out.1, cellB HBX HXW.out.2.1, cellB HBX HXW.out.2.2.1, cellB HBX HXW.out.2.2.2.1, cellB HBX HXW.out.2.2.2.2.1, cellB HBX HXW.out.2.2.2.2.2.1, cellB HBX HXW.out.2.2.2.2.2.2.1, cellB HBX HXW.out.2.2.2.2.2.2.2⟩))
          (first
            | (go_at_call 21; ((with_reducible refine (ft_takeX (HS.out.below ((Below.refl _ _).drew)) x r HR.out).mono ?_); rintro e w' ⟨rfl, hs⟩; clear HS; have HS := Lib.hid hs; clear hs))
            | (go_at_call 22; ((with_reducible refine (ft_rtakeX HS.out x r HL1.out HSF.out HSX.out HF0.out HC.out HR2.out).mono ?_); rintro e w' ⟨va', vb', rfl, hs⟩; clear HS; have HS := Lib.hid hs; clear hs))
            | (go_at_call 23; ((with_reducible refine (ft_done HS.out d HD.out).mono ?_); rintro e w' ⟨rfl, hs⟩; clear HS; have HS := Lib.hid hs; clear hs))
            | (go_at_call 24; ((with_reducible refine (ft_rdone HS.out k (by simp [HLT.out]) (by omega) d HD2.out).mono ?_); rintro e w' ⟨rfl, hs⟩; clear HS; have HS := Lib.hid hs; clear hs)))
        go_wp2_with fail
        go_roundg (l.length - (k + 1))
        case measure => omega
        case rel => exact ⟨k + 1, _, _, _, _, by omega, by omega, by go_num, by rw [HTK.out]; exact HS, by rw [HTK.out]; exact HNX⟩
      · have hk' : k = l.length := by omega
        subst hk'
        go_wp2_with fail
        go_ret
        exact ⟨rfl, HB0.out.trans (HS.out.ks.bel.mono HB0.out.size)⟩
end Go.Proofs.Ythbgjaboghnpjaa.R
