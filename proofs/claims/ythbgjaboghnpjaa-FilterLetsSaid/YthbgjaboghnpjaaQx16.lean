import Derived.Test.YthbgjaboghnpjaaQx0
import Derived.Test.YthbgjaboghnpjaaQx6
import Derived.Test.YthbgjaboghnpjaaQx7
import Derived.Test.YthbgjaboghnpjaaQx8
import Derived.Test.YthbgjaboghnpjaaQx13
import Derived.Test.YthbgjaboghnpjaaQx15
-- Written by a program of this session, out of Lean's print of the loaded program (a patched copy of the kit's print).
namespace Go.Proofs.Ythbgjaboghnpjaa.Q
open Go.RowKit Go.Proofs.YthbgjaboghnpjaaW.PrintWords Go.Proofs.YthbgjaboghnpjaaW.PrintLast Go.Proofs.YthbgjaboghnpjaaW.PrintMore
attribute [local go_sem] max2_int min2_int max_two min_two max_three min_three max_four min_four   -- for this text's walks alone
set_option linter.unusedVariables false
set_option linter.unusedSimpArgs false

/-! ### filter_Apply: function 17 -/
/-- what the sieve holds beside its filter -/
structure Sv where
  c : S29
  some : Bool
  n : Int
  rows : Int
  hit : Bool
def sv0 : Sv := ⟨z29, false, 0, 0, false⟩
def svTake (l0_0 : List ByteArray) (a0_1 : ByteArray) (a0_2 : ByteArray) (a0_3 : Int) (a0_4 : Int) (a0_5 : Int) (a0_6 : Int) (s : Sv) (c : S29) : Bool := takeB l0_0 a0_1 a0_2 a0_3 a0_4 a0_5 a0_6 s.c.f0 s.c.f1 s.c.f2 s.c.f3 s.c.f4 s.c.f5.f0 s.c.f5.f1 s.c.f5.f2 s.some s.n s.rows s.hit c.f0 c.f1 c.f2 c.f3 c.f4 c.f5.f0 c.f5.f1 c.f5.f2
def svNext (l0_0 : List ByteArray) (a0_1 : ByteArray) (a0_2 : ByteArray) (a0_3 : Int) (a0_4 : Int) (a0_5 : Int) (a0_6 : Int) (s : Sv) (c : S29) : Sv := ⟨c, true, (if takeB l0_0 a0_1 a0_2 a0_3 a0_4 a0_5 a0_6 s.c.f0 s.c.f1 s.c.f2 s.c.f3 s.c.f4 s.c.f5.f0 s.c.f5.f1 s.c.f5.f2 s.some s.n s.rows s.hit c.f0 c.f1 c.f2 c.f3 c.f4 c.f5.f0 c.f5.f1 c.f5.f2 = true then wrap64 (turnN s.c.f0 s.c.f1 s.c.f2 s.n c.f0 c.f1 c.f2 + 1) else turnN s.c.f0 s.c.f1 s.c.f2 s.n c.f0 c.f1 c.f2), turnRows s.c.f0 s.some s.rows s.hit c.f0, (takeB l0_0 a0_1 a0_2 a0_3 a0_4 a0_5 a0_6 s.c.f0 s.c.f1 s.c.f2 s.c.f3 s.c.f4 s.c.f5.f0 s.c.f5.f1 s.c.f5.f2 s.some s.n s.rows s.hit c.f0 c.f1 c.f2 c.f3 c.f4 c.f5.f0 c.f5.f1 c.f5.f2 || turnHit s.c.f0 s.some s.hit c.f0)⟩
def IsSv (w0 W : World) (g : Nat) (l0_0 : List ByteArray) (a0_1 : ByteArray) (a0_2 : ByteArray) (a0_3 : Int) (a0_4 : Int) (a0_5 : Int) (a0_6 : Int) (s : Sv) : Prop := IsS60 w0 W g l0_0 a0_1 a0_2 a0_3 a0_4 a0_5 a0_6 s.c.f0 s.c.f1 s.c.f2 s.c.f3 s.c.f4 s.c.f5.f0 s.c.f5.f1 s.c.f5.f2 s.some s.n s.rows s.hit
theorem sv_take (g : Nat) (l0_0 : List ByteArray) (a0_1 : ByteArray) (a0_2 : ByteArray) (a0_3 : Int) (a0_4 : Int) (a0_5 : Int) (a0_6 : Int) (s : Sv) (c : S29) (w0 w : World) (hI : IsSv w0 w g l0_0 a0_1 a0_2 a0_3 a0_4 a0_5 a0_6 s) (hB : Below w0.heap.size w0 w) :
    Calls Try.prog 21 #[.pointer (some ⟨g, 0, none⟩), .agg #[.string (c.f0), .string (c.f1), .string (c.f2), .int .i64 (c.f3), .int .i64 (c.f4), .int .i64 (c.f5.f0), .int .i64 (c.f5.f1), .string (c.f5.f2)]] w fun e w' => e = .returned (.bool (svTake l0_0 a0_1 a0_2 a0_3 a0_4 a0_5 a0_6 s c)) ∧ IsSv w0 w' g l0_0 a0_1 a0_2 a0_3 a0_4 a0_5 a0_6 (svNext l0_0 a0_1 a0_2 a0_3 a0_4 a0_5 a0_6 s c) ∧ Below w0.heap.size w0 w' ∧ KeepBut w w' g none :=
  filter_take g l0_0 a0_1 a0_2 a0_3 a0_4 a0_5 a0_6 s.c.f0 s.c.f1 s.c.f2 s.c.f3 s.c.f4 s.c.f5.f0 s.c.f5.f1 s.c.f5.f2 s.some s.n s.rows s.hit c.f0 c.f1 c.f2 c.f3 c.f4 c.f5.f0 c.f5.f1 c.f5.f2 w0 w hI hB
/-- what is taken of cells -/
def svRun (l0_0 : List ByteArray) (a0_1 : ByteArray) (a0_2 : ByteArray) (a0_3 : Int) (a0_4 : Int) (a0_5 : Int) (a0_6 : Int) : Sv → List S29 → List S29
  | _, [] => []
  | s, c :: r => (if svTake l0_0 a0_1 a0_2 a0_3 a0_4 a0_5 a0_6 s c = true then [c] else []) ++ svRun l0_0 a0_1 a0_2 a0_3 a0_4 a0_5 a0_6 (svNext l0_0 a0_1 a0_2 a0_3 a0_4 a0_5 a0_6 s c) r
def svEnd (l0_0 : List ByteArray) (a0_1 : ByteArray) (a0_2 : ByteArray) (a0_3 : Int) (a0_4 : Int) (a0_5 : Int) (a0_6 : Int) : Sv → List S29 → Sv
  | s, [] => s
  | s, c :: r => svEnd l0_0 a0_1 a0_2 a0_3 a0_4 a0_5 a0_6 (svNext l0_0 a0_1 a0_2 a0_3 a0_4 a0_5 a0_6 s c) r
theorem svEnd_snoc (l0_0 : List ByteArray) (a0_1 : ByteArray) (a0_2 : ByteArray) (a0_3 : Int) (a0_4 : Int) (a0_5 : Int) (a0_6 : Int) (c : S29) : ∀ (l : List S29) (s : Sv), svEnd l0_0 a0_1 a0_2 a0_3 a0_4 a0_5 a0_6 s (l ++ [c]) = svNext l0_0 a0_1 a0_2 a0_3 a0_4 a0_5 a0_6 (svEnd l0_0 a0_1 a0_2 a0_3 a0_4 a0_5 a0_6 s l) c
  | [], s => rfl
  | d :: r, s => svEnd_snoc l0_0 a0_1 a0_2 a0_3 a0_4 a0_5 a0_6 c r _
theorem svRun_snoc (l0_0 : List ByteArray) (a0_1 : ByteArray) (a0_2 : ByteArray) (a0_3 : Int) (a0_4 : Int) (a0_5 : Int) (a0_6 : Int) (c : S29) : ∀ (l : List S29) (s : Sv), svRun l0_0 a0_1 a0_2 a0_3 a0_4 a0_5 a0_6 s (l ++ [c]) = svRun l0_0 a0_1 a0_2 a0_3 a0_4 a0_5 a0_6 s l ++ (if svTake l0_0 a0_1 a0_2 a0_3 a0_4 a0_5 a0_6 (svEnd l0_0 a0_1 a0_2 a0_3 a0_4 a0_5 a0_6 s l) c = true then [c] else [])
  | [], s => by
    simp only [svRun, svEnd, List.nil_append, List.append_nil]
    rfl
  | d :: r, s => by
    rw [List.cons_append, svRun, svRun, svRun_snoc l0_0 a0_1 a0_2 a0_3 a0_4 a0_5 a0_6 c r, svEnd, List.append_assoc]
theorem svRun_length (l0_0 : List ByteArray) (a0_1 : ByteArray) (a0_2 : ByteArray) (a0_3 : Int) (a0_4 : Int) (a0_5 : Int) (a0_6 : Int) : ∀ (l : List S29) (s : Sv), (svRun l0_0 a0_1 a0_2 a0_3 a0_4 a0_5 a0_6 s l).length ≤ l.length
  | [], s => Nat.le_refl _
  | d :: r, s => by
    have := svRun_length l0_0 a0_1 a0_2 a0_3 a0_4 a0_5 a0_6 r (svNext l0_0 a0_1 a0_2 a0_3 a0_4 a0_5 a0_6 s d)
    rw [svRun, List.length_append, List.length_cons]
    split <;> simp <;> omega
theorem wrap_succ (k : Nat) (h : k < 1000000000000) : wrap64 ((k : Int) + 1) = ((k + 1 : Nat) : Int) := by unfold wrap64; omega
theorem take_snoc (l : List S29) (k : Nat) (hk : k < l.length) : l.take (k + 1) = l.take k ++ [rd_T29 l (k : Int)] := by
  rw [List.take_succ_eq_append_getElem hk]
  simp [rd_T29, List.getD_eq_getElem?_getD, List.getElem?_eq_getElem hk]
set_option maxHeartbeats 8000000 in
set_option maxRecDepth 100000 in
theorem filter_new (A0_0 : Option Addr) (c0_0 : Nat) (l0_0 : List ByteArray) (a0_1 : ByteArray) (a0_2 : ByteArray) (a0_3 : Int) (a0_4 : Int) (a0_5 : Int) (a0_6 : Int) (w : World) (hr0 : Kd.C Kd.string w A0_0 l0_0.length l0_0) (hc0 : l0_0.length ≤ c0_0) (hl : l0_0.length < 8796093022208) :
    Calls Try.prog 20 #[.agg #[.slice A0_0 l0_0.length c0_0, .string a0_1, .string a0_2, .int .i64 a0_3, .int .i64 a0_4, .int .i64 a0_5, .int .i64 a0_6]] w fun e w' => ∃ (g : Nat) (w0 : World), e = .returned (.pointer (some ⟨g, 0, none⟩)) ∧ IsSv w0 w' g l0_0 a0_1 a0_2 a0_3 a0_4 a0_5 a0_6 sv0 ∧ Below w.heap.size w w0 ∧ Below w0.heap.size w0 w' := by
  have hu24 := Try.underlying24
  have hu60 := Try.underlying60
  have HR0 := Aside0.mk hr0
  have HC0 := Aside0.mk hc0
  have HL := Aside0.mk hl
  clear hr0 hc0 hl
  have HB := Aside0.mk (Below.refl w.heap.size w)
  have hcl : filter_Clone.f l0_0 a0_1 a0_2 a0_3 a0_4 a0_5 a0_6 = some (l0_0, a0_1, a0_2, a0_3, a0_4, a0_5, a0_6) := by
    unfold filter_Clone.f slices_Clone_string_string.f
    rw [if_pos HL.out]
    rfl
  have HF := Aside0.mk hcl
  clear hcl
  go_enter Try.func20, Try.ntmps20
  go_wp2_with (first | ((with_reducible refine gate_dst (N := 1) rfl ?_); refine box_event ?hg (N := 1) ?hd (cs := #[.slice A0_0 l0_0.length c0_0, .string a0_1, .string a0_2, .int .i64 a0_3, .int .i64 a0_4, .int .i64 a0_5, .int .i64 a0_6]) (t := 24) ?hr ?_; (case hd => rfl); (case hg => rfl); (case hr => first | (go_simp; done) | (go_simp; rfl)); intro gb hg w1 hbox hb; have n0_ := Aside0.mk (below_step (by repeat (first | (with_reducible first | exact HB.out | apply below_alloc | apply pw_below_drewN | apply below_drew1) | exact HB.out)) hb); clear HB; have HB := n0_; have BK := Aside0.mk hbox; clear n0_ hb hbox hg; have hb00 : w1.cell? ⟨gb, 0, none⟩ = some (.slice A0_0 l0_0.length c0_0) := (blk_cell BK.out 0).trans rfl; have hb01 : w1.cell? ⟨gb, 1, none⟩ = some (.string a0_1) := (blk_cell BK.out 1).trans rfl; have hb02 : w1.cell? ⟨gb, 2, none⟩ = some (.string a0_2) := (blk_cell BK.out 2).trans rfl; have hb03 : w1.cell? ⟨gb, 3, none⟩ = some (.int .i64 a0_3) := (blk_cell BK.out 3).trans rfl; have hb04 : w1.cell? ⟨gb, 4, none⟩ = some (.int .i64 a0_4) := (blk_cell BK.out 4).trans rfl; have hb05 : w1.cell? ⟨gb, 5, none⟩ = some (.int .i64 a0_5) := (blk_cell BK.out 5).trans rfl; have hb06 : w1.cell? ⟨gb, 6, none⟩ = some (.int .i64 a0_6) := (blk_cell BK.out 6).trans rfl) | (go_at_call 11; refine (filter_Clone.calls A0_0 c0_0 l0_0 a0_1 a0_2 a0_3 a0_4 a0_5 a0_6 _ _ _ _ _ _ _ _ (Kd.C_below HR0.out (by repeat (first | (with_reducible first | exact HB.out | apply below_alloc | apply pw_below_drewN | apply below_drew1) | exact HB.out))) HC0.out HF.out).mono ?_; rintro e w3 ⟨v, rfl, ho, hb⟩; have n0_ := Aside0.mk (below_then (by repeat (first | (with_reducible first | exact HB.out | apply below_alloc | apply pw_below_drewN | apply below_drew1) | exact HB.out)) (below_size (by repeat (first | (with_reducible first | exact HB.out | apply below_alloc | apply pw_below_drewN | apply below_drew1) | exact HB.out))) hb); clear HB; have HB := n0_; clear n0_; obtain ⟨A1, c1, rfl⟩ := Kd.R_slice ho; have HC1 := Aside0.mk (Kd.R_reads' ho).2.2; clear ho hb) | ((with_reducible refine gate_dst (N := 6) rfl ?_); refine box_event ?hg (N := 6) ?hd (cs := #[.slice A1 l0_0.length c1, .string a0_1, .string a0_2, .int .i64 a0_3, .int .i64 a0_4, .int .i64 a0_5, .int .i64 a0_6, .string (⟨#[]⟩ : ByteArray), .string (⟨#[]⟩ : ByteArray), .string (⟨#[]⟩ : ByteArray), .int .i64 0, .int .i64 0, .int .i64 0, .int .i64 0, .string (⟨#[]⟩ : ByteArray), .bool false, .int .i64 0, .int .i64 0, .bool false]) (t := 60) ?hr ?_; (case hd => rfl); (case hg => rfl); (case hr => first | (go_simp; done) | (go_simp; rfl)); intro g hg w4 hbox hb; have HX := Aside0.mk hbox; have HY := Aside0.mk hb; have HZ := Aside0.mk hg; clear hbox hb hg))
  go_ret
  exact ⟨g, w3, rfl, ⟨A1, c1, HX.out, Nat.le_of_eq HZ.out.symm, HC1.out⟩, HB.out, HY.out⟩
def applyL (l0_0 : List ByteArray) (a0_1 : ByteArray) (a0_2 : ByteArray) (a0_3 : Int) (a0_4 : Int) (a0_5 : Int) (a0_6 : Int) (l : List S29) : List S29 := if rightB l0_0 a0_1 a0_2 a0_3 a0_4 a0_5 a0_6 = true then svRun l0_0 a0_1 a0_2 a0_3 a0_4 a0_5 a0_6 sv0 l else []
def filter_Apply.f (l0_0 : List ByteArray) (a0_1 : ByteArray) (a0_2 : ByteArray) (a0_3 : Int) (a0_4 : Int) (a0_5 : Int) (a0_6 : Int) (l1 : List S29) : Option (List S29) := if l1.length < 1000000000000 then some (applyL l0_0 a0_1 a0_2 a0_3 a0_4 a0_5 a0_6 l1) else none
set_option maxHeartbeats 8000000 in
set_option maxRecDepth 100000 in
theorem filter_Apply.calls (A0_0 : Option Addr) (c0_0 : Nat) (l0_0 : List ByteArray) (a0_1 : ByteArray) (a0_2 : ByteArray) (a0_3 : Int) (a0_4 : Int) (a0_5 : Int) (a0_6 : Int) (A1 : Option Addr) (c1 : Nat) (l1 : List S29) (r : List S29) (w : World) (hr0_0 : Kd.C Kd.string w A0_0 l0_0.length l0_0) (hc0_0 : l0_0.length ≤ c0_0) (hr1 : Kd.C k29 w A1 l1.length l1) (hc1 : l1.length ≤ c1) (h : filter_Apply.f l0_0 a0_1 a0_2 a0_3 a0_4 a0_5 a0_6 l1 = some r) :
    Calls Try.prog 17 #[.agg #[.slice A0_0 l0_0.length c0_0, .string a0_1, .string a0_2, .int .i64 a0_3, .int .i64 a0_4, .int .i64 a0_5, .int .i64 a0_6], .slice A1 l1.length c1] w fun e w' => ∃ v0_ : Value, e = .returned (v0_) ∧ Kd.R k29 29 w' w.heap.size (fun _ => True) v0_ r ∧ Below w.heap.size w w' := by
  have hu24 := Try.underlying24
  have hu29 := Try.underlying29
  have hu27 := Try.underlying27
  unfold filter_Apply.f at h
  by_cases hl : l1.length < 1000000000000
  case neg =>
    rw [if_neg hl] at h
    cases h
  rw [if_pos hl] at h
  obtain rfl := Option.some.inj h
  clear h
  have HL := Aside0.mk hl
  have HR0 := Aside0.mk hr0_0
  have HC0 := Aside0.mk hc0_0
  have HR1 := Aside0.mk hr1
  clear hr0_0 hc0_0 hr1 hc1 hl
  have HBw := Aside0.mk (Below.refl w.heap.size w)
  have HRR : Aside0 (∀ w1, Below w.heap.size w w1 → Calls Try.prog 12 #[.agg #[.slice A0_0 l0_0.length c0_0, .string a0_1, .string a0_2, .int .i64 a0_3, .int .i64 a0_4, .int .i64 a0_5, .int .i64 a0_6]] w1 fun e w' => e = .returned (.bool (rightB l0_0 a0_1 a0_2 a0_3 a0_4 a0_5 a0_6)) ∧ Below w1.heap.size w1 w') := ⟨fun w1 hb => filter_Right.calls A0_0 c0_0 l0_0 a0_1 a0_2 a0_3 a0_4 a0_5 a0_6 _ w1 (Kd.C_below HR0.out hb) HC0.out rfl⟩
  have HLE : Aside0 (rightB l0_0 a0_1 a0_2 a0_3 a0_4 a0_5 a0_6 = true → l0_0.length < 8796093022208) := ⟨fun h => by
    unfold rightB at h
    rw [Bool.and_eq_true, Bool.and_eq_true] at h
    have := of_decide_eq_true h.1.1
    omega⟩
  have HAP : Aside0 (applyL l0_0 a0_1 a0_2 a0_3 a0_4 a0_5 a0_6 l1 = if rightB l0_0 a0_1 a0_2 a0_3 a0_4 a0_5 a0_6 = true then svRun l0_0 a0_1 a0_2 a0_3 a0_4 a0_5 a0_6 sv0 l1 else []) := ⟨rfl⟩
  generalize applyL l0_0 a0_1 a0_2 a0_3 a0_4 a0_5 a0_6 l1 = r at *
  cases hq : rightB l0_0 a0_1 a0_2 a0_3 a0_4 a0_5 a0_6 with
  | false =>
    rw [hq] at HRR HAP
    clear hq HLE
    go_enter Try.func17, Try.ntmps17
    go_wp2_with (first | ((with_reducible refine gate_dst (N := 2) rfl ?_); refine box_event ?hg (N := 2) ?hd (cs := #[.slice A0_0 l0_0.length c0_0, .string a0_1, .string a0_2, .int .i64 a0_3, .int .i64 a0_4, .int .i64 a0_5, .int .i64 a0_6]) (t := 24) ?hr ?_; (case hd => rfl); (case hg => rfl); (case hr => first | (go_simp; done) | (go_simp; rfl)); intro gb hg w1 hbox hb; have n0_ := Aside0.mk (below_step (by repeat (first | (with_reducible first | exact HBw.out | apply below_alloc | apply pw_below_drewN | apply below_drew1) | exact HBw.out)) hb); clear HBw; have HBw := n0_; have BK := Aside0.mk hbox; clear n0_ hb hbox hg; have hb00 : w1.cell? ⟨gb, 0, none⟩ = some (.slice A0_0 l0_0.length c0_0) := (blk_cell BK.out 0).trans rfl; have hb01 : w1.cell? ⟨gb, 1, none⟩ = some (.string a0_1) := (blk_cell BK.out 1).trans rfl; have hb02 : w1.cell? ⟨gb, 2, none⟩ = some (.string a0_2) := (blk_cell BK.out 2).trans rfl; have hb03 : w1.cell? ⟨gb, 3, none⟩ = some (.int .i64 a0_3) := (blk_cell BK.out 3).trans rfl; have hb04 : w1.cell? ⟨gb, 4, none⟩ = some (.int .i64 a0_4) := (blk_cell BK.out 4).trans rfl; have hb05 : w1.cell? ⟨gb, 5, none⟩ = some (.int .i64 a0_5) := (blk_cell BK.out 5).trans rfl; have hb06 : w1.cell? ⟨gb, 6, none⟩ = some (.int .i64 a0_6) := (blk_cell BK.out 6).trans rfl) | (go_at_call 12; refine (HRR.out _ (by repeat (first | (with_reducible first | exact HBw.out | apply below_alloc | apply pw_below_drewN | apply below_drew1) | exact HBw.out))).mono ?_; rintro e w2 ⟨rfl, hb⟩; have n0_ := Aside0.mk (below_then (by repeat (first | (with_reducible first | exact HBw.out | apply below_alloc | apply pw_below_drewN | apply below_drew1) | exact HBw.out)) (below_size (by repeat (first | (with_reducible first | exact HBw.out | apply below_alloc | apply pw_below_drewN | apply below_drew1) | exact HBw.out))) hb); have n1_ := Aside0.mk (blk_below (by (with_reducible repeat (first | refine blk_drewN ?_ _ | refine blk_drew ?_ | refine blk_alloc ?_ _)); exact BK.out) hb); clear HBw BK; have HBw := n0_; have BK := n1_; clear n0_ n1_ hb; have hb10 : w2.cell? ⟨gb, 0, none⟩ = some (.slice A0_0 l0_0.length c0_0) := (blk_cell BK.out 0).trans rfl; have hb11 : w2.cell? ⟨gb, 1, none⟩ = some (.string a0_1) := (blk_cell BK.out 1).trans rfl; have hb12 : w2.cell? ⟨gb, 2, none⟩ = some (.string a0_2) := (blk_cell BK.out 2).trans rfl; have hb13 : w2.cell? ⟨gb, 3, none⟩ = some (.int .i64 a0_3) := (blk_cell BK.out 3).trans rfl; have hb14 : w2.cell? ⟨gb, 4, none⟩ = some (.int .i64 a0_4) := (blk_cell BK.out 4).trans rfl; have hb15 : w2.cell? ⟨gb, 5, none⟩ = some (.int .i64 a0_5) := (blk_cell BK.out 5).trans rfl; have hb16 : w2.cell? ⟨gb, 6, none⟩ = some (.int .i64 a0_6) := (blk_cell BK.out 6).trans rfl))
    go_ret
    obtain rfl := HAP.out
    exact ⟨_, rfl, Kd.R_nil _ _ _ _ _, (by repeat (first | (with_reducible first | exact HBw.out | apply below_alloc | apply pw_below_drewN | apply below_drew1) | exact HBw.out))⟩
  | true =>
    rw [hq] at HRR HAP HLE
    have HLX := Aside0.mk (HLE.out rfl)
    clear hq HLE
    go_enter Try.func17, Try.ntmps17
    go_wp2_with (first | ((with_reducible refine gate_dst (N := 2) rfl ?_); refine box_event ?hg (N := 2) ?hd (cs := #[.slice A0_0 l0_0.length c0_0, .string a0_1, .string a0_2, .int .i64 a0_3, .int .i64 a0_4, .int .i64 a0_5, .int .i64 a0_6]) (t := 24) ?hr ?_; (case hd => rfl); (case hg => rfl); (case hr => first | (go_simp; done) | (go_simp; rfl)); intro gb hg w1 hbox hb; have n0_ := Aside0.mk (below_step (by repeat (first | (with_reducible first | exact HBw.out | apply below_alloc | apply pw_below_drewN | apply below_drew1) | exact HBw.out)) hb); clear HBw; have HBw := n0_; have BK := Aside0.mk hbox; clear n0_ hb hbox hg; have hb00 : w1.cell? ⟨gb, 0, none⟩ = some (.slice A0_0 l0_0.length c0_0) := (blk_cell BK.out 0).trans rfl; have hb01 : w1.cell? ⟨gb, 1, none⟩ = some (.string a0_1) := (blk_cell BK.out 1).trans rfl; have hb02 : w1.cell? ⟨gb, 2, none⟩ = some (.string a0_2) := (blk_cell BK.out 2).trans rfl; have hb03 : w1.cell? ⟨gb, 3, none⟩ = some (.int .i64 a0_3) := (blk_cell BK.out 3).trans rfl; have hb04 : w1.cell? ⟨gb, 4, none⟩ = some (.int .i64 a0_4) := (blk_cell BK.out 4).trans rfl; have hb05 : w1.cell? ⟨gb, 5, none⟩ = some (.int .i64 a0_5) := (blk_cell BK.out 5).trans rfl; have hb06 : w1.cell? ⟨gb, 6, none⟩ = some (.int .i64 a0_6) := (blk_cell BK.out 6).trans rfl) | (go_at_call 12; refine (HRR.out _ (by repeat (first | (with_reducible first | exact HBw.out | apply below_alloc | apply pw_below_drewN | apply below_drew1) | exact HBw.out))).mono ?_; rintro e w2 ⟨rfl, hb⟩; have n0_ := Aside0.mk (below_then (by repeat (first | (with_reducible first | exact HBw.out | apply below_alloc | apply pw_below_drewN | apply below_drew1) | exact HBw.out)) (below_size (by repeat (first | (with_reducible first | exact HBw.out | apply below_alloc | apply pw_below_drewN | apply below_drew1) | exact HBw.out))) hb); have n1_ := Aside0.mk (blk_below (by (with_reducible repeat (first | refine blk_drewN ?_ _ | refine blk_drew ?_ | refine blk_alloc ?_ _)); exact BK.out) hb); clear HBw BK; have HBw := n0_; have BK := n1_; clear n0_ n1_ hb; have hb10 : w2.cell? ⟨gb, 0, none⟩ = some (.slice A0_0 l0_0.length c0_0) := (blk_cell BK.out 0).trans rfl; have hb11 : w2.cell? ⟨gb, 1, none⟩ = some (.string a0_1) := (blk_cell BK.out 1).trans rfl; have hb12 : w2.cell? ⟨gb, 2, none⟩ = some (.string a0_2) := (blk_cell BK.out 2).trans rfl; have hb13 : w2.cell? ⟨gb, 3, none⟩ = some (.int .i64 a0_3) := (blk_cell BK.out 3).trans rfl; have hb14 : w2.cell? ⟨gb, 4, none⟩ = some (.int .i64 a0_4) := (blk_cell BK.out 4).trans rfl; have hb15 : w2.cell? ⟨gb, 5, none⟩ = some (.int .i64 a0_5) := (blk_cell BK.out 5).trans rfl; have hb16 : w2.cell? ⟨gb, 6, none⟩ = some (.int .i64 a0_6) := (blk_cell BK.out 6).trans rfl) | (go_at_call 20; refine (filter_new A0_0 c0_0 l0_0 a0_1 a0_2 a0_3 a0_4 a0_5 a0_6 _ (Kd.C_below HR0.out (by repeat (first | (with_reducible first | exact HBw.out | apply below_alloc | apply pw_below_drewN | apply below_drew1) | exact HBw.out))) HC0.out HLX.out).mono ?_; rintro e w3 ⟨g, w0, rfl, hi, hb1, hb2⟩; have HW := Aside0.mk (below_then (by repeat (first | (with_reducible first | exact HBw.out | apply below_alloc | apply pw_below_drewN | apply below_drew1) | exact HBw.out)) (below_size (by repeat (first | (with_reducible first | exact HBw.out | apply below_alloc | apply pw_below_drewN | apply below_drew1) | exact HBw.out))) hb1); have HI := Aside0.mk hi; have HB := Aside0.mk hb2; clear hi hb1 hb2))
    go_loopg [6, 16] l1.length (fun gg s6 s16 wr => ∃ kk : Nat, kk ≤ l1.length ∧ l1.length - kk ≤ gg ∧ s16 = .int .i64 kk ∧ Aside0 (Kd.R k29 29 wr w0.heap.size (fun k => k ≠ g) s6 (svRun l0_0 a0_1 a0_2 a0_3 a0_4 a0_5 a0_6 sv0 (l1.take kk))) ∧ Aside0 (IsSv w0 wr g l0_0 a0_1 a0_2 a0_3 a0_4 a0_5 a0_6 (svEnd l0_0 a0_1 a0_2 a0_3 a0_4 a0_5 a0_6 sv0 (l1.take kk))) ∧ Aside0 (Below w0.heap.size w0 wr))
    case atStart => exact ⟨0, Nat.zero_le _, by omega, rfl, ⟨Kd.R_nil _ _ _ _ _⟩, ⟨HI.out⟩, ⟨HB.out⟩⟩
    case round =>
      obtain ⟨kk, hkk, hg, rfl, HO, HI2, HB2⟩ := hrel
      clear HI HB
      by_cases hlt : kk < l1.length
      · have hltz : (kk : Int) < (l1.length : Int) := by omega
        have hb0 := below_step HW.out HB2.out
        obtain ⟨ad, e, hx0, hx1, hx2, hx3, hx4, hx5, hx6, hx7⟩ := at_T29 (Kd.C_below HR1.out hb0) kk (by omega) hltz
        cases e
        simp only [Int.toNat_natCast] at hx0 hx1 hx2 hx3 hx4 hx5 hx6 hx7
        have HBW := Aside0.mk hb0
        clear hb0
        have ht1 := svRun_snoc l0_0 a0_1 a0_2 a0_3 a0_4 a0_5 a0_6 (rd_T29 l1 (kk : Int)) (l1.take kk) sv0
        have ht2 := svEnd_snoc l0_0 a0_1 a0_2 a0_3 a0_4 a0_5 a0_6 (rd_T29 l1 (kk : Int)) (l1.take kk) sv0
        rw [← take_snoc l1 kk hlt] at ht1 ht2
        have hlen := svRun_length l0_0 a0_1 a0_2 a0_3 a0_4 a0_5 a0_6 (l1.take kk) sv0
        rw [List.length_take] at hlen
        have HLEN := Aside0.mk hlen
        clear hlen
        generalize rd_T29 l1 (kk : Int) = c at *
        generalize svEnd l0_0 a0_1 a0_2 a0_3 a0_4 a0_5 a0_6 sv0 (l1.take kk) = sv at *
        have T2 := Aside0.mk ht2
        clear ht2
        have hcall := fun w0 w1 => sv_take g l0_0 a0_1 a0_2 a0_3 a0_4 a0_5 a0_6 sv c w0 w1
        cases hq : svTake l0_0 a0_1 a0_2 a0_3 a0_4 a0_5 a0_6 sv c with
        | false =>
          rw [hq] at hcall ht1
          have T1 := Aside0.mk ht1
          clear ht1 hq
          go_wp2_with (first | (go_at_call 21; refine (hcall w0 _ (IsS60.below HI2.out (by repeat (first | exact Below.refl _ _ | refine below_set ?_ (Nat.le_refl _) | refine below_alloc ?_ _))) (below_then HB2.out (below_size HB2.out) (by repeat (first | exact Below.refl _ _ | refine below_set ?_ (Nat.le_refl _) | refine below_alloc ?_ _)))).mono ?_; rintro e w5 ⟨rfl, hi, hb, hk⟩; have HO5 := Aside0.mk (Kd.R_keep (Kd.R_alloc HO.out _) hk (fun _ h => h)); have HI5 := Aside0.mk hi; have HB5 := Aside0.mk hb; have BK := Aside0.mk (KeepBut.blk hk (blk_new _ _) (Nat.ne_of_gt (IsS60.lt HI2.out)) (by simp)); clear hi hb hk; have hd0 : w5.cell? ⟨wr.heap.size, 0, none⟩ = some (.string (c.f0)) := (blk_cell BK.out 0).trans rfl; have hd1 : w5.cell? ⟨wr.heap.size, 1, none⟩ = some (.string (c.f1)) := (blk_cell BK.out 1).trans rfl; have hd2 : w5.cell? ⟨wr.heap.size, 2, none⟩ = some (.string (c.f2)) := (blk_cell BK.out 2).trans rfl; have hd3 : w5.cell? ⟨wr.heap.size, 3, none⟩ = some (.int .i64 (c.f3)) := (blk_cell BK.out 3).trans rfl; have hd4 : w5.cell? ⟨wr.heap.size, 4, none⟩ = some (.int .i64 (c.f4)) := (blk_cell BK.out 4).trans rfl; have hd5 : w5.cell? ⟨wr.heap.size, 5, none⟩ = some (.int .i64 (c.f5.f0)) := (blk_cell BK.out 5).trans rfl; have hd6 : w5.cell? ⟨wr.heap.size, 6, none⟩ = some (.int .i64 (c.f5.f1)) := (blk_cell BK.out 6).trans rfl; have hd7 : w5.cell? ⟨wr.heap.size, 7, none⟩ = some (.string (c.f5.f2)) := (blk_cell BK.out 7).trans rfl))
          have hbig := HL.out
          go_roundg (l1.length - (kk + 1))
          case measure => omega
          case rel => exact ⟨kk + 1, by omega, by omega, by rw [wrap_succ kk (by omega)], ⟨by rw [T1.out]; simpa using HO5.out⟩, ⟨by rw [T2.out]; exact HI5.out⟩, HB5⟩
        | true =>
          rw [hq] at hcall ht1
          have T1 := Aside0.mk ht1
          clear ht1 hq
          go_wp2_with (first | (go_at_call 21; refine (hcall w0 _ (IsS60.below HI2.out (by repeat (first | exact Below.refl _ _ | refine below_set ?_ (Nat.le_refl _) | refine below_alloc ?_ _))) (below_then HB2.out (below_size HB2.out) (by repeat (first | exact Below.refl _ _ | refine below_set ?_ (Nat.le_refl _) | refine below_alloc ?_ _)))).mono ?_; rintro e w5 ⟨rfl, hi, hb, hk⟩; have HO5 := Aside0.mk (Kd.R_keep (Kd.R_alloc HO.out _) hk (fun _ h => h)); have HI5 := Aside0.mk hi; have HB5 := Aside0.mk hb; have BK := Aside0.mk (KeepBut.blk hk (blk_new _ _) (Nat.ne_of_gt (IsS60.lt HI2.out)) (by simp)); clear hi hb hk; have hd0 : w5.cell? ⟨wr.heap.size, 0, none⟩ = some (.string (c.f0)) := (blk_cell BK.out 0).trans rfl; have hd1 : w5.cell? ⟨wr.heap.size, 1, none⟩ = some (.string (c.f1)) := (blk_cell BK.out 1).trans rfl; have hd2 : w5.cell? ⟨wr.heap.size, 2, none⟩ = some (.string (c.f2)) := (blk_cell BK.out 2).trans rfl; have hd3 : w5.cell? ⟨wr.heap.size, 3, none⟩ = some (.int .i64 (c.f3)) := (blk_cell BK.out 3).trans rfl; have hd4 : w5.cell? ⟨wr.heap.size, 4, none⟩ = some (.int .i64 (c.f4)) := (blk_cell BK.out 4).trans rfl; have hd5 : w5.cell? ⟨wr.heap.size, 5, none⟩ = some (.int .i64 (c.f5.f0)) := (blk_cell BK.out 5).trans rfl; have hd6 : w5.cell? ⟨wr.heap.size, 6, none⟩ = some (.int .i64 (c.f5.f1)) := (blk_cell BK.out 6).trans rfl; have hd7 : w5.cell? ⟨wr.heap.size, 7, none⟩ = some (.string (c.f5.f2)) := (blk_cell BK.out 7).trans rfl) | ((with_reducible refine gate_builtin (b := .append) (xs := #[.tmp 23, .tmp 25]) rfl ?_); at_builtin; refine Kd.R_append k29 (w0 := w0) w0.heap.size rfl (.tmp 23) (.tmp 25) 25 29 (.agg #[(.string ⟨#[]⟩), (.string ⟨#[]⟩), (.string ⟨#[]⟩), (.int .i64 0), (.int .i64 0), (.int .i64 0), (.int .i64 0), (.string ⟨#[]⟩)]) 96 rfl Try.underlying25 info29 rfl (by decide) (by omega) u6 _ c [.string (c.f0), .string (c.f1), .string (c.f2), .int .i64 (c.f3), .int .i64 (c.f4), .int .i64 (c.f5.f0), .int .i64 (c.f5.f1), .string (c.f5.f2)] (fun k => k ≠ g) (fun _ => False) rfl rfl ?aP (fun _ hk => hk.elim) ?aF HO5.out HB5.out ?aS ?aL ?_; (case aP => exact k29_mkM _ _ _ c); (case aF => exact (fun k hk => Nat.ne_of_gt (Nat.lt_of_lt_of_le (IsS60.lt HI5.out) hk))); (case aS => exact HB5.out.size); (case aL => have := HLEN.out; have := HL.out; omega); intro v6 w6 ho hb hg hat; have HO6 := Aside0.mk ho; have HB6 := Aside0.mk hb; have HI6 := Aside0.mk (IsS60.grown HI5.out hg (IsS60.own_ne HI5.out HO5.out (by decide))); clear ho hb hg hat))
          have hbig := HL.out
          go_roundg (l1.length - (kk + 1))
          case measure => omega
          case rel => exact ⟨kk + 1, by omega, by omega, by rw [wrap_succ kk (by omega)], ⟨by rw [T1.out]; simpa using HO6.out⟩, ⟨by rw [T2.out]; exact HI6.out⟩, HB6⟩
      · have hltz : ¬ (kk : Int) < (l1.length : Int) := by omega
        have : kk = l1.length := by omega
        subst this
        have HO2 : Aside0 (Kd.R k29 29 wr w0.heap.size (fun k => k ≠ g) u6 (svRun l0_0 a0_1 a0_2 a0_3 a0_4 a0_5 a0_6 sv0 l1)) := ⟨by have := HO.out; rwa [List.take_length] at this⟩
        go_wp2
        go_ret
        obtain rfl := HAP.out
        exact ⟨_, rfl, Kd.R_mono (Kd.R_lower HO2.out HW.out.size) (fun _ _ => trivial), below_step HW.out HB2.out⟩

end Go.Proofs.Ythbgjaboghnpjaa.Q
