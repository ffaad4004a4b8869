/- Texts between quotes. -/
import Derived.Test.YtikpmlginojnhaaGreatDoorV8
namespace Go.Proofs.YtikpmlginojnhaaGreatDoor.Fl
open Go.RowKit Go.Maps
set_option linter.unusedVariables false
set_option linter.unusedSimpArgs false
/-- A byte between quotes. -/
def qc (c : Int) : List Int := if c < 32 ∨ 126 < c ∨ c = 34 ∨ c = 92 then [92, hx (c / 16), hx (c % 16)] else [c]
def qq : List Int → List Int
  | [] => []
  | x :: t => qc x ++ qq t
/-- A text between quotes, as bytes. -/
def quo (l : List Int) : List Int := [34] ++ qq l ++ [34]
theorem qq_append (a b : List Int) : qq (a ++ b) = qq a ++ qq b := by
  induction a with
  | nil => rfl
  | cons x t ih => rw [List.cons_append, qq, qq, ih, List.append_assoc]
theorem qq_next (l : List Int) (i : Nat) (hi : i < l.length) : qq (l.take (i + 1)) = qq (l.take i) ++ qc (l.getD i 0) := by
  rw [take_snoc l i hi, qq_append]
  simp [qq]
theorem qc_len (c : Int) : 1 ≤ (qc c).length ∧ (qc c).length ≤ 3 := by
  unfold qc
  split <;> simp
theorem qq_len (l : List Int) : l.length ≤ (qq l).length ∧ (qq l).length ≤ 3 * l.length := by
  induction l with
  | nil => simp [qq]
  | cons x t ih =>
    have := qc_len x
    rw [qq, List.length_append, List.length_cons]
    omega
theorem qc_byts (c : Int) (h0 : 0 ≤ c) (h1 : c < 256) : Byts (qc c) := by
  intro x hxm
  unfold qc at hxm
  split at hxm
  · simp only [List.mem_cons, List.not_mem_nil, or_false] at hxm
    rcases hxm with rfl | rfl | rfl
    · omega
    · rcases hx_bd (c / 16) (by omega) (by omega) with h | h <;> omega
    · rcases hx_bd (c % 16) (by omega) (by omega) with h | h <;> omega
  · have : x = c := by simpa using hxm
    omega
theorem qq_byts : ∀ (l : List Int), Byts l → Byts (qq l)
  | [], _ => fun x h => by cases h
  | y :: t, h => fun x hx => by
    rw [qq] at hx
    rcases List.mem_append.1 hx with h1 | h1
    · exact qc_byts y (h y (by simp)).1 (h y (by simp)).2 x h1
    · exact qq_byts t (fun z hz => h z (by simp [hz])) x h1
theorem quo_byts (l : List Int) (h : Byts l) : Byts (quo l) := by
  intro x hx
  unfold quo at hx
  rcases List.mem_append.1 hx with h1 | h1
  · rcases List.mem_append.1 h1 with h2 | h2
    · have : x = 34 := by simpa using h2
      omega
    · exact qq_byts l h x h2
  · have : x = 34 := by simpa using h1
    omega
theorem dig_u8 (d : Int) (h0 : 0 ≤ d) (h1 : d < 16) (w : World) : (Instr.index 9 (.string ⟨#[48, 49, 50, 51, 52, 53, 54, 55, 56, 57, 97, 98, 99, 100, 101, 102]⟩) (.int .u8 d)).run Tryz.prog w = .ok (.int .u8 (hx d)) w := by
  obtain rfl | rfl | rfl | rfl | rfl | rfl | rfl | rfl | rfl | rfl | rfl | rfl | rfl | rfl | rfl | rfl : d = 0 ∨ d = 1 ∨ d = 2 ∨ d = 3 ∨ d = 4 ∨ d = 5 ∨ d = 6 ∨ d = 7 ∨ d = 8 ∨ d = 9 ∨ d = 10 ∨ d = 11 ∨ d = 12 ∨ d = 13 ∨ d = 14 ∨ d = 15 := by omega
  all_goals kernel_rfl
set_option maxHeartbeats 4000000 in
set_option maxRecDepth 100000 in
theorem c_rquoted (s : ByteArray) (hs : s.size ≤ 1000000) (w : World) :
    Calls Tryz.prog 46 #[.string s] w fun e w' => e = .returned (.string (txt (quo (byt s)))) ∧ Below w.heap.size w w' := by
  have HSZ := Lib.hid hs
  go_enter Tryz.func46, Tryz.ntmps46
  go_wp2
  have HO0 := Lib.hid (OwnB.row w [34] w.heap.size (Nat.le_refl _) (by decide))
  have HB0 := Lib.hid ((Below.refl w.heap.size w).alloc (Nat.le_refl _) (.cells #[.int .u8 34] 5))
  go_loopw [3, 4] (fun v3 v4 W => ∃ i : Nat, i ≤ s.size ∧ v4 = .int .i64 i ∧ Hid (OwnB W w.heap.size v3 ([34] ++ qq ((byt s).take i))) ∧ Hid (Below w.heap.size w W)) (fun _ v4 _ => s.size - (intOf v4).toNat)
  case atStart => exact ⟨0, by omega, rfl, HO0, HB0⟩
  case round =>
    obtain ⟨i, hi, rfl, HO, HW⟩ := hrel
    clear HO0 HB0
    by_cases hlt : i < s.size
    · have t1 : decide ((i : Int) < (s.size : Int)) = true := decide_eq_true (by omega)
      have x0 := str_at s i hlt
      have hxb := byts_at (byt_bd s) i (by rw [byt_len]; exact hlt)
      have HN := Lib.hid (qq_next (byt s) i (by rw [byt_len]; exact hlt))
      have HL := Lib.hid (show (qq ((byt s).take i)).length ≤ 3000000 by have h1 := qq_len ((byt s).take i); have h2 := HSZ.out; rw [List.length_take] at h1; omega)
      generalize (byt s).getD i 0 = x at x0 HN hxb
      generalize qq ((byt s).take i) = l at HO HN HL
      have d1 := dig_u8 (x / 16) (by omega) (by omega)
      have d2 := dig_u8 (x % 16) (by omega) (by omega)
      have m1 : Int.tdiv x 16 = x / 16 := Int.tdiv_eq_ediv_of_nonneg hxb.1
      have m2 : Int.tmod x 16 = x % 16 := Int.tmod_eq_emod_of_nonneg hxb.1
      have m3 : IntKind.u8.wrap (x / 16) = x / 16 := by unfold IntKind.wrap; simp [IntKind.bits, IntKind.signed]; omega
      by_cases c1 : x < 32
      · have t2 : decide (x < 32) = true := decide_eq_true c1
        have HQ := Lib.hid (show qc x = [92, hx (x / 16), hx (x % 16)] by unfold qc; rw [if_pos (by omega)])
        clear hxb
        go_wp2
        go_region_held3 (fun _ => True) (exact trivial) (first | (refine step_append_b rfl (.tmp 30) (.tmp 37) rfl w.heap.size _ _ ([34] ++ l) [92, hx (x / 16), hx (x % 16)] rfl rfl ?o1 ?s1 ?l1 ?b1 ?_; (case o1 => first | exact HO.out.drew.alloc _ | exact HO.out.alloc _ | exact (HO.out.alloc _).drew); (case s1 => exact SrcB.row _ [92, hx (x / 16), hx (x % 16)]); (case l1 => have := HL.out; simp; omega); (case b1 => have := HW.out.size; simp; omega); intro v2 w2 ho hb2 hg2; have HO2 := Lib.hid ho; have HW2 := Lib.hid (by first | exact (HW.out.drew.alloc HW.out.size _).trans hb2 | exact (HW.out.alloc HW.out.size _).drew.trans hb2 | exact (HW.out.alloc HW.out.size _).trans hb2); clear ho hb2 hg2))
        all_goals (go_wp2; go_roundw; (case rel => exact ⟨i + 1, by omega, by go_num, Lib.hid (by rw [HN.out, HQ.out, ← List.append_assoc]; exact HO2.out), HW2⟩); (case measure => simp [intOf]; omega))
      · have t2 : decide (x < 32) = false := decide_eq_false c1
        by_cases c2 : 126 < x
        · have t3 : decide (126 < x) = true := decide_eq_true c2
          have HQ := Lib.hid (show qc x = [92, hx (x / 16), hx (x % 16)] by unfold qc; rw [if_pos (by omega)])
          clear hxb
          go_wp2
          go_region_held3 (fun _ => True) (exact trivial) (first | (refine step_append_b rfl (.tmp 30) (.tmp 37) rfl w.heap.size _ _ ([34] ++ l) [92, hx (x / 16), hx (x % 16)] rfl rfl ?o1 ?s1 ?l1 ?b1 ?_; (case o1 => first | exact HO.out.drew.alloc _ | exact HO.out.alloc _ | exact (HO.out.alloc _).drew); (case s1 => exact SrcB.row _ [92, hx (x / 16), hx (x % 16)]); (case l1 => have := HL.out; simp; omega); (case b1 => have := HW.out.size; simp; omega); intro v2 w2 ho hb2 hg2; have HO2 := Lib.hid ho; have HW2 := Lib.hid (by first | exact (HW.out.drew.alloc HW.out.size _).trans hb2 | exact (HW.out.alloc HW.out.size _).drew.trans hb2 | exact (HW.out.alloc HW.out.size _).trans hb2); clear ho hb2 hg2))
          all_goals (go_wp2; go_roundw; (case rel => exact ⟨i + 1, by omega, by go_num, Lib.hid (by rw [HN.out, HQ.out, ← List.append_assoc]; exact HO2.out), HW2⟩); (case measure => simp [intOf]; omega))
        · have t3 : decide (126 < x) = false := decide_eq_false c2
          by_cases c3 : x = 34
          · have t4 : (x == 34) = true := by simp [c3]
            have HQ := Lib.hid (show qc x = [92, hx (x / 16), hx (x % 16)] by unfold qc; rw [if_pos (by omega)])
            clear hxb c3
            go_wp2
            go_region_held3 (fun _ => True) (exact trivial) (first | (refine step_append_b rfl (.tmp 30) (.tmp 37) rfl w.heap.size _ _ ([34] ++ l) [92, hx (x / 16), hx (x % 16)] rfl rfl ?o1 ?s1 ?l1 ?b1 ?_; (case o1 => first | exact HO.out.drew.alloc _ | exact HO.out.alloc _ | exact (HO.out.alloc _).drew); (case s1 => exact SrcB.row _ [92, hx (x / 16), hx (x % 16)]); (case l1 => have := HL.out; simp; omega); (case b1 => have := HW.out.size; simp; omega); intro v2 w2 ho hb2 hg2; have HO2 := Lib.hid ho; have HW2 := Lib.hid (by first | exact (HW.out.drew.alloc HW.out.size _).trans hb2 | exact (HW.out.alloc HW.out.size _).drew.trans hb2 | exact (HW.out.alloc HW.out.size _).trans hb2); clear ho hb2 hg2))
            all_goals (go_wp2; go_roundw; (case rel => exact ⟨i + 1, by omega, by go_num, Lib.hid (by rw [HN.out, HQ.out, ← List.append_assoc]; exact HO2.out), HW2⟩); (case measure => simp [intOf]; omega))
          · have t4 : (x == 34) = false := by simp [c3]
            by_cases c4 : x = 92
            · have t5 : (x == 92) = true := by simp [c4]
              have HQ := Lib.hid (show qc x = [92, hx (x / 16), hx (x % 16)] by unfold qc; rw [if_pos (by omega)])
              clear hxb c4
              go_wp2
              go_region_held3 (fun _ => True) (exact trivial) (first | (refine step_append_b rfl (.tmp 30) (.tmp 37) rfl w.heap.size _ _ ([34] ++ l) [92, hx (x / 16), hx (x % 16)] rfl rfl ?o1 ?s1 ?l1 ?b1 ?_; (case o1 => first | exact HO.out.drew.alloc _ | exact HO.out.alloc _ | exact (HO.out.alloc _).drew); (case s1 => exact SrcB.row _ [92, hx (x / 16), hx (x % 16)]); (case l1 => have := HL.out; simp; omega); (case b1 => have := HW.out.size; simp; omega); intro v2 w2 ho hb2 hg2; have HO2 := Lib.hid ho; have HW2 := Lib.hid (by first | exact (HW.out.drew.alloc HW.out.size _).trans hb2 | exact (HW.out.alloc HW.out.size _).drew.trans hb2 | exact (HW.out.alloc HW.out.size _).trans hb2); clear ho hb2 hg2))
              all_goals (go_wp2; go_roundw; (case rel => exact ⟨i + 1, by omega, by go_num, Lib.hid (by rw [HN.out, HQ.out, ← List.append_assoc]; exact HO2.out), HW2⟩); (case measure => simp [intOf]; omega))
            · have t5 : (x == 92) = false := by simp [c4]
              have HQ := Lib.hid (show qc x = [x] by unfold qc; rw [if_neg (by omega)])
              clear d1 d2 m1 m2 m3
              clear hxb
              go_wp2_with (at_builtin; refine wp_append_b rfl (.tmp 39) (.tmp 41) rfl w.heap.size _ _ ([34] ++ l) [x] rfl rfl ?o1 ?s1 ?l1 ?b1 ?_; (case o1 => exact HO.out.alloc _); (case s1 => exact SrcB.row wr [x]); (case l1 => have := HL.out; simp; omega); (case b1 => have := HW.out.size; simp; omega); intro v2 w2 ho hb2 hg2; have HO2 := Lib.hid ho; have HW2 := Lib.hid ((HW.out.alloc HW.out.size _).trans hb2); clear ho hb2 hg2)
              go_roundw
              case rel => exact ⟨i + 1, by omega, by go_num, Lib.hid (by rw [HN.out, HQ.out, ← List.append_assoc]; exact HO2.out), HW2⟩
              case measure => simp [intOf]; omega
    · have t1 : decide ((i : Int) < (s.size : Int)) = false := decide_eq_false (by omega)
      have HE := Lib.hid (show (byt s).take i = byt s from List.take_of_length_le (by rw [byt_len]; omega))
      have HL := Lib.hid (show (qq (byt s)).length ≤ 3000000 by have h1 := qq_len (byt s); have h2 := HSZ.out; rw [byt_len] at h1; omega)
      rw [HE.out] at HO
      clear HE
      go_wp2_with (at_builtin; refine wp_append_b rfl (.tmp 43) (.tmp 44) rfl w.heap.size _ _ ([34] ++ qq (byt s)) [34] rfl rfl ?o1 ?s1 ?l1 ?b1 ?_; (case o1 => exact HO.out.alloc _); (case s1 => exact SrcB.row wr [34]); (case l1 => have := HL.out; simp; omega); (case b1 => have := HW.out.size; simp; omega); intro v2 w2 ho hb2 hg2; have HW2 := Lib.hid ((HW.out.alloc HW.out.size _).trans hb2); have kc := conv_has w2 v2 _ ho.has (quo_byts (byt s) (byt_bd s)); clear ho hb2 hg2)
      go_ret
      exact ⟨rfl, HW2.out⟩
theorem step_append_b4 {w : World} {ops : Array Oper} {o : Oper} {a : Act} {K : Act → World → Prop} {Q : Exit → Act → World → Prop} {E : Prop} (hgd : o.guard = none) (s x : Operand)
    (ho : o.op = .call { callee := .builtin .append, args := #[s, x], argTypes := #[26, 26] })
    (B : Nat) (v v2 : Value) (l l2 : List Int) (hs : a.eval s = v) (hx : a.eval x = v2) (hown : OwnB w B v l) (hsrc : SrcB w v2 l2) (hlen : l.length + l2.length ≤ 140737488355328) (hB : B ≤ w.heap.size)
    (h : ∀ v' w', OwnB w' B v' (l ++ l2) → Below B w w' → w.grownBy w' v.ownBlock → (v'.ownBlock = v.ownBlock ∨ v'.ownBlock = some w.heap.size) → K (a.put o.dst v') w') :
    if Region.wanted o (yielded ops a.tmps) = true then Oper.wp Tryz.prog o a w K Q else E := by
  have hw : Region.wanted o (yielded ops a.tmps) = true := by simp [Region.wanted, hgd]
  rw [if_pos hw]
  obtain ⟨v', w', hr, h2, h3, h4⟩ := run_append_b w B 26 o.type Tryz.underlying26 v v2 l l2 hown hsrc hlen hB
  unfold Oper.wp execOp
  simp only [ho, resolve, invoke, builtin, Sem.run_bind, Sem.run_pure, Result.andThen_ok, List.map_toArray, List.map_cons, List.map_nil, hs, hx, hr]
  exact h v' w' h2 (grown_below hown hB h3) h3 h4
/-- Bytes at a block, that a row of one's own is not. -/
structure Apart (W : World) (g : Nat) (s : ByteArray) (v : Value) : Prop where
  cell : ∀ k, k < s.size → W.cell? ⟨g, k, none⟩ = some (.int .u8 ((byt s).getD k 0))
  lt : g < W.heap.size
  ne : v.ownBlock ≠ some g
theorem Apart.next {W X W' : World} {g : Nat} {s : ByteArray} {v v' : Value} (h : Apart W g s v) (hX : Below W.heap.size W X) (hg : X.grownBy W' v.ownBlock) (h4 : v'.ownBlock = v.ownBlock ∨ v'.ownBlock = some X.heap.size) : Apart W' g s v' := by
  have e1 : X.heap[g]? = W.heap[g]? := hX.block g h.lt
  have l1 : g < X.heap.size := Nat.lt_of_lt_of_le h.lt hX.size
  have e2 : W'.heap[g]? = X.heap[g]? := hg.block g l1 (fun e => h.ne e.symm)
  refine ⟨fun k hk => ?_, Nat.lt_of_lt_of_le l1 hg.size, fun e => ?_⟩
  · rw [World.cell?_of_block (a := ⟨g, k, none⟩) (e2.trans e1)]
    exact h.cell k hk
  · rcases h4 with h4 | h4
    · exact h.ne (h4.symm.trans e)
    · have := Option.some.inj (h4.symm.trans e)
      omega
set_option maxHeartbeats 4000000 in
set_option maxRecDepth 100000 in
theorem c_quoted (s : ByteArray) (hs : s.size ≤ 1000000) (w : World) :
    Calls Tryz.prog 43 #[.string s] w fun e w' => e = .returned (.string (txt (quo (byt s)))) ∧ Below w.heap.size w w' := by
  have HSZ := Lib.hid hs
  have kc := fun (w : World) => run_bytes_of_string (P := Tryz.prog) w 9 26 5 s Tryz.underlying9 Tryz.underlying26 Tryz.underlying5
  have kc2 : ∀ w : World, (convert 9 26 (.string s)).run Tryz.prog w = .ok (.slice (some ⟨w.heap.size, 0, none⟩) s.size (grownCap w s.size 0 5)) (wb w s) := kc
  clear kc
  go_enter Tryz.func43, Tryz.ntmps43
  go_wp2
  have hw0 : (w.alloc (.cells #[.int .u8 34] 5)).heap.size = w.heap.size + 1 := by simp
  have hbw := wb_below (w.alloc (.cells #[.int .u8 34] 5)) s
  have HO0 := Lib.hid ((OwnB.row w [34] w.heap.size (Nat.le_refl _) (by decide)).below hbw)
  have HB0 := Lib.hid (((Below.refl w.heap.size w).alloc (Nat.le_refl _) (.cells #[.int .u8 34] 5)).trans (hbw.mono (by simp)))
  have HA0 := Lib.hid (show Apart (wb (w.alloc (.cells #[.int .u8 34] 5)) s) (w.heap.size + 1) s (.slice (some ⟨w.heap.size, 0, none⟩) 1 1) from ⟨fun k hk => by rw [← hw0]; exact wb_cell _ s k hk, by
      have h1 := heap_alloc_new (w.alloc (.cells #[.int .u8 34] 5)).drew (.cells (bytesRow s (grownCap (w.alloc (.cells #[.int .u8 34] 5)) s.size 0 5)) 5 ((bytesRow s (grownCap (w.alloc (.cells #[.int .u8 34] 5)) s.size 0 5)).size, (bytesRow s (grownCap (w.alloc (.cells #[.int .u8 34] 5)) s.size 0 5)).size + 1))
      have h2 := lt_block h1
      rw [show (w.alloc (.cells #[.int .u8 34] 5)).drew.heap.size = w.heap.size + 1 from hw0] at h2
      exact h2, by simp [Value.ownBlock]⟩)
  clear hbw hw0
  generalize wb (w.alloc (.cells #[.int .u8 34] 5)) s = wB at HO0 HB0 HA0 ⊢
  generalize grownCap (w.alloc (.cells #[.int .u8 34] 5)) s.size 0 5 = cB
  go_loopw [3, 10] (fun v3 v10 W => ∃ i : Nat, i ≤ s.size ∧ v10 = .int .i64 i ∧ Hid (OwnB W w.heap.size v3 ([34] ++ qq ((byt s).take i))) ∧ Hid (Below w.heap.size w W) ∧ Hid (Apart W (w.heap.size + 1) s v3)) (fun _ v10 _ => s.size - (intOf v10).toNat)
  case atStart => exact ⟨0, by omega, rfl, HO0, HB0, HA0⟩
  case round =>
    obtain ⟨i, hi, rfl, HO, HW, HA⟩ := hrel
    clear HO0 HB0 HA0
    by_cases hlt : i < s.size
    · have t1 : decide ((i : Int) < (s.size : Int)) = true := decide_eq_true (by omega)
      have x0 := HA.out.cell i hlt
      have hk0 : (0 : Int) ≤ (i : Int) := by omega
      have hk1 : (i : Int) < (s.size : Int) := by omega
      have hxb := byts_at (byt_bd s) i (by rw [byt_len]; exact hlt)
      have HN := Lib.hid (qq_next (byt s) i (by rw [byt_len]; exact hlt))
      have HL := Lib.hid (show (qq ((byt s).take i)).length ≤ 3000000 by have h1 := qq_len ((byt s).take i); have h2 := HSZ.out; rw [List.length_take] at h1; omega)
      generalize (byt s).getD i 0 = x at x0 HN hxb
      generalize qq ((byt s).take i) = l at HO HN HL
      have d1 := dig_u8 (x / 16) (by omega) (by omega)
      have d2 := dig_u8 (x % 16) (by omega) (by omega)
      have m2 : bits .and .u8 x 15 = x % 16 := bits_mask .u8 8 (by decide) (fun n h0 h1 => by unfold IntKind.wrap; simp [IntKind.bits, IntKind.signed]; omega) 4 (by decide) x hxb.1 (by simpa using hxb.2)
      by_cases c1 : x < 32
      · have t2 : decide (x < 32) = true := decide_eq_true c1
        have HQ := Lib.hid (show qc x = [92, hx (x / 16), hx (x % 16)] by unfold qc; rw [if_pos (by omega)])
        clear hxb
        go_wp2
        go_region_held3 (fun _ => True) (exact trivial) (first | (refine step_append_b4 rfl (.tmp 28) (.tmp 35) rfl w.heap.size _ _ ([34] ++ l) [92, hx (x / 16), hx (x % 16)] rfl rfl ?o1 ?s1 ?l1 ?b1 ?_; (case o1 => first | exact HO.out.drew.alloc _ | exact HO.out.alloc _ | exact (HO.out.alloc _).drew); (case s1 => exact SrcB.row _ [92, hx (x / 16), hx (x % 16)]); (case l1 => have := HL.out; simp; omega); (case b1 => have := HW.out.size; simp; omega); intro v2 w2 ho hb2 hg2 h4; have HO2 := Lib.hid ho; have HW2 := Lib.hid (by first | exact (HW.out.drew.alloc HW.out.size _).trans hb2 | exact (HW.out.alloc HW.out.size _).drew.trans hb2 | exact (HW.out.alloc HW.out.size _).trans hb2); have HA2 := Lib.hid (HA.out.next (by first | exact (Below.refl _ _).drew.alloc (Nat.le_refl _) _ | exact ((Below.refl _ _).alloc (Nat.le_refl _) _).drew | exact (Below.refl _ _).alloc (Nat.le_refl _) _) hg2 h4); clear ho hb2 hg2 h4))
        all_goals (go_wp2; go_roundw; (case rel => exact ⟨i + 1, by omega, by go_num, Lib.hid (by rw [HN.out, HQ.out, ← List.append_assoc]; exact HO2.out), HW2, HA2⟩); (case measure => simp [intOf]; omega))
      · have t2 : decide (x < 32) = false := decide_eq_false c1
        by_cases c2 : 126 < x
        · have t3 : decide (126 < x) = true := decide_eq_true c2
          have HQ := Lib.hid (show qc x = [92, hx (x / 16), hx (x % 16)] by unfold qc; rw [if_pos (by omega)])
          clear hxb
          go_wp2
          go_region_held3 (fun _ => True) (exact trivial) (first | (refine step_append_b4 rfl (.tmp 28) (.tmp 35) rfl w.heap.size _ _ ([34] ++ l) [92, hx (x / 16), hx (x % 16)] rfl rfl ?o1 ?s1 ?l1 ?b1 ?_; (case o1 => first | exact HO.out.drew.alloc _ | exact HO.out.alloc _ | exact (HO.out.alloc _).drew); (case s1 => exact SrcB.row _ [92, hx (x / 16), hx (x % 16)]); (case l1 => have := HL.out; simp; omega); (case b1 => have := HW.out.size; simp; omega); intro v2 w2 ho hb2 hg2 h4; have HO2 := Lib.hid ho; have HW2 := Lib.hid (by first | exact (HW.out.drew.alloc HW.out.size _).trans hb2 | exact (HW.out.alloc HW.out.size _).drew.trans hb2 | exact (HW.out.alloc HW.out.size _).trans hb2); have HA2 := Lib.hid (HA.out.next (by first | exact (Below.refl _ _).drew.alloc (Nat.le_refl _) _ | exact ((Below.refl _ _).alloc (Nat.le_refl _) _).drew | exact (Below.refl _ _).alloc (Nat.le_refl _) _) hg2 h4); clear ho hb2 hg2 h4))
          all_goals (go_wp2; go_roundw; (case rel => exact ⟨i + 1, by omega, by go_num, Lib.hid (by rw [HN.out, HQ.out, ← List.append_assoc]; exact HO2.out), HW2, HA2⟩); (case measure => simp [intOf]; omega))
        · have t3 : decide (126 < x) = false := decide_eq_false c2
          by_cases c3 : x = 34
          · have t4 : (x == 34) = true := by simp [c3]
            have HQ := Lib.hid (show qc x = [92, hx (x / 16), hx (x % 16)] by unfold qc; rw [if_pos (by omega)])
            clear hxb c3
            go_wp2
            go_region_held3 (fun _ => True) (exact trivial) (first | (refine step_append_b4 rfl (.tmp 28) (.tmp 35) rfl w.heap.size _ _ ([34] ++ l) [92, hx (x / 16), hx (x % 16)] rfl rfl ?o1 ?s1 ?l1 ?b1 ?_; (case o1 => first | exact HO.out.drew.alloc _ | exact HO.out.alloc _ | exact (HO.out.alloc _).drew); (case s1 => exact SrcB.row _ [92, hx (x / 16), hx (x % 16)]); (case l1 => have := HL.out; simp; omega); (case b1 => have := HW.out.size; simp; omega); intro v2 w2 ho hb2 hg2 h4; have HO2 := Lib.hid ho; have HW2 := Lib.hid (by first | exact (HW.out.drew.alloc HW.out.size _).trans hb2 | exact (HW.out.alloc HW.out.size _).drew.trans hb2 | exact (HW.out.alloc HW.out.size _).trans hb2); have HA2 := Lib.hid (HA.out.next (by first | exact (Below.refl _ _).drew.alloc (Nat.le_refl _) _ | exact ((Below.refl _ _).alloc (Nat.le_refl _) _).drew | exact (Below.refl _ _).alloc (Nat.le_refl _) _) hg2 h4); clear ho hb2 hg2 h4))
            all_goals (go_wp2; go_roundw; (case rel => exact ⟨i + 1, by omega, by go_num, Lib.hid (by rw [HN.out, HQ.out, ← List.append_assoc]; exact HO2.out), HW2, HA2⟩); (case measure => simp [intOf]; omega))
          · have t4 : (x == 34) = false := by simp [c3]
            by_cases c4 : x = 92
            · have t5 : (x == 92) = true := by simp [c4]
              have HQ := Lib.hid (show qc x = [92, hx (x / 16), hx (x % 16)] by unfold qc; rw [if_pos (by omega)])
              clear hxb c4
              go_wp2
              go_region_held3 (fun _ => True) (exact trivial) (first | (refine step_append_b4 rfl (.tmp 28) (.tmp 35) rfl w.heap.size _ _ ([34] ++ l) [92, hx (x / 16), hx (x % 16)] rfl rfl ?o1 ?s1 ?l1 ?b1 ?_; (case o1 => first | exact HO.out.drew.alloc _ | exact HO.out.alloc _ | exact (HO.out.alloc _).drew); (case s1 => exact SrcB.row _ [92, hx (x / 16), hx (x % 16)]); (case l1 => have := HL.out; simp; omega); (case b1 => have := HW.out.size; simp; omega); intro v2 w2 ho hb2 hg2 h4; have HO2 := Lib.hid ho; have HW2 := Lib.hid (by first | exact (HW.out.drew.alloc HW.out.size _).trans hb2 | exact (HW.out.alloc HW.out.size _).drew.trans hb2 | exact (HW.out.alloc HW.out.size _).trans hb2); have HA2 := Lib.hid (HA.out.next (by first | exact (Below.refl _ _).drew.alloc (Nat.le_refl _) _ | exact ((Below.refl _ _).alloc (Nat.le_refl _) _).drew | exact (Below.refl _ _).alloc (Nat.le_refl _) _) hg2 h4); clear ho hb2 hg2 h4))
              all_goals (go_wp2; go_roundw; (case rel => exact ⟨i + 1, by omega, by go_num, Lib.hid (by rw [HN.out, HQ.out, ← List.append_assoc]; exact HO2.out), HW2, HA2⟩); (case measure => simp [intOf]; omega))
            · have t5 : (x == 92) = false := by simp [c4]
              have HQ := Lib.hid (show qc x = [x] by unfold qc; rw [if_neg (by omega)])
              clear d1 d2 m2
              clear hxb
              go_wp2_with (at_builtin; refine wp_append_b4 rfl (.tmp 37) (.tmp 39) rfl w.heap.size _ _ ([34] ++ l) [x] rfl rfl ?o1 ?s1 ?l1 ?b1 ?_; (case o1 => first | exact HO.out.drew.alloc _ | exact HO.out.alloc _ | exact (HO.out.alloc _).drew); (case s1 => exact SrcB.row _ [x]); (case l1 => have := HL.out; simp; omega); (case b1 => have := HW.out.size; simp; omega); intro v2 w2 ho hb2 hg2 h4; have HO2 := Lib.hid ho; have HW2 := Lib.hid (by first | exact (HW.out.drew.alloc HW.out.size _).trans hb2 | exact (HW.out.alloc HW.out.size _).drew.trans hb2 | exact (HW.out.alloc HW.out.size _).trans hb2); have HA2 := Lib.hid (HA.out.next (by first | exact (Below.refl _ _).drew.alloc (Nat.le_refl _) _ | exact ((Below.refl _ _).alloc (Nat.le_refl _) _).drew | exact (Below.refl _ _).alloc (Nat.le_refl _) _) hg2 h4); clear ho hb2 hg2 h4)
              go_roundw
              case rel => exact ⟨i + 1, by omega, by go_num, Lib.hid (by rw [HN.out, HQ.out, ← List.append_assoc]; exact HO2.out), HW2, HA2⟩
              case measure => simp [intOf]; omega
    · have t1 : decide ((i : Int) < (s.size : Int)) = false := decide_eq_false (by omega)
      have HE := Lib.hid (show (byt s).take i = byt s from List.take_of_length_le (by rw [byt_len]; omega))
      have HL := Lib.hid (show (qq (byt s)).length ≤ 3000000 by have h1 := qq_len (byt s); have h2 := HSZ.out; rw [byt_len] at h1; omega)
      rw [HE.out] at HO
      clear HE
      go_wp2_with (at_builtin; refine wp_append_b rfl (.tmp 42) (.tmp 43) rfl w.heap.size _ _ ([34] ++ qq (byt s)) [34] rfl rfl ?o1 ?s1 ?l1 ?b1 ?_; (case o1 => exact HO.out.alloc _); (case s1 => exact SrcB.row wr [34]); (case l1 => have := HL.out; simp; omega); (case b1 => have := HW.out.size; simp; omega); intro v2 w2 ho hb2 hg2; have HW2 := Lib.hid ((HW.out.alloc HW.out.size _).trans hb2); have kc := conv_has w2 v2 _ ho.has (quo_byts (byt s) (byt_bd s)); clear ho hb2 hg2)
      go_ret
      exact ⟨rfl, HW2.out⟩
end Go.Proofs.YtikpmlginojnhaaGreatDoor.Fl
