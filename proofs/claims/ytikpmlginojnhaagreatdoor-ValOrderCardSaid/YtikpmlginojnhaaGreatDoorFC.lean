/- Numbers out of text: ParseUint at base 16. -/
import Derived.Test.YtikpmlginojnhaaGreatDoorFB
namespace Go.Proofs.YtikpmlginojnhaaGreatDoor.Fl
open Go.RowKit Go.Maps
set_option linter.unusedVariables false
set_option linter.unusedSimpArgs false
/-- The bytes of a text. -/
def byt (s : ByteArray) : List Int := s.data.toList.map fun b => (b.toNat : Int)
theorem byt_len (s : ByteArray) : (byt s).length = s.size := by
  rw [byt, List.length_map, Array.length_toList]
  rfl
theorem byt_bd (s : ByteArray) : Byts (byt s) := by
  intro x hx
  obtain ⟨b, _, rfl⟩ := List.mem_map.1 hx
  have h : b.toNat < 256 := b.toNat_lt
  exact ⟨Int.natCast_nonneg _, Int.ofNat_lt.2 h⟩
/-- The bytes of a text, as new memory. -/
def wb (w : World) (s : ByteArray) : World := w.drew.alloc (.cells (bytesRow s (grownCap w s.size 0 5)) 5 ((bytesRow s (grownCap w s.size 0 5)).size, (bytesRow s (grownCap w s.size 0 5)).size + 1))
theorem wb_below (w : World) (s : ByteArray) : Below w.heap.size w (wb w s) := (Below.refl w.heap.size w).drew.alloc (Nat.le_refl _) _
theorem wb_cell (w : World) (s : ByteArray) (k : Nat) (hk : k < s.size) : (wb w s).cell? ⟨w.heap.size, k, none⟩ = some (.int .u8 ((byt s).getD k 0)) := by
  have h1 : (wb w s).heap[w.heap.size]? = some (.cells (bytesRow s (grownCap w s.size 0 5)) 5 ((bytesRow s (grownCap w s.size 0 5)).size, (bytesRow s (grownCap w s.size 0 5)).size + 1)) := heap_alloc_new w.drew _
  have h2 := bytesRow_at s (grownCap w s.size 0 5) k hk
  simp only [World.cell?, h1]
  rw [h2]
  have hk' : k < s.data.toList.length := by rw [Array.length_toList]; exact hk
  simp only [byt, List.getD_eq_getElem?_getD, List.getElem?_map, List.getElem?_eq_getElem hk', Option.map_some, Option.getD_some, Array.getElem_toList]
  rfl
/-- Is the text the sixteen digits of a number? -/
def HexOf (s : ByteArray) (u : Int) : Prop := s = txt (hexI 16 u) ∧ 0 ≤ u ∧ u < 18446744073709551616
def PuPost (s : ByteArray) (w : World) (e : Ending) (w' : World) : Prop := ∃ (x : Int) (v : Value), 0 ≤ x ∧ x < 18446744073709551616 ∧ e = .returned (.tuple #[.int .u64 x, v]) ∧ (v = .nilIface ∨ v = .iface 117 (.int .i64 2) ∨ v = .iface 117 (.int .i64 1)) ∧ (∀ u, HexOf s u → x = u ∧ v = .nilIface) ∧ Below w.heap.size w w'
theorem hx_bd (d : Int) (h0 : 0 ≤ d) (h1 : d < 16) : (48 ≤ hx d ∧ hx d ≤ 57 ∧ hx d - 48 = d) ∨ (97 ≤ hx d ∧ hx d ≤ 102 ∧ hx d - 87 = d) := by
  unfold hx
  split <;> omega
theorem byt_txt (l : List Int) (h : Byts l) : byt (txt l) = l := by
  unfold byt txt
  simp only [List.map_map]
  conv => rhs; rw [← List.map_id l]
  apply List.map_congr_left
  intro x hx
  have := h x hx
  simp only [Function.comp, id]
  rw [UInt8.toNat_ofNat']
  omega
theorem hexI_byts : ∀ (k : Nat) (u : Int), Byts (hexI k u)
  | 0, _ => fun x h => by simp [hexI] at h
  | k + 1, u => fun x h => by
    rw [hexI] at h
    rcases List.mem_append.1 h with h | h
    · exact hexI_byts k _ x h
    · have : x = hx (u % 16) := by simpa using h
      subst this
      rcases hx_bd (u % 16) (by omega) (by omega) with h | h <;> omega
theorem hexI_get : ∀ (k : Nat) (u : Int) (i : Nat), i < k → (hexI k u).getD i 0 = hx (u / 16 ^ (k - 1 - i) % 16)
  | 0, _, _, h => by omega
  | k + 1, u, i, h => by
    rw [hexI]
    by_cases e : i = k
    · subst e
      rw [List.getD_eq_getElem?_getD, List.getElem?_append_right (by rw [hexI_len]; exact Nat.le_refl _), hexI_len]
      simp
    · rw [List.getD_eq_getElem?_getD, List.getElem?_append_left (by rw [hexI_len]; omega), ← List.getD_eq_getElem?_getD, hexI_get k (u / 16) i (by omega), Int.ediv_ediv_of_nonneg (by decide), show k + 1 - 1 - i = (k - 1 - i) + 1 by omega, Int.pow_succ, Int.mul_comm]
theorem hexOf_at {s : ByteArray} {u : Int} (h : HexOf s u) : s.size = 16 ∧ ∀ k, k < 16 → (byt s).getD k 0 = hx (u / 16 ^ (15 - k) % 16) := by
  obtain ⟨rfl, h0, h1⟩ := h
  rw [byt_txt _ (hexI_byts 16 u)]
  exact ⟨by rw [txt_size, hexI_len], fun k hk => hexI_get 16 u k hk⟩
theorem step16 (u : Int) (k : Nat) (hk : k < 16) (h0 : 0 ≤ u) : u / 16 ^ (16 - k) * 16 + u / 16 ^ (15 - k) % 16 = u / 16 ^ (15 - k) := by
  have : u / 16 ^ (16 - k) = u / 16 ^ (15 - k) / 16 := by
    rw [Int.ediv_ediv_of_nonneg (Int.pow_nonneg (by decide)), show 16 - k = (15 - k) + 1 by omega, Int.pow_succ]
  rw [this]
  omega
theorem lower_at (c : Int) (h0 : 0 ≤ c) (h1 : c < 256) : bits .or .u8 c 32 = if c / 32 % 2 = 1 then c else c + 32 := by
  have h : ∀ c : Fin 256, bits .or .u8 (c.val : Int) 32 = if (c.val : Int) / 32 % 2 = 1 then (c.val : Int) else (c.val : Int) + 32 := by decide +kernel
  have := h ⟨c.toNat, by omega⟩
  simpa [Int.toNat_of_nonneg h0] using this
/-- What is known of a digit that is read. -/
theorem hex_next {s : ByteArray} {k : Nat} {n c : Int} (H : ∀ u, HexOf s u → k < 16 ∧ 0 ≤ u ∧ u < 18446744073709551616 ∧ n = u / 16 ^ (16 - k) ∧ c = hx (u / 16 ^ (15 - k) % 16)) (d : Int) (hd : (48 ≤ c ∧ c ≤ 57 ∧ d = c - 48) ∨ (¬ (48 ≤ c ∧ c ≤ 57) ∧ (97 ≤ c → d = c - 87))) :
    ∀ u, HexOf s u → n * 16 + d = u / 16 ^ (16 - (k + 1)) := by
  intro u h
  obtain ⟨hk, h0, h1, h2, h3⟩ := H u h
  have h4 := step16 u k hk h0
  rw [← h2] at h4
  have h5 := hx_bd (u / 16 ^ (15 - k) % 16) (by omega) (by omega)
  rw [← h3] at h5
  rw [show 16 - (k + 1) = 15 - k by omega, ← h4]
  rcases hd with ⟨g1, g2, g3⟩ | ⟨g1, g2⟩
  · rcases h5 with h5 | h5 <;> omega
  · rcases h5 with h5 | h5
    · omega
    · have := g2 h5.1
      omega
theorem hex_small {s : ByteArray} {k : Nat} {n c : Int} (H : ∀ u, HexOf s u → k < 16 ∧ 0 ≤ u ∧ u < 18446744073709551616 ∧ n = u / 16 ^ (16 - k) ∧ c = hx (u / 16 ^ (15 - k) % 16)) (hn : 1152921504606846976 ≤ n) (u : Int) (h : HexOf s u) : False := by
  obtain ⟨hk, h0, h1, h2, h3⟩ := H u h
  have e : 16 - k = (15 - k) + 1 := by omega
  rw [e, Int.pow_succ, Int.mul_comm, ← Int.ediv_ediv_of_nonneg (by decide)] at h2
  have h4 : u / 16 / 16 ^ (15 - k) ≤ u / 16 := Int.ediv_le_self _ (by omega)
  omega
theorem hex_char {s : ByteArray} {k : Nat} {n c : Int} (H : ∀ u, HexOf s u → k < 16 ∧ 0 ≤ u ∧ u < 18446744073709551616 ∧ n = u / 16 ^ (16 - k) ∧ c = hx (u / 16 ^ (15 - k) % 16)) (hc : ¬ ((48 ≤ c ∧ c ≤ 57) ∨ (97 ≤ c ∧ c ≤ 102))) (u : Int) (h : HexOf s u) : False := by
  obtain ⟨hk, h0, h1, h2, h3⟩ := H u h
  have h5 := hx_bd (u / 16 ^ (15 - k) % 16) (by omega) (by omega)
  rw [← h3] at h5
  omega
set_option maxHeartbeats 4000000 in
set_option maxRecDepth 100000 in
theorem c_pu (s : ByteArray) (hs : s.size ≤ 140737488351232) (w : World) :
    Calls Tryz.prog 104 #[.string s, .int .i64 16, .int .i64 64] w (PuPost s w) := by
  by_cases h0 : s.toList = []
  · have he : (!s.toList.isEmpty) = false := by simp [h0]
    have HS := Lib.hid (fun u (h : HexOf s u) => (show False from by
      have h1 := (hexOf_at h).1
      rw [ByteArray.toList_eq] at h0
      have h2 : s.data.toList.length = 16 := by rw [Array.length_toList]; exact h1
      rw [h0] at h2
      simp at h2))
    have H0 := Lib.hid h0
    go_enter Tryz.func104, Tryz.ntmps104
    go_wp2
    go_ret2
    exact ⟨_, _, by omega, by omega, rfl, Or.inr (Or.inl rfl), fun u h => (HS.out u h).elim, Below.refl _ _⟩
  · have he : (!s.toList.isEmpty) = true := by simp [h0]
    have he2 : s.toList.isEmpty = false := by simp [h0]
    have kc := fun (w : World) => run_bytes_of_string (P := Tryz.prog) w 9 26 5 s Tryz.underlying9 Tryz.underlying26 Tryz.underlying5
    have kc2 : ∀ w : World, (convert 9 26 (.string s)).run Tryz.prog w = .ok (.slice (some ⟨w.heap.size, 0, none⟩) s.size (grownCap w s.size 0 5)) (wb w s) := kc
    clear kc
    go_enter Tryz.func104, Tryz.ntmps104
    go_wp2
    have hmx : IntKind.u64.wrap (IntKind.u64.wrap 18446744073709551616 - 1) = 18446744073709551615 := by decide
    have HC := Lib.hid (wb_cell w s)
    have HB := Lib.hid (wb_below w s)
    generalize wb w s = w1 at HC HB ⊢
    clear kc2 he he2 h0
    go_loop [12, 13, 101] (fun v12 v13 v101 => ∃ (k : Nat) (n : Int), k ≤ s.size ∧ v12 = .bool false ∧ v13 = .int .u64 n ∧ v101 = .int .i64 k ∧ Hid (0 ≤ n ∧ n < 18446744073709551616) ∧ Hid (∀ u, HexOf s u → n = u / 16 ^ (16 - k))) (fun _ _ v101 => s.size - (intOf v101).toNat)
    case atStart => exact ⟨0, 0, by omega, rfl, rfl, rfl, Lib.hid (by omega), Lib.hid (fun u h => by
      have e : (16 : Int) ^ (16 - 0) = 18446744073709551616 := by decide
      rw [e]
      have := h.2
      omega)⟩
    case round =>
      obtain ⟨k, n, hk, rfl, rfl, rfl, HN, HP⟩ := hrel
      by_cases hlt : k < s.size
      · have hc := HC.out k hlt
        have hcb := byts_at (byt_bd s) k (by rw [byt_len]; exact hlt)
        have hlow := lower_at _ hcb.1 hcb.2
        have HX := Lib.hid (fun u (h : HexOf s u) => (hexOf_at h).2 k (by have := (hexOf_at h).1; omega))
        generalize (byt s).getD k 0 = c at hc hcb hlow HX
        generalize hlc : bits .or .u8 c 32 = lc at hlow
        have CL := Lib.hid (fun w => Tryz.internal_strconv_lower c w)
        rw [hlc] at CL
        clear hlc
        have HCB := Lib.hid hcb
        have HLO := Lib.hid hlow
        have hk0 : (0 : Int) ≤ (k : Int) := by omega
        have hk1 : (k : Int) < (s.size : Int) := by omega
        have hcl : (0 : Int) ≤ lc ∧ lc < 256 := by rw [hlow]; split <;> omega
        clear hcb hlow
        have HXD : ∀ u, HexOf s u → k < 16 ∧ 0 ≤ u ∧ u < 18446744073709551616 ∧ n = u / 16 ^ (16 - k) ∧ c = hx (u / 16 ^ (15 - k) % 16) := fun u h => ⟨by have := (hexOf_at h).1; omega, h.2.1, h.2.2, HP.out u h, HX.out u h⟩
        have HXD2 := Lib.hid HXD
        clear HX HP HXD
        by_cases hA : 48 ≤ c ∧ c ≤ 57
        · have t9 : (c == 95) = false := by rw [beq_eq_false_iff_ne]; intro e; omega
          have t1 : decide (48 ≤ c) = true := decide_eq_true hA.1
          have t2 : decide (c ≤ 57) = true := decide_eq_true hA.2
          obtain ⟨d, hd⟩ : ∃ d, c - 48 = d := ⟨_, rfl⟩
          have hd0 : 0 ≤ d := by omega
          have hd1 : d < 16 := by omega
          have hd2 : (c - 48) % 256 = d := by omega
          have hd3 : IntKind.u8.wrap (c - 48) = d := by rw [IntKind.wrap_u8]; exact hd2
          have HDE := Lib.hid (⟨hA.1, hA.2, hd.symm⟩ : 48 ≤ c ∧ c ≤ 57 ∧ d = c - 48)
          clear hd
          have HD := Lib.hid (hex_next HXD2.out d (Or.inl HDE.out))
          have t16 : decide (16 ≤ d) = false := decide_eq_false (by omega)
          by_cases hq : 1152921504606846976 ≤ n
          · have tq : decide (1152921504606846976 ≤ n) = true := decide_eq_true hq
            have HS := Lib.hid (hex_small HXD2.out hq)
            clear hq hA
            go_wp2_with fail
            go_ret2
            exact ⟨_, _, by omega, by omega, rfl, Or.inr (Or.inr rfl), fun u h => (HS.out u h).elim, HB.out⟩
          · have tq : decide (1152921504606846976 ≤ n) = false := decide_eq_false hq
            have hn := HN.out
            obtain ⟨q, hqq⟩ : ∃ q, n * 16 = q := ⟨_, rfl⟩
            have w1_ : IntKind.u64.wrap (n * 16) = q := by rw [← hqq]; exact wraps_u64 _ (by omega) (by show n * 16 < 18446744073709551616; omega)
            have w2_ : IntKind.u64.wrap d = d := wraps_u64 _ (by omega) (by show d < 18446744073709551616; omega)
            obtain ⟨r, hr⟩ : ∃ r, q + d = r := ⟨_, rfl⟩
            have w3_ : IntKind.u64.wrap (q + d) = r := by rw [← hr]; exact wraps_u64 _ (by omega) (by show q + d < 18446744073709551616; omega)
            have w4_ : decide (r < q) = false := decide_eq_false (by omega)
            have w5_ : decide (18446744073709551615 < r) = false := decide_eq_false (by omega)
            have HN2 := Lib.hid (show 0 ≤ r ∧ r < 18446744073709551616 by omega)
            have HP2 := Lib.hid (show ∀ u, HexOf s u → r = u / 16 ^ (16 - (k + 1)) by rw [← hr, ← hqq]; exact HD.out)
            clear hr hn hqq hq hA HD
            go_wp2_with fail
            go_round
            case rel => first | exact ⟨k + 1, r, by omega, rfl, rfl, by go_num, HN2, HP2⟩ | (refine ⟨trivial, ?_⟩; (repeat apply Exists.intro); exact ⟨⟨k + 1, r, by omega, rfl, rfl, by go_num, HN2, HP2⟩, rfl⟩)
            case measure => simp [intOf]; omega
        · by_cases hB : 97 ≤ lc ∧ lc ≤ 122
          · have t9 : (c == 95) = false := by rw [beq_eq_false_iff_ne]; have := HLO.out; intro e; subst e; simp at this; omega
            have t3 : decide (97 ≤ lc) = true := decide_eq_true hB.1
            have t4 : decide (lc ≤ 122) = true := decide_eq_true hB.2
            obtain ⟨d, hd⟩ : ∃ d, lc - 87 = d := ⟨_, rfl⟩
            have hd0 : 10 ≤ d := by omega
            obtain ⟨d9, hd9⟩ : ∃ d9, lc - 97 = d9 := ⟨_, rfl⟩
            have hd2 : (lc - 97) % 256 = d9 := by omega
            have hd3 : IntKind.u8.wrap (lc - 97) = d9 := by rw [IntKind.wrap_u8]; exact hd2
            have hd4 : (d9 + 10) % 256 = d := by omega
            have hd5 : IntKind.u8.wrap (d9 + 10) = d := by rw [IntKind.wrap_u8]; exact hd4
            have HDE := Lib.hid (show 97 ≤ c → d = c - 87 from fun h => by have := HLO.out; have := HCB.out; split at * <;> omega)
            have HA := Lib.hid hA
            have HDL := Lib.hid (show d = lc - 87 by omega)
            clear hd hd9
            by_cases hD : d < 16
            · have hd1 : d < 16 := hD
              rcases (show c < 48 ∨ 57 < c by omega) with hA1 | hA1
              · have t1 : decide (48 ≤ c) = false := decide_eq_false (by omega)
                clear hA1 hD
                have HD := Lib.hid (hex_next HXD2.out d (Or.inr ⟨HA.out, HDE.out⟩))
                have t16 : decide (16 ≤ d) = false := decide_eq_false (by omega)
                by_cases hq : 1152921504606846976 ≤ n
                · have tq : decide (1152921504606846976 ≤ n) = true := decide_eq_true hq
                  have HS := Lib.hid (hex_small HXD2.out hq)
                  clear hq hA hB
                  go_wp2_with (go_at_call 128; refine (CL.out _).mono ?_; rintro e w' ⟨rfl, rfl⟩)
                  go_ret2
                  exact ⟨_, _, by omega, by omega, rfl, Or.inr (Or.inr rfl), fun u h => (HS.out u h).elim, HB.out⟩
                · have tq : decide (1152921504606846976 ≤ n) = false := decide_eq_false hq
                  have hn := HN.out
                  obtain ⟨q, hqq⟩ : ∃ q, n * 16 = q := ⟨_, rfl⟩
                  have w1_ : IntKind.u64.wrap (n * 16) = q := by rw [← hqq]; exact wraps_u64 _ (by omega) (by show n * 16 < 18446744073709551616; omega)
                  have w2_ : IntKind.u64.wrap d = d := wraps_u64 _ (by omega) (by show d < 18446744073709551616; omega)
                  obtain ⟨r, hr⟩ : ∃ r, q + d = r := ⟨_, rfl⟩
                  have w3_ : IntKind.u64.wrap (q + d) = r := by rw [← hr]; exact wraps_u64 _ (by omega) (by show q + d < 18446744073709551616; omega)
                  have w4_ : decide (r < q) = false := decide_eq_false (by omega)
                  have w5_ : decide (18446744073709551615 < r) = false := decide_eq_false (by omega)
                  have HN2 := Lib.hid (show 0 ≤ r ∧ r < 18446744073709551616 by omega)
                  have HP2 := Lib.hid (show ∀ u, HexOf s u → r = u / 16 ^ (16 - (k + 1)) by rw [← hr, ← hqq]; exact HD.out)
                  clear hr hn hqq hq hA hB HD
                  go_wp2_with (go_at_call 128; refine (CL.out _).mono ?_; rintro e w' ⟨rfl, rfl⟩)
                  go_round
                  case rel => first | exact ⟨k + 1, r, by omega, rfl, rfl, by go_num, HN2, HP2⟩ | (refine ⟨trivial, ?_⟩; (repeat apply Exists.intro); exact ⟨⟨k + 1, r, by omega, rfl, rfl, by go_num, HN2, HP2⟩, rfl⟩)
                  case measure => simp [intOf]; omega
              · have t1 : decide (48 ≤ c) = true := decide_eq_true (by omega)
                have t2 : decide (c ≤ 57) = false := decide_eq_false (by omega)
                clear hA1 hD
                have HD := Lib.hid (hex_next HXD2.out d (Or.inr ⟨HA.out, HDE.out⟩))
                have t16 : decide (16 ≤ d) = false := decide_eq_false (by omega)
                by_cases hq : 1152921504606846976 ≤ n
                · have tq : decide (1152921504606846976 ≤ n) = true := decide_eq_true hq
                  have HS := Lib.hid (hex_small HXD2.out hq)
                  clear hq hA hB
                  go_wp2_with (go_at_call 128; refine (CL.out _).mono ?_; rintro e w' ⟨rfl, rfl⟩)
                  go_ret2
                  exact ⟨_, _, by omega, by omega, rfl, Or.inr (Or.inr rfl), fun u h => (HS.out u h).elim, HB.out⟩
                · have tq : decide (1152921504606846976 ≤ n) = false := decide_eq_false hq
                  have hn := HN.out
                  obtain ⟨q, hqq⟩ : ∃ q, n * 16 = q := ⟨_, rfl⟩
                  have w1_ : IntKind.u64.wrap (n * 16) = q := by rw [← hqq]; exact wraps_u64 _ (by omega) (by show n * 16 < 18446744073709551616; omega)
                  have w2_ : IntKind.u64.wrap d = d := wraps_u64 _ (by omega) (by show d < 18446744073709551616; omega)
                  obtain ⟨r, hr⟩ : ∃ r, q + d = r := ⟨_, rfl⟩
                  have w3_ : IntKind.u64.wrap (q + d) = r := by rw [← hr]; exact wraps_u64 _ (by omega) (by show q + d < 18446744073709551616; omega)
                  have w4_ : decide (r < q) = false := decide_eq_false (by omega)
                  have w5_ : decide (18446744073709551615 < r) = false := decide_eq_false (by omega)
                  have HN2 := Lib.hid (show 0 ≤ r ∧ r < 18446744073709551616 by omega)
                  have HP2 := Lib.hid (show ∀ u, HexOf s u → r = u / 16 ^ (16 - (k + 1)) by rw [← hr, ← hqq]; exact HD.out)
                  clear hr hn hqq hq hA hB HD
                  go_wp2_with (go_at_call 128; refine (CL.out _).mono ?_; rintro e w' ⟨rfl, rfl⟩)
                  go_round
                  case rel => first | exact ⟨k + 1, r, by omega, rfl, rfl, by go_num, HN2, HP2⟩ | (refine ⟨trivial, ?_⟩; (repeat apply Exists.intro); exact ⟨⟨k + 1, r, by omega, rfl, rfl, by go_num, HN2, HP2⟩, rfl⟩)
                  case measure => simp [intOf]; omega
            · have t16 : decide (16 ≤ d) = true := decide_eq_true (by omega)
              have HS := Lib.hid (hex_char HXD2.out (by have := HDL.out; have := HLO.out; have := HA.out; have := HCB.out; split at * <;> omega))
              rcases (show c < 48 ∨ 57 < c by omega) with hA1 | hA1
              · have t1 : decide (48 ≤ c) = false := decide_eq_false (by omega)
                clear hA1 hD hA hB
                go_wp2_with (go_at_call 128; refine (CL.out _).mono ?_; rintro e w' ⟨rfl, rfl⟩)
                go_ret2
                exact ⟨_, _, by omega, by omega, rfl, Or.inr (Or.inl rfl), fun u h => (HS.out u h).elim, HB.out⟩
              · have t1 : decide (48 ≤ c) = true := decide_eq_true (by omega)
                have t2 : decide (c ≤ 57) = false := decide_eq_false (by omega)
                clear hA1 hD hA hB
                go_wp2_with (go_at_call 128; refine (CL.out _).mono ?_; rintro e w' ⟨rfl, rfl⟩)
                go_ret2
                exact ⟨_, _, by omega, by omega, rfl, Or.inr (Or.inl rfl), fun u h => (HS.out u h).elim, HB.out⟩
          · have HS := Lib.hid (hex_char HXD2.out (by have := HLO.out; have := HCB.out; split at * <;> omega))
            by_cases h95 : c = 95
            · have t9 : (c == 95) = true := by simp [h95]
              rcases (show c < 48 ∨ 57 < c by omega) with hA1 | hA1
              · have t1 : decide (48 ≤ c) = false := decide_eq_false (by omega)
                rcases (show lc < 97 ∨ 122 < lc by omega) with hB1 | hB1
                · have t3 : decide (97 ≤ lc) = false := decide_eq_false (by omega)
                  clear hA1 hB1 hA hB h95
                  go_wp2_with (go_at_call 128; refine (CL.out _).mono ?_; rintro e w' ⟨rfl, rfl⟩)
                  go_ret2
                  exact ⟨_, _, by omega, by omega, rfl, Or.inr (Or.inl rfl), fun u h => (HS.out u h).elim, HB.out⟩
                · have t3 : decide (97 ≤ lc) = true := decide_eq_true (by omega)
                  have t4 : decide (lc ≤ 122) = false := decide_eq_false (by omega)
                  clear hA1 hB1 hA hB h95
                  go_wp2_with (go_at_call 128; refine (CL.out _).mono ?_; rintro e w' ⟨rfl, rfl⟩)
                  go_ret2
                  exact ⟨_, _, by omega, by omega, rfl, Or.inr (Or.inl rfl), fun u h => (HS.out u h).elim, HB.out⟩
              · have t1 : decide (48 ≤ c) = true := decide_eq_true (by omega)
                have t2 : decide (c ≤ 57) = false := decide_eq_false (by omega)
                rcases (show lc < 97 ∨ 122 < lc by omega) with hB1 | hB1
                · have t3 : decide (97 ≤ lc) = false := decide_eq_false (by omega)
                  clear hA1 hB1 hA hB h95
                  go_wp2_with (go_at_call 128; refine (CL.out _).mono ?_; rintro e w' ⟨rfl, rfl⟩)
                  go_ret2
                  exact ⟨_, _, by omega, by omega, rfl, Or.inr (Or.inl rfl), fun u h => (HS.out u h).elim, HB.out⟩
                · have t3 : decide (97 ≤ lc) = true := decide_eq_true (by omega)
                  have t4 : decide (lc ≤ 122) = false := decide_eq_false (by omega)
                  clear hA1 hB1 hA hB h95
                  go_wp2_with (go_at_call 128; refine (CL.out _).mono ?_; rintro e w' ⟨rfl, rfl⟩)
                  go_ret2
                  exact ⟨_, _, by omega, by omega, rfl, Or.inr (Or.inl rfl), fun u h => (HS.out u h).elim, HB.out⟩
            · have t9 : (c == 95) = false := by simp [h95]
              rcases (show c < 48 ∨ 57 < c by omega) with hA1 | hA1
              · have t1 : decide (48 ≤ c) = false := decide_eq_false (by omega)
                rcases (show lc < 97 ∨ 122 < lc by omega) with hB1 | hB1
                · have t3 : decide (97 ≤ lc) = false := decide_eq_false (by omega)
                  clear hA1 hB1 hA hB h95
                  go_wp2_with (go_at_call 128; refine (CL.out _).mono ?_; rintro e w' ⟨rfl, rfl⟩)
                  go_ret2
                  exact ⟨_, _, by omega, by omega, rfl, Or.inr (Or.inl rfl), fun u h => (HS.out u h).elim, HB.out⟩
                · have t3 : decide (97 ≤ lc) = true := decide_eq_true (by omega)
                  have t4 : decide (lc ≤ 122) = false := decide_eq_false (by omega)
                  clear hA1 hB1 hA hB h95
                  go_wp2_with (go_at_call 128; refine (CL.out _).mono ?_; rintro e w' ⟨rfl, rfl⟩)
                  go_ret2
                  exact ⟨_, _, by omega, by omega, rfl, Or.inr (Or.inl rfl), fun u h => (HS.out u h).elim, HB.out⟩
              · have t1 : decide (48 ≤ c) = true := decide_eq_true (by omega)
                have t2 : decide (c ≤ 57) = false := decide_eq_false (by omega)
                rcases (show lc < 97 ∨ 122 < lc by omega) with hB1 | hB1
                · have t3 : decide (97 ≤ lc) = false := decide_eq_false (by omega)
                  clear hA1 hB1 hA hB h95
                  go_wp2_with (go_at_call 128; refine (CL.out _).mono ?_; rintro e w' ⟨rfl, rfl⟩)
                  go_ret2
                  exact ⟨_, _, by omega, by omega, rfl, Or.inr (Or.inl rfl), fun u h => (HS.out u h).elim, HB.out⟩
                · have t3 : decide (97 ≤ lc) = true := decide_eq_true (by omega)
                  have t4 : decide (lc ≤ 122) = false := decide_eq_false (by omega)
                  clear hA1 hB1 hA hB h95
                  go_wp2_with (go_at_call 128; refine (CL.out _).mono ?_; rintro e w' ⟨rfl, rfl⟩)
                  go_ret2
                  exact ⟨_, _, by omega, by omega, rfl, Or.inr (Or.inl rfl), fun u h => (HS.out u h).elim, HB.out⟩
      · have hk' : k = s.size := by omega
        subst hk'
        go_wp2
        go_ret2
        refine ⟨n, _, HN.out.1, HN.out.2, rfl, Or.inl rfl, fun u h => ⟨?_, rfl⟩, HB.out⟩
        rw [HP.out u h, (hexOf_at h).1]
        simp
def PuPost2 (s : ByteArray) (w : World) (e : Ending) (w' : World) : Prop := ∃ (x : Int) (v : Value), 0 ≤ x ∧ x < 18446744073709551616 ∧ e = .returned (.tuple #[.int .u64 x, v]) ∧ (v = .nilIface ∨ ∃ tp p, v = .iface tp p) ∧ (∀ u, HexOf s u → x = u ∧ v = .nilIface) ∧ Below w.heap.size w w'
theorem c_puint (s : ByteArray) (hs : s.size ≤ 140737488351232) (w : World) (hg : Gl w) :
    Calls Tryz.prog 88 #[.string s, .int .i64 16, .int .i64 64] w (PuPost2 s w) := by
  have C := Lib.hid (c_pu s hs w)
  have HG := Lib.hid hg
  have HS := Lib.hid (show s.size ≤ 281474976710656 by omega)
  clear hg hs
  go_enter Tryz.func88, Tryz.ntmps88
  go_wp2_with fail
  refine C.out.mono ?_
  rintro e w1 ⟨x, v, h0, h1, rfl, hv, hx, hb⟩
  have HB := Lib.hid hb
  have HX := Lib.hid hx
  have HXB := Lib.hid (⟨h0, h1⟩ : 0 ≤ x ∧ x < 18446744073709551616)
  have HG1 := Lib.hid (HG.out.below hb)
  clear hb hx h0 h1 C
  rcases hv with rfl | rfl | rfl
  · go_wp2_with fail
    go_ret2
    exact ⟨x, .nilIface, HXB.out.1, HXB.out.2, rfl, Or.inl rfl, fun u h => ⟨(HX.out u h).1, rfl⟩, HB.out⟩
  · obtain ⟨tp, p, hc⟩ := HG1.out.syn
    have HC := Lib.hid hc
    clear hc
    go_wp2_with fail
    refine (Tryz.strconv_toError_syntax _ s _ _ _ w1 HS.out HC.out (Or.inr ⟨_, _, rfl⟩)).mono ?_
    rintro e w2 ⟨N, rfl, h2, h3, hb2⟩
    have HB2 := Lib.hid (HB.out.trans (hb2.mono HB.out.size))
    clear h2 h3 hb2
    go_wp2_with fail
    go_ret2
    exact ⟨x, _, HXB.out.1, HXB.out.2, rfl, Or.inr ⟨_, _, rfl⟩, fun u h => (by cases (HX.out u h).2), HB2.out⟩
  · obtain ⟨tp, p, hc⟩ := HG1.out.ran
    have HC := Lib.hid hc
    clear hc
    go_wp2_with fail
    refine (Tryz.strconv_toError_range _ s _ _ _ w1 HS.out HC.out (Or.inr ⟨_, _, rfl⟩)).mono ?_
    rintro e w2 ⟨N, rfl, h2, h3, hb2⟩
    have HB2 := Lib.hid (HB.out.trans (hb2.mono HB.out.size))
    clear h2 h3 hb2
    go_wp2_with fail
    go_ret2
    exact ⟨x, _, HXB.out.1, HXB.out.2, rfl, Or.inr ⟨_, _, rfl⟩, fun u h => (by cases (HX.out u h).2), HB2.out⟩
end Go.Proofs.YtikpmlginojnhaaGreatDoor.Fl
