/- Numbers out of text: ParseUint at base 16. -/
import Derived.Test.YtkogcobcjoojnaaGreatDoorPA
import Derived.Lib.SmallJoins
import Derived.Lib.ValidLaws
import Derived.StillTailTactics
import Derived.Lib.FrozenHead2
import Derived.Laws.IdiomStrings
import Derived.Deep.RegionHeld3
import Derived.Lib.AppendIntMem
import Derived.Lib.Bytes
import Derived.Laws.ResultCell
namespace Go.Proofs.YtkogcobcjoojnaaGreatDoor.Fl
open Go.RowKit Go.Maps
set_option linter.unusedVariables false
set_option linter.unusedSimpArgs false
/-- The bytes of a text. -/
def byt (s : ByteArray) : List Int := s.data.toList.map fun b => (b.toNat : Int)
theorem byt_len (s : ByteArray) : (byt s).length = s.size := by
  rw [byt, List.length_map, Array.length_toList]
  rfl
theorem byt_bd (s : ByteArray) : Byts (byt s) := by
  intro x hx
  obtain ⟨b, _, rfl⟩ := List.mem_map.1 hx
  have h : b.toNat < 256 := b.toNat_lt
  exact ⟨Int.natCast_nonneg _, Int.ofNat_lt.2 h⟩
/-- The bytes of a text, as new memory. -/
def wb (w : World) (s : ByteArray) : World := w.drew.alloc (.cells (bytesRow s (grownCap w s.size 0 5)) 5 ((bytesRow s (grownCap w s.size 0 5)).size, (bytesRow s (grownCap w s.size 0 5)).size + 1))
theorem wb_below (w : World) (s : ByteArray) : Below w.heap.size w (wb w s) := (Below.refl w.heap.size w).drew.alloc (Nat.le_refl _) _
theorem wb_cell (w : World) (s : ByteArray) (k : Nat) (hk : k < s.size) : (wb w s).cell? ⟨w.heap.size, k, none⟩ = some (.int .u8 ((byt s).getD k 0)) := by
  have h1 : (wb w s).heap[w.heap.size]? = some (.cells (bytesRow s (grownCap w s.size 0 5)) 5 ((bytesRow s (grownCap w s.size 0 5)).size, (bytesRow s (grownCap w s.size 0 5)).size + 1)) := heap_alloc_new w.drew _
  have h2 := bytesRow_at s (grownCap w s.size 0 5) k hk
  simp only [World.cell?, h1]
  rw [h2]
  have hk' : k < s.data.toList.length := by rw [Array.length_toList]; exact hk
  simp only [byt, List.getD_eq_getElem?_getD, List.getElem?_map, List.getElem?_eq_getElem hk', Option.map_some, Option.getD_some, Array.getElem_toList]
  rfl
/-- Is the text the sixteen digits of a number? -/
def HexOf (s : ByteArray) (u : Int) : Prop := s = txt (hexI 16 u) ∧ 0 ≤ u ∧ u < 18446744073709551616
def PuPost (s : ByteArray) (w : World) (e : Ending) (w' : World) : Prop := ∃ (x : Int) (v : Value), 0 ≤ x ∧ x < 18446744073709551616 ∧ e = .returned (.tuple #[.int .u64 x, v]) ∧ (v = .nilIface ∨ v = .iface 165 (.int .i64 2) ∨ v = .iface 165 (.int .i64 1)) ∧ (∀ u, HexOf s u → x = u ∧ v = .nilIface) ∧ Below w.heap.size w w'
theorem hx_bd (d : Int) (h0 : 0 ≤ d) (h1 : d < 16) : (48 ≤ hx d ∧ hx d ≤ 57 ∧ hx d - 48 = d) ∨ (97 ≤ hx d ∧ hx d ≤ 102 ∧ hx d - 87 = d) := by
  unfold hx
  split <;> omega
theorem byt_txt (l : List Int) (h : Byts l) : byt (txt l) = l := by
  unfold byt txt
  simp only [List.map_map]
  conv => rhs; rw [← List.map_id l]
  apply List.map_congr_left
  intro x hx
  have := h x hx
  simp only [Function.comp, id]
  rw [UInt8.toNat_ofNat']
  omega
theorem hexI_byts : ∀ (k : Nat) (u : Int), Byts (hexI k u)
  | 0, _ => fun x h => by simp [hexI] at h
  | k + 1, u => fun x h => by
    rw [hexI] at h
    rcases List.mem_append.1 h with h | h
    · exact hexI_byts k _ x h
    · have : x = hx (u % 16) := by simpa using h
      subst this
      rcases hx_bd (u % 16) (by omega) (by omega) with h | h <;> omega
theorem hexI_get : ∀ (k : Nat) (u : Int) (i : Nat), i < k → (hexI k u).getD i 0 = hx (u / 16 ^ (k - 1 - i) % 16)
  | 0, _, _, h => by omega
  | k + 1, u, i, h => by
    rw [hexI]
    by_cases e : i = k
    · subst e
      rw [List.getD_eq_getElem?_getD, List.getElem?_append_right (by rw [hexI_len]; exact Nat.le_refl _), hexI_len]
      simp
    · rw [List.getD_eq_getElem?_getD, List.getElem?_append_left (by rw [hexI_len]; omega), ← List.getD_eq_getElem?_getD, hexI_get k (u / 16) i (by omega), Int.ediv_ediv_of_nonneg (by decide), show k + 1 - 1 - i = (k - 1 - i) + 1 by omega, Int.pow_succ, Int.mul_comm]
theorem hexOf_at {s : ByteArray} {u : Int} (h : HexOf s u) : s.size = 16 ∧ ∀ k, k < 16 → (byt s).getD k 0 = hx (u / 16 ^ (15 - k) % 16) := by
  obtain ⟨rfl, h0, h1⟩ := h
  rw [byt_txt _ (hexI_byts 16 u)]
  exact ⟨by rw [txt_size, hexI_len], fun k hk => hexI_get 16 u k hk⟩
theorem step16 (u : Int) (k : Nat) (hk : k < 16) (h0 : 0 ≤ u) : u / 16 ^ (16 - k) * 16 + u / 16 ^ (15 - k) % 16 = u / 16 ^ (15 - k) := by
  have : u / 16 ^ (16 - k) = u / 16 ^ (15 - k) / 16 := by
    rw [Int.ediv_ediv_of_nonneg (Int.pow_nonneg (by decide)), show 16 - k = (15 - k) + 1 by omega, Int.pow_succ]
  rw [this]
  omega
theorem lower_at (c : Int) (h0 : 0 ≤ c) (h1 : c < 256) : bits .or .u8 c 32 = if c / 32 % 2 = 1 then c else c + 32 := by
  have h : ∀ c : Fin 256, bits .or .u8 (c.val : Int) 32 = if (c.val : Int) / 32 % 2 = 1 then (c.val : Int) else (c.val : Int) + 32 := by decide +kernel
  have := h ⟨c.toNat, by omega⟩
  simpa [Int.toNat_of_nonneg h0] using this
/-- What is known of a digit that is read. -/
theorem hex_next {s : ByteArray} {k : Nat} {n c : Int} (H : ∀ u, HexOf s u → k < 16 ∧ 0 ≤ u ∧ u < 18446744073709551616 ∧ n = u / 16 ^ (16 - k) ∧ c = hx (u / 16 ^ (15 - k) % 16)) (d : Int) (hd : (48 ≤ c ∧ c ≤ 57 ∧ d = c - 48) ∨ (¬ (48 ≤ c ∧ c ≤ 57) ∧ (97 ≤ c → d = c - 87))) :
    ∀ u, HexOf s u → n * 16 + d = u / 16 ^ (16 - (k + 1)) := by
  intro u h
  obtain ⟨hk, h0, h1, h2, h3⟩ := H u h
  have h4 := step16 u k hk h0
  rw [← h2] at h4
  have h5 := hx_bd (u / 16 ^ (15 - k) % 16) (by omega) (by omega)
  rw [← h3] at h5
  rw [show 16 - (k + 1) = 15 - k by omega, ← h4]
  rcases hd with ⟨g1, g2, g3⟩ | ⟨g1, g2⟩
  · rcases h5 with h5 | h5 <;> omega
  · rcases h5 with h5 | h5
    · omega
    · have := g2 h5.1
      omega
theorem hex_small {s : ByteArray} {k : Nat} {n c : Int} (H : ∀ u, HexOf s u → k < 16 ∧ 0 ≤ u ∧ u < 18446744073709551616 ∧ n = u / 16 ^ (16 - k) ∧ c = hx (u / 16 ^ (15 - k) % 16)) (hn : 1152921504606846976 ≤ n) (u : Int) (h : HexOf s u) : False := by
  obtain ⟨hk, h0, h1, h2, h3⟩ := H u h
  have e : 16 - k = (15 - k) + 1 := by omega
  rw [e, Int.pow_succ, Int.mul_comm, ← Int.ediv_ediv_of_nonneg (by decide)] at h2
  have h4 : u / 16 / 16 ^ (15 - k) ≤ u / 16 := Int.ediv_le_self _ (by omega)
  omega
theorem hex_char {s : ByteArray} {k : Nat} {n c : Int} (H : ∀ u, HexOf s u → k < 16 ∧ 0 ≤ u ∧ u < 18446744073709551616 ∧ n = u / 16 ^ (16 - k) ∧ c = hx (u / 16 ^ (15 - k) % 16)) (hc : ¬ ((48 ≤ c ∧ c ≤ 57) ∨ (97 ≤ c ∧ c ≤ 102))) (u : Int) (h : HexOf s u) : False := by
  obtain ⟨hk, h0, h1, h2, h3⟩ := H u h
  have h5 := hx_bd (u / 16 ^ (15 - k) % 16) (by omega) (by omega)
  rw [← h3] at h5
  omega
set_option maxHeartbeats 4000000 in
set_option maxRecDepth 100000 in
theorem c_pu (s : ByteArray) (hs : s.size ≤ 140737488351232) (w : World) :
    Calls Tryz.prog 178 #[.string s, .int .i64 16, .int .i64 64] w (PuPost s w) := by
  by_cases h0 : s.toList = []
  · have he : (!s.toList.isEmpty) = false := by simp [h0]
    have HS := Lib.hid (fun u (h : HexOf s u) => (show False from by
      have h1 := (hexOf_at h).1
      rw [ByteArray.toList_eq] at h0
      have h2 : s.data.toList.length = 16 := by rw [Array.length_toList]; exact h1
      rw [h0] at h2
      simp at h2))
    have H0 := Lib.hid h0
    go_enter Tryz.func178, Tryz.ntmps178
    go_wp2
    go_ret2
    exact ⟨_, _, by omega, by omega, rfl, Or.inr (Or.inl rfl), fun u h => (HS.out u h).elim, Below.refl _ _⟩
  · have he : (!s.toList.isEmpty) = true := by simp [h0]
    have he2 : s.toList.isEmpty = false := by simp [h0]
    have kc := fun (w : World) => run_bytes_of_string (P := Tryz.prog) w 9 58 5 s Tryz.underlying9 Tryz.underlying58 Tryz.underlying5
    have kc2 : ∀ w : World, (convert 9 58 (.string s)).run Tryz.prog w = .ok (.slice (some ⟨w.heap.size, 0, none⟩) s.size (grownCap w s.size 0 5)) (wb w s) := kc
    clear kc
    go_enter Tryz.func178, Tryz.ntmps178
    go_wp2
    have hmx : IntKind.u64.wrap (IntKind.u64.wrap 18446744073709551616 - 1) = 18446744073709551615 := by decide
    have HC := Lib.hid (wb_cell w s)
    have HB := Lib.hid (wb_below w s)
    generalize wb w s = w1 at HC HB ⊢
    clear kc2 he he2 h0
    go_loop [12, 13, 101] (fun v12 v13 v101 => ∃ (k : Nat) (n : Int), k ≤ s.size ∧ v12 = .bool false ∧ v13 = .int .u64 n ∧ v101 = .int .i64 k ∧ Hid (0 ≤ n ∧ n < 18446744073709551616) ∧ Hid (∀ u, HexOf s u → n = u / 16 ^ (16 - k))) (fun _ _ v101 => s.size - (intOf v101).toNat)
    case atStart => exact ⟨0, 0, by omega, rfl, rfl, rfl, Lib.hid (by omega), Lib.hid (fun u h => by
      have e : (16 : Int) ^ (16 - 0) = 18446744073709551616 := by decide
      rw [e]
      have := h.2
      omega)⟩
    case round =>
      obtain ⟨k, n, hk, rfl, rfl, rfl, HN, HP⟩ := hrel
      by_cases hlt : k < s.size
      · have hc := HC.out k hlt
        have hcb := byts_at (byt_bd s) k (by rw [byt_len]; exact hlt)
        have hlow := lower_at _ hcb.1 hcb.2
        have HX := Lib.hid (fun u (h : HexOf s u) => (hexOf_at h).2 k (by have := (hexOf_at h).1; omega))
        generalize (byt s).getD k 0 = c at hc hcb hlow HX
        generalize hlc : bits .or .u8 c 32 = lc at hlow
        have CL := Lib.hid (fun w => Tryz.internal_strconv_lower c w)
        rw [hlc] at CL
        clear hlc
        have HCB := Lib.hid hcb
        have HLO := Lib.hid hlow
        have hk0 : (0 : Int) ≤ (k : Int) := by omega
        have hk1 : (k : Int) < (s.size : Int) := by omega
        have hcl : (0 : Int) ≤ lc ∧ lc < 256 := by rw [hlow]; split <;> omega
        clear hcb hlow
        have HXD : ∀ u, HexOf s u → k < 16 ∧ 0 ≤ u ∧ u < 18446744073709551616 ∧ n = u / 16 ^ (16 - k) ∧ c = hx (u / 16 ^ (15 - k) % 16) := fun u h => ⟨by have := (hexOf_at h).1; omega, h.2.1, h.2.2, HP.out u h, HX.out u h⟩
        have HXD2 := Lib.hid HXD
        clear HX HP HXD
        by_cases hA : 48 ≤ c ∧ c ≤ 57
        · have t9 : (c == 95) = false := by rw [beq_eq_false_iff_ne]; intro e; omega
          have t1 : decide (48 ≤ c) = true := decide_eq_true hA.1
          have t2 : decide (c ≤ 57) = true := decide_eq_true hA.2
          obtain ⟨d, hd⟩ : ∃ d, c - 48 = d := ⟨_, rfl⟩
          have hd0 : 0 ≤ d := by omega
          have hd1 : d < 16 := by omega
          have hd2 : (c - 48) % 256 = d := by omega
          have hd3 : IntKind.u8.wrap (c - 48) = d := by rw [IntKind.wrap_u8]; exact hd2
          have HDE := Lib.hid (⟨hA.1, hA.2, hd.symm⟩ : 48 ≤ c ∧ c ≤ 57 ∧ d = c - 48)
          clear hd
          have HD := Lib.hid (hex_next HXD2.out d (Or.inl HDE.out))
          have t16 : decide (16 ≤ d) = false := decide_eq_false (by omega)
          by_cases hq : 1152921504606846976 ≤ n
          · have tq : decide (1152921504606846976 ≤ n) = true := decide_eq_true hq
            have HS := Lib.hid (hex_small HXD2.out hq)
            clear hq hA
            go_wp2_with fail
            go_ret2
            exact ⟨_, _, by omega, by omega, rfl, Or.inr (Or.inr rfl), fun u h => (HS.out u h).elim, HB.out⟩
          · have tq : decide (1152921504606846976 ≤ n) = false := decide_eq_false hq
            have hn := HN.out
            obtain ⟨q, hqq⟩ : ∃ q, n * 16 = q := ⟨_, rfl⟩
            have w1_ : IntKind.u64.wrap (n * 16) = q := by rw [← hqq]; exact wraps_u64 _ (by omega) (by show n * 16 < 18446744073709551616; omega)
            have w2_ : IntKind.u64.wrap d = d := wraps_u64 _ (by omega) (by show d < 18446744073709551616; omega)
            obtain ⟨r, hr⟩ : ∃ r, q + d = r := ⟨_, rfl⟩
            have w3_ : IntKind.u64.wrap (q + d) = r := by rw [← hr]; exact wraps_u64 _ (by omega) (by show q + d < 18446744073709551616; omega)
            have w4_ : decide (r < q) = false := decide_eq_false (by omega)
            have w5_ : decide (18446744073709551615 < r) = false := decide_eq_false (by omega)
            have HN2 := Lib.hid (show 0 ≤ r ∧ r < 18446744073709551616 by omega)
            have HP2 := Lib.hid (show ∀ u, HexOf s u → r = u / 16 ^ (16 - (k + 1)) by rw [← hr, ← hqq]; exact HD.out)
            clear hr hn hqq hq hA HD
            go_wp2_with fail
            go_round
            case rel => first | exact ⟨k + 1, r, by omega, rfl, rfl, by go_num, HN2, HP2⟩ | (refine ⟨trivial, ?_⟩; (repeat apply Exists.intro); exact ⟨⟨k + 1, r, by omega, rfl, rfl, by go_num, HN2, HP2⟩, rfl⟩)
            case measure => simp [intOf]; omega
        · by_cases hB : 97 ≤ lc ∧ lc ≤ 122
          · have t9 : (c == 95) = false := by rw [beq_eq_false_iff_ne]; have := HLO.out; intro e; subst e; simp at this; omega
            have t3 : decide (97 ≤ lc) = true := decide_eq_true hB.1
            have t4 : decide (lc ≤ 122) = true := decide_eq_true hB.2
            obtain ⟨d, hd⟩ : ∃ d, lc - 87 = d := ⟨_, rfl⟩
            have hd0 : 10 ≤ d := by omega
            obtain ⟨d9, hd9⟩ : ∃ d9, lc - 97 = d9 := ⟨_, rfl⟩
            have hd2 : (lc - 97) % 256 = d9 := by omega
            have hd3 : IntKind.u8.wrap (lc - 97) = d9 := by rw [IntKind.wrap_u8]; exact hd2
            have hd4 : (d9 + 10) % 256 = d := by omega
            have hd5 : IntKind.u8.wrap (d9 + 10) = d := by rw [IntKind.wrap_u8]; exact hd4
            have HDE := Lib.hid (show 97 ≤ c → d = c - 87 from fun h => by have := HLO.out; have := HCB.out; split at * <;> omega)
            have HA := Lib.hid hA
            have HDL := Lib.hid (show d = lc - 87 by omega)
            clear hd hd9
            by_cases hD : d < 16
            · have hd1 : d < 16 := hD
              rcases (show c < 48 ∨ 57 < c by omega) with hA1 | hA1
              · have t1 : decide (48 ≤ c) = false := decide_eq_false (by omega)
                clear hA1 hD
                have HD := Lib.hid (hex_next HXD2.out d (Or.inr ⟨HA.out, HDE.out⟩))
                have t16 : decide (16 ≤ d) = false := decide_eq_false (by omega)
                by_cases hq : 1152921504606846976 ≤ n
                · have tq : decide (1152921504606846976 ≤ n) = true := decide_eq_true hq
                  have HS := Lib.hid (hex_small HXD2.out hq)
                  clear hq hA hB
                  go_wp2_with (go_at_call 194; refine (CL.out _).mono ?_; rintro e w' ⟨rfl, rfl⟩)
                  go_ret2
                  exact ⟨_, _, by omega, by omega, rfl, Or.inr (Or.inr rfl), fun u h => (HS.out u h).elim, HB.out⟩
                · have tq : decide (1152921504606846976 ≤ n) = false := decide_eq_false hq
                  have hn := HN.out
                  obtain ⟨q, hqq⟩ : ∃ q, n * 16 = q := ⟨_, rfl⟩
                  have w1_ : IntKind.u64.wrap (n * 16) = q := by rw [← hqq]; exact wraps_u64 _ (by omega) (by show n * 16 < 18446744073709551616; omega)
                  have w2_ : IntKind.u64.wrap d = d := wraps_u64 _ (by omega) (by show d < 18446744073709551616; omega)
                  obtain ⟨r, hr⟩ : ∃ r, q + d = r := ⟨_, rfl⟩
                  have w3_ : IntKind.u64.wrap (q + d) = r := by rw [← hr]; exact wraps_u64 _ (by omega) (by show q + d < 18446744073709551616; omega)
                  have w4_ : decide (r < q) = false := decide_eq_false (by omega)
                  have w5_ : decide (18446744073709551615 < r) = false := decide_eq_false (by omega)
                  have HN2 := Lib.hid (show 0 ≤ r ∧ r < 18446744073709551616 by omega)
                  have HP2 := Lib.hid (show ∀ u, HexOf s u → r = u / 16 ^ (16 - (k + 1)) by rw [← hr, ← hqq]; exact HD.out)
                  clear hr hn hqq hq hA hB HD
                  go_wp2_with (go_at_call 194; refine (CL.out _).mono ?_; rintro e w' ⟨rfl, rfl⟩)
                  go_round
                  case rel => first | exact ⟨k + 1, r, by omega, rfl, rfl, by go_num, HN2, HP2⟩ | (refine ⟨trivial, ?_⟩; (repeat apply Exists.intro); exact ⟨⟨k + 1, r, by omega, rfl, rfl, by go_num, HN2, HP2⟩, rfl⟩)
                  case measure => simp [intOf]; omega
              · have t1 : decide (48 ≤ c) = true := decide_eq_true (by omega)
                have t2 : decide (c ≤ 57) = false := decide_eq_false (by omega)
                clear hA1 hD
                have HD := Lib.hid (hex_next HXD2.out d (Or.inr ⟨HA.out, HDE.out⟩))
                have t16 : decide (16 ≤ d) = false := decide_eq_false (by omega)
                by_cases hq : 1152921504606846976 ≤ n
                · have tq : decide (1152921504606846976 ≤ n) = true := decide_eq_true hq
                  have HS := Lib.hid (hex_small HXD2.out hq)
                  clear hq hA hB
                  go_wp2_with (go_at_call 194; refine (CL.out _).mono ?_; rintro e w' ⟨rfl, rfl⟩)
                  go_ret2
                  exact ⟨_, _, by omega, by omega, rfl, Or.inr (Or.inr rfl), fun u h => (HS.out u h).elim, HB.out⟩
                · have tq : decide (1152921504606846976 ≤ n) = false := decide_eq_false hq
                  have hn := HN.out
                  obtain ⟨q, hqq⟩ : ∃ q, n * 16 = q := ⟨_, rfl⟩
                  have w1_ : IntKind.u64.wrap (n * 16) = q := by rw [← hqq]; exact wraps_u64 _ (by omega) (by show n * 16 < 18446744073709551616; omega)
                  have w2_ : IntKind.u64.wrap d = d := wraps_u64 _ (by omega) (by show d < 18446744073709551616; omega)
                  obtain ⟨r, hr⟩ : ∃ r, q + d = r := ⟨_, rfl⟩
                  have w3_ : IntKind.u64.wrap (q + d) = r := by rw [← hr]; exact wraps_u64 _ (by omega) (by show q + d < 18446744073709551616; omega)
                  have w4_ : decide (r < q) = false := decide_eq_false (by omega)
                  have w5_ : decide (18446744073709551615 < r) = false := decide_eq_false (by omega)
                  have HN2 := Lib.hid (show 0 ≤ r ∧ r < 18446744073709551616 by omega)
                  have HP2 := Lib.hid (show ∀ u, HexOf s u → r = u / 16 ^ (16 - (k + 1)) by rw [← hr, ← hqq]; exact HD.out)
                  clear hr hn hqq hq hA hB HD
                  go_wp2_with (go_at_call 194; refine (CL.out _).mono ?_; rintro e w' ⟨rfl, rfl⟩)
                  go_round
                  case rel => first | exact ⟨k + 1, r, by omega, rfl, rfl, by go_num, HN2, HP2⟩ | (refine ⟨trivial, ?_⟩; (repeat apply Exists.intro); exact ⟨⟨k + 1, r, by omega, rfl, rfl, by go_num, HN2, HP2⟩, rfl⟩)
                  case measure => simp [intOf]; omega
            · have t16 : decide (16 ≤ d) = true := decide_eq_true (by omega)
              have HS := Lib.hid (hex_char HXD2.out (by have := HDL.out; have := HLO.out; have := HA.out; have := HCB.out; split at * <;> omega))
              rcases (show c < 48 ∨ 57 < c by omega) with hA1 | hA1
              · have t1 : decide (48 ≤ c) = false := decide_eq_false (by omega)
                clear hA1 hD hA hB
                go_wp2_with (go_at_call 194; refine (CL.out _).mono ?_; rintro e w' ⟨rfl, rfl⟩)
                go_ret2
                exact ⟨_, _, by omega, by omega, rfl, Or.inr (Or.inl rfl), fun u h => (HS.out u h).elim, HB.out⟩
              · have t1 : decide (48 ≤ c) = true := decide_eq_true (by omega)
                have t2 : decide (c ≤ 57) = false := decide_eq_false (by omega)
                clear hA1 hD hA hB
                go_wp2_with (go_at_call 194; refine (CL.out _).mono ?_; rintro e w' ⟨rfl, rfl⟩)
                go_ret2
                exact ⟨_, _, by omega, by omega, rfl, Or.inr (Or.inl rfl), fun u h => (HS.out u h).elim, HB.out⟩
          · have HS := Lib.hid (hex_char HXD2.out (by have := HLO.out; have := HCB.out; split at * <;> omega))
            by_cases h95 : c = 95
            · have t9 : (c == 95) = true := by simp [h95]
              rcases (show c < 48 ∨ 57 < c by omega) with hA1 | hA1
              · have t1 : decide (48 ≤ c) = false := decide_eq_false (by omega)
                rcases (show lc < 97 ∨ 122 < lc by omega) with hB1 | hB1
                · have t3 : decide (97 ≤ lc) = false := decide_eq_false (by omega)
                  clear hA1 hB1 hA hB h95
                  go_wp2_with (go_at_call 194; refine (CL.out _).mono ?_; rintro e w' ⟨rfl, rfl⟩)
                  go_ret2
                  exact ⟨_, _, by omega, by omega, rfl, Or.inr (Or.inl rfl), fun u h => (HS.out u h).elim, HB.out⟩
                · have t3 : decide (97 ≤ lc) = true := decide_eq_true (by omega)
                  have t4 : decide (lc ≤ 122) = false := decide_eq_false (by omega)
                  clear hA1 hB1 hA hB h95
                  go_wp2_with (go_at_call 194; refine (CL.out _).mono ?_; rintro e w' ⟨rfl, rfl⟩)
                  go_ret2
                  exact ⟨_, _, by omega, by omega, rfl, Or.inr (Or.inl rfl), fun u h => (HS.out u h).elim, HB.out⟩
              · have t1 : decide (48 ≤ c) = true := decide_eq_true (by omega)
                have t2 : decide (c ≤ 57) = false := decide_eq_false (by omega)
                rcases (show lc < 97 ∨ 122 < lc by omega) with hB1 | hB1
                · have t3 : decide (97 ≤ lc) = false := decide_eq_false (by omega)
                  clear hA1 hB1 hA hB h95
                  go_wp2_with (go_at_call 194; refine (CL.out _).mono ?_; rintro e w' ⟨rfl, rfl⟩)
                  go_ret2
                  exact ⟨_, _, by omega, by omega, rfl, Or.inr (Or.inl rfl), fun u h => (HS.out u h).elim, HB.out⟩
                · have t3 : decide (97 ≤ lc) = true := decide_eq_true (by omega)
                  have t4 : decide (lc ≤ 122) = false := decide_eq_false (by omega)
                  clear hA1 hB1 hA hB h95
                  go_wp2_with (go_at_call 194; refine (CL.out _).mono ?_; rintro e w' ⟨rfl, rfl⟩)
                  go_ret2
                  exact ⟨_, _, by omega, by omega, rfl, Or.inr (Or.inl rfl), fun u h => (HS.out u h).elim, HB.out⟩
            · have t9 : (c == 95) = false := by simp [h95]
              rcases (show c < 48 ∨ 57 < c by omega) with hA1 | hA1
              · have t1 : decide (48 ≤ c) = false := decide_eq_false (by omega)
                rcases (show lc < 97 ∨ 122 < lc by omega) with hB1 | hB1
                · have t3 : decide (97 ≤ lc) = false := decide_eq_false (by omega)
                  clear hA1 hB1 hA hB h95
                  go_wp2_with (go_at_call 194; refine (CL.out _).mono ?_; rintro e w' ⟨rfl, rfl⟩)
                  go_ret2
                  exact ⟨_, _, by omega, by omega, rfl, Or.inr (Or.inl rfl), fun u h => (HS.out u h).elim, HB.out⟩
                · have t3 : decide (97 ≤ lc) = true := decide_eq_true (by omega)
                  have t4 : decide (lc ≤ 122) = false := decide_eq_false (by omega)
                  clear hA1 hB1 hA hB h95
                  go_wp2_with (go_at_call 194; refine (CL.out _).mono ?_; rintro e w' ⟨rfl, rfl⟩)
                  go_ret2
                  exact ⟨_, _, by omega, by omega, rfl, Or.inr (Or.inl rfl), fun u h => (HS.out u h).elim, HB.out⟩
              · have t1 : decide (48 ≤ c) = true := decide_eq_true (by omega)
                have t2 : decide (c ≤ 57) = false := decide_eq_false (by omega)
                rcases (show lc < 97 ∨ 122 < lc by omega) with hB1 | hB1
                · have t3 : decide (97 ≤ lc) = false := decide_eq_false (by omega)
                  clear hA1 hB1 hA hB h95
                  go_wp2_with (go_at_call 194; refine (CL.out _).mono ?_; rintro e w' ⟨rfl, rfl⟩)
                  go_ret2
                  exact ⟨_, _, by omega, by omega, rfl, Or.inr (Or.inl rfl), fun u h => (HS.out u h).elim, HB.out⟩
                · have t3 : decide (97 ≤ lc) = true := decide_eq_true (by omega)
                  have t4 : decide (lc ≤ 122) = false := decide_eq_false (by omega)
                  clear hA1 hB1 hA hB h95
                  go_wp2_with (go_at_call 194; refine (CL.out _).mono ?_; rintro e w' ⟨rfl, rfl⟩)
                  go_ret2
                  exact ⟨_, _, by omega, by omega, rfl, Or.inr (Or.inl rfl), fun u h => (HS.out u h).elim, HB.out⟩
      · have hk' : k = s.size := by omega
        subst hk'
        go_wp2
        go_ret2
        refine ⟨n, _, HN.out.1, HN.out.2, rfl, Or.inl rfl, fun u h => ⟨?_, rfl⟩, HB.out⟩
        rw [HP.out u h, (hexOf_at h).1]
        simp
def PuPost2 (s : ByteArray) (w : World) (e : Ending) (w' : World) : Prop := ∃ (x : Int) (v : Value), 0 ≤ x ∧ x < 18446744073709551616 ∧ e = .returned (.tuple #[.int .u64 x, v]) ∧ (v = .nilIface ∨ ∃ tp p, v = .iface tp p) ∧ (∀ u, HexOf s u → x = u ∧ v = .nilIface) ∧ Below w.heap.size w w'
theorem c_puint (s : ByteArray) (hs : s.size ≤ 140737488351232) (w : World) (hg : Gl w) :
    Calls Tryz.prog 200 #[.string s, .int .i64 16, .int .i64 64] w (PuPost2 s w) := by
  have C := Lib.hid (c_pu s hs w)
  have HG := Lib.hid hg
  have HS := Lib.hid (show s.size ≤ 281474976710656 by omega)
  clear hg hs
  go_enter Tryz.func200, Tryz.ntmps200
  go_wp2_with fail
  refine C.out.mono ?_
  rintro e w1 ⟨x, v, h0, h1, rfl, hv, hx, hb⟩
  have HB := Lib.hid hb
  have HX := Lib.hid hx
  have HXB := Lib.hid (⟨h0, h1⟩ : 0 ≤ x ∧ x < 18446744073709551616)
  have HG1 := Lib.hid (HG.out.below hb)
  clear hb hx h0 h1 C
  rcases hv with rfl | rfl | rfl
  · go_wp2_with fail
    go_ret2
    exact ⟨x, .nilIface, HXB.out.1, HXB.out.2, rfl, Or.inl rfl, fun u h => ⟨(HX.out u h).1, rfl⟩, HB.out⟩
  · obtain ⟨tp, p, hc⟩ := HG1.out.syn
    have HC := Lib.hid hc
    clear hc
    go_wp2_with fail
    refine (Tryz.strconv_toError_syntax _ s _ _ _ w1 HS.out HC.out (Or.inr ⟨_, _, rfl⟩)).mono ?_
    rintro e w2 ⟨N, rfl, h2, h3, hb2⟩
    have HB2 := Lib.hid (HB.out.trans (hb2.mono HB.out.size))
    clear h2 h3 hb2
    go_wp2_with fail
    go_ret2
    exact ⟨x, _, HXB.out.1, HXB.out.2, rfl, Or.inr ⟨_, _, rfl⟩, fun u h => (by cases (HX.out u h).2), HB2.out⟩
  · obtain ⟨tp, p, hc⟩ := HG1.out.ran
    have HC := Lib.hid hc
    clear hc
    go_wp2_with fail
    refine (Tryz.strconv_toError_range _ s _ _ _ w1 HS.out HC.out (Or.inr ⟨_, _, rfl⟩)).mono ?_
    rintro e w2 ⟨N, rfl, h2, h3, hb2⟩
    have HB2 := Lib.hid (HB.out.trans (hb2.mono HB.out.size))
    clear h2 h3 hb2
    go_wp2_with fail
    go_ret2
    exact ⟨x, _, HXB.out.1, HXB.out.2, rfl, Or.inr ⟨_, _, rfl⟩, fun u h => (by cases (HX.out u h).2), HB2.out⟩
end Go.Proofs.YtkogcobcjoojnaaGreatDoor.Fl

namespace Go.Proofs.YtkogcobcjoojnaaGreatDoor.Fl
open Go.RowKit Go.Maps
set_option linter.unusedVariables false
set_option linter.unusedSimpArgs false
def Wf (n : Int) : Prop := -9223372036854775808 ≤ n ∧ n ≤ 9223372036854775807
theorem hx_inj {a b : Int} (ha : 0 ≤ a ∧ a < 16) (hb : 0 ≤ b ∧ b < 16) (h : hx a = hx b) : a = b := by
  unfold hx at h
  split at h <;> split at h <;> omega
theorem hexI_inj : ∀ (k : Nat) (u v : Int), 0 ≤ u → u < 16 ^ k → 0 ≤ v → v < 16 ^ k → hexI k u = hexI k v → u = v
  | 0, u, v, h0, h1, h2, h3, _ => by simp at h1 h3; omega
  | k + 1, u, v, h0, h1, h2, h3, h => by
    rw [hexI, hexI] at h
    have h4 := List.append_inj' h rfl
    rw [Int.pow_succ] at h1 h3
    have h5 := hexI_inj k (u / 16) (v / 16) (by omega) (by omega) (by omega) (by omega) h4.1
    have h6 := hx_inj (by omega) (by omega) (List.cons.inj h4.2).1
    omega
theorem txt_inj {a b : List Int} (ha : Byts a) (hb : Byts b) (h : txt a = txt b) : a = b := by
  rw [← byt_txt a ha, ← byt_txt b hb, h]
theorem hex_byts (u : Int) : Byts (120 :: hexI 16 u) := fun x hx => by
  rcases List.mem_cons.1 hx with rfl | h
  · omega
  · exact hexI_byts 16 u x h
theorem pow16 : (16 : Int) ^ 16 = 18446744073709551616 := by decide
theorem U_inj {n m : Int} (hn : Wf n) (hm : Wf m) (h : U n = U m) : n = m := by
  unfold U at h
  unfold Wf at hn hm
  omega
/-- The names. -/
def Named (n : Int) : Prop := n = 9221120237041090560 ∨ n = 9218868437227405312 ∨ n = -4503599627370496 ∨ n = 0 ∨ n = -9223372036854775808
theorem show_hex {n : Int} (hr : rightU (U n) = true) (hn : ¬ Named n) : showS n = txt (120 :: hexI 16 (U n)) := by
  unfold showS
  rw [if_neg (by rw [hr]; decide), if_neg (fun e => hn (Or.inl e)), if_neg (fun e => hn (Or.inr (Or.inl e))), if_neg (fun e => hn (Or.inr (Or.inr (Or.inl e)))), if_neg (fun e => hn (Or.inr (Or.inr (Or.inr (Or.inl e))))), if_neg (fun e => hn (Or.inr (Or.inr (Or.inr (Or.inr e)))))]
theorem show_long {n : Int} (hr : rightU (U n) = true) (hn : ¬ Named n) : (showS n).size = 17 := by
  rw [show_hex hr hn, txt_size, List.length_cons, hexI_len]
theorem show_short {n : Int} (hn : Named n) : (showS n).size ≤ 4 := by
  rcases hn with rfl | rfl | rfl | rfl | rfl <;> decide
theorem show_inj {n m : Int} (hn : Wf n) (hm : Wf m) (hr : rightU (U n) = true) (hs : rightU (U m) = true) (h : showS n = showS m) : n = m := by
  by_cases h1 : Named n
  · by_cases h2 : Named m
    · rcases h1 with rfl | rfl | rfl | rfl | rfl <;> rcases h2 with rfl | rfl | rfl | rfl | rfl <;> first | rfl | (exfalso; revert h; decide)
    · have := show_short h1
      have := show_long hs h2
      rw [h] at *
      omega
  · by_cases h2 : Named m
    · have := show_short h2
      have := show_long hr h1
      rw [h] at *
      omega
    · rw [show_hex hr h1, show_hex hs h2] at h
      have h3 := (List.cons.inj (txt_inj (hex_byts _) (hex_byts _) h)).2
      have b1 := U_bd n
      have b2 := U_bd m
      exact U_inj hn hm (hexI_inj 16 _ _ b1.1 (by rw [pow16]; exact b1.2) b2.1 (by rw [pow16]; exact b2.2) h3)
/-- What a text tells. -/
def RdIs (s : ByteArray) (n : Int) (b : Bool) : Prop := (b = true ∧ Wf n ∧ rightU (U n) = true ∧ showS n = s) ∨ (b = false ∧ n = 0 ∧ ∀ m, Wf m → rightU (U m) = true → showS m ≠ s)
theorem rd_ex (s : ByteArray) : ∃ n b, RdIs s n b := by
  by_cases h : ∃ m, Wf m ∧ rightU (U m) = true ∧ showS m = s
  · obtain ⟨m, h⟩ := h
    exact ⟨m, true, Or.inl ⟨rfl, h⟩⟩
  · exact ⟨0, false, Or.inr ⟨rfl, rfl, fun m h1 h2 h3 => h ⟨m, h1, h2, h3⟩⟩⟩
theorem rd_yes {s : ByteArray} {n : Int} {b : Bool} (h : RdIs s n b) {m : Int} (h1 : Wf m) (h2 : rightU (U m) = true) (h3 : showS m = s) : n = m ∧ b = true := by
  rcases h with ⟨rfl, g1, g2, g3⟩ | ⟨rfl, rfl, g⟩
  · exact ⟨show_inj g1 h1 g2 h2 (g3.trans h3.symm), rfl⟩
  · exact (g m h1 h2 h3).elim
theorem rd_no {s : ByteArray} {n : Int} {b : Bool} (h : RdIs s n b) (h1 : ∀ m, Wf m → rightU (U m) = true → showS m ≠ s) : n = 0 ∧ b = false := by
  rcases h with ⟨rfl, g1, g2, g3⟩ | ⟨rfl, rfl, g⟩
  · exact (h1 n g1 g2 g3).elim
  · exact ⟨rfl, rfl⟩
theorem rd_wf {s : ByteArray} {n : Int} {b : Bool} (h : RdIs s n b) : Wf n := by
  rcases h with ⟨rfl, g1, _⟩ | ⟨rfl, rfl, _⟩
  · exact g1
  · unfold Wf; omega
/-- The text behind an 'x'. -/
def cutX (s : ByteArray) : ByteArray := ⟨(Lib.trimPrefix s.data.toList [120]).toArray⟩
theorem cut_hex (u : Int) : Lib.hasPrefix (txt (120 :: hexI 16 u)).data.toList [120] = true ∧ cutX (txt (120 :: hexI 16 u)) = txt (hexI 16 u) := by
  have e : (txt (120 :: hexI 16 u)).data.toList = 120 :: (hexI 16 u).map (fun n => UInt8.ofNat n.toNat) := rfl
  unfold cutX
  rw [e]
  constructor
  · rfl
  · rfl
end Go.Proofs.YtkogcobcjoojnaaGreatDoor.Fl

namespace Go.Proofs.YtkogcobcjoojnaaGreatDoor.Fl
open Go.RowKit Go.Maps
set_option linter.unusedVariables false
set_option linter.unusedSimpArgs false
/-- So many names are not the text. -/
def Nots (s : ByteArray) (i : Nat) : Prop := (1 ≤ i → showS 9221120237041090560 ≠ s) ∧ (2 ≤ i → showS 9218868437227405312 ≠ s) ∧ (3 ≤ i → showS (-4503599627370496) ≠ s) ∧ (4 ≤ i → showS 0 ≠ s) ∧ (5 ≤ i → showS (-9223372036854775808) ≠ s)
theorem cells5 {W : World} {B : Nat} {e : TypeId} {a0 a1 a2 a3 a4 : Value} (h : W.heap[B]? = some (.cells #[a0, a1, a2, a3, a4] e (0, 0))) : W.cell? ⟨B, 0, none⟩ = some a0 ∧ W.cell? ⟨B, 1, none⟩ = some a1 ∧ W.cell? ⟨B, 2, none⟩ = some a2 ∧ W.cell? ⟨B, 3, none⟩ = some a3 ∧ W.cell? ⟨B, 4, none⟩ = some a4 := by
  refine ⟨?_, ?_, ?_, ?_, ?_⟩ <;> simp [World.cell?, h]
theorem toList_inj {a b : ByteArray} (h : a.toList = b.toList) : a = b := by
  rw [ByteArray.toList_eq, ByteArray.toList_eq] at h
  exact ByteArray.ext (Array.toList_inj.1 h)
theorem lt_block {W : World} {B : Nat} {o : Obj} (h : W.heap[B]? = some o) : B < W.heap.size := by
  rcases Nat.lt_or_ge B W.heap.size with h1 | h1
  · exact h1
  · rw [Array.getElem?_eq_none h1] at h; cases h
structure Rd (w W : World) (e : TypeId) (a0 a1 a2 a3 a4 : Value) : Prop where
  blk : W.heap[w.heap.size]? = some (.cells #[a0, a1, a2, a3, a4] e (0, 0))
  bel : Below w.heap.size w W
theorem Rd.below {w W W' : World} {e : TypeId} {a0 a1 a2 a3 a4 : Value} (h : Rd w W e a0 a1 a2 a3 a4) (hb : Below W.heap.size W W') : Rd w W' e a0 a1 a2 a3 a4 := ⟨(hb.block _ (lt_block h.blk)).trans h.blk, h.bel.trans (hb.mono h.bel.size)⟩
theorem Rd.start (w : World) (e : TypeId) (a0 a1 a2 a3 a4 : Value) : Rd w (w.alloc (.cells #[a0, a1, a2, a3, a4] e)) e a0 a1 a2 a3 a4 := ⟨heap_alloc_new _ _, (Below.refl _ _).alloc (Nat.le_refl _) _⟩
set_option maxHeartbeats 4000000 in
set_option maxRecDepth 100000 in
theorem c_read (s : ByteArray) (hs : s.size ≤ 140737488351232) (w : World) (hg : Gl w) (n : Int) (b : Bool) (hr : RdIs s n b) :
    Calls Tryz.prog 184 #[.string s] w fun e w' => e = .returned (.tuple #[.int .i64 n, .bool b]) ∧ Below w.heap.size w w' := by
  have HR := Lib.hid hr
  have HG := Lib.hid hg
  have HS := Lib.hid hs
  have HST := Lib.hid (Rd.start w 142 (.int .u64 9221120237041090560) (.int .u64 9218868437227405312) (.int .u64 18442240474082181120) (.int .u64 0) (.int .u64 9223372036854775808))
  clear hr hg hs
  go_enter Tryz.func184, Tryz.ntmps184
  go_wp2
  generalize w.alloc (.cells #[.int .u64 9221120237041090560, .int .u64 9218868437227405312, .int .u64 18442240474082181120, .int .u64 0, .int .u64 9223372036854775808] 142) = w1 at HST ⊢
  go_loopw [13] (fun v13 W => ∃ i : Nat, i ≤ 5 ∧ v13 = .int .i64 i ∧ Hid (Nots s i) ∧ Hid (Rd w W 142 (.int .u64 9221120237041090560) (.int .u64 9218868437227405312) (.int .u64 18442240474082181120) (.int .u64 0) (.int .u64 9223372036854775808))) (fun v13 _ => 5 - (intOf v13).toNat)
  case atStart => exact ⟨0, by omega, rfl, Lib.hid (by unfold Nots; exact ⟨fun h => by omega, fun h => by omega, fun h => by omega, fun h => by omega, fun h => by omega⟩), HST⟩
  case round =>
    clear HST
    obtain ⟨i, hi, rfl, HN, HW⟩ := hrel
    obtain rfl | rfl | rfl | rfl | rfl | rfl : i = 0 ∨ i = 1 ∨ i = 2 ∨ i = 3 ∨ i = 4 ∨ i = 5 := by omega
    · obtain ⟨x0, x1, x2, x3, x4⟩ := cells5 HW.out.blk
      have C1 := Lib.hid (c_num 9221120237041090560 9221120237041090560 (by unfold wrap64; decide))
      have C2 := Lib.hid (fun W h => c_show 9221120237041090560 (by decide) _ rfl W h)
      have HGW := Lib.hid (HG.out.below HW.out.bel)
      obtain ⟨t, ht⟩ : ∃ t, showS 9221120237041090560 = t := ⟨_, rfl⟩
      rw [ht] at C2
      have HT := Lib.hid ht
      clear ht
      by_cases hq : t.toList = s.toList
      · have tq : (t.toList == s.toList) = true := by simp [hq]
        have HE := Lib.hid (rd_yes HR.out (m := 9221120237041090560) (by unfold Wf; decide) (by decide) (by rw [HT.out]; exact toList_inj hq))
        clear hq
        go_wp2_with (first | (go_at_call 198; ((with_reducible refine (C1.out _).mono ?_); rintro e w' ⟨rfl, rfl⟩)) | (go_at_call 153; ((with_reducible refine (C2.out _ HGW.out).mono ?_); rintro e w' ⟨rfl, hb⟩; have HB := Lib.hid (HW.out.below hb); clear hb x0 x1 x2 x3 x4)))
        go_ret2
        have hE := HE.out
        obtain ⟨rfl, rfl⟩ := hE
        exact ⟨rfl, HB.out.bel⟩
      · have tq : (t.toList == s.toList) = false := by simp [hq]
        have HNS := Lib.hid (show showS 9221120237041090560 ≠ s by rw [HT.out]; intro e; subst e; exact hq rfl)
        clear hq
        go_wp2_with (first | (go_at_call 198; ((with_reducible refine (C1.out _).mono ?_); rintro e w' ⟨rfl, rfl⟩)) | (go_at_call 153; ((with_reducible refine (C2.out _ HGW.out).mono ?_); rintro e w' ⟨rfl, hb⟩; have HB := Lib.hid (HW.out.below hb); clear hb x0 x1 x2 x3 x4)))
        go_roundw
        case rel => exact ⟨1, by omega, by go_num, Lib.hid ⟨fun _ => HNS.out, fun h => by omega, fun h => by omega, fun h => by omega, fun h => by omega⟩, HB⟩
        case measure => simp [intOf]
    · obtain ⟨x0, x1, x2, x3, x4⟩ := cells5 HW.out.blk
      have C1 := Lib.hid (c_num 9218868437227405312 9218868437227405312 (by unfold wrap64; decide))
      have C2 := Lib.hid (fun W h => c_show 9218868437227405312 (by decide) _ rfl W h)
      have HGW := Lib.hid (HG.out.below HW.out.bel)
      obtain ⟨t, ht⟩ : ∃ t, showS 9218868437227405312 = t := ⟨_, rfl⟩
      rw [ht] at C2
      have HT := Lib.hid ht
      clear ht
      by_cases hq : t.toList = s.toList
      · have tq : (t.toList == s.toList) = true := by simp [hq]
        have HE := Lib.hid (rd_yes HR.out (m := 9218868437227405312) (by unfold Wf; decide) (by decide) (by rw [HT.out]; exact toList_inj hq))
        clear hq
        go_wp2_with (first | (go_at_call 198; ((with_reducible refine (C1.out _).mono ?_); rintro e w' ⟨rfl, rfl⟩)) | (go_at_call 153; ((with_reducible refine (C2.out _ HGW.out).mono ?_); rintro e w' ⟨rfl, hb⟩; have HB := Lib.hid (HW.out.below hb); clear hb x0 x1 x2 x3 x4)))
        go_ret2
        have hE := HE.out
        obtain ⟨rfl, rfl⟩ := hE
        exact ⟨rfl, HB.out.bel⟩
      · have tq : (t.toList == s.toList) = false := by simp [hq]
        have HNS := Lib.hid (show showS 9218868437227405312 ≠ s by rw [HT.out]; intro e; subst e; exact hq rfl)
        clear hq
        go_wp2_with (first | (go_at_call 198; ((with_reducible refine (C1.out _).mono ?_); rintro e w' ⟨rfl, rfl⟩)) | (go_at_call 153; ((with_reducible refine (C2.out _ HGW.out).mono ?_); rintro e w' ⟨rfl, hb⟩; have HB := Lib.hid (HW.out.below hb); clear hb x0 x1 x2 x3 x4)))
        go_roundw
        case rel => exact ⟨2, by omega, by go_num, Lib.hid ⟨fun _ => HN.out.1 (by omega), fun _ => HNS.out, fun h => by omega, fun h => by omega, fun h => by omega⟩, HB⟩
        case measure => simp [intOf]
    · obtain ⟨x0, x1, x2, x3, x4⟩ := cells5 HW.out.blk
      have C1 := Lib.hid (c_num 18442240474082181120 (-4503599627370496) (by unfold wrap64; decide))
      have C2 := Lib.hid (fun W h => c_show (-4503599627370496) (by decide) _ rfl W h)
      have HGW := Lib.hid (HG.out.below HW.out.bel)
      obtain ⟨t, ht⟩ : ∃ t, showS (-4503599627370496) = t := ⟨_, rfl⟩
      rw [ht] at C2
      have HT := Lib.hid ht
      clear ht
      by_cases hq : t.toList = s.toList
      · have tq : (t.toList == s.toList) = true := by simp [hq]
        have HE := Lib.hid (rd_yes HR.out (m := (-4503599627370496)) (by unfold Wf; decide) (by decide) (by rw [HT.out]; exact toList_inj hq))
        clear hq
        go_wp2_with (first | (go_at_call 198; ((with_reducible refine (C1.out _).mono ?_); rintro e w' ⟨rfl, rfl⟩)) | (go_at_call 153; ((with_reducible refine (C2.out _ HGW.out).mono ?_); rintro e w' ⟨rfl, hb⟩; have HB := Lib.hid (HW.out.below hb); clear hb x0 x1 x2 x3 x4)))
        go_ret2
        have hE := HE.out
        obtain ⟨rfl, rfl⟩ := hE
        exact ⟨rfl, HB.out.bel⟩
      · have tq : (t.toList == s.toList) = false := by simp [hq]
        have HNS := Lib.hid (show showS (-4503599627370496) ≠ s by rw [HT.out]; intro e; subst e; exact hq rfl)
        clear hq
        go_wp2_with (first | (go_at_call 198; ((with_reducible refine (C1.out _).mono ?_); rintro e w' ⟨rfl, rfl⟩)) | (go_at_call 153; ((with_reducible refine (C2.out _ HGW.out).mono ?_); rintro e w' ⟨rfl, hb⟩; have HB := Lib.hid (HW.out.below hb); clear hb x0 x1 x2 x3 x4)))
        go_roundw
        case rel => exact ⟨3, by omega, by go_num, Lib.hid ⟨fun _ => HN.out.1 (by omega), fun _ => HN.out.2.1 (by omega), fun _ => HNS.out, fun h => by omega, fun h => by omega⟩, HB⟩
        case measure => simp [intOf]
    · obtain ⟨x0, x1, x2, x3, x4⟩ := cells5 HW.out.blk
      have C1 := Lib.hid (c_num 0 0 (by unfold wrap64; decide))
      have C2 := Lib.hid (fun W h => c_show 0 (by decide) _ rfl W h)
      have HGW := Lib.hid (HG.out.below HW.out.bel)
      obtain ⟨t, ht⟩ : ∃ t, showS 0 = t := ⟨_, rfl⟩
      rw [ht] at C2
      have HT := Lib.hid ht
      clear ht
      by_cases hq : t.toList = s.toList
      · have tq : (t.toList == s.toList) = true := by simp [hq]
        have HE := Lib.hid (rd_yes HR.out (m := 0) (by unfold Wf; decide) (by decide) (by rw [HT.out]; exact toList_inj hq))
        clear hq
        go_wp2_with (first | (go_at_call 198; ((with_reducible refine (C1.out _).mono ?_); rintro e w' ⟨rfl, rfl⟩)) | (go_at_call 153; ((with_reducible refine (C2.out _ HGW.out).mono ?_); rintro e w' ⟨rfl, hb⟩; have HB := Lib.hid (HW.out.below hb); clear hb x0 x1 x2 x3 x4)))
        go_ret2
        have hE := HE.out
        obtain ⟨rfl, rfl⟩ := hE
        exact ⟨rfl, HB.out.bel⟩
      · have tq : (t.toList == s.toList) = false := by simp [hq]
        have HNS := Lib.hid (show showS 0 ≠ s by rw [HT.out]; intro e; subst e; exact hq rfl)
        clear hq
        go_wp2_with (first | (go_at_call 198; ((with_reducible refine (C1.out _).mono ?_); rintro e w' ⟨rfl, rfl⟩)) | (go_at_call 153; ((with_reducible refine (C2.out _ HGW.out).mono ?_); rintro e w' ⟨rfl, hb⟩; have HB := Lib.hid (HW.out.below hb); clear hb x0 x1 x2 x3 x4)))
        go_roundw
        case rel => exact ⟨4, by omega, by go_num, Lib.hid ⟨fun _ => HN.out.1 (by omega), fun _ => HN.out.2.1 (by omega), fun _ => HN.out.2.2.1 (by omega), fun _ => HNS.out, fun h => by omega⟩, HB⟩
        case measure => simp [intOf]
    · obtain ⟨x0, x1, x2, x3, x4⟩ := cells5 HW.out.blk
      have C1 := Lib.hid (c_num 9223372036854775808 (-9223372036854775808) (by unfold wrap64; decide))
      have C2 := Lib.hid (fun W h => c_show (-9223372036854775808) (by decide) _ rfl W h)
      have HGW := Lib.hid (HG.out.below HW.out.bel)
      obtain ⟨t, ht⟩ : ∃ t, showS (-9223372036854775808) = t := ⟨_, rfl⟩
      rw [ht] at C2
      have HT := Lib.hid ht
      clear ht
      by_cases hq : t.toList = s.toList
      · have tq : (t.toList == s.toList) = true := by simp [hq]
        have HE := Lib.hid (rd_yes HR.out (m := (-9223372036854775808)) (by unfold Wf; decide) (by decide) (by rw [HT.out]; exact toList_inj hq))
        clear hq
        go_wp2_with (first | (go_at_call 198; ((with_reducible refine (C1.out _).mono ?_); rintro e w' ⟨rfl, rfl⟩)) | (go_at_call 153; ((with_reducible refine (C2.out _ HGW.out).mono ?_); rintro e w' ⟨rfl, hb⟩; have HB := Lib.hid (HW.out.below hb); clear hb x0 x1 x2 x3 x4)))
        go_ret2
        have hE := HE.out
        obtain ⟨rfl, rfl⟩ := hE
        exact ⟨rfl, HB.out.bel⟩
      · have tq : (t.toList == s.toList) = false := by simp [hq]
        have HNS := Lib.hid (show showS (-9223372036854775808) ≠ s by rw [HT.out]; intro e; subst e; exact hq rfl)
        clear hq
        go_wp2_with (first | (go_at_call 198; ((with_reducible refine (C1.out _).mono ?_); rintro e w' ⟨rfl, rfl⟩)) | (go_at_call 153; ((with_reducible refine (C2.out _ HGW.out).mono ?_); rintro e w' ⟨rfl, hb⟩; have HB := Lib.hid (HW.out.below hb); clear hb x0 x1 x2 x3 x4)))
        go_roundw
        case rel => exact ⟨5, by omega, by go_num, Lib.hid ⟨fun _ => HN.out.1 (by omega), fun _ => HN.out.2.1 (by omega), fun _ => HN.out.2.2.1 (by omega), fun _ => HN.out.2.2.2.1 (by omega), fun _ => HNS.out⟩, HB⟩
        case measure => simp [intOf]
    · have HX := Lib.hid (show ∀ m, Wf m → rightU (U m) = true → showS m = s → Lib.hasPrefix s.data.toList [120] = true ∧ cutX s = txt (hexI 16 (U m)) from fun m h1 h2 h3 => by
        have h4 : ¬ Named m := by
          rintro (rfl | rfl | rfl | rfl | rfl)
          · exact HN.out.1 (by omega) h3
          · exact HN.out.2.1 (by omega) h3
          · exact HN.out.2.2.1 (by omega) h3
          · exact HN.out.2.2.2.1 (by omega) h3
          · exact HN.out.2.2.2.2 (by omega) h3
        rw [← h3, show_hex h2 h4]
        exact cut_hex _)
      have C1 := Lib.hid (fun W => Tryz.strings_CutPrefix s ⟨#[120]⟩ W)
      have hsz : (cutX s).size ≤ 140737488351232 := by
        have h1 : (cutX s).size ≤ s.size := by
          unfold cutX Lib.trimPrefix
          show (if _ then _ else _ : List UInt8).toArray.size ≤ s.data.size
          rw [List.size_toArray, ← Array.length_toList]
          split <;> simp
        have := HS.out
        omega
      have HGW := Lib.hid (HG.out.below HW.out.bel)
      have C2 := Lib.hid (c_puint (cutX s) hsz wr HGW.out)
      clear hsz
      go_wp2_with fail
      refine (C1.out _).mono ?_
      rintro e w' ⟨rfl, hw⟩
      obtain rfl : w' = wr := hw
      rw [show (⟨(Lib.trimPrefix s.data.toList (#[120] : Array UInt8).toList).toArray⟩ : ByteArray) = cutX s from rfl]
      go_wp2_with fail
      refine C2.out.mono ?_
      rintro e w2 ⟨x, v, h0, h1, rfl, hv, hx, hb⟩
      have HB := Lib.hid (HW.out.below hb)
      have HXB := Lib.hid (⟨h0, h1⟩ : 0 ≤ x ∧ x < 18446744073709551616)
      have HHX := Lib.hid hx
      have HG2 := Lib.hid (HGW.out.below hb)
      clear hb h0 h1 hx C1 C2 HGW HW
      cases hp : Lib.hasPrefix s.data.toList [120] with
      | false =>
        have HE := Lib.hid (rd_no HR.out (fun m h1 h2 h3 => by have := (HX.out m h1 h2 h3).1; rw [hp] at this; cases this))
        clear hp
        go_wp2_with fail
        go_ret2
        have hE := HE.out
        obtain ⟨rfl, rfl⟩ := hE
        exact ⟨rfl, HB.out.bel⟩
      | true =>
        have HPF := Lib.hid hp
        clear hp
        rcases hv with rfl | ⟨tp, p, rfl⟩
        · obtain ⟨n2, hn2⟩ : ∃ n2, wrap64 x = n2 := ⟨_, rfl⟩
          have hwf : Wf n2 := by rw [← hn2]; unfold wrap64 Wf; omega
          have HU2 := Lib.hid (show U n2 = x by rw [← hn2]; exact U_wrap HXB.out)
          have C3 := Lib.hid (fun W h => c_show n2 hwf _ rfl W h)
          have HWF := Lib.hid hwf
          obtain ⟨t, ht⟩ : ∃ t, showS n2 = t := ⟨_, rfl⟩
          rw [ht] at C3
          have HT := Lib.hid ht
          clear ht hwf
          by_cases hq : t.toList = s.toList
          · have tq : (t.toList == s.toList) = true := by simp [hq]
            have HE := Lib.hid (rd_yes HR.out (m := n2) HWF.out (by
              cases hr : rightU (U n2) with
              | true => rfl
              | false =>
                exfalso
                have e1 : showS n2 = ⟨#[63]⟩ := by unfold showS; rw [if_pos hr]
                have e2 : s = ⟨#[63]⟩ := by rw [← toList_inj hq, ← HT.out, e1]
                have e3 := HPF.out
                rw [e2] at e3
                revert e3
                decide) (by rw [HT.out]; exact toList_inj hq))
            clear hq
            go_wp2_with (go_at_call 153; ((with_reducible refine (C3.out _ HG2.out).mono ?_); rintro e w3 ⟨rfl, hb⟩; have HB3 := Lib.hid (HB.out.below hb); clear hb))
            go_ret2
            have hE := HE.out
            obtain ⟨rfl, rfl⟩ := hE
            exact ⟨rfl, HB3.out.bel⟩
          · have tq : (t.toList == s.toList) = false := by simp [hq]
            have HE := Lib.hid (rd_no HR.out (fun m h1 h2 h3 => by
              have h4 := (HX.out m h1 h2 h3).2
              have h5 := (HHX.out (U m) ⟨h4, U_bd m⟩).1
              have h6 : n2 = m := U_inj HWF.out h1 (by rw [HU2.out, h5])
              subst h6
              rw [HT.out] at h3
              exact hq (by rw [h3])))
            clear hq
            go_wp2_with (go_at_call 153; ((with_reducible refine (C3.out _ HG2.out).mono ?_); rintro e w3 ⟨rfl, hb⟩; have HB3 := Lib.hid (HB.out.below hb); clear hb))
            go_ret2
            have hE := HE.out
            obtain ⟨rfl, rfl⟩ := hE
            exact ⟨rfl, HB3.out.bel⟩
        · have HE := Lib.hid (rd_no HR.out (fun m h1 h2 h3 => by
            have h4 := (HX.out m h1 h2 h3).2
            have h5 := (HHX.out (U m) ⟨h4, U_bd m⟩).2
            cases h5))
          go_wp2_with fail
          go_ret2
          have hE := HE.out
          obtain ⟨rfl, rfl⟩ := hE
          exact ⟨rfl, HB.out.bel⟩
end Go.Proofs.YtkogcobcjoojnaaGreatDoor.Fl

namespace Go.Proofs.YtkogcobcjoojnaaGreatDoor.Fl
open Go.RowKit Go.Maps
set_option linter.unusedVariables false
set_option linter.unusedSimpArgs false
theorem str_at (s : ByteArray) (i : Nat) (h : i < s.size) (w : World) : (Instr.index 9 (.string s) (.int .i64 (i : Int))).run Tryz.prog w = .ok (.int .u8 ((byt s).getD i 0)) w := by
  rw [run_index_string (h := Tryz.underlying9)]
  rw [dif_pos (by omega)]
  have hk' : i < s.data.toList.length := by rw [Array.length_toList]; exact h
  simp only [byt, List.getD_eq_getElem?_getD, List.getElem?_map, List.getElem?_eq_getElem hk', Option.map_some, Option.getD_some, Array.getElem_toList, Int.toNat_natCast]
  rfl
end Go.Proofs.YtkogcobcjoojnaaGreatDoor.Fl

namespace Go.Proofs.YtkogcobcjoojnaaGreatDoor.Fl
open Go.RowKit Go.Maps
set_option linter.unusedVariables false
set_option linter.unusedSimpArgs false
/-- What is read of the library's variables. -/
structure Gv (w : World) : Prop where
  gl : Gl w
  p10 : Lib.TabIs Tryz.prog w "internal/strconv.uint64pow10" .u64 Lib.pow10Tab
  u8 : Lib.Utf8Tabs 0 1 w
  ml : ∃ m, w.cell? ⟨2, 0, none⟩ = some (.int .i64 m)
theorem Gv.below {w w' : World} (h : Gv w) (hb : Below w.heap.size w w') : Gv w' := by
  refine ⟨h.gl.below hb, Joins.tab_stays (g := 5) (by kernel_rfl) h.p10 hb (Nat.le_refl _), Utf8Tabs_below h.u8 hb, ?_⟩
  obtain ⟨m, hm⟩ := h.ml
  exact ⟨m, (hb.cell (World.block_lt_of_cell? w _ hm)).trans hm⟩
/-- A value. -/
def vv (k n : Int) (s : ByteArray) : Value := .agg #[.int .i64 k, .int .i64 n, .string s]
/-- Is a value right? -/
def rightV (k n : Int) (s : ByteArray) : Bool :=
  if k = 1 then s.toList.isEmpty else if k = 4 then (s.toList.isEmpty) && (n == 0 || n == 1) else if k = 5 then (s.toList.isEmpty) && rightU (U n)
  else if k = 2 then (n == 0) && decide (s.size ≤ 32) else if k = 3 then (n == 0) && decide (s.size ≤ 32) && Lib.validD s.data.toList else false
theorem kinds (k : Int) : k = 1 ∨ k = 4 ∨ k = 5 ∨ k = 2 ∨ k = 3 ∨ (¬ k = 1 ∧ ¬ k = 4 ∧ ¬ k = 5 ∧ ¬ k = 2 ∧ ¬ k = 3) := by omega
theorem b_one (n : Int) (hn : Wf n) : (bits .andNot .i64 n 1 == 0) = (n == 0 || n == 1) := by
  unfold bits
  rw [Bool.eq_iff_iff, Bool.or_eq_true, beq_iff_eq, beq_iff_eq, beq_iff_eq]
  show IntKind.i64.wrap ((BitVec.ofInt 64 n &&& ~~~ BitVec.ofInt 64 1).toNat : Int) = 0 ↔ _
  have e : ~~~ BitVec.ofInt 64 1 = BitVec.ofNat 64 (2 ^ 64 - 2) := by decide
  obtain ⟨v, hv⟩ : ∃ v : BitVec 64, BitVec.ofInt 64 n = v := ⟨_, rfl⟩
  have hn2 : (v.toNat : Int) = n % 18446744073709551616 := by
    rw [← hv, BitVec.toNat_ofInt]
    omega
  rw [hv, e, BitVec.toNat_and, BitVec.toNat_ofNat, IntKind.wrap_i64]
  have e2 : (2 ^ 64 - 2) % 2 ^ 64 = 18446744073709551614 := by decide
  rw [e2]
  have hlt : v.toNat < 18446744073709551616 := v.isLt
  have h1 : (v.toNat &&& 18446744073709551614) / 2 ^ 1 = v.toNat / 2 ^ 1 &&& 18446744073709551614 / 2 ^ 1 := Nat.and_div_two_pow ..
  have h2 : v.toNat / 2 ^ 1 &&& 18446744073709551614 / 2 ^ 1 = v.toNat / 2 := by
    rw [show 18446744073709551614 / 2 ^ 1 = 2 ^ 63 - 1 by decide, Nat.and_two_pow_sub_one_eq_mod]
    omega
  rw [h2] at h1
  have h3 : v.toNat &&& 18446744073709551614 ≤ 18446744073709551614 := Nat.and_le_right
  have h4 : (v.toNat &&& 18446744073709551614) % 2 = 0 := by
    have h5 : (v.toNat &&& 18446744073709551614) % 2 ^ 1 = v.toNat % 2 ^ 1 &&& 18446744073709551614 % 2 ^ 1 := Nat.and_mod_two_pow ..
    rw [show 18446744073709551614 % 2 ^ 1 = 0 by decide, Nat.and_zero] at h5
    omega
  unfold Wf at hn
  generalize v.toNat &&& 18446744073709551614 = q at *
  omega
theorem c_valid (s : ByteArray) (w : World) (hs : s.size ≤ 9223372036854775807) (hT : Lib.Utf8Tabs 0 1 w) : Calls Tryz.prog 89 #[.string s] w fun e w' => e = .returned (.bool (Lib.validD s.data.toList)) ∧ Below w.heap.size w w' := Tryz.utf8_ValidString s w hs hT
set_option maxHeartbeats 4000000 in
set_option maxRecDepth 100000 in
theorem c_vright (k n : Int) (s : ByteArray) (hn : Wf n) (hs : s.size ≤ 9223372036854775807) (b : Bool) (hb : rightV k n s = b) (w : World) (hg : Gv w) :
    Calls Tryz.prog 53 #[vv k n s] w fun e w' => e = .returned (.bool b) ∧ Below w.heap.size w w' := by
  unfold rightV at hb
  unfold vv
  have HB := Lib.hid ((Below.refl w.heap.size w).alloc (Nat.le_refl _) (.cells #[.int .i64 k, .int .i64 n, .string s] 30))
  have HG := Lib.hid hg
  clear hg
  rcases kinds k with rfl | rfl | rfl | rfl | rfl | ⟨h1, h2, h3, h4, h5⟩
  · rw [if_pos rfl] at hb
    go_enter Tryz.func53, Tryz.ntmps53
    go_wp2
    go_ret
    exact ⟨rfl, HB.out⟩
  · rw [if_neg (by decide), if_pos rfl, ← b_one n hn] at hb
    cases he : s.toList.isEmpty with
    | true =>
      rw [he, Bool.true_and] at hb
      subst hb
      go_enter Tryz.func53, Tryz.ntmps53
      go_wp2
      go_ret
      exact ⟨rfl, HB.out⟩
    | false =>
      rw [he, Bool.false_and] at hb
      subst hb
      go_enter Tryz.func53, Tryz.ntmps53
      go_wp2
      go_ret
      exact ⟨rfl, HB.out⟩
  · rw [if_neg (by decide), if_neg (by decide), if_pos rfl] at hb
    have C1 := Lib.hid (c_right n _ rfl)
    cases he : s.toList.isEmpty with
    | true =>
      rw [he, Bool.true_and] at hb
      rw [hb] at C1
      go_enter Tryz.func53, Tryz.ntmps53
      go_wp2_with (go_at_call 88; ((with_reducible refine (C1.out _).mono ?_); rintro e w' ⟨rfl, rfl⟩))
      go_ret
      exact ⟨rfl, HB.out⟩
    | false =>
      rw [he, Bool.false_and] at hb
      subst hb
      clear C1
      go_enter Tryz.func53, Tryz.ntmps53
      go_wp2
      go_ret
      exact ⟨rfl, HB.out⟩
  · rw [if_neg (by decide), if_neg (by decide), if_neg (by decide), if_pos rfl] at hb
    cases hz : (n == 0) with
    | true =>
      rw [hz, Bool.true_and] at hb
      have hd : decide ((s.size : Int) ≤ 32) = b := by rw [← hb]; simp; omega
      cases b with
      | true =>
        go_enter Tryz.func53, Tryz.ntmps53
        go_wp2
        go_ret
        exact ⟨rfl, HB.out⟩
      | false =>
        go_enter Tryz.func53, Tryz.ntmps53
        go_wp2
        go_ret
        exact ⟨rfl, HB.out⟩
    | false =>
      rw [hz, Bool.false_and] at hb
      subst hb
      go_enter Tryz.func53, Tryz.ntmps53
      go_wp2
      go_ret
      exact ⟨rfl, HB.out⟩
  · rw [if_neg (by decide), if_neg (by decide), if_neg (by decide), if_neg (by decide), if_pos rfl] at hb
    cases hz : (n == 0) with
    | true =>
      rw [hz, Bool.true_and] at hb
      by_cases h32 : s.size ≤ 32
      · rw [decide_eq_true h32, Bool.true_and] at hb
        have hd : decide ((s.size : Int) ≤ 32) = true := by simp; omega
        have C1 := Lib.hid (fun W => c_valid s W hs)
        rw [hb] at C1
        have HG2 := Lib.hid (HG.out.below HB.out)
        go_enter Tryz.func53, Tryz.ntmps53
        go_wp2_with (go_at_call 89; ((with_reducible refine (C1.out _ HG2.out.u8).mono ?_); rintro e w' ⟨rfl, hb⟩; have HB2 := Lib.hid (HB.out.trans (hb.mono HB.out.size)); clear hb))
        go_ret
        exact ⟨rfl, HB2.out⟩
      · rw [decide_eq_false h32, Bool.false_and] at hb
        subst hb
        have hd : decide ((s.size : Int) ≤ 32) = false := by simp; omega
        go_enter Tryz.func53, Tryz.ntmps53
        go_wp2
        go_ret
        exact ⟨rfl, HB.out⟩
    | false =>
      rw [hz, Bool.false_and, Bool.false_and] at hb
      subst hb
      go_enter Tryz.func53, Tryz.ntmps53
      go_wp2
      go_ret
      exact ⟨rfl, HB.out⟩
  · rw [if_neg h1, if_neg h2, if_neg h3, if_neg h4, if_neg h5] at hb
    subst hb
    have q1 : (k == 1) = false := by simp [h1]
    have q2 : (k == 4) = false := by simp [h2]
    have q3 : (k == 5) = false := by simp [h3]
    have q4 : (k == 2) = false := by simp [h4]
    have q5 : (k == 3) = false := by simp [h5]
    clear h1 h2 h3 h4 h5
    go_enter Tryz.func53, Tryz.ntmps53
    go_wp2
    go_ret
    exact ⟨rfl, HB.out⟩
end Go.Proofs.YtkogcobcjoojnaaGreatDoor.Fl

namespace Go.Proofs.YtkogcobcjoojnaaGreatDoor.Fl
open Go.RowKit Go.Maps
set_option linter.unusedVariables false
set_option linter.unusedSimpArgs false
/-- Texts' order. -/
def cmpB (a b : ByteArray) : Int := Lib.compareBytes a.data.toList b.data.toList
theorem cells3 {W : World} {B : Nat} {e : TypeId} {a0 a1 a2 : Value} (h : W.heap[B]? = some (.cells #[a0, a1, a2] e (0, 0))) : W.cell? ⟨B, 0, none⟩ = some a0 ∧ W.cell? ⟨B, 1, none⟩ = some a1 ∧ W.cell? ⟨B, 2, none⟩ = some a2 := by
  simp [World.cell?, h]
end Go.Proofs.YtkogcobcjoojnaaGreatDoor.Fl

namespace Go.Proofs.YtkogcobcjoojnaaGreatDoor.Fl
open Go.RowKit Go.Maps
set_option linter.unusedVariables false
set_option linter.unusedSimpArgs false
theorem run_storeCells_E (P : Program) (g o : Nat) (t : TypeId) (n : Nat) : ∀ (vs : List Value) (i : Nat) (cur : Array Value) (w : World), w.heap[g]? = some (.cells cur t (n, n + 1)) → cur.size = n → o + i + vs.length ≤ cur.size → (∀ v ∈ vs, v.oneCell' = true) →
    (storeCells ⟨g, o, none⟩ vs i).run P w = .ok () (w.setRow g (cur.toList.take (o + i) ++ vs ++ cur.toList.drop (o + i + vs.length)).toArray)
  | [], i, cur, w, hg, _, _, _ => by
    simp only [storeCells, List.append_nil, List.length_nil, Nat.add_zero, List.take_append_drop, Array.toArray_toList]
    rw [setRow_self w g cur t _ hg]
    rfl
  | v :: rest, i, cur, w, hg, hn, hl, h1 => by
    have hi : o + i < cur.size := by simp at hl; omega
    have hadd : (⟨g, o, none⟩ : Addr).add i = ⟨g, o + i, none⟩ := by unfold Addr.add; split <;> simp_all
    have hcell : w.cell? ⟨g, o + i, none⟩ = some cur[o + i] := by simp [World.cell?, hg, hi]
    have hfro : w.frozen? ⟨g, o + i, none⟩ = false := by
      simp only [World.frozen?, hg, Bool.and_eq_false_iff, decide_eq_false_iff_not]
      left
      omega
    have hst : (store ((⟨g, o, none⟩ : Addr).add i) v).run P w = .ok () (w.setRow g (cur.setIfInBounds (o + i) v)) := by
      rw [hadd, run_store P w _ v _ (h1 v (by simp)), hcell]
      simp [hfro, setCell_eq_setRow w g (o + i) cur t _ v hg]
    have ih := run_storeCells_E P g o t n rest (i + 1) (cur.setIfInBounds (o + i) v) (w.setRow g (cur.setIfInBounds (o + i) v)) (setRow_heap w g cur _ t _ hg) (by simp; exact hn) (by simp at hl ⊢; omega) (fun x hx => h1 x (by simp [hx]))
    simp only [storeCells, Sem.run_bind, hst, Result.andThen_ok, ih, setRow_setRow]
    congr 3
    have e := list_seg_step cur.toList (o + i) v rest (by simp at hl ⊢; omega)
    simpa [Nat.add_assoc, Nat.add_comm, Nat.add_left_comm] using e
/-- A row of bytes of one's own, from block B on. -/
def OwnB (W : World) (B : Nat) (v : Value) (l : List Int) : Prop :=
  W.ownsRow B 5 1 v l.length (l.map (.int .u8)) ∨
  ∃ g cap cur, v = .slice (some ⟨g, 0, none⟩) l.length cap ∧ B ≤ g ∧ W.heap[g]? = some (.cells cur 5 (cap, cap + 1)) ∧ l.length ≤ cap ∧ cap ≤ maxLen ∧ cur.size = cap ∧ cur.toList.take l.length = l.map (.int .u8)
/-- Bytes that are read from somewhere. -/
def SrcB (w : World) (v : Value) (l : List Int) : Prop := ∃ ad c, v = .slice (some ad) l.length c ∧ ∀ k, k < l.length → w.cell? (ad.add k) = some (.int .u8 (l.getD k 0))
theorem OwnB.nil (w : World) (B : Nat) : OwnB w B (.slice none 0 0) [] := Or.inl (World.ownsRow_nil w B _ 1)
theorem map_at {l : List Int} {j : Nat} {u : Value} (h : (l.map (Value.int .u8))[j]? = some u) : j < l.length ∧ u = .int .u8 (l.getD j 0) := by
  rw [List.getElem?_map] at h
  cases e : l[j]? with
  | none => rw [e] at h; cases h
  | some x =>
    rw [e] at h
    have hj := (List.getElem?_eq_some_iff.1 e).1
    refine ⟨hj, ?_⟩
    rw [List.getD_eq_getElem?_getD, e]
    exact (Option.some.inj h).symm
theorem at_map {l : List Int} {j : Nat} (h : j < l.length) : (l.map (Value.int .u8))[j]? = some (.int .u8 (l.getD j 0)) := by
  rw [List.getElem?_map, List.getD_eq_getElem?_getD, List.getElem?_eq_getElem h]
  rfl
theorem OwnB.has {w : World} {B : Nat} {v : Value} {l : List Int} (h : OwnB w B v l) : HasB w v l := by
  rcases h with h | ⟨g, cap, cur, rfl, hb, hg, hn, hm, hs, ht⟩
  · exact HasB.own h
  · refine ⟨_, cap, rfl, hn, fun k hk => ⟨_, rfl, ?_⟩⟩
    have h1 := at_map hk
    rw [← ht, List.getElem?_take_of_lt hk] at h1
    rw [add_plain]
    simp only [World.cell?, hg]
    rw [← Array.getElem?_toList, h1]
    rfl
theorem infoB : (Tryz.prog.info? 5).map (fun i => (i.zero, i.size, i.bytes)) = some (some (.int .u8 0), 1, 1) := by kernel_rfl
theorem grown_below {w w' : World} {B : Nat} {v : Value} {l : List Int} (h : OwnB w B v l) (hB : B ≤ w.heap.size) (hg : w.grownBy w' v.ownBlock) : Below B w w' := by
  refine ⟨hg.os, hg.tape, hg.output, hg.size, fun k hk => hg.block k (by omega) (fun e => ?_)⟩
  rcases h with h | ⟨g, cap, cur, rfl, hb, _⟩
  · rcases h.2 with ⟨rfl, _⟩ | ⟨g, cap, cur, rfl, hb, _⟩
    · cases e
    · have : k = g := by simpa [Value.ownBlock] using e
      omega
  · have : k = g := by simpa [Value.ownBlock] using e
    omega
theorem run_append_b (w : World) (B : Nat) (t ty : TypeId) (ht : Tryz.prog.underlying t = some (.slice 5)) (v v2 : Value) (l l2 : List Int) (hown : OwnB w B v l) (hsrc : SrcB w v2 l2) (hlen : l.length + l2.length ≤ 140737488355328) (hB : B ≤ w.heap.size) :
    ∃ v' w', (Builtin.append_ #[t, t] ty #[v, v2]).run Tryz.prog w = .ok v' w' ∧ OwnB w' B v' (l ++ l2) ∧ w.grownBy w' v.ownBlock ∧ (v'.ownBlock = v.ownBlock ∨ v'.ownBlock = some w.heap.size) := by
  obtain ⟨i0, hi, hz0, hz1, hz2⟩ := info_parts infoB
  obtain ⟨ad, c, rfl, hsrc⟩ := hsrc
  have hnews : ∀ j u, (l2.map (Value.int .u8))[j]? = some u → w.cell? (ad.add j) = some u := fun j u hj => by
    obtain ⟨h1, rfl⟩ := map_at hj
    exact hsrc j h1
  have h1 : ∀ u ∈ l2.map (Value.int .u8), u.oneCell' = true := fun u hu => by
    obtain ⟨x, _, rfl⟩ := List.mem_map.1 hu
    rfl
  rcases hown with hown | ⟨g, cap, cur, rfl, hbg, hg, hn, hm, hs, htk⟩
  · obtain ⟨v', w', hr, h2, h3, h4, h5⟩ := run_append_own_at (P := Tryz.prog) w B t ty 5 i0 (.int .u8 0) 1 1 ht hi hz0 hz1 hz2 rfl (by decide) v l.length _ hown ad l2.length c (l2.map (Value.int .u8)) (by simp) hnews h1 (by unfold maxLen; omega) (by omega) hB
    refine ⟨v', w', hr, Or.inl ?_, h3, h5⟩
    rw [List.length_append, List.map_append]
    exact h2
  · by_cases hroom : l.length + l2.length ≤ cap
    · have hf := run_firstCells_some (P := Tryz.prog) w i0.size l2.length ad l2.length c (l2.map (Value.int .u8)) (by rw [hz1]; simp) hnews
      have hst := run_storeCells_E Tryz.prog g l.length 5 cap (l2.map (Value.int .u8)) 0 cur w hg hs (by simp; omega) h1
      simp only [Nat.add_zero] at hst
      refine ⟨.slice (some ⟨g, 0, none⟩) (l.length + l2.length) cap, w.setRow g (cur.toList.take l.length ++ l2.map (Value.int .u8) ++ cur.toList.drop (l.length + (l2.map (Value.int .u8)).length)).toArray, ?_, Or.inr ⟨g, cap, _, by rw [List.length_append], hbg, setRow_heap w g cur _ 5 _ hg, by rw [List.length_append]; exact hroom, hm, ?_, ?_⟩, ⟨rfl, rfl, rfl, by simp, fun k _ hk => setRow_other w g k _ (fun e => hk (by simp [Value.ownBlock, e]))⟩, Or.inl rfl⟩
      · rw [hz1] at hf
        simp [Builtin.append_, run_underlying ht, sizeOf, typeInfo, hi, Builtin.lenOf, hroom, hf, hz1, Addr.add_lit, hst]
      · simp only [List.size_toArray, List.length_append, List.length_take, List.length_drop, Array.length_toList, List.length_map]
        omega
      · rw [htk, List.length_append, List.map_append]
        have e : (l.map (Value.int .u8) ++ l2.map (Value.int .u8)).length = l.length + l2.length := by simp
        rw [← e]
        exact List.take_left
    · have holds : ∀ j u, (l.map (Value.int .u8))[j]? = some u → w.cell? ((⟨g, 0, none⟩ : Addr).add j) = some u := fun j u hj => by
        obtain ⟨hlt, rfl⟩ := map_at hj
        rw [← htk, List.getElem?_take_of_lt hlt] at hj
        rw [add_plain]
        simp only [World.cell?, hg]
        rw [← Array.getElem?_toList, hj]
        rfl
      have hr := run_append_grow (P := Tryz.prog) w t ty 5 i0 (.int .u8 0) ht hi hz0 ⟨g, 0, none⟩ l.length cap (l.map (Value.int .u8)) (by rw [hz1]; simp) holds ad l2.length c (l2.map (Value.int .u8)) (by rw [hz1]; simp) hnews (by omega) (by omega) (growslice_fits (by omega) (by rw [hz2]; omega))
      have hge := grownCap_ge w (l.length + l2.length) cap 5
      have hcm2 : grownCap w (l.length + l2.length) cap 5 ≤ maxLen := grownCap_le_maxLen w (l.length + l2.length) cap 5 (by unfold maxLen; omega)
      refine ⟨_, _, hr, Or.inl ⟨by simp, .inr ⟨w.heap.size, _, _, by rw [List.length_append], hB, heap_alloc_new w.drew _, by rw [List.length_append]; exact hge, hcm2, ?_, ?_⟩⟩, ⟨rfl, rfl, rfl, by simp, fun k hk _ => Below.heap_alloc w.drew _ k hk⟩, Or.inr rfl⟩
      · simp only [Array.size_append, List.size_toArray, size_zeroCells, List.length_map]
        show _ + _ * 1 = _
        omega
      · simp only [Array.toList_append, List.append_assoc, List.map_append]
        rw [← List.append_assoc]
        have e : (l.map (Value.int .u8) ++ l2.map (Value.int .u8)).length = (l ++ l2).length * 1 := by simp
        rw [← e]
        exact List.take_left
/-- append, for the walk. -/
theorem wp_append_b {w : World} {ops : Array Oper} {rest : List Oper} {o : Oper} {a : Act} {Q : Exit → Act → World → Prop} (hgd : o.guard = none) (s x : Operand)
    (ho : o.op = .call { callee := .builtin .append, args := #[s, x], argTypes := #[58, 58] })
    (B : Nat) (v v2 : Value) (l l2 : List Int) (hs : a.eval s = v) (hx : a.eval x = v2) (hown : OwnB w B v l) (hsrc : SrcB w v2 l2) (hlen : l.length + l2.length ≤ 140737488355328) (hB : B ≤ w.heap.size)
    (h : ∀ v' w', OwnB w' B v' (l ++ l2) → Below B w w' → w.grownBy w' v.ownBlock → wpList Tryz.prog ops Q rest (a.put o.dst v') w') :
    wpList Tryz.prog ops Q (o :: rest) a w := by
  refine wpList_plain hgd fun K hK => ?_
  obtain ⟨v', w', hr, h2, h3, _⟩ := run_append_b w B 58 o.type Tryz.underlying58 v v2 l l2 hown hsrc hlen hB
  unfold Oper.wp execOp
  simp only [ho, resolve, invoke, builtin, Sem.run_bind, Sem.run_pure, Result.andThen_ok, List.map_toArray, List.map_cons, List.map_nil, hs, hx, hr]
  exact hK _ _ (h v' w' h2 (grown_below hown hB h3) h3)
theorem wp_append_b4 {w : World} {ops : Array Oper} {rest : List Oper} {o : Oper} {a : Act} {Q : Exit → Act → World → Prop} (hgd : o.guard = none) (s x : Operand)
    (ho : o.op = .call { callee := .builtin .append, args := #[s, x], argTypes := #[58, 58] })
    (B : Nat) (v v2 : Value) (l l2 : List Int) (hs : a.eval s = v) (hx : a.eval x = v2) (hown : OwnB w B v l) (hsrc : SrcB w v2 l2) (hlen : l.length + l2.length ≤ 140737488355328) (hB : B ≤ w.heap.size)
    (h : ∀ v' w', OwnB w' B v' (l ++ l2) → Below B w w' → w.grownBy w' v.ownBlock → (v'.ownBlock = v.ownBlock ∨ v'.ownBlock = some w.heap.size) → wpList Tryz.prog ops Q rest (a.put o.dst v') w') :
    wpList Tryz.prog ops Q (o :: rest) a w := by
  refine wpList_plain hgd fun K hK => ?_
  obtain ⟨v', w', hr, h2, h3, h4⟩ := run_append_b w B 58 o.type Tryz.underlying58 v v2 l l2 hown hsrc hlen hB
  unfold Oper.wp execOp
  simp only [ho, resolve, invoke, builtin, Sem.run_bind, Sem.run_pure, Result.andThen_ok, List.map_toArray, List.map_cons, List.map_nil, hs, hx, hr]
  exact hK _ _ (h v' w' h2 (grown_below hown hB h3) h3 h4)
/-- Bytes as text. -/
theorem conv_has (w : World) (v : Value) (l : List Int) (h : HasB w v l) (hb : Byts l) : (convert 58 9 v).run Tryz.prog w = .ok (.string (txt l)) w := by
  obtain ⟨A, c, rfl, hc, hk⟩ := h
  cases A with
  | none =>
    have hl : l = [] := by
      cases l with
      | nil => rfl
      | cons x t => obtain ⟨ad, e, _⟩ := hk 0 (by simp); cases e
    subst hl
    rw [run_convert_bytes_string w 58 9 5 none ([] : List Int).length c Tryz.underlying58 Tryz.underlying5 Tryz.underlying9]
    rfl
  | some ad =>
    have h1 := run_convert_bytes_back (P := Tryz.prog) w 58 9 5 ad c (l.map fun n => UInt8.ofNat n.toNat) Tryz.underlying58 Tryz.underlying5 Tryz.underlying9 (fun j hj => by
      rw [List.length_map] at hj
      obtain ⟨ad2, e, h2⟩ := hk j hj
      obtain rfl := Option.some.inj e
      rw [h2, List.getElem_map, List.getD_eq_getElem?_getD, List.getElem?_eq_getElem hj]
      have hx := hb l[j] (List.getElem_mem hj)
      show some (Value.int .u8 l[j]) = some (Value.int .u8 ((UInt8.ofNat l[j].toNat).toNat : Int))
      rw [UInt8.toNat_ofNat']
      congr 2
      omega)
    rw [List.length_map] at h1
    exact h1
/-- A row that was written out is one's own. -/
theorem OwnB.row (w : World) (l : List Int) (B : Nat) (hB : B ≤ w.heap.size) (hl : l.length ≤ 140737488351232) : OwnB (w.alloc (.cells (l.map (Value.int .u8)).toArray 5)) B (.slice (some ⟨w.heap.size, 0, none⟩) l.length l.length) l := by
  refine Or.inl ⟨by simp, .inr ⟨w.heap.size, l.length, _, rfl, hB, heap_alloc_new w _, Nat.le_refl _, by unfold maxLen; omega, by simp, ?_⟩⟩
  rw [Nat.mul_one]
  exact List.take_of_length_le (by simp)
theorem OwnB.alloc {w : World} {B : Nat} {v : Value} {l : List Int} (h : OwnB w B v l) (o : Obj) : OwnB (w.alloc o) B v l := by
  rcases h with h | ⟨g, cap, cur, rfl, hb, hg, hr⟩
  · exact Or.inl (h.alloc o)
  · exact Or.inr ⟨g, cap, cur, rfl, hb, (Below.heap_alloc w o g (lt_block hg)).trans hg, hr⟩
theorem OwnB.drew {w : World} {B : Nat} {v : Value} {l : List Int} (h : OwnB w B v l) : OwnB w.drew B v l := by
  rcases h with h | h
  · exact Or.inl h
  · exact Or.inr h
theorem OwnB.below {w w' : World} {B : Nat} {v : Value} {l : List Int} (h : OwnB w B v l) (hb : Below w.heap.size w w') : OwnB w' B v l := by
  rcases h with ⟨h1, h2⟩ | ⟨g, cap, cur, rfl, hbg, hg, hr⟩
  · refine Or.inl ⟨h1, h2.imp id ?_⟩
    rintro ⟨g, cap, cur, rfl, hbg, hg, hr⟩
    exact ⟨g, cap, cur, rfl, hbg, (hb.block g (lt_block hg)).trans hg, hr⟩
  · exact Or.inr ⟨g, cap, cur, rfl, hbg, (hb.block g (lt_block hg)).trans hg, hr⟩
theorem SrcB.row (w : World) (l : List Int) : SrcB (w.alloc (.cells (l.map (Value.int .u8)).toArray 5)) (.slice (some ⟨w.heap.size, 0, none⟩) l.length l.length) l := by
  refine ⟨⟨w.heap.size, 0, none⟩, l.length, rfl, fun k hk => ?_⟩
  rw [add_plain]
  simp only [World.cell?, heap_alloc_new]
  rw [List.getElem?_toArray, at_map hk]
  rfl
end Go.Proofs.YtkogcobcjoojnaaGreatDoor.Fl

namespace Go.Proofs.YtkogcobcjoojnaaGreatDoor.Fl
open Go.RowKit Go.Maps
set_option linter.unusedVariables false
set_option linter.unusedSimpArgs false
/-- Each 0 is 0, 255. -/
def zz : List Int → List Int
  | [] => []
  | x :: t => if x = 0 then 0 :: 255 :: zz t else x :: zz t
/-- With the end. -/
def esc (l : List Int) : List Int := zz l ++ [0, 1]
end Go.Proofs.YtkogcobcjoojnaaGreatDoor.Fl

namespace Go.Proofs.YtkogcobcjoojnaaGreatDoor.Fl
open Go.RowKit Go.Maps
set_option linter.unusedVariables false
set_option linter.unusedSimpArgs false
theorem right_kinds {k n : Int} {s : ByteArray} (h : rightV k n s = true) : (k = 1 ∧ s.size = 0) ∨ (k = 4 ∧ s.size = 0 ∧ (n = 0 ∨ n = 1)) ∨ (k = 5 ∧ s.size = 0 ∧ rightU (U n) = true) ∨ (k = 2 ∧ n = 0 ∧ s.size ≤ 32) ∨ (k = 3 ∧ n = 0 ∧ s.size ≤ 32 ∧ Lib.validD s.data.toList = true) := by
  have he : ∀ s : ByteArray, s.toList.isEmpty = true → s.size = 0 := fun s h => by
    rw [ByteArray.toList_eq, List.isEmpty_iff] at h
    have := congrArg List.length h
    rw [Array.length_toList] at this
    exact this
  unfold rightV at h
  rcases kinds k with rfl | rfl | rfl | rfl | rfl | ⟨h1, h2, h3, h4, h5⟩
  · exact Or.inl ⟨rfl, he s h⟩
  · rw [if_neg (by decide), if_pos rfl, Bool.and_eq_true, Bool.or_eq_true, beq_iff_eq, beq_iff_eq] at h
    exact Or.inr (Or.inl ⟨rfl, he s h.1, h.2⟩)
  · rw [if_neg (by decide), if_neg (by decide), if_pos rfl, Bool.and_eq_true] at h
    exact Or.inr (Or.inr (Or.inl ⟨rfl, he s h.1, h.2⟩))
  · rw [if_neg (by decide), if_neg (by decide), if_neg (by decide), if_pos rfl, Bool.and_eq_true, beq_iff_eq, decide_eq_true_eq] at h
    exact Or.inr (Or.inr (Or.inr (Or.inl ⟨rfl, h.1, h.2⟩)))
  · rw [if_neg (by decide), if_neg (by decide), if_neg (by decide), if_neg (by decide), if_pos rfl, Bool.and_eq_true, Bool.and_eq_true, beq_iff_eq, decide_eq_true_eq] at h
    exact Or.inr (Or.inr (Or.inr (Or.inr ⟨rfl, h.1.1, h.1.2, h.2⟩)))
  · rw [if_neg h1, if_neg h2, if_neg h3, if_neg h4, if_neg h5] at h
    cases h
end Go.Proofs.YtkogcobcjoojnaaGreatDoor.Fl

namespace Go.Proofs.YtkogcobcjoojnaaGreatDoor.Fl
open Go.RowKit Go.Maps
set_option linter.unusedVariables false
set_option linter.unusedSimpArgs false
/-- A byte between quotes. -/
def qc (c : Int) : List Int := if c < 32 ∨ 126 < c ∨ c = 34 ∨ c = 92 then [92, hx (c / 16), hx (c % 16)] else [c]
def qq : List Int → List Int
  | [] => []
  | x :: t => qc x ++ qq t
/-- A text between quotes, as bytes. -/
def quo (l : List Int) : List Int := [34] ++ qq l ++ [34]
theorem qq_append (a b : List Int) : qq (a ++ b) = qq a ++ qq b := by
  induction a with
  | nil => rfl
  | cons x t ih => rw [List.cons_append, qq, qq, ih, List.append_assoc]
theorem qq_next (l : List Int) (i : Nat) (hi : i < l.length) : qq (l.take (i + 1)) = qq (l.take i) ++ qc (l.getD i 0) := by
  rw [take_snoc l i hi, qq_append]
  simp [qq]
theorem qc_len (c : Int) : 1 ≤ (qc c).length ∧ (qc c).length ≤ 3 := by
  unfold qc
  split <;> simp
theorem qq_len (l : List Int) : l.length ≤ (qq l).length ∧ (qq l).length ≤ 3 * l.length := by
  induction l with
  | nil => simp [qq]
  | cons x t ih =>
    have := qc_len x
    rw [qq, List.length_append, List.length_cons]
    omega
theorem qc_byts (c : Int) (h0 : 0 ≤ c) (h1 : c < 256) : Byts (qc c) := by
  intro x hxm
  unfold qc at hxm
  split at hxm
  · simp only [List.mem_cons, List.not_mem_nil, or_false] at hxm
    rcases hxm with rfl | rfl | rfl
    · omega
    · rcases hx_bd (c / 16) (by omega) (by omega) with h | h <;> omega
    · rcases hx_bd (c % 16) (by omega) (by omega) with h | h <;> omega
  · have : x = c := by simpa using hxm
    omega
theorem qq_byts : ∀ (l : List Int), Byts l → Byts (qq l)
  | [], _ => fun x h => by cases h
  | y :: t, h => fun x hx => by
    rw [qq] at hx
    rcases List.mem_append.1 hx with h1 | h1
    · exact qc_byts y (h y (by simp)).1 (h y (by simp)).2 x h1
    · exact qq_byts t (fun z hz => h z (by simp [hz])) x h1
theorem quo_byts (l : List Int) (h : Byts l) : Byts (quo l) := by
  intro x hx
  unfold quo at hx
  rcases List.mem_append.1 hx with h1 | h1
  · rcases List.mem_append.1 h1 with h2 | h2
    · have : x = 34 := by simpa using h2
      omega
    · exact qq_byts l h x h2
  · have : x = 34 := by simpa using h1
    omega
theorem dig_u8 (d : Int) (h0 : 0 ≤ d) (h1 : d < 16) (w : World) : (Instr.index 9 (.string ⟨#[48, 49, 50, 51, 52, 53, 54, 55, 56, 57, 97, 98, 99, 100, 101, 102]⟩) (.int .u8 d)).run Tryz.prog w = .ok (.int .u8 (hx d)) w := by
  obtain rfl | rfl | rfl | rfl | rfl | rfl | rfl | rfl | rfl | rfl | rfl | rfl | rfl | rfl | rfl | rfl : d = 0 ∨ d = 1 ∨ d = 2 ∨ d = 3 ∨ d = 4 ∨ d = 5 ∨ d = 6 ∨ d = 7 ∨ d = 8 ∨ d = 9 ∨ d = 10 ∨ d = 11 ∨ d = 12 ∨ d = 13 ∨ d = 14 ∨ d = 15 := by omega
  all_goals kernel_rfl
theorem step_append_b4 {w : World} {ops : Array Oper} {o : Oper} {a : Act} {K : Act → World → Prop} {Q : Exit → Act → World → Prop} {E : Prop} (hgd : o.guard = none) (s x : Operand)
    (ho : o.op = .call { callee := .builtin .append, args := #[s, x], argTypes := #[58, 58] })
    (B : Nat) (v v2 : Value) (l l2 : List Int) (hs : a.eval s = v) (hx : a.eval x = v2) (hown : OwnB w B v l) (hsrc : SrcB w v2 l2) (hlen : l.length + l2.length ≤ 140737488355328) (hB : B ≤ w.heap.size)
    (h : ∀ v' w', OwnB w' B v' (l ++ l2) → Below B w w' → w.grownBy w' v.ownBlock → (v'.ownBlock = v.ownBlock ∨ v'.ownBlock = some w.heap.size) → K (a.put o.dst v') w') :
    if Region.wanted o (yielded ops a.tmps) = true then Oper.wp Tryz.prog o a w K Q else E := by
  have hw : Region.wanted o (yielded ops a.tmps) = true := by simp [Region.wanted, hgd]
  rw [if_pos hw]
  obtain ⟨v', w', hr, h2, h3, h4⟩ := run_append_b w B 58 o.type Tryz.underlying58 v v2 l l2 hown hsrc hlen hB
  unfold Oper.wp execOp
  simp only [ho, resolve, invoke, builtin, Sem.run_bind, Sem.run_pure, Result.andThen_ok, List.map_toArray, List.map_cons, List.map_nil, hs, hx, hr]
  exact h v' w' h2 (grown_below hown hB h3) h3 h4
/-- Bytes at a block, that a row of one's own is not. -/
structure Apart (W : World) (g : Nat) (s : ByteArray) (v : Value) : Prop where
  cell : ∀ k, k < s.size → W.cell? ⟨g, k, none⟩ = some (.int .u8 ((byt s).getD k 0))
  lt : g < W.heap.size
  ne : v.ownBlock ≠ some g
theorem Apart.next {W X W' : World} {g : Nat} {s : ByteArray} {v v' : Value} (h : Apart W g s v) (hX : Below W.heap.size W X) (hg : X.grownBy W' v.ownBlock) (h4 : v'.ownBlock = v.ownBlock ∨ v'.ownBlock = some X.heap.size) : Apart W' g s v' := by
  have e1 : X.heap[g]? = W.heap[g]? := hX.block g h.lt
  have l1 : g < X.heap.size := Nat.lt_of_lt_of_le h.lt hX.size
  have e2 : W'.heap[g]? = X.heap[g]? := hg.block g l1 (fun e => h.ne e.symm)
  refine ⟨fun k hk => ?_, Nat.lt_of_lt_of_le l1 hg.size, fun e => ?_⟩
  · rw [World.cell?_of_block (a := ⟨g, k, none⟩) (e2.trans e1)]
    exact h.cell k hk
  · rcases h4 with h4 | h4
    · exact h.ne (h4.symm.trans e)
    · have := Option.some.inj (h4.symm.trans e)
      omega
set_option maxHeartbeats 4000000 in
set_option maxRecDepth 100000 in
theorem c_quoted (s : ByteArray) (hs : s.size ≤ 1000000) (w : World) :
    Calls Tryz.prog 154 #[.string s] w fun e w' => e = .returned (.string (txt (quo (byt s)))) ∧ Below w.heap.size w w' := by
  have HSZ := Lib.hid hs
  have kc := fun (w : World) => run_bytes_of_string (P := Tryz.prog) w 9 58 5 s Tryz.underlying9 Tryz.underlying58 Tryz.underlying5
  have kc2 : ∀ w : World, (convert 9 58 (.string s)).run Tryz.prog w = .ok (.slice (some ⟨w.heap.size, 0, none⟩) s.size (grownCap w s.size 0 5)) (wb w s) := kc
  clear kc
  go_enter Tryz.func154, Tryz.ntmps154
  go_wp2
  have hw0 : (w.alloc (.cells #[.int .u8 34] 5)).heap.size = w.heap.size + 1 := by simp
  have hbw := wb_below (w.alloc (.cells #[.int .u8 34] 5)) s
  have HO0 := Lib.hid ((OwnB.row w [34] w.heap.size (Nat.le_refl _) (by decide)).below hbw)
  have HB0 := Lib.hid (((Below.refl w.heap.size w).alloc (Nat.le_refl _) (.cells #[.int .u8 34] 5)).trans (hbw.mono (by simp)))
  have HA0 := Lib.hid (show Apart (wb (w.alloc (.cells #[.int .u8 34] 5)) s) (w.heap.size + 1) s (.slice (some ⟨w.heap.size, 0, none⟩) 1 1) from ⟨fun k hk => by rw [← hw0]; exact wb_cell _ s k hk, by
      have h1 := heap_alloc_new (w.alloc (.cells #[.int .u8 34] 5)).drew (.cells (bytesRow s (grownCap (w.alloc (.cells #[.int .u8 34] 5)) s.size 0 5)) 5 ((bytesRow s (grownCap (w.alloc (.cells #[.int .u8 34] 5)) s.size 0 5)).size, (bytesRow s (grownCap (w.alloc (.cells #[.int .u8 34] 5)) s.size 0 5)).size + 1))
      have h2 := lt_block h1
      rw [show (w.alloc (.cells #[.int .u8 34] 5)).drew.heap.size = w.heap.size + 1 from hw0] at h2
      exact h2, by simp [Value.ownBlock]⟩)
  clear hbw hw0
  generalize wb (w.alloc (.cells #[.int .u8 34] 5)) s = wB at HO0 HB0 HA0 ⊢
  generalize grownCap (w.alloc (.cells #[.int .u8 34] 5)) s.size 0 5 = cB
  go_loopw [3, 10] (fun v3 v10 W => ∃ i : Nat, i ≤ s.size ∧ v10 = .int .i64 i ∧ Hid (OwnB W w.heap.size v3 ([34] ++ qq ((byt s).take i))) ∧ Hid (Below w.heap.size w W) ∧ Hid (Apart W (w.heap.size + 1) s v3)) (fun _ v10 _ => s.size - (intOf v10).toNat)
  case atStart => exact ⟨0, by omega, rfl, HO0, HB0, HA0⟩
  case round =>
    obtain ⟨i, hi, rfl, HO, HW, HA⟩ := hrel
    clear HO0 HB0 HA0
    by_cases hlt : i < s.size
    · have t1 : decide ((i : Int) < (s.size : Int)) = true := decide_eq_true (by omega)
      have x0 := HA.out.cell i hlt
      have hk0 : (0 : Int) ≤ (i : Int) := by omega
      have hk1 : (i : Int) < (s.size : Int) := by omega
      have hxb := byts_at (byt_bd s) i (by rw [byt_len]; exact hlt)
      have HN := Lib.hid (qq_next (byt s) i (by rw [byt_len]; exact hlt))
      have HL := Lib.hid (show (qq ((byt s).take i)).length ≤ 3000000 by have h1 := qq_len ((byt s).take i); have h2 := HSZ.out; rw [List.length_take] at h1; omega)
      generalize (byt s).getD i 0 = x at x0 HN hxb
      generalize qq ((byt s).take i) = l at HO HN HL
      have d1 := dig_u8 (x / 16) (by omega) (by omega)
      have d2 := dig_u8 (x % 16) (by omega) (by omega)
      have m2 : bits .and .u8 x 15 = x % 16 := bits_mask .u8 8 (by decide) (fun n h0 h1 => by unfold IntKind.wrap; simp [IntKind.bits, IntKind.signed]; omega) 4 (by decide) x hxb.1 (by simpa using hxb.2)
      by_cases c1 : x < 32
      · have t2 : decide (x < 32) = true := decide_eq_true c1
        have HQ := Lib.hid (show qc x = [92, hx (x / 16), hx (x % 16)] by unfold qc; rw [if_pos (by omega)])
        clear hxb
        go_wp2
        go_region_held3 (fun _ => True) (exact trivial) (first | (refine step_append_b4 rfl (.tmp 28) (.tmp 35) rfl w.heap.size _ _ ([34] ++ l) [92, hx (x / 16), hx (x % 16)] rfl rfl ?o1 ?s1 ?l1 ?b1 ?_; (case o1 => first | exact HO.out.drew.alloc _ | exact HO.out.alloc _ | exact (HO.out.alloc _).drew); (case s1 => exact SrcB.row _ [92, hx (x / 16), hx (x % 16)]); (case l1 => have := HL.out; simp; omega); (case b1 => have := HW.out.size; simp; omega); intro v2 w2 ho hb2 hg2 h4; have HO2 := Lib.hid ho; have HW2 := Lib.hid (by first | exact (HW.out.drew.alloc HW.out.size _).trans hb2 | exact (HW.out.alloc HW.out.size _).drew.trans hb2 | exact (HW.out.alloc HW.out.size _).trans hb2); have HA2 := Lib.hid (HA.out.next (by first | exact (Below.refl _ _).drew.alloc (Nat.le_refl _) _ | exact ((Below.refl _ _).alloc (Nat.le_refl _) _).drew | exact (Below.refl _ _).alloc (Nat.le_refl _) _) hg2 h4); clear ho hb2 hg2 h4))
        all_goals (go_wp2; go_roundw; (case rel => exact ⟨i + 1, by omega, by go_num, Lib.hid (by rw [HN.out, HQ.out, ← List.append_assoc]; exact HO2.out), HW2, HA2⟩); (case measure => simp [intOf]; omega))
      · have t2 : decide (x < 32) = false := decide_eq_false c1
        by_cases c2 : 126 < x
        · have t3 : decide (126 < x) = true := decide_eq_true c2
          have HQ := Lib.hid (show qc x = [92, hx (x / 16), hx (x % 16)] by unfold qc; rw [if_pos (by omega)])
          clear hxb
          go_wp2
          go_region_held3 (fun _ => True) (exact trivial) (first | (refine step_append_b4 rfl (.tmp 28) (.tmp 35) rfl w.heap.size _ _ ([34] ++ l) [92, hx (x / 16), hx (x % 16)] rfl rfl ?o1 ?s1 ?l1 ?b1 ?_; (case o1 => first | exact HO.out.drew.alloc _ | exact HO.out.alloc _ | exact (HO.out.alloc _).drew); (case s1 => exact SrcB.row _ [92, hx (x / 16), hx (x % 16)]); (case l1 => have := HL.out; simp; omega); (case b1 => have := HW.out.size; simp; omega); intro v2 w2 ho hb2 hg2 h4; have HO2 := Lib.hid ho; have HW2 := Lib.hid (by first | exact (HW.out.drew.alloc HW.out.size _).trans hb2 | exact (HW.out.alloc HW.out.size _).drew.trans hb2 | exact (HW.out.alloc HW.out.size _).trans hb2); have HA2 := Lib.hid (HA.out.next (by first | exact (Below.refl _ _).drew.alloc (Nat.le_refl _) _ | exact ((Below.refl _ _).alloc (Nat.le_refl _) _).drew | exact (Below.refl _ _).alloc (Nat.le_refl _) _) hg2 h4); clear ho hb2 hg2 h4))
          all_goals (go_wp2; go_roundw; (case rel => exact ⟨i + 1, by omega, by go_num, Lib.hid (by rw [HN.out, HQ.out, ← List.append_assoc]; exact HO2.out), HW2, HA2⟩); (case measure => simp [intOf]; omega))
        · have t3 : decide (126 < x) = false := decide_eq_false c2
          by_cases c3 : x = 34
          · have t4 : (x == 34) = true := by simp [c3]
            have HQ := Lib.hid (show qc x = [92, hx (x / 16), hx (x % 16)] by unfold qc; rw [if_pos (by omega)])
            clear hxb c3
            go_wp2
            go_region_held3 (fun _ => True) (exact trivial) (first | (refine step_append_b4 rfl (.tmp 28) (.tmp 35) rfl w.heap.size _ _ ([34] ++ l) [92, hx (x / 16), hx (x % 16)] rfl rfl ?o1 ?s1 ?l1 ?b1 ?_; (case o1 => first | exact HO.out.drew.alloc _ | exact HO.out.alloc _ | exact (HO.out.alloc _).drew); (case s1 => exact SrcB.row _ [92, hx (x / 16), hx (x % 16)]); (case l1 => have := HL.out; simp; omega); (case b1 => have := HW.out.size; simp; omega); intro v2 w2 ho hb2 hg2 h4; have HO2 := Lib.hid ho; have HW2 := Lib.hid (by first | exact (HW.out.drew.alloc HW.out.size _).trans hb2 | exact (HW.out.alloc HW.out.size _).drew.trans hb2 | exact (HW.out.alloc HW.out.size _).trans hb2); have HA2 := Lib.hid (HA.out.next (by first | exact (Below.refl _ _).drew.alloc (Nat.le_refl _) _ | exact ((Below.refl _ _).alloc (Nat.le_refl _) _).drew | exact (Below.refl _ _).alloc (Nat.le_refl _) _) hg2 h4); clear ho hb2 hg2 h4))
            all_goals (go_wp2; go_roundw; (case rel => exact ⟨i + 1, by omega, by go_num, Lib.hid (by rw [HN.out, HQ.out, ← List.append_assoc]; exact HO2.out), HW2, HA2⟩); (case measure => simp [intOf]; omega))
          · have t4 : (x == 34) = false := by simp [c3]
            by_cases c4 : x = 92
            · have t5 : (x == 92) = true := by simp [c4]
              have HQ := Lib.hid (show qc x = [92, hx (x / 16), hx (x % 16)] by unfold qc; rw [if_pos (by omega)])
              clear hxb c4
              go_wp2
              go_region_held3 (fun _ => True) (exact trivial) (first | (refine step_append_b4 rfl (.tmp 28) (.tmp 35) rfl w.heap.size _ _ ([34] ++ l) [92, hx (x / 16), hx (x % 16)] rfl rfl ?o1 ?s1 ?l1 ?b1 ?_; (case o1 => first | exact HO.out.drew.alloc _ | exact HO.out.alloc _ | exact (HO.out.alloc _).drew); (case s1 => exact SrcB.row _ [92, hx (x / 16), hx (x % 16)]); (case l1 => have := HL.out; simp; omega); (case b1 => have := HW.out.size; simp; omega); intro v2 w2 ho hb2 hg2 h4; have HO2 := Lib.hid ho; have HW2 := Lib.hid (by first | exact (HW.out.drew.alloc HW.out.size _).trans hb2 | exact (HW.out.alloc HW.out.size _).drew.trans hb2 | exact (HW.out.alloc HW.out.size _).trans hb2); have HA2 := Lib.hid (HA.out.next (by first | exact (Below.refl _ _).drew.alloc (Nat.le_refl _) _ | exact ((Below.refl _ _).alloc (Nat.le_refl _) _).drew | exact (Below.refl _ _).alloc (Nat.le_refl _) _) hg2 h4); clear ho hb2 hg2 h4))
              all_goals (go_wp2; go_roundw; (case rel => exact ⟨i + 1, by omega, by go_num, Lib.hid (by rw [HN.out, HQ.out, ← List.append_assoc]; exact HO2.out), HW2, HA2⟩); (case measure => simp [intOf]; omega))
            · have t5 : (x == 92) = false := by simp [c4]
              have HQ := Lib.hid (show qc x = [x] by unfold qc; rw [if_neg (by omega)])
              clear d1 d2 m2
              clear hxb
              go_wp2_with (at_builtin; refine wp_append_b4 rfl (.tmp 37) (.tmp 39) rfl w.heap.size _ _ ([34] ++ l) [x] rfl rfl ?o1 ?s1 ?l1 ?b1 ?_; (case o1 => first | exact HO.out.drew.alloc _ | exact HO.out.alloc _ | exact (HO.out.alloc _).drew); (case s1 => exact SrcB.row _ [x]); (case l1 => have := HL.out; simp; omega); (case b1 => have := HW.out.size; simp; omega); intro v2 w2 ho hb2 hg2 h4; have HO2 := Lib.hid ho; have HW2 := Lib.hid (by first | exact (HW.out.drew.alloc HW.out.size _).trans hb2 | exact (HW.out.alloc HW.out.size _).drew.trans hb2 | exact (HW.out.alloc HW.out.size _).trans hb2); have HA2 := Lib.hid (HA.out.next (by first | exact (Below.refl _ _).drew.alloc (Nat.le_refl _) _ | exact ((Below.refl _ _).alloc (Nat.le_refl _) _).drew | exact (Below.refl _ _).alloc (Nat.le_refl _) _) hg2 h4); clear ho hb2 hg2 h4)
              go_roundw
              case rel => exact ⟨i + 1, by omega, by go_num, Lib.hid (by rw [HN.out, HQ.out, ← List.append_assoc]; exact HO2.out), HW2, HA2⟩
              case measure => simp [intOf]; omega
    · have t1 : decide ((i : Int) < (s.size : Int)) = false := decide_eq_false (by omega)
      have HE := Lib.hid (show (byt s).take i = byt s from List.take_of_length_le (by rw [byt_len]; omega))
      have HL := Lib.hid (show (qq (byt s)).length ≤ 3000000 by have h1 := qq_len (byt s); have h2 := HSZ.out; rw [byt_len] at h1; omega)
      rw [HE.out] at HO
      clear HE
      go_wp2_with (at_builtin; refine wp_append_b rfl (.tmp 42) (.tmp 43) rfl w.heap.size _ _ ([34] ++ qq (byt s)) [34] rfl rfl ?o1 ?s1 ?l1 ?b1 ?_; (case o1 => exact HO.out.alloc _); (case s1 => exact SrcB.row wr [34]); (case l1 => have := HL.out; simp; omega); (case b1 => have := HW.out.size; simp; omega); intro v2 w2 ho hb2 hg2; have HW2 := Lib.hid ((HW.out.alloc HW.out.size _).trans hb2); have kc := conv_has w2 v2 _ ho.has (quo_byts (byt s) (byt_bd s)); clear ho hb2 hg2)
      go_ret
      exact ⟨rfl, HW2.out⟩
end Go.Proofs.YtkogcobcjoojnaaGreatDoor.Fl

namespace Go.Proofs.YtkogcobcjoojnaaGreatDoor.Fl
open Go.RowKit Go.Maps
set_option linter.unusedVariables false
set_option linter.unusedSimpArgs false
theorem dec_len : ∀ (k u : Nat), 1 ≤ k → u < 10 ^ k → (Lib.decDigits u).length ≤ k
  | 0, _, h, _ => by omega
  | 1, u, _, h => by
    rw [Lib.decDigits, dif_pos (by omega)]
    simp
  | k + 2, u, _, h => by
    rw [Lib.decDigits]
    split
    · simp
    · rw [List.length_append]
      have := dec_len (k + 1) (u / 10) (by omega) (by rw [Nat.pow_succ] at h; omega)
      simp
      omega
/-- A value as text. -/
def showV (k n : Int) (s : ByteArray) : ByteArray :=
  if rightV k n s = false then ⟨#[63]⟩ else if k = 1 then ⟨(Lib.itoa n).toArray⟩ else if k = 4 then (if n = 1 then ⟨#[116, 114, 117, 101]⟩ else ⟨#[102, 97, 108, 115, 101]⟩)
  else if k = 5 then ⟨#[102]⟩ ++ showS n else if k = 2 then ⟨#[98]⟩ ++ txt (quo (byt s)) else ⟨#[116]⟩ ++ txt (quo (byt s))
theorem showS_size (n : Int) : (showS n).size ≤ 17 := by
  unfold showS
  repeat' split
  all_goals first | decide | (rw [txt_size, List.length_cons, hexI_len]; decide)
theorem quo_size (s : ByteArray) (h : s.size ≤ 32) : (txt (quo (byt s))).size ≤ 98 := by
  rw [txt_size]
  unfold quo
  have := qq_len (byt s)
  rw [byt_len] at this
  simp
  omega
theorem c_itoa (n : Int) (hn : Wf n) (w : World) (hg : Gv w) : Calls Tryz.prog 96 #[.int .i64 n] w fun e w' => e = .returned (.string ⟨(Lib.itoa n).toArray⟩) ∧ Below w.heap.size w w' := by
  refine (Tryz.strconv_Itoa n hn.1 hn.2 w hg.p10).mono ?_
  rintro e w' ⟨rfl, k, os, rfl⟩
  exact ⟨rfl, Lib.below_grow _ w (Nat.le_refl _) k os⟩
set_option maxHeartbeats 4000000 in
set_option maxRecDepth 100000 in
theorem c_vshow (k n : Int) (s : ByteArray) (hn : Wf n) (hs : s.size ≤ 140737488351232) (w : World) (hg : Gv w) :
    Calls Tryz.prog 131 #[vv k n s] w fun e w' => e = .returned (.string (showV k n s)) ∧ Below w.heap.size w w' := by
  have hbx := (Below.refl w.heap.size w).alloc (Nat.le_refl _) (.cells #[.int .i64 k, .int .i64 n, .string s] 30)
  have HG := Lib.hid (hg.below hbx)
  have HB := Lib.hid hbx
  clear hbx hg
  cases hr : rightV k n s with
  | false =>
    rw [show showV k n s = ⟨#[63]⟩ by unfold showV; rw [if_pos hr]]
    have C1 := Lib.hid (fun W hg => c_vright k n s hn (by omega) false hr W hg)
    unfold vv at C1 ⊢
    clear hr
    go_enter Tryz.func131, Tryz.ntmps131
    go_wp2_with (go_at_call 53; ((refine (C1.out _ HG.out).mono ?_); rintro e w' ⟨rfl, hb⟩; have HB2 := Lib.hid (HB.out.trans (hb.mono HB.out.size)); clear hb))
    go_ret
    exact ⟨rfl, HB2.out⟩
  | true =>
    have C1 := Lib.hid (fun W hg => c_vright k n s hn (by omega) true hr W hg)
    have hsh : showV k n s = (if k = 1 then ⟨(Lib.itoa n).toArray⟩ else if k = 4 then (if n = 1 then ⟨#[116, 114, 117, 101]⟩ else ⟨#[102, 97, 108, 115, 101]⟩) else if k = 5 then ⟨#[102]⟩ ++ showS n else if k = 2 then ⟨#[98]⟩ ++ txt (quo (byt s)) else ⟨#[116]⟩ ++ txt (quo (byt s))) := by unfold showV; rw [if_neg (by rw [hr]; decide)]
    rw [hsh]
    clear hsh
    unfold vv at C1 ⊢
    rcases right_kinds hr with ⟨rfl, h⟩ | ⟨rfl, h, h2⟩ | ⟨rfl, h, h2⟩ | ⟨rfl, rfl, h⟩ | ⟨rfl, rfl, h, h2⟩
    · rw [if_pos rfl]
      have C2 := Lib.hid (fun W (hg : Gv W) => c_itoa n hn W hg)
      clear hn hr h
      go_enter Tryz.func131, Tryz.ntmps131
      go_wp2_with (first | (go_at_call 53; ((refine (C1.out _ HG.out).mono ?_); rintro e w1 ⟨rfl, hb⟩; have HB1 := Lib.hid (HB.out.trans (hb.mono HB.out.size)); have HG1 := Lib.hid (HG.out.below hb); have HBX := Lib.hid ((hb.block w.heap.size (by simp)).trans (heap_alloc_new w _)); obtain ⟨x0, x1, x2⟩ := cells3 HBX.out; clear hb)) | (go_at_call 96; ((refine (C2.out _ HG1.out).mono ?_); rintro e w2 ⟨rfl, hb⟩; have HB2 := Lib.hid (HB1.out.trans (hb.mono HB1.out.size)); clear hb)))
      go_ret
      exact ⟨rfl, HB2.out⟩
    · rw [if_neg (by decide), if_pos rfl]
      clear hn hr h
      rcases h2 with rfl | rfl
      · rw [if_neg (by decide)]
        have C2 := Lib.hid (fun W => Tryz.strconv_FormatBool false W)
        rw [show (⟨(Lib.formatBool false).toArray⟩ : ByteArray) = ⟨#[102, 97, 108, 115, 101]⟩ by decide] at C2
        go_enter Tryz.func131, Tryz.ntmps131
        go_wp2_with (first | (go_at_call 53; ((refine (C1.out _ HG.out).mono ?_); rintro e w1 ⟨rfl, hb⟩; have HB1 := Lib.hid (HB.out.trans (hb.mono HB.out.size)); have HG1 := Lib.hid (HG.out.below hb); have HBX := Lib.hid ((hb.block w.heap.size (by simp)).trans (heap_alloc_new w _)); obtain ⟨x0, x1, x2⟩ := cells3 HBX.out; clear hb)) | (go_at_call 152; ((refine (C2.out _).mono ?_); rintro e w2 ⟨rfl, rfl⟩; have HB2 := HB1)))
        go_ret
        exact ⟨rfl, HB2.out⟩
      · rw [if_pos rfl]
        have C2 := Lib.hid (fun W => Tryz.strconv_FormatBool true W)
        rw [show (⟨(Lib.formatBool true).toArray⟩ : ByteArray) = ⟨#[116, 114, 117, 101]⟩ by decide] at C2
        go_enter Tryz.func131, Tryz.ntmps131
        go_wp2_with (first | (go_at_call 53; ((refine (C1.out _ HG.out).mono ?_); rintro e w1 ⟨rfl, hb⟩; have HB1 := Lib.hid (HB.out.trans (hb.mono HB.out.size)); have HG1 := Lib.hid (HG.out.below hb); have HBX := Lib.hid ((hb.block w.heap.size (by simp)).trans (heap_alloc_new w _)); obtain ⟨x0, x1, x2⟩ := cells3 HBX.out; clear hb)) | (go_at_call 152; ((refine (C2.out _).mono ?_); rintro e w2 ⟨rfl, rfl⟩; have HB2 := HB1)))
        go_ret
        exact ⟨rfl, HB2.out⟩
    · rw [if_neg (by decide), if_neg (by decide), if_pos rfl]
      have hsz := showS_size n
      have C2 := Lib.hid (fun W (hg : Gv W) => c_show n hn _ rfl W hg.gl)
      generalize showS n = t at *
      have hl1 : ¬ 9223372036854775807 < 1 + t.size := by omega
      clear hn hr h h2 hsz
      go_enter Tryz.func131, Tryz.ntmps131
      go_wp2_with (first | (go_at_call 53; ((refine (C1.out _ HG.out).mono ?_); rintro e w1 ⟨rfl, hb⟩; have HB1 := Lib.hid (HB.out.trans (hb.mono HB.out.size)); have HG1 := Lib.hid (HG.out.below hb); have HBX := Lib.hid ((hb.block w.heap.size (by simp)).trans (heap_alloc_new w _)); obtain ⟨x0, x1, x2⟩ := cells3 HBX.out; clear hb)) | (go_at_call 153; ((refine (C2.out _ HG1.out).mono ?_); rintro e w2 ⟨rfl, hb⟩; have HB2 := Lib.hid (HB1.out.trans (hb.mono HB1.out.size)); clear hb)))
      go_ret
      exact ⟨rfl, HB2.out⟩
    · rw [if_neg (by decide), if_neg (by decide), if_neg (by decide), if_pos rfl]
      have hsz := quo_size s (by omega)
      have C2 := Lib.hid (fun W => c_quoted s (by omega) W)
      generalize txt (quo (byt s)) = t at *
      have hl1 : ¬ 9223372036854775807 < 1 + t.size := by omega
      clear hn hr h hsz
      go_enter Tryz.func131, Tryz.ntmps131
      go_wp2_with (first | (go_at_call 53; ((refine (C1.out _ HG.out).mono ?_); rintro e w1 ⟨rfl, hb⟩; have HB1 := Lib.hid (HB.out.trans (hb.mono HB.out.size)); have HG1 := Lib.hid (HG.out.below hb); have HBX := Lib.hid ((hb.block w.heap.size (by simp)).trans (heap_alloc_new w _)); obtain ⟨x0, x1, x2⟩ := cells3 HBX.out; clear hb)) | (go_at_call 154; ((refine (C2.out _).mono ?_); rintro e w2 ⟨rfl, hb⟩; have HB2 := Lib.hid (HB1.out.trans (hb.mono HB1.out.size)); clear hb)))
      go_ret
      exact ⟨rfl, HB2.out⟩
    · rw [if_neg (by decide), if_neg (by decide), if_neg (by decide), if_neg (by decide)]
      have hsz := quo_size s (by omega)
      have C2 := Lib.hid (fun W => c_quoted s (by omega) W)
      generalize txt (quo (byt s)) = t at *
      have hl1 : ¬ 9223372036854775807 < 1 + t.size := by omega
      clear hn hr h hsz
      go_enter Tryz.func131, Tryz.ntmps131
      go_wp2_with (first | (go_at_call 53; ((refine (C1.out _ HG.out).mono ?_); rintro e w1 ⟨rfl, hb⟩; have HB1 := Lib.hid (HB.out.trans (hb.mono HB.out.size)); have HG1 := Lib.hid (HG.out.below hb); have HBX := Lib.hid ((hb.block w.heap.size (by simp)).trans (heap_alloc_new w _)); obtain ⟨x0, x1, x2⟩ := cells3 HBX.out; clear hb)) | (go_at_call 154; ((refine (C2.out _).mono ?_); rintro e w2 ⟨rfl, hb⟩; have HB2 := Lib.hid (HB1.out.trans (hb.mono HB1.out.size)); clear hb)))
      go_ret
      exact ⟨rfl, HB2.out⟩
end Go.Proofs.YtkogcobcjoojnaaGreatDoor.Fl

namespace Go.Proofs.YtkogcobcjoojnaaGreatDoor.Fl
open Go.RowKit Go.Maps
set_option linter.unusedVariables false
set_option linter.unusedSimpArgs false
theorem byt_inj {a b : ByteArray} (h : byt a = byt b) : a = b := by
  apply ByteArray.ext
  apply Array.toList_inj.1
  have : ∀ (x y : List UInt8), x.map (fun b => (b.toNat : Int)) = y.map (fun b => (b.toNat : Int)) → x = y := by
    intro x
    induction x with
    | nil => intro y h; cases y with
      | nil => rfl
      | cons b t => cases h
    | cons a t ih => intro y h; cases y with
      | nil => cases h
      | cons b u =>
        obtain ⟨h1, h2⟩ := List.cons_eq_cons.1 h
        rw [ih u h2, UInt8.toNat_inj.1 (by have h1' : ((a.toNat : Nat) : Int) = ((b.toNat : Nat) : Int) := h1; omega : a.toNat = b.toNat)]
  exact this _ _ h
theorem size0 {s : ByteArray} (h : s.size = 0) : s = ⟨#[]⟩ := by
  apply ByteArray.ext
  exact Array.eq_empty_of_size_eq_zero h
end Go.Proofs.YtkogcobcjoojnaaGreatDoor.Fl

namespace Go.Proofs.YtkogcobcjoojnaaGreatDoor.Fl
open Go.RowKit Go.Maps
set_option linter.unusedVariables false
set_option linter.unusedSimpArgs false
theorem byts_snoc {o : List Int} {x : Int} (h : Byts o) (h0 : 0 ≤ x ∧ x < 256) : Byts (o ++ [x]) := by
  intro z hz
  rcases List.mem_append.1 hz with hz | hz
  · exact h z hz
  · have : z = x := by simpa using hz
    omega
end Go.Proofs.YtkogcobcjoojnaaGreatDoor.Fl

namespace Go.Proofs.YtkogcobcjoojnaaGreatDoor.Fl
open Go.RowKit Go.Maps
set_option linter.unusedVariables false
set_option linter.unusedSimpArgs false
theorem ret_cell {fn : Func} {p u : Tmp} (h : fn.results = #[.cell p 30, .tmp u]) (tmps : Array Value) (w : World) (g : Nat) (k n : Int) (s : ByteArray) (b : Bool) (fr : Nat × Nat)
    (hp : tmps.getD p undef = .pointer (some ⟨g, 0, none⟩)) (hu : tmps.getD u undef = .bool b) (hg : w.heap[g]? = some (.cells #[.int .i64 k, .int .i64 n, .string s] 30 fr)) :
    (results fn tmps).run Tryz.prog w = .ok (.tuple #[vv k n s, .bool b]) w := by
  rw [results_cell_tmp h, hp, hu]
  have hl := run_loadVar_row (P := Tryz.prog) w g 30 30 _ fr _ hg Tryz.underlying30 rfl (by kernel_rfl)
  simp only [asAddr, Sem.run_pure, Result.andThen_ok, hl]
  rfl
/-- The two boxes. -/
structure Tk (w W : World) (a0 a1 a2 : Value) (k n : Int) (s : ByteArray) : Prop where
  z : W.heap[w.heap.size]? = some (.cells #[a0, a1, a2] 30 (0, 0))
  v : W.heap[w.heap.size + 1]? = some (.cells #[.int .i64 k, .int .i64 n, .string s] 30 (0, 0))
  bel : Below w.heap.size w W
theorem Tk.below {w W W' : World} {a0 a1 a2 : Value} {k n : Int} {s : ByteArray} (h : Tk w W a0 a1 a2 k n s) (hb : Below W.heap.size W W') : Tk w W' a0 a1 a2 k n s :=
  ⟨(hb.block _ (lt_block h.z)).trans h.z, (hb.block _ (lt_block h.v)).trans h.v, h.bel.trans (hb.mono h.bel.size)⟩
theorem Tk.cells {w W : World} {a0 a1 a2 : Value} {k n : Int} {s : ByteArray} (h : Tk w W a0 a1 a2 k n s) : W.cell? ⟨w.heap.size, 0, none⟩ = some a0 ∧ W.cell? ⟨w.heap.size, 1, none⟩ = some a1 ∧ W.cell? ⟨w.heap.size, 2, none⟩ = some a2 ∧ W.cell? ⟨w.heap.size + 1, 0, none⟩ = some (.int .i64 k) ∧ W.cell? ⟨w.heap.size + 1, 1, none⟩ = some (.int .i64 n) ∧ W.cell? ⟨w.heap.size + 1, 2, none⟩ = some (.string s) := by
  obtain ⟨x0, x1, x2⟩ := cells3 h.z
  obtain ⟨y0, y1, y2⟩ := cells3 h.v
  exact ⟨x0, x1, x2, y0, y1, y2⟩
theorem Tk.frozen {w W : World} {a0 a1 a2 : Value} {k n : Int} {s : ByteArray} (h : Tk w W a0 a1 a2 k n s) : W.frozen? ⟨w.heap.size, 0, none⟩ = false ∧ W.frozen? ⟨w.heap.size, 1, none⟩ = false ∧ W.frozen? ⟨w.heap.size, 2, none⟩ = false := by
  refine ⟨?_, ?_, ?_⟩ <;> simp [World.frozen?, h.z]
theorem Tk.put {w W : World} {a0 a1 a2 : Value} {k n : Int} {s : ByteArray} (h : Tk w W a0 a1 a2 k n s) (v0 v1 v2 : Value) : Tk w (((W.setCell ⟨w.heap.size, 0, none⟩ v0).setCell ⟨w.heap.size, 1, none⟩ v1).setCell ⟨w.heap.size, 2, none⟩ v2) v0 v1 v2 k n s := by
  have e1 := setCell_eq_setRow W w.heap.size 0 #[a0, a1, a2] 30 (0, 0) v0 h.z
  have h1 := setRow_heap W w.heap.size #[a0, a1, a2] (#[a0, a1, a2].setIfInBounds 0 v0) 30 (0, 0) h.z
  have e2 := setCell_eq_setRow _ w.heap.size 1 _ 30 (0, 0) v1 h1
  have h2 := setRow_heap _ w.heap.size _ ((#[a0, a1, a2].setIfInBounds 0 v0).setIfInBounds 1 v1) 30 (0, 0) h1
  have e3 := setCell_eq_setRow _ w.heap.size 2 _ 30 (0, 0) v2 h2
  have h3 := setRow_heap _ w.heap.size _ (((#[a0, a1, a2].setIfInBounds 0 v0).setIfInBounds 1 v1).setIfInBounds 2 v2) 30 (0, 0) h2
  refine ⟨?_, ?_, ?_⟩
  · rw [e1, e2, e3, h3]
    rfl
  · rw [e1, e2, e3, setRow_other _ _ _ _ (by omega), setRow_other _ _ _ _ (by omega), setRow_other _ _ _ _ (by omega)]
    exact h.v
  · exact ((h.bel.setCell (p := ⟨w.heap.size, 0, none⟩) (Nat.le_refl _) v0).setCell (p := ⟨w.heap.size, 1, none⟩) (Nat.le_refl _) v1).setCell (p := ⟨w.heap.size, 2, none⟩) (Nat.le_refl _) v2
end Go.Proofs.YtkogcobcjoojnaaGreatDoor.Fl

namespace Go.Proofs.YtkogcobcjoojnaaGreatDoor.Fl
open Go.RowKit Go.Maps
set_option linter.unusedVariables false
set_option linter.unusedSimpArgs false
/-- The result's box. -/
structure Zb (w W : World) (a0 a1 a2 : Value) : Prop where
  z : W.heap[w.heap.size]? = some (.cells #[a0, a1, a2] 30 (0, 0))
  bel : Below w.heap.size w W
theorem Zb.start (w : World) (a0 a1 a2 : Value) : Zb w (w.alloc (.cells #[a0, a1, a2] 30)) a0 a1 a2 := ⟨heap_alloc_new _ _, (Below.refl _ _).alloc (Nat.le_refl _) _⟩
theorem Zb.below {w W W' : World} {a0 a1 a2 : Value} (h : Zb w W a0 a1 a2) (hb : Below W.heap.size W W') : Zb w W' a0 a1 a2 := ⟨(hb.block _ (lt_block h.z)).trans h.z, h.bel.trans (hb.mono h.bel.size)⟩
theorem Zb.facts {w W : World} {a0 a1 a2 : Value} (h : Zb w W a0 a1 a2) : W.cell? ⟨w.heap.size, 0, none⟩ = some a0 ∧ W.cell? ⟨w.heap.size, 1, none⟩ = some a1 ∧ W.cell? ⟨w.heap.size, 2, none⟩ = some a2 ∧ W.frozen? ⟨w.heap.size, 0, none⟩ = false ∧ W.frozen? ⟨w.heap.size, 1, none⟩ = false ∧ W.frozen? ⟨w.heap.size, 2, none⟩ = false := by
  obtain ⟨x0, x1, x2⟩ := cells3 h.z
  refine ⟨x0, x1, x2, ?_, ?_, ?_⟩ <;> simp [World.frozen?, h.z]
theorem Zb.put {w W : World} {a0 a1 a2 : Value} (h : Zb w W a0 a1 a2) (v0 v1 v2 : Value) : Zb w (((W.setCell ⟨w.heap.size, 0, none⟩ v0).setCell ⟨w.heap.size, 1, none⟩ v1).setCell ⟨w.heap.size, 2, none⟩ v2) v0 v1 v2 := by
  have e1 := setCell_eq_setRow W w.heap.size 0 #[a0, a1, a2] 30 (0, 0) v0 h.z
  have h1 := setRow_heap W w.heap.size #[a0, a1, a2] (#[a0, a1, a2].setIfInBounds 0 v0) 30 (0, 0) h.z
  have e2 := setCell_eq_setRow _ w.heap.size 1 _ 30 (0, 0) v1 h1
  have h2 := setRow_heap _ w.heap.size _ ((#[a0, a1, a2].setIfInBounds 0 v0).setIfInBounds 1 v1) 30 (0, 0) h1
  have e3 := setCell_eq_setRow _ w.heap.size 2 _ 30 (0, 0) v2 h2
  have h3 := setRow_heap _ w.heap.size _ (((#[a0, a1, a2].setIfInBounds 0 v0).setIfInBounds 1 v1).setIfInBounds 2 v2) 30 (0, 0) h2
  refine ⟨?_, ?_⟩
  · rw [e1, e2, e3, h3]
    rfl
  · exact ((h.bel.setCell (p := ⟨w.heap.size, 0, none⟩) (Nat.le_refl _) v0).setCell (p := ⟨w.heap.size, 1, none⟩) (Nat.le_refl _) v1).setCell (p := ⟨w.heap.size, 2, none⟩) (Nat.le_refl _) v2
end Go.Proofs.YtkogcobcjoojnaaGreatDoor.Fl
