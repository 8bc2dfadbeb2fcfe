/- Contracts of the reference of layer 1: what is made bit by bit; one more, one less; bits; its turns' leaves. -/
import Derived.Test.YtdcfljfgcnbjlaaRefB
namespace Go.Proofs.Ytdcfljfgcnbjlaa
open Go.RowKit
set_option linter.unusedSimpArgs false
set_option linter.unusedVariables false

theorem bitN_test (a k : Nat) : bitN a k = ((a.testBit k).toNat : Int) := by
  unfold bitN; rw [Nat.toNat_testBit]
theorem bit_and (a b k : Nat) : bitN (a &&& b) k = bitN a k * bitN b k := by
  rw [bitN_test, bitN_test, bitN_test, Nat.testBit_and]; cases a.testBit k <;> cases b.testBit k <;> rfl
theorem bit_or (a b k : Nat) : bitN (a ||| b) k = max (bitN a k) (bitN b k) := by
  rw [bitN_test, bitN_test, bitN_test, Nat.testBit_or]; cases a.testBit k <;> cases b.testBit k <;> rfl
theorem bit_xor (a b k : Nat) : bitN (a ^^^ b) k = (bitN a k + bitN b k) % 2 := by
  rw [bitN_test, bitN_test, bitN_test, Nat.testBit_xor]; cases a.testBit k <;> cases b.testBit k <;> rfl
theorem val_bit (c k : Nat) (zs : List Int) (hl : zs.length = k) (h : val zs = ((c % 2 ^ k : Nat) : Int)) : val (zs ++ [bitN c k]) = ((c % 2 ^ (k + 1) : Nat) : Int) := by
  rw [mod_succ, val_snoc, hl, pow_cast, h]

theorem rlogic0 (a b : Nat) (ha : a ≤ 255) (hb : b ≤ 255) (w : World) :
    Calls Try.prog 22 #[.int .i64 0, .int .u8 (a : Int), .int .u8 (b : Int)] w (Ret (two (bits .and .u8 (a : Int) (b : Int)) (fl (decide (bits .and .u8 (a : Int) (b : Int) = 0)) false true false)) w) := by
  obtain ⟨i0, hi0, hz0, hz1, hz2⟩ := info_parts int_info
  obtain ⟨c, hc⟩ : ∃ c, a &&& b = c := ⟨_, rfl⟩
  have hbit := fun k => bit_and a b k
  have hR : bits .and .u8 (a : Int) (b : Int) = (c : Int) := by rw [u8_and_nat a b (by omega) (by omega), hc]
  have hc8 : c < 2 ^ 8 := by rw [← hc]; exact Nat.and_lt_two_pow a (by omega)
  rw [hc] at hbit
  rw [hR]
  have HB := hid_ hbit
  clear hbit hR hc
  go_enter Try.func22, Try.ntmps22
  go_wp2_with fail
  go_loopw [8, 9] (fun l i wr => ∃ (k : Nat) (zs : List Int), k ≤ 8 ∧ i = .int .i64 k ∧ zs.length = k ∧ Bits zs ∧
      wr.ownsRow w.heap.size 3 1 l k (zs.map (Value.int .i64)) ∧ Below w.heap.size w wr ∧ val zs = ((c % 2 ^ k : Nat) : Int)) (fun _ i _ => 8 - (intOf i).toNat)
  case atStart =>
    refine ⟨0, [], by omega, rfl, rfl, by simp [Bits], World.ownsRow_nil _ _ _ _, Below.refl _ _, ?_⟩
    simp [val, Nat.mod_one]
  case round =>
    obtain ⟨k, zs, hk, rfl, hl, hzs, hown, hbel, hsum⟩ := hrel
    have hw := hbel.size
    by_cases hlt : k < 8
    · go_wp2_with fail
      refine (bit_any a k ha (by omega) _).mono ?_
      rintro e w1 ⟨rfl, rfl⟩
      go_wp2_with fail
      refine (bit_any b k hb (by omega) _).mono ?_
      rintro e w1 ⟨rfl, rfl⟩
      have hstep := val_bit c k zs hl hsum
      have h01 := bitN_01 c k
      rw [HB.out k] at hstep h01
      have h01a := bitN_01 a k
      have h01b := bitN_01 b k
      generalize bitN a k = x at *
      generalize bitN b k = y at *
      have hx0 : 0 ≤ x := by omega
      have hx1 : x ≤ 1 := by omega
      have hy0 : 0 ≤ y := by omega
      have hy1 : y ≤ 1 := by omega
      have HS := hid_ hstep
      have H01 := hid_ h01
      have HL := hid_ hl
      have HX := hid_ h01a
      have HY := hid_ h01b
      clear hstep hsum h01 hl h01a h01b
      have hxy : 0 ≤ x * y := Int.mul_nonneg hx0 hy0
      have hxy1 : x * y ≤ 1 := by rcases HX.out with h | h <;> rw [h] <;> omega
      go_wp2_with (first
        | (at_builtin
           refine wpList_append_own _ rfl (.tmp 26) (.tmp 30) 46 rfl w.heap.size 3 i0 (.int .i64 0) 1 8 Try.underlying46 hi0 hz0 hz1 hz2 rfl (by decide) u8 k (zs.map (Value.int .i64)) rfl (hown.alloc _)
             ⟨wr.heap.size, 0, none⟩ 1 1 [.int .i64 (x * y)] rfl rfl ?c1 ?c2 ?c3 ?c4 ?c5 ?_
           case c1 => exact cell_one_new _ _ _
           case c2 => simp [Value.oneCell']
           case c3 => simp only [maxLen]; omega
           case c4 => omega
           case c5 => simp; omega
           intro v1 w1 hown1 hgrow1 _))
      have hbz : Bits (zs ++ [x * y]) := hzs.snoc H01.out
      have hlz : (zs ++ [x * y]).length = k + 1 := by simp [HL.out]
      exact ⟨⟨k + 1, zs ++ [x * y], by omega, by go_num, hlz, hbz, by rw [List.map_append]; exact hown1,
        (hbel.alloc hw _).grown hgrow1 (by simp; omega) (fun j hj => (hown.lt j hj).1), HS.out⟩, by simp [intOf]; omega⟩
    · obtain rfl : k = 8 := by omega
      obtain ⟨g, cap, hv, hg, hlt⟩ := hown.form (by omega)
      subst hv
      have hcell : ∀ j, j < 8 → wr.cell? ⟨g, j, none⟩ = some (.int .i64 (zs.getD j 0)) := by
        intro j hj
        rw [hown.cellAt j (by omega), List.getElem?_map, List.getD_eq_getElem?_getD, List.getElem?_eq_getElem (by omega)]
        rfl
      rw [Nat.mod_eq_of_lt hc8] at hsum
      have HBO := hid_ (byteOf_any g cap zs hl hzs wr hcell)
      have HS := hid_ hsum
      clear hcell hsum
      go_wp2_with fail
      refine HBO.out.mono ?_
      rintro e w1 ⟨rfl, rfl⟩
      rw [HS.out]
      go_wp2_with fail
      refine (flags_any _ _ _ _ _).mono ?_
      rintro e w1 ⟨rfl, rfl⟩
      go_wp2_with fail
      go_ret2
      exact .of (ret_two rfl (by first | rfl | (congr 1; rw [Bool.eq_iff_iff]; simp))) hbel

theorem rlogic1 (a b : Nat) (ha : a ≤ 255) (hb : b ≤ 255) (w : World) :
    Calls Try.prog 22 #[.int .i64 1, .int .u8 (a : Int), .int .u8 (b : Int)] w (Ret (two (bits .or .u8 (a : Int) (b : Int)) (fl (decide (bits .or .u8 (a : Int) (b : Int) = 0)) false false false)) w) := by
  obtain ⟨i0, hi0, hz0, hz1, hz2⟩ := info_parts int_info
  obtain ⟨c, hc⟩ : ∃ c, a ||| b = c := ⟨_, rfl⟩
  have hbit := fun k => bit_or a b k
  have hR : bits .or .u8 (a : Int) (b : Int) = (c : Int) := by rw [u8_or_nat a b (by omega) (by omega), hc]
  have hc8 : c < 2 ^ 8 := by rw [← hc]; exact Nat.or_lt_two_pow (by omega) (by omega)
  rw [hc] at hbit
  rw [hR]
  have HB := hid_ hbit
  clear hbit hR hc
  go_enter Try.func22, Try.ntmps22
  go_wp2_with fail
  go_loopw [8, 9] (fun l i wr => ∃ (k : Nat) (zs : List Int), k ≤ 8 ∧ i = .int .i64 k ∧ zs.length = k ∧ Bits zs ∧
      wr.ownsRow w.heap.size 3 1 l k (zs.map (Value.int .i64)) ∧ Below w.heap.size w wr ∧ val zs = ((c % 2 ^ k : Nat) : Int)) (fun _ i _ => 8 - (intOf i).toNat)
  case atStart =>
    refine ⟨0, [], by omega, rfl, rfl, by simp [Bits], World.ownsRow_nil _ _ _ _, Below.refl _ _, ?_⟩
    simp [val, Nat.mod_one]
  case round =>
    obtain ⟨k, zs, hk, rfl, hl, hzs, hown, hbel, hsum⟩ := hrel
    have hw := hbel.size
    by_cases hlt : k < 8
    · go_wp2_with fail
      refine (bit_any a k ha (by omega) _).mono ?_
      rintro e w1 ⟨rfl, rfl⟩
      go_wp2_with fail
      refine (bit_any b k hb (by omega) _).mono ?_
      rintro e w1 ⟨rfl, rfl⟩
      have hstep := val_bit c k zs hl hsum
      have h01 := bitN_01 c k
      rw [HB.out k] at hstep h01
      have h01a := bitN_01 a k
      have h01b := bitN_01 b k
      generalize bitN a k = x at *
      generalize bitN b k = y at *
      rcases h01a with h | h <;> rcases h01b with h' | h' <;> subst h <;> subst h'
      · have hstep : val (zs ++ [0]) = ((c % 2 ^ (k + 1) : Nat) : Int) := hstep
        have HS := hid_ hstep
        have HL := hid_ hl
        clear hstep hsum h01 hl
        go_wp2_with (first
          | (at_builtin
             refine wpList_append_own _ rfl (.tmp 34) (.tmp 38) 46 rfl w.heap.size 3 i0 (.int .i64 0) 1 8 Try.underlying46 hi0 hz0 hz1 hz2 rfl (by decide) u8 k (zs.map (Value.int .i64)) rfl (hown.alloc _)
               ⟨wr.heap.size, 0, none⟩ 1 1 [.int .i64 0] rfl rfl ?c1 ?c2 ?c3 ?c4 ?c5 ?_
             case c1 => exact cell_one_new _ _ _
             case c2 => simp [Value.oneCell']
             case c3 => simp only [maxLen]; omega
             case c4 => omega
             case c5 => simp; omega
             intro v1 w1 hown1 hgrow1 _))
        have hbz : Bits (zs ++ [0]) := hzs.snoc (by omega)
        have hlz : (zs ++ [0]).length = k + 1 := by simp [HL.out]
        exact ⟨⟨k + 1, zs ++ [0], by omega, by go_num, hlz, hbz, by rw [List.map_append]; exact hown1,
          (hbel.alloc hw _).grown hgrow1 (by simp; omega) (fun j hj => (hown.lt j hj).1), HS.out⟩, by simp [intOf]; omega⟩
      · have hstep : val (zs ++ [1]) = ((c % 2 ^ (k + 1) : Nat) : Int) := hstep
        have HS := hid_ hstep
        have HL := hid_ hl
        clear hstep hsum h01 hl
        go_wp2_with (first
          | (at_builtin
             refine wpList_append_own _ rfl (.tmp 34) (.tmp 38) 46 rfl w.heap.size 3 i0 (.int .i64 0) 1 8 Try.underlying46 hi0 hz0 hz1 hz2 rfl (by decide) u8 k (zs.map (Value.int .i64)) rfl (hown.alloc _)
               ⟨wr.heap.size, 0, none⟩ 1 1 [.int .i64 1] rfl rfl ?c1 ?c2 ?c3 ?c4 ?c5 ?_
             case c1 => exact cell_one_new _ _ _
             case c2 => simp [Value.oneCell']
             case c3 => simp only [maxLen]; omega
             case c4 => omega
             case c5 => simp; omega
             intro v1 w1 hown1 hgrow1 _))
        have hbz : Bits (zs ++ [1]) := hzs.snoc (by omega)
        have hlz : (zs ++ [1]).length = k + 1 := by simp [HL.out]
        exact ⟨⟨k + 1, zs ++ [1], by omega, by go_num, hlz, hbz, by rw [List.map_append]; exact hown1,
          (hbel.alloc hw _).grown hgrow1 (by simp; omega) (fun j hj => (hown.lt j hj).1), HS.out⟩, by simp [intOf]; omega⟩
      · have hstep : val (zs ++ [1]) = ((c % 2 ^ (k + 1) : Nat) : Int) := hstep
        have HS := hid_ hstep
        have HL := hid_ hl
        clear hstep hsum h01 hl
        go_wp2_with (first
          | (at_builtin
             refine wpList_append_own _ rfl (.tmp 34) (.tmp 38) 46 rfl w.heap.size 3 i0 (.int .i64 0) 1 8 Try.underlying46 hi0 hz0 hz1 hz2 rfl (by decide) u8 k (zs.map (Value.int .i64)) rfl (hown.alloc _)
               ⟨wr.heap.size, 0, none⟩ 1 1 [.int .i64 1] rfl rfl ?c1 ?c2 ?c3 ?c4 ?c5 ?_
             case c1 => exact cell_one_new _ _ _
             case c2 => simp [Value.oneCell']
             case c3 => simp only [maxLen]; omega
             case c4 => omega
             case c5 => simp; omega
             intro v1 w1 hown1 hgrow1 _))
        have hbz : Bits (zs ++ [1]) := hzs.snoc (by omega)
        have hlz : (zs ++ [1]).length = k + 1 := by simp [HL.out]
        exact ⟨⟨k + 1, zs ++ [1], by omega, by go_num, hlz, hbz, by rw [List.map_append]; exact hown1,
          (hbel.alloc hw _).grown hgrow1 (by simp; omega) (fun j hj => (hown.lt j hj).1), HS.out⟩, by simp [intOf]; omega⟩
      · have hstep : val (zs ++ [1]) = ((c % 2 ^ (k + 1) : Nat) : Int) := hstep
        have HS := hid_ hstep
        have HL := hid_ hl
        clear hstep hsum h01 hl
        go_wp2_with (first
          | (at_builtin
             refine wpList_append_own _ rfl (.tmp 34) (.tmp 38) 46 rfl w.heap.size 3 i0 (.int .i64 0) 1 8 Try.underlying46 hi0 hz0 hz1 hz2 rfl (by decide) u8 k (zs.map (Value.int .i64)) rfl (hown.alloc _)
               ⟨wr.heap.size, 0, none⟩ 1 1 [.int .i64 1] rfl rfl ?c1 ?c2 ?c3 ?c4 ?c5 ?_
             case c1 => exact cell_one_new _ _ _
             case c2 => simp [Value.oneCell']
             case c3 => simp only [maxLen]; omega
             case c4 => omega
             case c5 => simp; omega
             intro v1 w1 hown1 hgrow1 _))
        have hbz : Bits (zs ++ [1]) := hzs.snoc (by omega)
        have hlz : (zs ++ [1]).length = k + 1 := by simp [HL.out]
        exact ⟨⟨k + 1, zs ++ [1], by omega, by go_num, hlz, hbz, by rw [List.map_append]; exact hown1,
          (hbel.alloc hw _).grown hgrow1 (by simp; omega) (fun j hj => (hown.lt j hj).1), HS.out⟩, by simp [intOf]; omega⟩
    · obtain rfl : k = 8 := by omega
      obtain ⟨g, cap, hv, hg, hlt⟩ := hown.form (by omega)
      subst hv
      have hcell : ∀ j, j < 8 → wr.cell? ⟨g, j, none⟩ = some (.int .i64 (zs.getD j 0)) := by
        intro j hj
        rw [hown.cellAt j (by omega), List.getElem?_map, List.getD_eq_getElem?_getD, List.getElem?_eq_getElem (by omega)]
        rfl
      rw [Nat.mod_eq_of_lt hc8] at hsum
      have HBO := hid_ (byteOf_any g cap zs hl hzs wr hcell)
      have HS := hid_ hsum
      clear hcell hsum
      go_wp2_with fail
      refine HBO.out.mono ?_
      rintro e w1 ⟨rfl, rfl⟩
      rw [HS.out]
      go_wp2_with fail
      refine (flags_any _ _ _ _ _).mono ?_
      rintro e w1 ⟨rfl, rfl⟩
      go_wp2_with fail
      go_ret2
      exact .of (ret_two rfl (by first | rfl | (congr 1; rw [Bool.eq_iff_iff]; simp))) hbel

theorem rlogic2 (a b : Nat) (ha : a ≤ 255) (hb : b ≤ 255) (w : World) :
    Calls Try.prog 22 #[.int .i64 2, .int .u8 (a : Int), .int .u8 (b : Int)] w (Ret (two (bits .xor .u8 (a : Int) (b : Int)) (fl (decide (bits .xor .u8 (a : Int) (b : Int) = 0)) false false false)) w) := by
  obtain ⟨i0, hi0, hz0, hz1, hz2⟩ := info_parts int_info
  obtain ⟨c, hc⟩ : ∃ c, a ^^^ b = c := ⟨_, rfl⟩
  have hbit := fun k => bit_xor a b k
  have hR : bits .xor .u8 (a : Int) (b : Int) = (c : Int) := by rw [u8_xor_nat a b (by omega) (by omega), hc]
  have hc8 : c < 2 ^ 8 := by rw [← hc]; exact Nat.xor_lt_two_pow (by omega) (by omega)
  rw [hc] at hbit
  rw [hR]
  have HB := hid_ hbit
  clear hbit hR hc
  go_enter Try.func22, Try.ntmps22
  go_wp2_with fail
  go_loopw [8, 9] (fun l i wr => ∃ (k : Nat) (zs : List Int), k ≤ 8 ∧ i = .int .i64 k ∧ zs.length = k ∧ Bits zs ∧
      wr.ownsRow w.heap.size 3 1 l k (zs.map (Value.int .i64)) ∧ Below w.heap.size w wr ∧ val zs = ((c % 2 ^ k : Nat) : Int)) (fun _ i _ => 8 - (intOf i).toNat)
  case atStart =>
    refine ⟨0, [], by omega, rfl, rfl, by simp [Bits], World.ownsRow_nil _ _ _ _, Below.refl _ _, ?_⟩
    simp [val, Nat.mod_one]
  case round =>
    obtain ⟨k, zs, hk, rfl, hl, hzs, hown, hbel, hsum⟩ := hrel
    have hw := hbel.size
    by_cases hlt : k < 8
    · go_wp2_with fail
      refine (bit_any a k ha (by omega) _).mono ?_
      rintro e w1 ⟨rfl, rfl⟩
      go_wp2_with fail
      refine (bit_any b k hb (by omega) _).mono ?_
      rintro e w1 ⟨rfl, rfl⟩
      have hstep := val_bit c k zs hl hsum
      have h01 := bitN_01 c k
      rw [HB.out k] at hstep h01
      have h01a := bitN_01 a k
      have h01b := bitN_01 b k
      generalize bitN a k = x at *
      generalize bitN b k = y at *
      have hx0 : 0 ≤ x := by omega
      have hx1 : x ≤ 1 := by omega
      have hy0 : 0 ≤ y := by omega
      have hy1 : y ≤ 1 := by omega
      have HS := hid_ hstep
      have H01 := hid_ h01
      have HL := hid_ hl
      have HX := hid_ h01a
      have HY := hid_ h01b
      clear hstep hsum h01 hl h01a h01b
      skip
      go_wp2_with (first
        | (at_builtin
           refine wpList_append_own _ rfl (.tmp 42) (.tmp 47) 46 rfl w.heap.size 3 i0 (.int .i64 0) 1 8 Try.underlying46 hi0 hz0 hz1 hz2 rfl (by decide) u8 k (zs.map (Value.int .i64)) rfl (hown.alloc _)
             ⟨wr.heap.size, 0, none⟩ 1 1 [.int .i64 ((x + y) % 2)] rfl rfl ?c1 ?c2 ?c3 ?c4 ?c5 ?_
           case c1 => exact cell_one_new _ _ _
           case c2 => simp [Value.oneCell']
           case c3 => simp only [maxLen]; omega
           case c4 => omega
           case c5 => simp; omega
           intro v1 w1 hown1 hgrow1 _))
      have hbz : Bits (zs ++ [(x + y) % 2]) := hzs.snoc H01.out
      have hlz : (zs ++ [(x + y) % 2]).length = k + 1 := by simp [HL.out]
      exact ⟨⟨k + 1, zs ++ [(x + y) % 2], by omega, by go_num, hlz, hbz, by rw [List.map_append]; exact hown1,
        (hbel.alloc hw _).grown hgrow1 (by simp; omega) (fun j hj => (hown.lt j hj).1), HS.out⟩, by simp [intOf]; omega⟩
    · obtain rfl : k = 8 := by omega
      obtain ⟨g, cap, hv, hg, hlt⟩ := hown.form (by omega)
      subst hv
      have hcell : ∀ j, j < 8 → wr.cell? ⟨g, j, none⟩ = some (.int .i64 (zs.getD j 0)) := by
        intro j hj
        rw [hown.cellAt j (by omega), List.getElem?_map, List.getD_eq_getElem?_getD, List.getElem?_eq_getElem (by omega)]
        rfl
      rw [Nat.mod_eq_of_lt hc8] at hsum
      have HBO := hid_ (byteOf_any g cap zs hl hzs wr hcell)
      have HS := hid_ hsum
      clear hcell hsum
      go_wp2_with fail
      refine HBO.out.mono ?_
      rintro e w1 ⟨rfl, rfl⟩
      rw [HS.out]
      go_wp2_with fail
      refine (flags_any _ _ _ _ _).mono ?_
      rintro e w1 ⟨rfl, rfl⟩
      go_wp2_with fail
      go_ret2
      exact .of (ret_two rfl (by first | rfl | (congr 1; rw [Bool.eq_iff_iff]; simp))) hbel

end Go.Proofs.Ytdcfljfgcnbjlaa
