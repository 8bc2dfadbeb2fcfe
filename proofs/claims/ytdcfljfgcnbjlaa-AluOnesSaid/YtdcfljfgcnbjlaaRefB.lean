/- Contracts of the reference of layer 1: differences, and what is made bit by bit. -/
import Derived.Test.YtdcfljfgcnbjlaaRefA
namespace Go.Proofs.Ytdcfljfgcnbjlaa
open Go.RowKit
set_option linter.unusedSimpArgs false
set_option linter.unusedVariables false

/-- The digit, and the borrow, of a difference of bits. -/
def dS (s : Int) : Int := if s < 0 then s + 2 else s
def dC (s : Int) : Int := if s < 0 then 1 else 0
theorem diff_step (a b k : Nat) (zs : List Int) (c0 cc : Int) (hl : zs.length = k) (hc : cc = 0 ∨ cc = 1)
    (h : val zs - ((2 ^ k : Nat) : Int) * cc = ((a % 2 ^ k : Nat) : Int) - ((b % 2 ^ k : Nat) : Int) - c0) :
    val (zs ++ [dS (bitN a k - bitN b k - cc)]) - ((2 ^ (k + 1) : Nat) : Int) * dC (bitN a k - bitN b k - cc) = ((a % 2 ^ (k + 1) : Nat) : Int) - ((b % 2 ^ (k + 1) : Nat) : Int) - c0 := by
  rw [mod_succ, mod_succ, val_snoc, hl, pow_cast, Nat.pow_succ]
  generalize ((a % 2 ^ k : Nat) : Int) = x at *
  generalize ((b % 2 ^ k : Nat) : Int) = y at *
  generalize 2 ^ k = p at *
  rcases bitN_01 a k with h1 | h1 <;> rcases bitN_01 b k with h2 | h2 <;> rcases hc with h3 | h3 <;> (rw [h1, h2, h3]; rw [h3] at h; simp only [dS, dC]; push_cast at h ⊢; simp <;> omega)

theorem rsub_nat (a b : Nat) (c : Bool) (ha : a ≤ 255) (hb : b ≤ 255) (w : World) :
    Calls Try.prog 20 #[.int .u8 (a : Int), .int .u8 (b : Int), .bool c] w (Ret (two (((a : Int) - b - sel c 1) % 256) (fl (decide (((a : Int) - b - sel c 1) % 256 = 0)) true (decide ((a : Int) % 16 < b % 16 + sel c 1)) (decide ((a : Int) < b + sel c 1)))) w) := by
  obtain ⟨i0, hi0, hz0, hz1, hz2⟩ := info_parts int_info
  obtain ⟨q, hq, hq0, hq1⟩ := sel_ex c
  rw [hq]
  have HQ := hid_ hq
  clear hq
  obtain ⟨half, hhalf⟩ : ∃ x, decide ((a : Int) % 16 < b % 16 + q) = x := ⟨_, rfl⟩
  rw [hhalf]
  have HH := hid_ hhalf
  clear hhalf
  go_enter Try.func20, Try.ntmps20
  go_wp2_with fail
  refine (rone_any _ _).mono ?_
  rintro e w1 ⟨rfl, rfl⟩
  rw [HQ.out]
  go_wp2_with fail
  go_loopw [8, 9, 10, 11] (fun cv hv l i wr => ∃ (k : Nat) (zs : List Int) (cc : Int), k ≤ 8 ∧ i = .int .i64 k ∧ cv = .int .i64 cc ∧ (cc = 0 ∨ cc = 1) ∧ zs.length = k ∧ Bits zs ∧
      wr.ownsRow w.heap.size 3 1 l k (zs.map (Value.int .i64)) ∧ Below w.heap.size w wr ∧ val zs - ((2 ^ k : Nat) : Int) * cc = ((a % 2 ^ k : Nat) : Int) - ((b % 2 ^ k : Nat) : Int) - q ∧
      hv = .bool (decide (4 ≤ k) && half)) (fun _ _ _ i _ => 8 - (intOf i).toNat)
  case atStart =>
    refine ⟨0, [], q, by omega, rfl, rfl, by omega, rfl, by simp [Bits], World.ownsRow_nil _ _ _ _, Below.refl _ _, ?_, rfl⟩
    simp [val, Nat.mod_one]
  case round =>
    obtain ⟨k, zs, cc, hk, rfl, rfl, hcc, hl, hzs, hown, hbel, hsum, rfl⟩ := hrel
    have hcc0 : 0 ≤ cc := by omega
    have hcc1 : cc ≤ 1 := by omega
    have hown' := hown
    have hw := hbel.size
    by_cases hlt : k < 8
    · go_wp2_with fail
      refine (bit_any a k ha (by omega) _).mono ?_
      rintro e w1 ⟨rfl, rfl⟩
      go_wp2_with fail
      refine (bit_any b k hb (by omega) _).mono ?_
      rintro e w1 ⟨rfl, rfl⟩
      have hstep := diff_step a b k zs q cc hl hcc hsum
      have h01a := bitN_01 a k
      have h01b := bitN_01 b k
      generalize bitN a k = x at *
      generalize bitN b k = y at *
      have hx0 : 0 ≤ x := by omega
      have hx1 : x ≤ 1 := by omega
      have hy0 : 0 ≤ y := by omega
      have hy1 : y ≤ 1 := by omega
      have HS := hid_ hstep
      have HU := hid_ hsum
      clear hstep hsum h01a h01b hcc
      by_cases h3 : k = 3
      · have h3' : ((k : Int) == 3) = true := by simp [h3]
        have H3 := hid_ h3
        clear h3
        have HL := hid_ hl
        clear hl
        by_cases hneg : x - y - cc < 0
        · have hds : dS (x - y - cc) = x - y - cc + 2 := if_pos hneg
          have hdc : dC (x - y - cc) = 1 := if_pos hneg
          have hst := HS.out
          rw [hds, hdc] at hst
          clear HS hds hdc
          have HS := hid_ hst
          clear hst
          go_wp2_with (first
            | (at_builtin
               refine wpList_append_own _ rfl (.tmp 33) (.tmp 35) 46 rfl w.heap.size 3 i0 (.int .i64 0) 1 8 Try.underlying46 hi0 hz0 hz1 hz2 rfl (by decide) u10 k (zs.map (Value.int .i64)) rfl (hown.alloc _)
                 ⟨wr.heap.size, 0, none⟩ 1 1 [.int .i64 (x - y - cc + 2)] rfl rfl ?c1 ?c2 ?c3 ?c4 ?c5 ?_
               case c1 => exact cell_one_new _ _ _
               case c2 => simp [Value.oneCell']
               case c3 => simp only [maxLen]; omega
               case c4 => omega
               case c5 => simp; omega
               intro v1 w1 hown1 hgrow1 _))
          have hbz : Bits (zs ++ [x - y - cc + 2]) := hzs.snoc (by omega)
          have hlz : (zs ++ [x - y - cc + 2]).length = k + 1 := by simp [HL.out]
          have hsz := HS.out
          refine ⟨⟨k + 1, zs ++ [x - y - cc + 2], 1, by omega, by go_num, rfl, by omega, hlz, hbz, by rw [List.map_append]; exact hown1,
            (hbel.alloc hw _).grown hgrow1 (by simp; omega) (fun j hj => (hown.lt j hj).1), hsz, ?_⟩, by simp [intOf]; omega⟩
          have h3 := H3.out
          subst h3
          have hv := val_bd _ hbz
          rw [hlz] at hv
          rw [← HH.out]
          congr 1
          rw [Bool.eq_iff_iff]
          rw [show (2 ^ (3 + 1) : Nat) = 16 from rfl] at hsz
          rw [show (2 : Int) ^ (3 + 1) = 16 from rfl] at hv
          simp
          omega
        · have hds : dS (x - y - cc) = x - y - cc := if_neg hneg
          have hdc : dC (x - y - cc) = 0 := if_neg hneg
          have hst := HS.out
          rw [hds, hdc] at hst
          clear HS hds hdc
          have HS := hid_ hst
          clear hst
          go_wp2_with (first
            | (at_builtin
               refine wpList_append_own _ rfl (.tmp 33) (.tmp 35) 46 rfl w.heap.size 3 i0 (.int .i64 0) 1 8 Try.underlying46 hi0 hz0 hz1 hz2 rfl (by decide) u10 k (zs.map (Value.int .i64)) rfl (hown.alloc _)
                 ⟨wr.heap.size, 0, none⟩ 1 1 [.int .i64 (x - y - cc)] rfl rfl ?c1 ?c2 ?c3 ?c4 ?c5 ?_
               case c1 => exact cell_one_new _ _ _
               case c2 => simp [Value.oneCell']
               case c3 => simp only [maxLen]; omega
               case c4 => omega
               case c5 => simp; omega
               intro v1 w1 hown1 hgrow1 _))
          have hbz : Bits (zs ++ [x - y - cc]) := hzs.snoc (by omega)
          have hlz : (zs ++ [x - y - cc]).length = k + 1 := by simp [HL.out]
          have hsz := HS.out
          refine ⟨⟨k + 1, zs ++ [x - y - cc], 0, by omega, by go_num, rfl, by omega, hlz, hbz, by rw [List.map_append]; exact hown1,
            (hbel.alloc hw _).grown hgrow1 (by simp; omega) (fun j hj => (hown.lt j hj).1), hsz, ?_⟩, by simp [intOf]; omega⟩
          have h3 := H3.out
          subst h3
          have hv := val_bd _ hbz
          rw [hlz] at hv
          rw [← HH.out]
          congr 1
          rw [Bool.eq_iff_iff]
          rw [show (2 ^ (3 + 1) : Nat) = 16 from rfl] at hsz
          rw [show (2 : Int) ^ (3 + 1) = 16 from rfl] at hv
          simp
          omega
      · have h3' : ((k : Int) == 3) = false := by simp; omega
        have H3 := hid_ h3
        clear h3
        have HL := hid_ hl
        clear hl
        by_cases hneg : x - y - cc < 0
        · have hds : dS (x - y - cc) = x - y - cc + 2 := if_pos hneg
          have hdc : dC (x - y - cc) = 1 := if_pos hneg
          have hst := HS.out
          rw [hds, hdc] at hst
          clear HS hds hdc
          have HS := hid_ hst
          clear hst
          go_wp2_with (first
            | (at_builtin
               refine wpList_append_own _ rfl (.tmp 33) (.tmp 35) 46 rfl w.heap.size 3 i0 (.int .i64 0) 1 8 Try.underlying46 hi0 hz0 hz1 hz2 rfl (by decide) u10 k (zs.map (Value.int .i64)) rfl (hown.alloc _)
                 ⟨wr.heap.size, 0, none⟩ 1 1 [.int .i64 (x - y - cc + 2)] rfl rfl ?c1 ?c2 ?c3 ?c4 ?c5 ?_
               case c1 => exact cell_one_new _ _ _
               case c2 => simp [Value.oneCell']
               case c3 => simp only [maxLen]; omega
               case c4 => omega
               case c5 => simp; omega
               intro v1 w1 hown1 hgrow1 _))
          have hbz : Bits (zs ++ [x - y - cc + 2]) := hzs.snoc (by omega)
          have hlz : (zs ++ [x - y - cc + 2]).length = k + 1 := by simp [HL.out]
          have hsz := HS.out
          refine ⟨⟨k + 1, zs ++ [x - y - cc + 2], 1, by omega, by go_num, rfl, by omega, hlz, hbz, by rw [List.map_append]; exact hown1,
            (hbel.alloc hw _).grown hgrow1 (by simp; omega) (fun j hj => (hown.lt j hj).1), hsz, ?_⟩, by simp [intOf]; omega⟩
          have h3 := H3.out
          congr 2
          exact decide_eq_decide.2 (by omega)
        · have hds : dS (x - y - cc) = x - y - cc := if_neg hneg
          have hdc : dC (x - y - cc) = 0 := if_neg hneg
          have hst := HS.out
          rw [hds, hdc] at hst
          clear HS hds hdc
          have HS := hid_ hst
          clear hst
          go_wp2_with (first
            | (at_builtin
               refine wpList_append_own _ rfl (.tmp 33) (.tmp 35) 46 rfl w.heap.size 3 i0 (.int .i64 0) 1 8 Try.underlying46 hi0 hz0 hz1 hz2 rfl (by decide) u10 k (zs.map (Value.int .i64)) rfl (hown.alloc _)
                 ⟨wr.heap.size, 0, none⟩ 1 1 [.int .i64 (x - y - cc)] rfl rfl ?c1 ?c2 ?c3 ?c4 ?c5 ?_
               case c1 => exact cell_one_new _ _ _
               case c2 => simp [Value.oneCell']
               case c3 => simp only [maxLen]; omega
               case c4 => omega
               case c5 => simp; omega
               intro v1 w1 hown1 hgrow1 _))
          have hbz : Bits (zs ++ [x - y - cc]) := hzs.snoc (by omega)
          have hlz : (zs ++ [x - y - cc]).length = k + 1 := by simp [HL.out]
          have hsz := HS.out
          refine ⟨⟨k + 1, zs ++ [x - y - cc], 0, by omega, by go_num, rfl, by omega, hlz, hbz, by rw [List.map_append]; exact hown1,
            (hbel.alloc hw _).grown hgrow1 (by simp; omega) (fun j hj => (hown.lt j hj).1), hsz, ?_⟩, by simp [intOf]; omega⟩
          have h3 := H3.out
          congr 2
          exact decide_eq_decide.2 (by omega)
    · obtain rfl : k = 8 := by omega
      obtain ⟨g, cap, hv, hg, hlt⟩ := hown.form (by omega)
      subst hv
      have hcell : ∀ j, j < 8 → wr.cell? ⟨g, j, none⟩ = some (.int .i64 (zs.getD j 0)) := by
        intro j hj
        rw [hown.cellAt j (by omega), List.getElem?_map, List.getD_eq_getElem?_getD, List.getElem?_eq_getElem (by omega)]
        rfl
      have hvb := val_bd _ hzs
      rw [hl] at hvb
      have e256 : val zs = ((a : Int) - b - q) % 256 ∧ (cc == 1) = decide ((a : Int) < b + q) := by
        rw [show (2 ^ 8 : Nat) = 256 from rfl, Nat.mod_eq_of_lt (by omega : a < 256), Nat.mod_eq_of_lt (by omega : b < 256)] at hsum
        constructor
        · omega
        · rw [Bool.eq_iff_iff]; simp; omega
      obtain ⟨e1, e2⟩ := e256
      have E1 := hid_ e1
      have E2 := hid_ e2
      have hbo := byteOf_any g cap zs hl hzs wr hcell
      have HBO := hid_ hbo
      clear hbo hcell e1 e2 hsum hown' hvb hcc
      go_wp2_with fail
      refine HBO.out.mono ?_
      rintro e w1 ⟨rfl, rfl⟩
      go_wp2_with fail
      refine (flags_any _ _ _ _ _).mono ?_
      rintro e w1 ⟨rfl, rfl⟩
      go_wp2_with fail
      go_ret2
      exact .of (ret_two E1.out (by rw [← E1.out, ← E2.out]; rfl)) hbel
end Go.Proofs.Ytdcfljfgcnbjlaa
