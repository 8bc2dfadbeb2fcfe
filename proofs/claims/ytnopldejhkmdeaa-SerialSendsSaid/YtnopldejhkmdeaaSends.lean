/- The law SerialSends: its walk. -/
import Derived.Test.YtnopldejhkmdeaaAny
import Derived.Deep.QuietTactic
import Derived.BigQuiet
namespace Go.Proofs.Ytnopldejhkmdeaa
open Go.RowKit
set_option linter.unusedSimpArgs false
set_option linter.unusedVariables false
theorem Blk.drewN {w : World} {g : Nat} {t : TypeId} {cs : Array Value} (h : Blk w g t cs) (n : Nat) : Blk (w.drewN n) g t cs := h
namespace serialSends

theorem ofInt_i64 (a : Nat) (ha : a < 9223372036854775808) : (BitVec.ofInt 64 (a : Int)).toNat = a := by
  rw [BitVec.ofInt_natCast, BitVec.toNat_ofNat]; exact Nat.mod_eq_of_lt (by omega)
theorem i64_or_nat (a b : Nat) (ha : a < 9223372036854775808) (hb : b < 9223372036854775808) : bits .or .i64 (a : Int) (b : Int) = ((a ||| b : Nat) : Int) := by
  have hx : a ||| b < 2 ^ 63 := Nat.or_lt_two_pow (by omega) (by omega)
  show IntKind.i64.wrap ((BitVec.ofInt 64 (a : Int) ||| BitVec.ofInt 64 (b : Int)).toNat : Int) = _
  rw [BitVec.toNat_or, ofInt_i64 a ha, ofInt_i64 b hb, IntKind.wrap_i64]
  omega

theorem below_drewN {B : Nat} {a w : World} (h : Below B a w) (n : Nat) : Below B a (w.drewN n) := ⟨h.os, h.tape, h.output, h.size, h.block⟩
theorem tick_still (p : St) (h : p.b = 0) : tickS p = p ∧ tickI p = false := by
  unfold tickS tickI
  rw [h]
  exact ⟨rfl, rfl⟩
/-- The byte behind j bits. -/
def dat (x : Int) (j : Nat) : Int := x * 2 ^ j % 256 + 2 ^ j - 1
/-- The port behind i cycles. -/
def st (x : Int) (i : Nat) : St := ⟨dat x (i / 128), if i < 1024 then 129 else 1, x, 8 - (i / 128 : Nat), (i % 128 : Nat), 1⟩
theorem dat_bd (x : Int) (j : Nat) (hj : j ≤ 8) : 0 ≤ dat x j ∧ dat x j ≤ 255 := by
  have h : j = 0 ∨ j = 1 ∨ j = 2 ∨ j = 3 ∨ j = 4 ∨ j = 5 ∨ j = 6 ∨ j = 7 ∨ j = 8 := by omega
  unfold dat
  rcases h with rfl | rfl | rfl | rfl | rfl | rfl | rfl | rfl | rfl <;> simp <;> omega
theorem dat_step (x : Int) (j : Nat) (hj : j ≤ 7) (hx : 0 ≤ x) (hx' : x ≤ 255) : dat x j % 128 * 2 + 1 = dat x (j + 1) := by
  have h : j = 0 ∨ j = 1 ∨ j = 2 ∨ j = 3 ∨ j = 4 ∨ j = 5 ∨ j = 6 ∨ j = 7 := by omega
  unfold dat
  rcases h with rfl | rfl | rfl | rfl | rfl | rfl | rfl | rfl <;> simp <;> omega
theorem st_ok (x : Int) (i : Nat) (hx : 0 ≤ x) (hx' : x ≤ 255) (hi : i ≤ 1024) : (st x i).ok := by
  have := dat_bd x (i / 128) (by omega)
  unfold St.ok st
  dsimp only
  refine ⟨this.1, this.2, ?_, ?_, hx, hx', ?_, ?_, ?_, ?_, ?_, ?_⟩ <;> (try split) <;> omega
theorem st_tick (x : Int) (i : Nat) (hx : 0 ≤ x) (hx' : x ≤ 255) (hi : i < 1024) : tickS (st x i) = st x (i + 1) ∧ tickI (st x i) = decide (i = 1023) := by
  have hd := dat_step x (i / 128) (by omega) hx hx'
  unfold tickS tickI st
  dsimp only
  rw [if_neg (by omega)]
  by_cases h : i % 128 + 1 < 128
  · rw [if_pos (by omega)]
    have e1 : (i + 1) / 128 = i / 128 := by omega
    have e2 : (i + 1) % 128 = i % 128 + 1 := by omega
    rw [e1, e2, if_pos hi, if_pos (by omega)]
    refine ⟨rfl, ?_⟩
    rw [Bool.eq_iff_iff]; simp; omega
  · rw [if_neg (by omega)]
    have e1 : (i + 1) / 128 = i / 128 + 1 := by omega
    have e2 : (i + 1) % 128 = 0 := by omega
    rw [e1, e2, hd]
    refine ⟨?_, by rw [Bool.eq_iff_iff]; simp; omega⟩
    by_cases h1 : i / 128 = 7
    · rw [if_neg (by omega), if_pos hi, if_neg (by omega)]
      congr 1 <;> omega
    · rw [if_pos (by omega), if_pos hi, if_pos (by omega)]
      congr 1 <;> omega
theorem val1 (x : Int) (h : 0 ≤ x) (h' : x ≤ 255) : bits .or .i64 (x * 2) 1 = x * 2 + 1 := by
  obtain ⟨n, rfl⟩ := Int.eq_ofNat_of_zero_le h
  rw [show ((n : Int) * 2) = ((n * 2 : Nat) : Int) from (Int.natCast_mul _ _).symm, show (1 : Int) = ((1 : Nat) : Int) from rfl, i64_or_nat _ _ (by omega) (by omega), nat_join 1 _ _ (by omega) (by omega)]
  rw [Int.natCast_add, Int.natCast_mul]
theorem val2 (x : Int) (h : 0 ≤ x) (h' : x ≤ 255) : bits .or .i64 (x * 4) 3 = x * 4 + 3 := by
  obtain ⟨n, rfl⟩ := Int.eq_ofNat_of_zero_le h
  rw [show ((n : Int) * 4) = ((n * 4 : Nat) : Int) from (Int.natCast_mul _ _).symm, show (3 : Int) = ((3 : Nat) : Int) from rfl, i64_or_nat _ _ (by omega) (by omega), nat_join 2 _ _ (by omega) (by omega)]
  rw [Int.natCast_add, Int.natCast_mul]
theorem val3 (x : Int) (h : 0 ≤ x) (h' : x ≤ 255) : bits .or .i64 (x * 8) 7 = x * 8 + 7 := by
  obtain ⟨n, rfl⟩ := Int.eq_ofNat_of_zero_le h
  rw [show ((n : Int) * 8) = ((n * 8 : Nat) : Int) from (Int.natCast_mul _ _).symm, show (7 : Int) = ((7 : Nat) : Int) from rfl, i64_or_nat _ _ (by omega) (by omega), nat_join 3 _ _ (by omega) (by omega)]
  rw [Int.natCast_add, Int.natCast_mul]
theorem val4 (x : Int) (h : 0 ≤ x) (h' : x ≤ 255) : bits .or .i64 (x * 16) 15 = x * 16 + 15 := by
  obtain ⟨n, rfl⟩ := Int.eq_ofNat_of_zero_le h
  rw [show ((n : Int) * 16) = ((n * 16 : Nat) : Int) from (Int.natCast_mul _ _).symm, show (15 : Int) = ((15 : Nat) : Int) from rfl, i64_or_nat _ _ (by omega) (by omega), nat_join 4 _ _ (by omega) (by omega)]
  rw [Int.natCast_add, Int.natCast_mul]
theorem val5 (x : Int) (h : 0 ≤ x) (h' : x ≤ 255) : bits .or .i64 (x * 32) 31 = x * 32 + 31 := by
  obtain ⟨n, rfl⟩ := Int.eq_ofNat_of_zero_le h
  rw [show ((n : Int) * 32) = ((n * 32 : Nat) : Int) from (Int.natCast_mul _ _).symm, show (31 : Int) = ((31 : Nat) : Int) from rfl, i64_or_nat _ _ (by omega) (by omega), nat_join 5 _ _ (by omega) (by omega)]
  rw [Int.natCast_add, Int.natCast_mul]
theorem val6 (x : Int) (h : 0 ≤ x) (h' : x ≤ 255) : bits .or .i64 (x * 64) 63 = x * 64 + 63 := by
  obtain ⟨n, rfl⟩ := Int.eq_ofNat_of_zero_le h
  rw [show ((n : Int) * 64) = ((n * 64 : Nat) : Int) from (Int.natCast_mul _ _).symm, show (63 : Int) = ((63 : Nat) : Int) from rfl, i64_or_nat _ _ (by omega) (by omega), nat_join 6 _ _ (by omega) (by omega)]
  rw [Int.natCast_add, Int.natCast_mul]
theorem val7 (x : Int) (h : 0 ≤ x) (h' : x ≤ 255) : bits .or .i64 (x * 128) 127 = x * 128 + 127 := by
  obtain ⟨n, rfl⟩ := Int.eq_ofNat_of_zero_le h
  rw [show ((n : Int) * 128) = ((n * 128 : Nat) : Int) from (Int.natCast_mul _ _).symm, show (127 : Int) = ((127 : Nat) : Int) from rfl, i64_or_nat _ _ (by omega) (by omega), nat_join 7 _ _ (by omega) (by omega)]
  rw [Int.natCast_add, Int.natCast_mul]
theorem val8 (x : Int) (h : 0 ≤ x) (h' : x ≤ 255) : bits .or .i64 (x * 256) 255 = x * 256 + 255 := by
  obtain ⟨n, rfl⟩ := Int.eq_ofNat_of_zero_le h
  rw [show ((n : Int) * 256) = ((n * 256 : Nat) : Int) from (Int.natCast_mul _ _).symm, show (255 : Int) = ((255 : Nat) : Int) from rfl, i64_or_nat _ _ (by omega) (by omega), nat_join 8 _ _ (by omega) (by omega)]
  rw [Int.natCast_add, Int.natCast_mul]

set_option maxRecDepth 100000 in
set_option maxHeartbeats 4000000 in
theorem walk (x a1 : Int) (h0 : 0 ≤ x) (h0' : x ≤ 255) (h1 : 0 ≤ a1) (h1' : a1 ≤ 65535) (w : World) :
    Calls Try.prog 5 #[.int .u8 x, .int .u16 a1] w (Ret (.bool true) w) := by
  obtain ⟨n, hn⟩ : ∃ n : Nat, a1 % 300 = n := Int.eq_ofNat_of_zero_le (by omega)
  have hn4 : n < 300 := by omega
  have HN := hid_ hn
  clear hn
  have z0 : (St.mk 0 0 0 0 0 0).ok := by unfold St.ok; decide
  have z1 : (St.mk x 0 0 0 0 0).ok := by unfold St.ok; dsimp only; omega
  have E1 : Hid (writeS ⟨0, 0, 0, 0, 0, 0⟩ 0 x = ⟨x, 0, 0, 0, 0, 0⟩) := rfl
  have E2 : Hid (writeS ⟨x, 0, 0, 0, 0, 0⟩ 1 129 = st x 0) := by
    show _ = _
    rw [writeS, if_neg (by decide), if_pos rfl, if_pos (by decide), st]
    congr 1
    show x = dat x 0
    unfold dat; simp; omega
  go_enter Try.func5, Try.ntmps5
  go_wp2_with fail
  refine (awake_any _).mono ?_
  rintro e w1 ⟨rfl, hc1, hf1, hz1, hb1⟩
  clear hc1 hf1
  go_wp2_with fail
  refine (write_any ⟨0, 0, 0, 0, 0, 0⟩ z0 0 x h0 h0' _).mono ?_
  rintro e w2 ⟨rfl, hc2, hf2, hz2, hb2⟩
  rw [E1.out]
  clear hc2 hf2
  go_wp2_with fail
  refine (write_any ⟨x, 0, 0, 0, 0, 0⟩ z1 1 129 (by omega) (by omega) _).mono ?_
  rintro e w3 ⟨rfl, hc3, hf3, hz3, hb3⟩
  rw [E2.out]
  clear hc3 hf3
  go_wp2_with fail
  have hbel3 : Below w.heap.size w (w3.alloc (.cells (cells (st x 0)) 25)) := ((hb1.trans (hb2.mono hz1)).trans (hb3.mono (by omega))).alloc (by omega) _
  have hF := Blk.new w3 25 (cells (st x 0))
  have hs3 : w.heap.size ≤ w3.heap.size := by omega
  clear hb1 hb2 hb3 hz1 hz2 hz3
  generalize (w3.alloc (.cells (cells (st x 0)) 25)) = W6 at *
  generalize w3.heap.size = g at *
  go_loopw [17] (fun i wr => ∃ k : Nat, k ≤ 1024 ∧ i = .int .i64 k ∧ Blk wr g 25 (cells (st x k)) ∧ Below w.heap.size w wr) (fun i _ => 1024 - (intOf i).toNat)
  case atStart => exact ⟨0, by omega, rfl, hF, hbel3⟩
  case round =>
    clear hF hbel3
    obtain ⟨k, hk, rfl, hB, hbel⟩ := hrel
    have hg := hB.lt
    by_cases hlt : k < 1024
    · have htick := st_tick x k h0 h0' hlt
      have hok := st_ok x k h0 h0' hk
      have T1 := hid_ htick.1
      have T2 := hid_ htick.2
      clear htick
      obtain ⟨k0, k1, k2, k3, k4, k5, f0, f1, f2, f3, f4, f5⟩ := hB.six
      go_wp2_with fail
      refine (tick_any (st x k) hok _).mono ?_
      rintro e w4 ⟨rfl, hc4, hf4, hz4, hb4⟩
      rw [T1.out, T2.out]
      have hB4 := hB.below hb4 hg
      have hg4 := hB4.lt
      clear hc4 hf4 k0 k1 k2 k3 k4 k5 f0 f1 f2 f3 f4 f5
      obtain ⟨k0, k1, k2, k3, k4, k5, f0, f1, f2, f3, f4, f5⟩ := hB4.six
      have hbool : ((k : Int) == 1023) = decide (k = 1023) := by rw [Bool.eq_iff_iff]; simp; omega
      go_wp2_with fail
      have hjc : (k + 1) / 128 = 0 ∨ (k + 1) / 128 = 1 ∨ (k + 1) / 128 = 2 ∨ (k + 1) / 128 = 3 ∨ (k + 1) / 128 = 4 ∨ (k + 1) / 128 = 5 ∨ (k + 1) / 128 = 6 ∨ (k + 1) / 128 = 7 ∨ (k + 1) / 128 = 8 := by omega
      rcases hjc with hjj | hjj | hjj | hjj | hjj | hjj | hjj | hjj | hjj
      · have hj : ((k : Int) + 1) / 128 = 0 := by omega
        have hv : bits .or .i64 x 0 = x := by
          obtain ⟨m, rfl⟩ := Int.eq_ofNat_of_zero_le h0
          rw [show (0 : Int) = ((0 : Nat) : Int) from rfl, i64_or_nat m 0 (by omega) (by omega), Nat.or_zero]
        have hd : (st x (k + 1)).d = x % 256 := by
          show dat x ((k + 1) / 128) = _
          rw [hjj]; unfold dat; simp <;> omega
        clear hjj
        go_quiet (fail)
        go_wp2_with fail
        rw [← hd]
        refine ⟨⟨k + 1, by omega, by go_num, (hB4.set6 (st x (k + 1))).drewN nq, ?_⟩, by simp [intOf]; omega⟩
        refine below_drewN ?_ nq
        exact ((((((hbel.trans (hb4.mono hbel.size)).setCell (p := ⟨g, 0, none⟩) hs3 _).setCell (p := ⟨g, 1, none⟩) hs3 _).setCell (p := ⟨g, 2, none⟩) hs3 _).setCell (p := ⟨g, 3, none⟩) hs3 _).setCell (p := ⟨g, 4, none⟩) hs3 _).setCell (p := ⟨g, 5, none⟩) hs3 _
      · have hj : ((k : Int) + 1) / 128 = 1 := by omega
        have hd : (st x (k + 1)).d = (x * 2 + 1) % 256 := by
          show dat x ((k + 1) / 128) = _
          rw [hjj]; unfold dat; simp <;> omega
        have hv := val1 x h0 h0'
        clear hjj
        go_quiet (fail)
        go_wp2_with fail
        rw [← hd]
        refine ⟨⟨k + 1, by omega, by go_num, (hB4.set6 (st x (k + 1))).drewN nq, ?_⟩, by simp [intOf]; omega⟩
        refine below_drewN ?_ nq
        exact ((((((hbel.trans (hb4.mono hbel.size)).setCell (p := ⟨g, 0, none⟩) hs3 _).setCell (p := ⟨g, 1, none⟩) hs3 _).setCell (p := ⟨g, 2, none⟩) hs3 _).setCell (p := ⟨g, 3, none⟩) hs3 _).setCell (p := ⟨g, 4, none⟩) hs3 _).setCell (p := ⟨g, 5, none⟩) hs3 _
      · have hj : ((k : Int) + 1) / 128 = 2 := by omega
        have hd : (st x (k + 1)).d = (x * 4 + 3) % 256 := by
          show dat x ((k + 1) / 128) = _
          rw [hjj]; unfold dat; simp <;> omega
        have hv := val2 x h0 h0'
        clear hjj
        go_quiet (fail)
        go_wp2_with fail
        rw [← hd]
        refine ⟨⟨k + 1, by omega, by go_num, (hB4.set6 (st x (k + 1))).drewN nq, ?_⟩, by simp [intOf]; omega⟩
        refine below_drewN ?_ nq
        exact ((((((hbel.trans (hb4.mono hbel.size)).setCell (p := ⟨g, 0, none⟩) hs3 _).setCell (p := ⟨g, 1, none⟩) hs3 _).setCell (p := ⟨g, 2, none⟩) hs3 _).setCell (p := ⟨g, 3, none⟩) hs3 _).setCell (p := ⟨g, 4, none⟩) hs3 _).setCell (p := ⟨g, 5, none⟩) hs3 _
      · have hj : ((k : Int) + 1) / 128 = 3 := by omega
        have hd : (st x (k + 1)).d = (x * 8 + 7) % 256 := by
          show dat x ((k + 1) / 128) = _
          rw [hjj]; unfold dat; simp <;> omega
        have hv := val3 x h0 h0'
        clear hjj
        go_quiet (fail)
        go_wp2_with fail
        rw [← hd]
        refine ⟨⟨k + 1, by omega, by go_num, (hB4.set6 (st x (k + 1))).drewN nq, ?_⟩, by simp [intOf]; omega⟩
        refine below_drewN ?_ nq
        exact ((((((hbel.trans (hb4.mono hbel.size)).setCell (p := ⟨g, 0, none⟩) hs3 _).setCell (p := ⟨g, 1, none⟩) hs3 _).setCell (p := ⟨g, 2, none⟩) hs3 _).setCell (p := ⟨g, 3, none⟩) hs3 _).setCell (p := ⟨g, 4, none⟩) hs3 _).setCell (p := ⟨g, 5, none⟩) hs3 _
      · have hj : ((k : Int) + 1) / 128 = 4 := by omega
        have hd : (st x (k + 1)).d = (x * 16 + 15) % 256 := by
          show dat x ((k + 1) / 128) = _
          rw [hjj]; unfold dat; simp <;> omega
        have hv := val4 x h0 h0'
        clear hjj
        go_quiet (fail)
        go_wp2_with fail
        rw [← hd]
        refine ⟨⟨k + 1, by omega, by go_num, (hB4.set6 (st x (k + 1))).drewN nq, ?_⟩, by simp [intOf]; omega⟩
        refine below_drewN ?_ nq
        exact ((((((hbel.trans (hb4.mono hbel.size)).setCell (p := ⟨g, 0, none⟩) hs3 _).setCell (p := ⟨g, 1, none⟩) hs3 _).setCell (p := ⟨g, 2, none⟩) hs3 _).setCell (p := ⟨g, 3, none⟩) hs3 _).setCell (p := ⟨g, 4, none⟩) hs3 _).setCell (p := ⟨g, 5, none⟩) hs3 _
      · have hj : ((k : Int) + 1) / 128 = 5 := by omega
        have hd : (st x (k + 1)).d = (x * 32 + 31) % 256 := by
          show dat x ((k + 1) / 128) = _
          rw [hjj]; unfold dat; simp <;> omega
        have hv := val5 x h0 h0'
        clear hjj
        go_quiet (fail)
        go_wp2_with fail
        rw [← hd]
        refine ⟨⟨k + 1, by omega, by go_num, (hB4.set6 (st x (k + 1))).drewN nq, ?_⟩, by simp [intOf]; omega⟩
        refine below_drewN ?_ nq
        exact ((((((hbel.trans (hb4.mono hbel.size)).setCell (p := ⟨g, 0, none⟩) hs3 _).setCell (p := ⟨g, 1, none⟩) hs3 _).setCell (p := ⟨g, 2, none⟩) hs3 _).setCell (p := ⟨g, 3, none⟩) hs3 _).setCell (p := ⟨g, 4, none⟩) hs3 _).setCell (p := ⟨g, 5, none⟩) hs3 _
      · have hj : ((k : Int) + 1) / 128 = 6 := by omega
        have hd : (st x (k + 1)).d = (x * 64 + 63) % 256 := by
          show dat x ((k + 1) / 128) = _
          rw [hjj]; unfold dat; simp <;> omega
        have hv := val6 x h0 h0'
        clear hjj
        go_quiet (fail)
        go_wp2_with fail
        rw [← hd]
        refine ⟨⟨k + 1, by omega, by go_num, (hB4.set6 (st x (k + 1))).drewN nq, ?_⟩, by simp [intOf]; omega⟩
        refine below_drewN ?_ nq
        exact ((((((hbel.trans (hb4.mono hbel.size)).setCell (p := ⟨g, 0, none⟩) hs3 _).setCell (p := ⟨g, 1, none⟩) hs3 _).setCell (p := ⟨g, 2, none⟩) hs3 _).setCell (p := ⟨g, 3, none⟩) hs3 _).setCell (p := ⟨g, 4, none⟩) hs3 _).setCell (p := ⟨g, 5, none⟩) hs3 _
      · have hj : ((k : Int) + 1) / 128 = 7 := by omega
        have hd : (st x (k + 1)).d = (x * 128 + 127) % 256 := by
          show dat x ((k + 1) / 128) = _
          rw [hjj]; unfold dat; simp <;> omega
        have hv := val7 x h0 h0'
        clear hjj
        go_quiet (fail)
        go_wp2_with fail
        rw [← hd]
        refine ⟨⟨k + 1, by omega, by go_num, (hB4.set6 (st x (k + 1))).drewN nq, ?_⟩, by simp [intOf]; omega⟩
        refine below_drewN ?_ nq
        exact ((((((hbel.trans (hb4.mono hbel.size)).setCell (p := ⟨g, 0, none⟩) hs3 _).setCell (p := ⟨g, 1, none⟩) hs3 _).setCell (p := ⟨g, 2, none⟩) hs3 _).setCell (p := ⟨g, 3, none⟩) hs3 _).setCell (p := ⟨g, 4, none⟩) hs3 _).setCell (p := ⟨g, 5, none⟩) hs3 _
      · have hj : ((k : Int) + 1) / 128 = 8 := by omega
        have hd : (st x (k + 1)).d = 255 := by
          show dat x ((k + 1) / 128) = _
          rw [hjj]; unfold dat; simp <;> omega
        have hv := val8 x h0 h0'
        clear hjj
        go_quiet (fail)
        go_wp2_with fail
        rw [← hd]
        refine ⟨⟨k + 1, by omega, by go_num, (hB4.set6 (st x (k + 1))).drewN nq, ?_⟩, by simp [intOf]; omega⟩
        refine below_drewN ?_ nq
        exact ((((((hbel.trans (hb4.mono hbel.size)).setCell (p := ⟨g, 0, none⟩) hs3 _).setCell (p := ⟨g, 1, none⟩) hs3 _).setCell (p := ⟨g, 2, none⟩) hs3 _).setCell (p := ⟨g, 3, none⟩) hs3 _).setCell (p := ⟨g, 4, none⟩) hs3 _).setCell (p := ⟨g, 5, none⟩) hs3 _
    · obtain rfl : k = 1024 := by omega
      have hq : st x 1024 = ⟨255, 1, x, 0, 0, 1⟩ := by
        have hdat : dat x 8 = 255 := by unfold dat; simp <;> omega
        show St.mk (dat x 8) 1 x 0 0 1 = _
        rw [hdat]
      have zq : (St.mk 255 1 x 0 0 1).ok := by unfold St.ok; dsimp only; omega
      rw [hq] at hB
      have hB : Blk wr g 25 #[.int .u8 255, .int .u8 1, .int .u8 x, .int .i64 0, .int .i64 0, .int .i64 1] := hB
      have HT1 : Hid (tickS ⟨255, 1, x, 0, 0, 1⟩ = ⟨255, 1, x, 0, 0, 1⟩) := rfl
      have HT2 : Hid (tickI ⟨255, 1, x, 0, 0, 1⟩ = false) := rfl
      have HR : Hid (readS ⟨255, 1, x, 0, 0, 1⟩ 1 = 127) := rfl
      clear hq hlt hk E2
      obtain ⟨k0, k1, k2, k3, k4, k5, f0, f1, f2, f3, f4, f5⟩ := Blk.six (p := ⟨255, 1, x, 0, 0, 1⟩) hB
      dsimp only at k0 k1 k2 k3 k4 k5
      go_wp2_with fail
      clear k0 k1 k2 k3 k4 k5 f0 f1 f2 f3 f4 f5
      have hF9 : Blk (wr.alloc (.cells #[.int .u8 255, .int .u8 1, .int .u8 x, .int .i64 0, .int .i64 0, .int .i64 1] 25)) g 25 #[.int .u8 255, .int .u8 1, .int .u8 x, .int .i64 0, .int .i64 0, .int .i64 1] := hB.alloc (.cells #[.int .u8 255, .int .u8 1, .int .u8 x, .int .i64 0, .int .i64 0, .int .i64 1] 25)
      have hF11 := Blk.new wr 25 #[.int .u8 255, .int .u8 1, .int .u8 x, .int .i64 0, .int .i64 0, .int .i64 1]
      have hbelF := hbel.alloc hbel.size (.cells #[.int .u8 255, .int .u8 1, .int .u8 x, .int .i64 0, .int .i64 0, .int .i64 1] 25)
      have hs4 : w.heap.size ≤ wr.heap.size := hbel.size
      have hne : g ≠ wr.heap.size := by omega
      clear hB hbel hg
      generalize (wr.alloc (.cells #[.int .u8 255, .int .u8 1, .int .u8 x, .int .i64 0, .int .i64 0, .int .i64 1] 25)) = W7 at *
      generalize wr.heap.size = g11 at *
      rw [HN.out]
      clear HN
      rw [show ((1024 : Nat) : Int) = 1024 from rfl]
      go_loopw [49] (fun i wr => ∃ k : Nat, k ≤ n ∧ i = .int .i64 k ∧ Blk wr g 25 #[.int .u8 255, .int .u8 1, .int .u8 x, .int .i64 0, .int .i64 0, .int .i64 1] ∧ Blk wr g11 25 #[.int .u8 255, .int .u8 1, .int .u8 x, .int .i64 0, .int .i64 0, .int .i64 1] ∧ Below w.heap.size w wr) (fun i _ => n - (intOf i).toNat)
      case atStart => exact ⟨0, by omega, rfl, hF9, hF11, hbelF⟩
      case round =>
        clear hF9 hF11 hbelF
        obtain ⟨k, hk, rfl, hB, hC, hbel⟩ := hrel
        have hg := hB.lt
        have hgC := hC.lt
        by_cases hlt : k < n
        · obtain ⟨k0, k1, k2, k3, k4, k5, f0, f1, f2, f3, f4, f5⟩ := Blk.six (p := ⟨255, 1, x, 0, 0, 1⟩) hC
          dsimp only at k0 k1 k2 k3 k4 k5
          go_wp2_with fail
          refine (tick_any ⟨255, 1, x, 0, 0, 1⟩ zq _).mono ?_
          rintro e w3 ⟨rfl, hc3, hf3, hz3, hb3⟩
          rw [HT1.out, HT2.out]
          have hB3 := hB.below hb3 hg
          have hC3 := hC.below hb3 hgC
          have hg3 := hC3.lt
          clear hc3 hf3 k0 k1 k2 k3 k4 k5 f0 f1 f2 f3 f4 f5
          obtain ⟨k0, k1, k2, k3, k4, k5, f0, f1, f2, f3, f4, f5⟩ := Blk.six (p := ⟨255, 1, x, 0, 0, 1⟩) hC3
          dsimp only at k0 k1 k2 k3 k4 k5
          go_wp2_with fail
          refine ⟨⟨k + 1, by omega, by go_num, ?_, Blk.set6 (p := ⟨255, 1, x, 0, 0, 1⟩) hC3 ⟨255, 1, x, 0, 0, 1⟩, ?_⟩, by simp [intOf]; omega⟩
          · exact (((((hB3.far (p := ⟨g11, 0, none⟩) hne _).far (p := ⟨g11, 1, none⟩) hne _).far (p := ⟨g11, 2, none⟩) hne _).far (p := ⟨g11, 3, none⟩) hne _).far (p := ⟨g11, 4, none⟩) hne _).far (p := ⟨g11, 5, none⟩) hne _
          · exact ((((((hbel.trans (hb3.mono hbel.size)).setCell (p := ⟨g11, 0, none⟩) hs4 _).setCell (p := ⟨g11, 1, none⟩) hs4 _).setCell (p := ⟨g11, 2, none⟩) hs4 _).setCell (p := ⟨g11, 3, none⟩) hs4 _).setCell (p := ⟨g11, 4, none⟩) hs4 _).setCell (p := ⟨g11, 5, none⟩) hs4 _
        · obtain rfl : k = n := by omega
          obtain ⟨c0, c1, c2, c3, c4, c5, _⟩ := Blk.six (p := ⟨255, 1, x, 0, 0, 1⟩) hB
          obtain ⟨k0, k1, k2, k3, k4, k5, _⟩ := Blk.six (p := ⟨255, 1, x, 0, 0, 1⟩) hC
          dsimp only at c0 c1 c2 c3 c4 c5 k0 k1 k2 k3 k4 k5
          go_wp2_with fail
          refine (read_any ⟨255, 1, x, 0, 0, 1⟩ zq 1 _).mono ?_
          rintro e w3 ⟨rfl, hc3, hf3, hz3, hb3⟩
          rw [HR.out]
          go_wp2_with fail
          go_ret
          exact .of rfl (hbel.trans (hb3.mono hbel.size))
end serialSends
end Go.Proofs.Ytnopldejhkmdeaa
