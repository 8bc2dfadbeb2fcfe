/- The law of levels: its walk. -/
import Derived.Test.YtacbdapgdgliiaaAwake
import Derived.Test.YtacbdapgdgliiaaPlain
namespace Go.Proofs.Ytacbdapgdgliiaa.soundLevels
open Go.RowKit
set_option linter.unusedSimpArgs false
set_option linter.unusedVariables false

theorem below_join {w a c : World} (h : Below w.heap.size w a) (h2 : Below a.heap.size a c) : Below w.heap.size w c := h.trans (h2.mono h.size)

def s0 (x : Int) : Bd := writeB (writeB (writeB zeroB 22 128) 2 x) 4 128
theorem s0_start (x : Int) : (s0 x).on = true ∧ (s0 x).slides = false ∧ (s0 x).reg 2 = x ∧ (s0 x).div = 0 ∧ (s0 x).step = 0 ∧ ((s0 x).vc 0).lev = x / 16 ∧ ((s0 x).vc 0).wait = x % 8 :=
  ⟨rfl, rfl, rfl, rfl, rfl, rfl, rfl⟩
theorem s0_ok (x : Int) (h0 : 0 ≤ x) (h1 : x ≤ 255) : (s0 x).Ok := write_ok (write_ok b1_ok 2 x h0 h1) 4 128 (by omega) (by omega)
set_option maxRecDepth 20000 in
set_option maxHeartbeats 2000000 in
theorem walk0 (v x tn : Int) (hv : v % 3 = 0) (hv0 : 0 ≤ v) (hv1 : v ≤ 255) (hx0 : 0 ≤ x) (hx1 : x ≤ 255) (ht0 : 0 ≤ tn) (ht1 : tn ≤ 255) (w : World) :
    Calls Try.prog 7 #[.int .u8 v, .int .u8 x, .int .u8 tn] w (Ret (.bool true) w) := by
  have hz := board_zero
  have hsz : (enc zeroB).size = 70 := enc_size zeroB rfl
  have HZ := hid_ hsz
  obtain ⟨N, hN, hN20⟩ : ∃ N : Nat, tn % 20 = N ∧ N < 20 := ⟨(tn % 20).toNat, by omega, by omega⟩
  have ew : wrap64 tn = tn := wrap_small tn ht0 (by omega)
  go_enter Try.func7, Try.ntmps7
  go_wp2_with fail
  refine (awake_any _).mono ?_
  rintro e w1 ⟨rfl, hc1, hf1, hz1, hb1⟩
  clear hc1 hf1 hz1
  go_wp2_with fail
  refine (write_any zeroB zero_ok 22 128 (by omega) (by omega) _).mono ?_
  rintro e w2 ⟨rfl, hc1, hf1, hz1, hb2⟩
  clear hc1 hf1 hz1
  rw [show writeB zeroB 22 128 = b1 from rfl]
  go_wp2_with fail
  refine (write_any b1 b1_ok 2 x hx0 hx1 _).mono ?_
  rintro e w3 ⟨rfl, hc1, hf1, hz1, hb3⟩
  clear hc1 hf1 hz1
  go_wp2_with fail
  refine (write_any (writeB b1 2 x) (write_ok b1_ok 2 x hx0 hx1) 4 128 (by omega) (by omega) _).mono ?_
  rintro e w4 ⟨rfl, hc1, hf1, hz1, hb4⟩
  clear hc1 hf1 hz1
  rw [show writeB (writeB b1 2 x) 4 128 = s0 x from rfl]
  have hW4 := below_join (below_join (below_join (hb1.alloc hb1.size _) hb2) hb3) hb4
  have HW4 := hid_ hW4
  have hs4 := hW4.size
  clear hb1 hb2 hb3 hb4 hW4
  have HO := hid_ (s0_ok x hx0 hx1)
  obtain ⟨q1, q2, q3, q4, q5, q6, q7⟩ := s0_start x
  have HR := hid_ (fun t => (lev_run (s0 x) 0 (by omega) (by omega) x hx0 hx1 q1 q2 q3 q4 q5 q6 q7 t).2.2.2.2.2.1)
  clear q1 q2 q3 q4 q5 q6 q7
  have HS := hid_ (enc_size (s0 x) HO.out.regs)
  have H1 := hid_ (enc_one (s0 x))
  generalize s0 x = b at *
  clear hv
  go_wp2_with (first
    | ((with_reducible refine wpList_allocZ (op := ⟨some 8, .alloc 29, _, _, _, _⟩) rfl rfl ?_); intro w5 HB5 HW5)
    | (with_reducible refine wpList_store29 (op := ⟨none, .store 29 (.tmp 8) (.tmp 29), _, _, _, _⟩) rfl (.tmp 8) (.tmp 29) rfl w4.heap.size (enc zeroB) (enc b) (by with_unfolding_all rfl) (by with_unfolding_all rfl) HB5.out HZ.out HS.out H1.out ?_))
  have HB6 : Hid (Blk (w5.setRow w4.heap.size (enc b)) w4.heap.size 29 (enc b)) := HB5.out.setRow _
  have HW6 : Hid (Below w.heap.size w (w5.setRow w4.heap.size (enc b))) := below_setRow (HW4.out.trans (HW5.out.mono hs4)) hs4 _
  clear HB5 HW5 HW4
  generalize w5.setRow w4.heap.size (enc b) = w6 at *
  generalize w4.heap.size = g at *
  rw [hN]
  clear hN
  go_loopw [36] (fun i wr => ∃ j : Nat, j ≤ N * 8 * 2048 ∧ i = .int .i64 j ∧ Hid (Blk wr g 29 (enc (iterB j b))) ∧ Hid (Below w.heap.size w wr)) (fun i _ => N * 8 * 2048 - (intOf i).toNat)
  case atStart => exact ⟨0, by omega, rfl, HB6, HW6⟩
  case round =>
    clear HB6 HW6
    obtain ⟨j, hj, rfl, HB, HW⟩ := hrel
    have HOk := hid_ (iter_ok HO.out j)
    have HSk := hid_ (enc_size (iterB j b) HOk.out.regs)
    by_cases hlt : j < N * 8 * 2048
    · have q : decide ((j : Int) < (N : Int) * 8 * 2048) = true := by simp; omega
      go_wp2_with (with_reducible refine wpList_load29 (op := ⟨some 38, _, _, _, _, _⟩) rfl (.tmp 8) rfl g (by with_unfolding_all rfl) (enc (iterB j b)) HB.out HSk.out ?_)
      refine (tick_any (iterB j b) HOk.out _).mono ?_
      rintro e w7 ⟨rfl, hc4, hf4, hz4, hb4⟩
      clear hc4 hf4 hz4
      have HB7 := hid_ (HB.out.below hb4 HB.out.lt)
      have HW7 := hid_ (below_join HW.out hb4)
      have HS7 : Hid ((enc (tickB (iterB j b))).size = 70) := enc_size _ (tick_ok HOk.out).regs
      have H17 := hid_ (enc_one (tickB (iterB j b)))
      clear hb4 HB HW
      go_wp2_with (with_reducible refine wpList_store29 (op := ⟨none, .store 29 (.tmp 8) (.tmp 39), _, _, _, _⟩) rfl (.tmp 8) (.tmp 39) rfl g (enc (iterB j b)) (enc (tickB (iterB j b))) (by with_unfolding_all rfl) (by with_unfolding_all rfl) HB7.out HSk.out HS7.out H17.out ?_)
      go_roundw
      case rel => exact ⟨j + 1, by omega, by go_num, HB7.out.setRow _, below_setRow HW7.out hs4 _⟩
      case measure => simp [intOf]; omega
    · obtain rfl : j = N * 8 * 2048 := by omega
      have q : decide (((N * 8 * 2048 : Nat) : Int) < (N : Int) * 8 * 2048) = false := by simp
      have hlev := HR.out (N * 8 * 2048)
      rw [show N * 8 * 2048 / 16384 = N by omega] at hlev
      have cl : wr.cell? ⟨g, 53, none⟩ = some (.int .i64 (lvN x N)) := by rw [← hlev]; exact HB.out.a53 HOk.out.regs
      clear hlev
      have e1 := upto (P := fun a => bits .and .u8 a 7 = a % 8) (by decide +kernel) x hx0 hx1
      have e8 := and8 x hx0 hx1
      have e2 : wrap64 (x / 16) = x / 16 := wrap_small _ (by omega) (by omega)
      have e3 : wrap64 (x % 8) = x % 8 := wrap_small _ (by omega) (by omega)
      by_cases hz8 : x % 8 = 0
      · have d : decide (0 < x % 8) = false := by simp; omega
        have HL : Hid (lvN x N = x / 16) := by unfold Hid lvN; rw [if_pos hz8]
        rw [HL.out] at cl
        go_wp2
        go_ret
        exact .of (by simp) HW.out
      · have d : decide (0 < x % 8) = true := by simp; omega
        have d0 : 0 < x % 8 := by omega
        have dq : (N : Int).tdiv (x % 8) = (N : Int) / (x % 8) := Int.tdiv_eq_ediv_of_nonneg (by omega)
        have p0 : 0 ≤ (N : Int) / (x % 8) := Int.ediv_nonneg (by omega) (by omega)
        have p1 : (N : Int) / (x % 8) ≤ N := Int.ediv_le_self _ (by omega)
        by_cases hu : x / 8 % 2 = 1
        · have du : decide (x / 8 % 2 = 1) = true := by simp [hu]
          have HL : Hid (lvN x N = if 15 < x / 16 + (N : Int) / (x % 8) then 15 else x / 16 + (N : Int) / (x % 8)) := by unfold Hid lvN; rw [if_neg hz8, if_pos hu]
          rw [HL.out] at cl
          go_wp2
          all_goals (go_ret; exact .of (by first | rfl | exact ret_bool (by simp; omega)) HW.out)
        · have du : decide (x / 8 % 2 = 1) = false := by simp [hu]
          have HL : Hid (lvN x N = if x / 16 - (N : Int) / (x % 8) < 0 then 0 else x / 16 - (N : Int) / (x % 8)) := by unfold Hid lvN; rw [if_neg hz8, if_neg hu]
          rw [HL.out] at cl
          go_wp2
          all_goals (go_ret; exact .of (by first | rfl | exact ret_bool (by simp; omega)) HW.out)

def s1 (x : Int) : Bd := writeB (writeB (writeB zeroB 22 128) 7 x) 9 128
theorem s1_start (x : Int) : (s1 x).on = true ∧ (s1 x).slides = false ∧ (s1 x).reg 7 = x ∧ (s1 x).div = 0 ∧ (s1 x).step = 0 ∧ ((s1 x).vc 1).lev = x / 16 ∧ ((s1 x).vc 1).wait = x % 8 :=
  ⟨rfl, rfl, rfl, rfl, rfl, rfl, rfl⟩
theorem s1_ok (x : Int) (h0 : 0 ≤ x) (h1 : x ≤ 255) : (s1 x).Ok := write_ok (write_ok b1_ok 7 x h0 h1) 9 128 (by omega) (by omega)
set_option maxRecDepth 20000 in
set_option maxHeartbeats 2000000 in
theorem walk1 (v x tn : Int) (hv : v % 3 = 1) (hv0 : 0 ≤ v) (hv1 : v ≤ 255) (hx0 : 0 ≤ x) (hx1 : x ≤ 255) (ht0 : 0 ≤ tn) (ht1 : tn ≤ 255) (w : World) :
    Calls Try.prog 7 #[.int .u8 v, .int .u8 x, .int .u8 tn] w (Ret (.bool true) w) := by
  have hz := board_zero
  have hsz : (enc zeroB).size = 70 := enc_size zeroB rfl
  have HZ := hid_ hsz
  obtain ⟨N, hN, hN20⟩ : ∃ N : Nat, tn % 20 = N ∧ N < 20 := ⟨(tn % 20).toNat, by omega, by omega⟩
  have ew : wrap64 tn = tn := wrap_small tn ht0 (by omega)
  go_enter Try.func7, Try.ntmps7
  go_wp2_with fail
  refine (awake_any _).mono ?_
  rintro e w1 ⟨rfl, hc1, hf1, hz1, hb1⟩
  clear hc1 hf1 hz1
  go_wp2_with fail
  refine (write_any zeroB zero_ok 22 128 (by omega) (by omega) _).mono ?_
  rintro e w2 ⟨rfl, hc1, hf1, hz1, hb2⟩
  clear hc1 hf1 hz1
  rw [show writeB zeroB 22 128 = b1 from rfl]
  go_wp2_with fail
  refine (write_any b1 b1_ok 7 x hx0 hx1 _).mono ?_
  rintro e w3 ⟨rfl, hc1, hf1, hz1, hb3⟩
  clear hc1 hf1 hz1
  go_wp2_with fail
  refine (write_any (writeB b1 7 x) (write_ok b1_ok 7 x hx0 hx1) 9 128 (by omega) (by omega) _).mono ?_
  rintro e w4 ⟨rfl, hc1, hf1, hz1, hb4⟩
  clear hc1 hf1 hz1
  rw [show writeB (writeB b1 7 x) 9 128 = s1 x from rfl]
  have hW4 := below_join (below_join (below_join (hb1.alloc hb1.size _) hb2) hb3) hb4
  have HW4 := hid_ hW4
  have hs4 := hW4.size
  clear hb1 hb2 hb3 hb4 hW4
  have HO := hid_ (s1_ok x hx0 hx1)
  obtain ⟨q1, q2, q3, q4, q5, q6, q7⟩ := s1_start x
  have HR := hid_ (fun t => (lev_run (s1 x) 1 (by omega) (by omega) x hx0 hx1 q1 q2 q3 q4 q5 q6 q7 t).2.2.2.2.2.1)
  clear q1 q2 q3 q4 q5 q6 q7
  have HS := hid_ (enc_size (s1 x) HO.out.regs)
  have H1 := hid_ (enc_one (s1 x))
  generalize s1 x = b at *
  clear hv
  go_wp2_with (first
    | ((with_reducible refine wpList_allocZ (op := ⟨some 8, .alloc 29, _, _, _, _⟩) rfl rfl ?_); intro w5 HB5 HW5)
    | (with_reducible refine wpList_store29 (op := ⟨none, .store 29 (.tmp 8) (.tmp 29), _, _, _, _⟩) rfl (.tmp 8) (.tmp 29) rfl w4.heap.size (enc zeroB) (enc b) (by with_unfolding_all rfl) (by with_unfolding_all rfl) HB5.out HZ.out HS.out H1.out ?_))
  have HB6 : Hid (Blk (w5.setRow w4.heap.size (enc b)) w4.heap.size 29 (enc b)) := HB5.out.setRow _
  have HW6 : Hid (Below w.heap.size w (w5.setRow w4.heap.size (enc b))) := below_setRow (HW4.out.trans (HW5.out.mono hs4)) hs4 _
  clear HB5 HW5 HW4
  generalize w5.setRow w4.heap.size (enc b) = w6 at *
  generalize w4.heap.size = g at *
  rw [hN]
  clear hN
  go_loopw [36] (fun i wr => ∃ j : Nat, j ≤ N * 8 * 2048 ∧ i = .int .i64 j ∧ Hid (Blk wr g 29 (enc (iterB j b))) ∧ Hid (Below w.heap.size w wr)) (fun i _ => N * 8 * 2048 - (intOf i).toNat)
  case atStart => exact ⟨0, by omega, rfl, HB6, HW6⟩
  case round =>
    clear HB6 HW6
    obtain ⟨j, hj, rfl, HB, HW⟩ := hrel
    have HOk := hid_ (iter_ok HO.out j)
    have HSk := hid_ (enc_size (iterB j b) HOk.out.regs)
    by_cases hlt : j < N * 8 * 2048
    · have q : decide ((j : Int) < (N : Int) * 8 * 2048) = true := by simp; omega
      go_wp2_with (with_reducible refine wpList_load29 (op := ⟨some 38, _, _, _, _, _⟩) rfl (.tmp 8) rfl g (by with_unfolding_all rfl) (enc (iterB j b)) HB.out HSk.out ?_)
      refine (tick_any (iterB j b) HOk.out _).mono ?_
      rintro e w7 ⟨rfl, hc4, hf4, hz4, hb4⟩
      clear hc4 hf4 hz4
      have HB7 := hid_ (HB.out.below hb4 HB.out.lt)
      have HW7 := hid_ (below_join HW.out hb4)
      have HS7 : Hid ((enc (tickB (iterB j b))).size = 70) := enc_size _ (tick_ok HOk.out).regs
      have H17 := hid_ (enc_one (tickB (iterB j b)))
      clear hb4 HB HW
      go_wp2_with (with_reducible refine wpList_store29 (op := ⟨none, .store 29 (.tmp 8) (.tmp 39), _, _, _, _⟩) rfl (.tmp 8) (.tmp 39) rfl g (enc (iterB j b)) (enc (tickB (iterB j b))) (by with_unfolding_all rfl) (by with_unfolding_all rfl) HB7.out HSk.out HS7.out H17.out ?_)
      go_roundw
      case rel => exact ⟨j + 1, by omega, by go_num, HB7.out.setRow _, below_setRow HW7.out hs4 _⟩
      case measure => simp [intOf]; omega
    · obtain rfl : j = N * 8 * 2048 := by omega
      have q : decide (((N * 8 * 2048 : Nat) : Int) < (N : Int) * 8 * 2048) = false := by simp
      have hlev := HR.out (N * 8 * 2048)
      rw [show N * 8 * 2048 / 16384 = N by omega] at hlev
      have cl : wr.cell? ⟨g, 57, none⟩ = some (.int .i64 (lvN x N)) := by rw [← hlev]; exact HB.out.a57 HOk.out.regs
      clear hlev
      have e1 := upto (P := fun a => bits .and .u8 a 7 = a % 8) (by decide +kernel) x hx0 hx1
      have e8 := and8 x hx0 hx1
      have e2 : wrap64 (x / 16) = x / 16 := wrap_small _ (by omega) (by omega)
      have e3 : wrap64 (x % 8) = x % 8 := wrap_small _ (by omega) (by omega)
      by_cases hz8 : x % 8 = 0
      · have d : decide (0 < x % 8) = false := by simp; omega
        have HL : Hid (lvN x N = x / 16) := by unfold Hid lvN; rw [if_pos hz8]
        rw [HL.out] at cl
        go_wp2
        go_ret
        exact .of (by simp) HW.out
      · have d : decide (0 < x % 8) = true := by simp; omega
        have d0 : 0 < x % 8 := by omega
        have dq : (N : Int).tdiv (x % 8) = (N : Int) / (x % 8) := Int.tdiv_eq_ediv_of_nonneg (by omega)
        have p0 : 0 ≤ (N : Int) / (x % 8) := Int.ediv_nonneg (by omega) (by omega)
        have p1 : (N : Int) / (x % 8) ≤ N := Int.ediv_le_self _ (by omega)
        by_cases hu : x / 8 % 2 = 1
        · have du : decide (x / 8 % 2 = 1) = true := by simp [hu]
          have HL : Hid (lvN x N = if 15 < x / 16 + (N : Int) / (x % 8) then 15 else x / 16 + (N : Int) / (x % 8)) := by unfold Hid lvN; rw [if_neg hz8, if_pos hu]
          rw [HL.out] at cl
          go_wp2
          all_goals (go_ret; exact .of (by first | rfl | exact ret_bool (by simp; omega)) HW.out)
        · have du : decide (x / 8 % 2 = 1) = false := by simp [hu]
          have HL : Hid (lvN x N = if x / 16 - (N : Int) / (x % 8) < 0 then 0 else x / 16 - (N : Int) / (x % 8)) := by unfold Hid lvN; rw [if_neg hz8, if_neg hu]
          rw [HL.out] at cl
          go_wp2
          all_goals (go_ret; exact .of (by first | rfl | exact ret_bool (by simp; omega)) HW.out)

def s3 (x : Int) : Bd := writeB (writeB (writeB zeroB 22 128) 17 x) 19 128
theorem s3_start (x : Int) : (s3 x).on = true ∧ (s3 x).slides = false ∧ (s3 x).reg 17 = x ∧ (s3 x).div = 0 ∧ (s3 x).step = 0 ∧ ((s3 x).vc 3).lev = x / 16 ∧ ((s3 x).vc 3).wait = x % 8 :=
  ⟨rfl, rfl, rfl, rfl, rfl, rfl, rfl⟩
theorem s3_ok (x : Int) (h0 : 0 ≤ x) (h1 : x ≤ 255) : (s3 x).Ok := write_ok (write_ok b1_ok 17 x h0 h1) 19 128 (by omega) (by omega)
set_option maxRecDepth 20000 in
set_option maxHeartbeats 2000000 in
theorem walk3 (v x tn : Int) (hv : v % 3 = 2) (hv0 : 0 ≤ v) (hv1 : v ≤ 255) (hx0 : 0 ≤ x) (hx1 : x ≤ 255) (ht0 : 0 ≤ tn) (ht1 : tn ≤ 255) (w : World) :
    Calls Try.prog 7 #[.int .u8 v, .int .u8 x, .int .u8 tn] w (Ret (.bool true) w) := by
  have hz := board_zero
  have hsz : (enc zeroB).size = 70 := enc_size zeroB rfl
  have HZ := hid_ hsz
  obtain ⟨N, hN, hN20⟩ : ∃ N : Nat, tn % 20 = N ∧ N < 20 := ⟨(tn % 20).toNat, by omega, by omega⟩
  have ew : wrap64 tn = tn := wrap_small tn ht0 (by omega)
  go_enter Try.func7, Try.ntmps7
  go_wp2_with fail
  refine (awake_any _).mono ?_
  rintro e w1 ⟨rfl, hc1, hf1, hz1, hb1⟩
  clear hc1 hf1 hz1
  go_wp2_with fail
  refine (write_any zeroB zero_ok 22 128 (by omega) (by omega) _).mono ?_
  rintro e w2 ⟨rfl, hc1, hf1, hz1, hb2⟩
  clear hc1 hf1 hz1
  rw [show writeB zeroB 22 128 = b1 from rfl]
  go_wp2_with fail
  refine (write_any b1 b1_ok 17 x hx0 hx1 _).mono ?_
  rintro e w3 ⟨rfl, hc1, hf1, hz1, hb3⟩
  clear hc1 hf1 hz1
  go_wp2_with fail
  refine (write_any (writeB b1 17 x) (write_ok b1_ok 17 x hx0 hx1) 19 128 (by omega) (by omega) _).mono ?_
  rintro e w4 ⟨rfl, hc1, hf1, hz1, hb4⟩
  clear hc1 hf1 hz1
  rw [show writeB (writeB b1 17 x) 19 128 = s3 x from rfl]
  have hW4 := below_join (below_join (below_join (hb1.alloc hb1.size _) hb2) hb3) hb4
  have HW4 := hid_ hW4
  have hs4 := hW4.size
  clear hb1 hb2 hb3 hb4 hW4
  have HO := hid_ (s3_ok x hx0 hx1)
  obtain ⟨q1, q2, q3, q4, q5, q6, q7⟩ := s3_start x
  have HR := hid_ (fun t => (lev_run (s3 x) 3 (by omega) (by omega) x hx0 hx1 q1 q2 q3 q4 q5 q6 q7 t).2.2.2.2.2.1)
  clear q1 q2 q3 q4 q5 q6 q7
  have HS := hid_ (enc_size (s3 x) HO.out.regs)
  have H1 := hid_ (enc_one (s3 x))
  generalize s3 x = b at *
  clear hv
  go_wp2_with (first
    | ((with_reducible refine wpList_allocZ (op := ⟨some 8, .alloc 29, _, _, _, _⟩) rfl rfl ?_); intro w5 HB5 HW5)
    | (with_reducible refine wpList_store29 (op := ⟨none, .store 29 (.tmp 8) (.tmp 29), _, _, _, _⟩) rfl (.tmp 8) (.tmp 29) rfl w4.heap.size (enc zeroB) (enc b) (by with_unfolding_all rfl) (by with_unfolding_all rfl) HB5.out HZ.out HS.out H1.out ?_))
  have HB6 : Hid (Blk (w5.setRow w4.heap.size (enc b)) w4.heap.size 29 (enc b)) := HB5.out.setRow _
  have HW6 : Hid (Below w.heap.size w (w5.setRow w4.heap.size (enc b))) := below_setRow (HW4.out.trans (HW5.out.mono hs4)) hs4 _
  clear HB5 HW5 HW4
  generalize w5.setRow w4.heap.size (enc b) = w6 at *
  generalize w4.heap.size = g at *
  rw [hN]
  clear hN
  go_loopw [36] (fun i wr => ∃ j : Nat, j ≤ N * 8 * 2048 ∧ i = .int .i64 j ∧ Hid (Blk wr g 29 (enc (iterB j b))) ∧ Hid (Below w.heap.size w wr)) (fun i _ => N * 8 * 2048 - (intOf i).toNat)
  case atStart => exact ⟨0, by omega, rfl, HB6, HW6⟩
  case round =>
    clear HB6 HW6
    obtain ⟨j, hj, rfl, HB, HW⟩ := hrel
    have HOk := hid_ (iter_ok HO.out j)
    have HSk := hid_ (enc_size (iterB j b) HOk.out.regs)
    by_cases hlt : j < N * 8 * 2048
    · have q : decide ((j : Int) < (N : Int) * 8 * 2048) = true := by simp; omega
      go_wp2_with (with_reducible refine wpList_load29 (op := ⟨some 38, _, _, _, _, _⟩) rfl (.tmp 8) rfl g (by with_unfolding_all rfl) (enc (iterB j b)) HB.out HSk.out ?_)
      refine (tick_any (iterB j b) HOk.out _).mono ?_
      rintro e w7 ⟨rfl, hc4, hf4, hz4, hb4⟩
      clear hc4 hf4 hz4
      have HB7 := hid_ (HB.out.below hb4 HB.out.lt)
      have HW7 := hid_ (below_join HW.out hb4)
      have HS7 : Hid ((enc (tickB (iterB j b))).size = 70) := enc_size _ (tick_ok HOk.out).regs
      have H17 := hid_ (enc_one (tickB (iterB j b)))
      clear hb4 HB HW
      go_wp2_with (with_reducible refine wpList_store29 (op := ⟨none, .store 29 (.tmp 8) (.tmp 39), _, _, _, _⟩) rfl (.tmp 8) (.tmp 39) rfl g (enc (iterB j b)) (enc (tickB (iterB j b))) (by with_unfolding_all rfl) (by with_unfolding_all rfl) HB7.out HSk.out HS7.out H17.out ?_)
      go_roundw
      case rel => exact ⟨j + 1, by omega, by go_num, HB7.out.setRow _, below_setRow HW7.out hs4 _⟩
      case measure => simp [intOf]; omega
    · obtain rfl : j = N * 8 * 2048 := by omega
      have q : decide (((N * 8 * 2048 : Nat) : Int) < (N : Int) * 8 * 2048) = false := by simp
      have hlev := HR.out (N * 8 * 2048)
      rw [show N * 8 * 2048 / 16384 = N by omega] at hlev
      have cl : wr.cell? ⟨g, 65, none⟩ = some (.int .i64 (lvN x N)) := by rw [← hlev]; exact HB.out.a65 HOk.out.regs
      clear hlev
      have e1 := upto (P := fun a => bits .and .u8 a 7 = a % 8) (by decide +kernel) x hx0 hx1
      have e8 := and8 x hx0 hx1
      have e2 : wrap64 (x / 16) = x / 16 := wrap_small _ (by omega) (by omega)
      have e3 : wrap64 (x % 8) = x % 8 := wrap_small _ (by omega) (by omega)
      by_cases hz8 : x % 8 = 0
      · have d : decide (0 < x % 8) = false := by simp; omega
        have HL : Hid (lvN x N = x / 16) := by unfold Hid lvN; rw [if_pos hz8]
        rw [HL.out] at cl
        go_wp2
        go_ret
        exact .of (by simp) HW.out
      · have d : decide (0 < x % 8) = true := by simp; omega
        have d0 : 0 < x % 8 := by omega
        have dq : (N : Int).tdiv (x % 8) = (N : Int) / (x % 8) := Int.tdiv_eq_ediv_of_nonneg (by omega)
        have p0 : 0 ≤ (N : Int) / (x % 8) := Int.ediv_nonneg (by omega) (by omega)
        have p1 : (N : Int) / (x % 8) ≤ N := Int.ediv_le_self _ (by omega)
        by_cases hu : x / 8 % 2 = 1
        · have du : decide (x / 8 % 2 = 1) = true := by simp [hu]
          have HL : Hid (lvN x N = if 15 < x / 16 + (N : Int) / (x % 8) then 15 else x / 16 + (N : Int) / (x % 8)) := by unfold Hid lvN; rw [if_neg hz8, if_pos hu]
          rw [HL.out] at cl
          go_wp2
          all_goals (go_ret; exact .of (by first | rfl | exact ret_bool (by simp; omega)) HW.out)
        · have du : decide (x / 8 % 2 = 1) = false := by simp [hu]
          have HL : Hid (lvN x N = if x / 16 - (N : Int) / (x % 8) < 0 then 0 else x / 16 - (N : Int) / (x % 8)) := by unfold Hid lvN; rw [if_neg hz8, if_neg hu]
          rw [HL.out] at cl
          go_wp2
          all_goals (go_ret; exact .of (by first | rfl | exact ret_bool (by simp; omega)) HW.out)

theorem walk (v x tn : Int) (hv0 : 0 ≤ v) (hv1 : v ≤ 255) (hx0 : 0 ≤ x) (hx1 : x ≤ 255) (ht0 : 0 ≤ tn) (ht1 : tn ≤ 255) (w : World) :
    Calls Try.prog 7 #[.int .u8 v, .int .u8 x, .int .u8 tn] w (Ret (.bool true) w) := by
  obtain h | h | h : v % 3 = 0 ∨ v % 3 = 1 ∨ v % 3 = 2 := by omega
  · exact walk0 v x tn h hv0 hv1 hx0 hx1 ht0 ht1 w
  · exact walk1 v x tn h hv0 hv1 hx0 hx1 ht0 ht1 w
  · exact walk3 v x tn h hv0 hv1 hx0 hx1 ht0 ht1 w
end Go.Proofs.Ytacbdapgdgliiaa.soundLevels
