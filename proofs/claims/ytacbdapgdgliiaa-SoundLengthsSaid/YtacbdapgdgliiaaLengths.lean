/- The law of lengths: its walk. -/
import Derived.Test.YtacbdapgdgliiaaAwake
import Derived.Test.YtacbdapgdgliiaaPlain
namespace Go.Proofs.Ytacbdapgdgliiaa.soundLengths
open Go.RowKit
set_option linter.unusedSimpArgs false
set_option linter.unusedVariables false

theorem below_join {w a c : World} (h : Below w.heap.size w a) (h2 : Below a.heap.size a c) : Below w.heap.size w c := h.trans (h2.mono h.size)
def b10 : Bd := writeB b1 10 128
theorem b10_ok : b10.Ok := write_ok b1_ok 10 128 (by omega) (by omega)
theorem and63 (a : Int) (h : 0 ≤ a) (h' : a ≤ 255) : bits .and .u8 a 63 = a % 64 :=
  upto (P := fun a => bits .and .u8 a 63 = a % 64) (by decide +kernel) a h h'
theorem keep_len {l m : Int} (h : l ≠ 0) : (if l = 0 then m else l) = l := if_neg h

def p0 (x : Int) : Bd := writeB (writeB b10 2 240) 1 x
theorem p0_ok (x : Int) (h0 : 0 ≤ x) (h1 : x ≤ 255) : (p0 x).Ok := write_ok (write_ok b10_ok 2 240 (by omega) (by omega)) 1 x h0 h1

def s0false (x : Int) : Bd := writeB (p0 x) 4 128
theorem s0false_start (x : Int) : (s0false x).on = true ∧ (s0false x).slides = false ∧ (s0false x).reg 4 = 128 ∧ (s0false x).div = 0 ∧ (s0false x).step = 0 ∧ ((s0false x).vc 0).len = (64 - x % 64) ∧ ((s0false x).vc 0).on = true :=
  ⟨rfl, rfl, rfl, rfl, rfl, (keep_len (show (64 - x % 64 : Int) ≠ 0 by omega)), rfl⟩
theorem s0false_ok (x : Int) (h0 : 0 ≤ x) (h1 : x ≤ 255) : (s0false x).Ok := write_ok (p0_ok x h0 h1) 4 128 (by omega) (by omega)
set_option maxRecDepth 20000 in
set_option maxHeartbeats 2000000 in
theorem walk0false (v x : Int) (hv : v % 4 = 0) (hv0 : 0 ≤ v) (hv1 : v ≤ 255) (hx0 : 0 ≤ x) (hx1 : x ≤ 255) (w : World) :
    Calls Try.prog 4 #[.int .u8 v, .int .u8 x, .bool false] w (Ret (.bool true) w) := by
  have hz := board_zero
  have hsz : (enc zeroB).size = 70 := enc_size zeroB rfl
  have HZ := hid_ hsz
  have e1 := and63 x hx0 hx1
  have e2 : wrap64 (x % 64) = x % 64 := wrap_small _ (by omega) (by omega)
  have HS0 := hid_ (enc_size b10 b10_ok.regs)
  have H10 := hid_ (enc_one b10)
  have HSp := hid_ (enc_size (p0 x) (p0_ok x (by omega) (by omega)).regs)
  have H1p := hid_ (enc_one (p0 x))
  go_enter Try.func4, Try.ntmps4
  go_wp2_with fail
  refine (awake_any _).mono ?_
  rintro e w1 ⟨rfl, hc1, hf1, hz1, hb1⟩
  clear hc1 hf1 hz1
  go_wp2_with fail
  refine (write_any zeroB zero_ok 22 128 (by omega) (by omega) _).mono ?_
  rintro e w2 ⟨rfl, hc1, hf1, hz1, hb2⟩
  clear hc1 hf1 hz1
  rw [show writeB zeroB 22 128 = b1 from rfl]
  go_wp2_with fail
  refine (write_any b1 b1_ok 10 128 (by omega) (by omega) _).mono ?_
  rintro e w3 ⟨rfl, hc1, hf1, hz1, hb3⟩
  clear hc1 hf1 hz1
  rw [show writeB b1 10 128 = b10 from rfl]
  have hW3 := below_join (below_join hb1 hb2) hb3
  have HW3 := hid_ hW3
  have hs3 := hW3.size
  clear hb1 hb2 hb3 hW3
  go_wp2_with (first
    | ((with_reducible refine wpList_allocZ (op := ⟨some 8, .alloc 29, _, _, _, _⟩) rfl rfl ?_); intro w5 HB5 HW5)
    | (with_reducible refine wpList_store29 (op := ⟨none, .store 29 (.tmp 8) (.tmp 19), _, _, _, _⟩) rfl (.tmp 8) (.tmp 19) rfl w3.heap.size (enc zeroB) (enc b10) (by with_unfolding_all rfl) (by with_unfolding_all rfl) HB5.out HZ.out HS0.out H10.out ?_)
    | (with_reducible refine wpList_load29 (op := ⟨some 26, _, _, _, _, _⟩) rfl (.tmp 8) rfl w3.heap.size (by with_unfolding_all rfl) (enc b10) (HB5.out.setRow _) HS0.out ?_))
  refine (write_any b10 b10_ok 2 240 (by omega) (by omega) _).mono ?_
  have HB6 : Hid (Blk (w5.setRow w3.heap.size (enc b10)) w3.heap.size 29 (enc b10)) := HB5.out.setRow _
  have HW6 : Hid (Below w.heap.size w (w5.setRow w3.heap.size (enc b10))) := below_setRow (HW3.out.trans (HW5.out.mono hs3)) hs3 _
  clear HB5 HW5 HW3
  generalize w5.setRow w3.heap.size (enc b10) = w6 at *
  generalize w3.heap.size = g at *
  rintro e w7 ⟨rfl, hc1, hf1, hz1, hb7⟩
  clear hc1 hf1 hz1
  have HB7 := hid_ (HB6.out.below hb7 HB6.out.lt)
  have HW7 := hid_ (below_join HW6.out hb7)
  clear hb7 HB6 HW6
  go_wp2_with fail
  refine (write_any (writeB b10 2 240) (write_ok b10_ok 2 240 (by omega) (by omega)) 1 x (by omega) (by omega) _).mono ?_
  rintro e w8 ⟨rfl, hc1, hf1, hz1, hb8⟩
  clear hc1 hf1 hz1
  have HB8 := hid_ (HB7.out.below hb8 HB7.out.lt)
  have HW8 := hid_ (below_join HW7.out hb8)
  clear hb8 HB7 HW7
  rw [show writeB (writeB b10 2 240) 1 x = p0 x from rfl]
  go_wp2_with (first
    | (with_reducible refine wpList_store29 (op := ⟨none, .store 29 (.tmp 8) (.tmp 35), _, _, _, _⟩) rfl (.tmp 8) (.tmp 35) rfl g (enc b10) (enc (p0 x)) (by with_unfolding_all rfl) (by with_unfolding_all rfl) HB8.out HS0.out HSp.out H1p.out ?_)
    | (with_reducible refine wpList_load29 (op := ⟨some 37, _, _, _, _, _⟩) rfl (.tmp 8) rfl g (by with_unfolding_all rfl) (enc (p0 x)) (HB8.out.setRow _) HSp.out ?_))
  have HB9 : Hid (Blk (w8.setRow g (enc (p0 x))) g 29 (enc (p0 x))) := HB8.out.setRow _
  have HW9 : Hid (Below w.heap.size w (w8.setRow g (enc (p0 x)))) := below_setRow HW8.out hs3 _
  clear HB8 HW8
  generalize w8.setRow g (enc (p0 x)) = w9 at *
  refine (write_any (p0 x) (p0_ok x (by omega) (by omega)) 4 128 (by omega) (by omega) _).mono ?_
  rintro e wa ⟨rfl, hc1, hf1, hz1, hba⟩
  clear hc1 hf1 hz1
  rw [show writeB (p0 x) 4 128 = s0false x from rfl]
  have HBa := hid_ (HB9.out.below hba HB9.out.lt)
  have HWa := hid_ (below_join HW9.out hba)
  clear hba HB9 HW9
  have HO := hid_ (s0false_ok x (by omega) (by omega))
  obtain ⟨q1, q2, q3, q4, q5, q6, q7⟩ := s0false_start x
  have HR := hid_ (fun t => (len_run (s0false x) 0 (by omega) (64 - x % 64) false (by omega) q1 q2 (by show 0 ≤ (s0false x).reg 4; rw [q3]; omega) (by show ((s0false x).reg 4 / 64 % 2 = 1) = _; rw [q3]; simp) q4 q5 q6 q7 t).2.2.2.2.2.2)
  clear q1 q2 q3 q4 q5 q6 q7
  have HS := hid_ (enc_size (s0false x) HO.out.regs)
  have H1 := hid_ (enc_one (s0false x))
  generalize s0false x = b at *
  go_wp2_with (with_reducible refine wpList_store29 (op := ⟨none, .store 29 (.tmp 8) (.tmp 42), _, _, _, _⟩) rfl (.tmp 8) (.tmp 42) rfl g (enc (p0 x)) (enc b) (by with_unfolding_all rfl) (by with_unfolding_all rfl) HBa.out HSp.out HS.out H1.out ?_)
  have HBb : Hid (Blk (wa.setRow g (enc b)) g 29 (enc b)) := HBa.out.setRow _
  have HWb : Hid (Below w.heap.size w (wa.setRow g (enc b))) := below_setRow HWa.out hs3 _
  clear HBa HWa
  generalize wa.setRow g (enc b) = wb at *
  try rw [hv]
  clear hv
  go_loopw [11] (fun i wr => ∃ m : Nat, m ≤ 140 ∧  i = .int .i64 m ∧ Hid (Blk wr g 29 (enc (iterB (2048 * m) b))) ∧ Hid (Below w.heap.size w wr)) (fun i _ => 140 - (intOf i).toNat)
  case atStart => exact ⟨0, by omega, rfl, HBb, HWb⟩
  case round =>
    clear HBb HWb
    obtain ⟨m, hm, rfl, HB, HW⟩ := hrel
    have HOm := hid_ (iter_ok HO.out (2048 * m))
    have hon := HR.out (2048 * m)
    rw [show 2048 * m / 2048 = m by omega] at hon
    have con : wr.cell? ⟨g, 51, none⟩ = some (.bool (onN (64 - x % 64) false ((m + 1) / 2))) := by rw [← hon]; exact HB.out.a51 HOm.out.regs
    clear hon
    have HSm := hid_ (enc_size (iterB (2048 * m) b) HOm.out.regs)
    have ho : onN (64 - x % 64) false ((m + 1) / 2) = true := rfl
    rw [ho] at con
    clear ho
    by_cases hc : m < 140
    · have q : decide ((m : Int) < 140) = true := by simp; omega
      go_wp2_with fail
      go_loopw [52] (fun i wz => ∃ j : Nat, j ≤ 2048 ∧ i = .int .i64 j ∧ Hid (Blk wz g 29 (enc (iterB (2048 * m + j) b))) ∧ Hid (Below w.heap.size w wz)) (fun i _ => 2048 - (intOf i).toNat)
      case atStart => exact ⟨0, by omega, rfl, HB, HW⟩
      case round =>
        clear HB HW con
        obtain ⟨j, hj, rfl, HB, HW⟩ := hrel
        have HOk := hid_ (iter_ok HO.out (2048 * m + j))
        have HSk := hid_ (enc_size (iterB (2048 * m + j) b) HOk.out.regs)
        by_cases hlt : j < 2048
        · have q : decide ((j : Int) < 2048) = true := by simp; omega
          go_wp2_with (with_reducible refine wpList_load29 (op := ⟨some 54, _, _, _, _, _⟩) rfl (.tmp 8) rfl g (by with_unfolding_all rfl) (enc (iterB (2048 * m + j) b)) HB.out HSk.out ?_)
          refine (tick_any (iterB (2048 * m + j) b) HOk.out _).mono ?_
          rintro e wc ⟨rfl, hc4, hf4, hz4, hb4⟩
          clear hc4 hf4 hz4
          have HBc := hid_ (HB.out.below hb4 HB.out.lt)
          have HWc := hid_ (below_join HW.out hb4)
          have HSc : Hid ((enc (tickB (iterB (2048 * m + j) b))).size = 70) := enc_size _ (tick_ok HOk.out).regs
          have H1c := hid_ (enc_one (tickB (iterB (2048 * m + j) b)))
          clear hb4 HB HW
          go_wp2_with (with_reducible refine wpList_store29 (op := ⟨none, .store 29 (.tmp 8) (.tmp 55), _, _, _, _⟩) rfl (.tmp 8) (.tmp 55) rfl g (enc (iterB (2048 * m + j) b)) (enc (tickB (iterB (2048 * m + j) b))) (by with_unfolding_all rfl) (by with_unfolding_all rfl) HBc.out HSk.out HSc.out H1c.out ?_)
          go_roundw
          case rel => exact ⟨j + 1, by omega, by go_num, HBc.out.setRow _, below_setRow HWc.out hs3 _⟩
          case measure => simp [intOf]; omega
        · obtain rfl : j = 2048 := by omega
          rw [show 2048 * m + 2048 = 2048 * (m + 1) by omega] at HB
          go_wp2_with fail
          go_roundw
          case rel => exact ⟨m + 1, by omega, by go_num, HB, HW⟩
          case measure => simp [intOf]; omega
    · obtain rfl : m = 140 := by omega
      go_wp2
      all_goals (go_ret; exact .of (by first | rfl | exact ret_bool (by simp)) HW.out)

def s0true (x : Int) : Bd := writeB (p0 x) 4 192
theorem s0true_start (x : Int) : (s0true x).on = true ∧ (s0true x).slides = false ∧ (s0true x).reg 4 = 192 ∧ (s0true x).div = 0 ∧ (s0true x).step = 0 ∧ ((s0true x).vc 0).len = (64 - x % 64) ∧ ((s0true x).vc 0).on = true :=
  ⟨rfl, rfl, rfl, rfl, rfl, (keep_len (show (64 - x % 64 : Int) ≠ 0 by omega)), rfl⟩
theorem s0true_ok (x : Int) (h0 : 0 ≤ x) (h1 : x ≤ 255) : (s0true x).Ok := write_ok (p0_ok x h0 h1) 4 192 (by omega) (by omega)
set_option maxRecDepth 20000 in
set_option maxHeartbeats 2000000 in
theorem walk0true (v x : Int) (hv : v % 4 = 0) (hv0 : 0 ≤ v) (hv1 : v ≤ 255) (hx0 : 0 ≤ x) (hx1 : x ≤ 255) (w : World) :
    Calls Try.prog 4 #[.int .u8 v, .int .u8 x, .bool true] w (Ret (.bool true) w) := by
  have hz := board_zero
  have hsz : (enc zeroB).size = 70 := enc_size zeroB rfl
  have HZ := hid_ hsz
  have e1 := and63 x hx0 hx1
  have e2 : wrap64 (x % 64) = x % 64 := wrap_small _ (by omega) (by omega)
  have HS0 := hid_ (enc_size b10 b10_ok.regs)
  have H10 := hid_ (enc_one b10)
  have HSp := hid_ (enc_size (p0 x) (p0_ok x (by omega) (by omega)).regs)
  have H1p := hid_ (enc_one (p0 x))
  go_enter Try.func4, Try.ntmps4
  go_wp2_with fail
  refine (awake_any _).mono ?_
  rintro e w1 ⟨rfl, hc1, hf1, hz1, hb1⟩
  clear hc1 hf1 hz1
  go_wp2_with fail
  refine (write_any zeroB zero_ok 22 128 (by omega) (by omega) _).mono ?_
  rintro e w2 ⟨rfl, hc1, hf1, hz1, hb2⟩
  clear hc1 hf1 hz1
  rw [show writeB zeroB 22 128 = b1 from rfl]
  go_wp2_with fail
  refine (write_any b1 b1_ok 10 128 (by omega) (by omega) _).mono ?_
  rintro e w3 ⟨rfl, hc1, hf1, hz1, hb3⟩
  clear hc1 hf1 hz1
  rw [show writeB b1 10 128 = b10 from rfl]
  have hW3 := below_join (below_join hb1 hb2) hb3
  have HW3 := hid_ hW3
  have hs3 := hW3.size
  clear hb1 hb2 hb3 hW3
  go_wp2_with (first
    | ((with_reducible refine wpList_allocZ (op := ⟨some 8, .alloc 29, _, _, _, _⟩) rfl rfl ?_); intro w5 HB5 HW5)
    | (with_reducible refine wpList_store29 (op := ⟨none, .store 29 (.tmp 8) (.tmp 19), _, _, _, _⟩) rfl (.tmp 8) (.tmp 19) rfl w3.heap.size (enc zeroB) (enc b10) (by with_unfolding_all rfl) (by with_unfolding_all rfl) HB5.out HZ.out HS0.out H10.out ?_)
    | (with_reducible refine wpList_load29 (op := ⟨some 26, _, _, _, _, _⟩) rfl (.tmp 8) rfl w3.heap.size (by with_unfolding_all rfl) (enc b10) (HB5.out.setRow _) HS0.out ?_))
  refine (write_any b10 b10_ok 2 240 (by omega) (by omega) _).mono ?_
  have HB6 : Hid (Blk (w5.setRow w3.heap.size (enc b10)) w3.heap.size 29 (enc b10)) := HB5.out.setRow _
  have HW6 : Hid (Below w.heap.size w (w5.setRow w3.heap.size (enc b10))) := below_setRow (HW3.out.trans (HW5.out.mono hs3)) hs3 _
  clear HB5 HW5 HW3
  generalize w5.setRow w3.heap.size (enc b10) = w6 at *
  generalize w3.heap.size = g at *
  rintro e w7 ⟨rfl, hc1, hf1, hz1, hb7⟩
  clear hc1 hf1 hz1
  have HB7 := hid_ (HB6.out.below hb7 HB6.out.lt)
  have HW7 := hid_ (below_join HW6.out hb7)
  clear hb7 HB6 HW6
  go_wp2_with fail
  refine (write_any (writeB b10 2 240) (write_ok b10_ok 2 240 (by omega) (by omega)) 1 x (by omega) (by omega) _).mono ?_
  rintro e w8 ⟨rfl, hc1, hf1, hz1, hb8⟩
  clear hc1 hf1 hz1
  have HB8 := hid_ (HB7.out.below hb8 HB7.out.lt)
  have HW8 := hid_ (below_join HW7.out hb8)
  clear hb8 HB7 HW7
  rw [show writeB (writeB b10 2 240) 1 x = p0 x from rfl]
  go_wp2_with (first
    | (with_reducible refine wpList_store29 (op := ⟨none, .store 29 (.tmp 8) (.tmp 35), _, _, _, _⟩) rfl (.tmp 8) (.tmp 35) rfl g (enc b10) (enc (p0 x)) (by with_unfolding_all rfl) (by with_unfolding_all rfl) HB8.out HS0.out HSp.out H1p.out ?_)
    | (with_reducible refine wpList_load29 (op := ⟨some 37, _, _, _, _, _⟩) rfl (.tmp 8) rfl g (by with_unfolding_all rfl) (enc (p0 x)) (HB8.out.setRow _) HSp.out ?_))
  have HB9 : Hid (Blk (w8.setRow g (enc (p0 x))) g 29 (enc (p0 x))) := HB8.out.setRow _
  have HW9 : Hid (Below w.heap.size w (w8.setRow g (enc (p0 x)))) := below_setRow HW8.out hs3 _
  clear HB8 HW8
  generalize w8.setRow g (enc (p0 x)) = w9 at *
  refine (write_any (p0 x) (p0_ok x (by omega) (by omega)) 4 192 (by omega) (by omega) _).mono ?_
  rintro e wa ⟨rfl, hc1, hf1, hz1, hba⟩
  clear hc1 hf1 hz1
  rw [show writeB (p0 x) 4 192 = s0true x from rfl]
  have HBa := hid_ (HB9.out.below hba HB9.out.lt)
  have HWa := hid_ (below_join HW9.out hba)
  clear hba HB9 HW9
  have HO := hid_ (s0true_ok x (by omega) (by omega))
  obtain ⟨q1, q2, q3, q4, q5, q6, q7⟩ := s0true_start x
  have HR := hid_ (fun t => (len_run (s0true x) 0 (by omega) (64 - x % 64) true (by omega) q1 q2 (by show 0 ≤ (s0true x).reg 4; rw [q3]; omega) (by show ((s0true x).reg 4 / 64 % 2 = 1) = _; rw [q3]; simp) q4 q5 q6 q7 t).2.2.2.2.2.2)
  clear q1 q2 q3 q4 q5 q6 q7
  have HS := hid_ (enc_size (s0true x) HO.out.regs)
  have H1 := hid_ (enc_one (s0true x))
  generalize s0true x = b at *
  go_wp2_with (with_reducible refine wpList_store29 (op := ⟨none, .store 29 (.tmp 8) (.tmp 42), _, _, _, _⟩) rfl (.tmp 8) (.tmp 42) rfl g (enc (p0 x)) (enc b) (by with_unfolding_all rfl) (by with_unfolding_all rfl) HBa.out HSp.out HS.out H1.out ?_)
  have HBb : Hid (Blk (wa.setRow g (enc b)) g 29 (enc b)) := HBa.out.setRow _
  have HWb : Hid (Below w.heap.size w (wa.setRow g (enc b))) := below_setRow HWa.out hs3 _
  clear HBa HWa
  generalize wa.setRow g (enc b) = wb at *
  try rw [hv]
  clear hv
  go_loopw [11] (fun i wr => ∃ m : Nat, m ≤ 140 ∧ (m : Int) ≤ 2 * (64 - x % 64) - 1 ∧ i = .int .i64 m ∧ Hid (Blk wr g 29 (enc (iterB (2048 * m) b))) ∧ Hid (Below w.heap.size w wr)) (fun i _ => 140 - (intOf i).toNat)
  case atStart => exact ⟨0, by omega, by omega, rfl, HBb, HWb⟩
  case round =>
    clear HBb HWb
    obtain ⟨m, hm, hm2, rfl, HB, HW⟩ := hrel
    have HOm := hid_ (iter_ok HO.out (2048 * m))
    have hon := HR.out (2048 * m)
    rw [show 2048 * m / 2048 = m by omega] at hon
    have con : wr.cell? ⟨g, 51, none⟩ = some (.bool (onN (64 - x % 64) true ((m + 1) / 2))) := by rw [← hon]; exact HB.out.a51 HOm.out.regs
    clear hon
    have HSm := hid_ (enc_size (iterB (2048 * m) b) HOm.out.regs)
    by_cases hc : ((m + 1) / 2 : Nat) < (64 - x % 64)
    · have ho : onN (64 - x % 64) true ((m + 1) / 2) = true := by unfold onN; rw [if_pos rfl]; exact decide_eq_true (by omega)
      rw [ho] at con
      have q : decide ((m : Int) < 140) = true := by simp; omega
      clear ho
      go_wp2_with fail
      go_loopw [52] (fun i wz => ∃ j : Nat, j ≤ 2048 ∧ i = .int .i64 j ∧ Hid (Blk wz g 29 (enc (iterB (2048 * m + j) b))) ∧ Hid (Below w.heap.size w wz)) (fun i _ => 2048 - (intOf i).toNat)
      case atStart => exact ⟨0, by omega, rfl, HB, HW⟩
      case round =>
        clear HB HW con
        obtain ⟨j, hj, rfl, HB, HW⟩ := hrel
        have HOk := hid_ (iter_ok HO.out (2048 * m + j))
        have HSk := hid_ (enc_size (iterB (2048 * m + j) b) HOk.out.regs)
        by_cases hlt : j < 2048
        · have q : decide ((j : Int) < 2048) = true := by simp; omega
          go_wp2_with (with_reducible refine wpList_load29 (op := ⟨some 54, _, _, _, _, _⟩) rfl (.tmp 8) rfl g (by with_unfolding_all rfl) (enc (iterB (2048 * m + j) b)) HB.out HSk.out ?_)
          refine (tick_any (iterB (2048 * m + j) b) HOk.out _).mono ?_
          rintro e wc ⟨rfl, hc4, hf4, hz4, hb4⟩
          clear hc4 hf4 hz4
          have HBc := hid_ (HB.out.below hb4 HB.out.lt)
          have HWc := hid_ (below_join HW.out hb4)
          have HSc : Hid ((enc (tickB (iterB (2048 * m + j) b))).size = 70) := enc_size _ (tick_ok HOk.out).regs
          have H1c := hid_ (enc_one (tickB (iterB (2048 * m + j) b)))
          clear hb4 HB HW
          go_wp2_with (with_reducible refine wpList_store29 (op := ⟨none, .store 29 (.tmp 8) (.tmp 55), _, _, _, _⟩) rfl (.tmp 8) (.tmp 55) rfl g (enc (iterB (2048 * m + j) b)) (enc (tickB (iterB (2048 * m + j) b))) (by with_unfolding_all rfl) (by with_unfolding_all rfl) HBc.out HSk.out HSc.out H1c.out ?_)
          go_roundw
          case rel => exact ⟨j + 1, by omega, by go_num, HBc.out.setRow _, below_setRow HWc.out hs3 _⟩
          case measure => simp [intOf]; omega
        · obtain rfl : j = 2048 := by omega
          rw [show 2048 * m + 2048 = 2048 * (m + 1) by omega] at HB
          go_wp2_with fail
          go_roundw
          case rel => exact ⟨m + 1, by omega, by omega, by go_num, HB, HW⟩
          case measure => simp [intOf]; omega
    · have ho : onN (64 - x % 64) true ((m + 1) / 2) = false := by unfold onN; rw [if_pos rfl]; exact decide_eq_false (by omega)
      rw [ho] at con
      have hm3 : (m : Int) = 2 * (64 - x % 64) - 1 := by omega
      clear ho
      go_wp2
      all_goals (go_ret; exact .of (by first | rfl | exact ret_bool (by simp; omega)) HW.out)

def p1 (x : Int) : Bd := writeB (writeB b10 7 240) 6 x
theorem p1_ok (x : Int) (h0 : 0 ≤ x) (h1 : x ≤ 255) : (p1 x).Ok := write_ok (write_ok b10_ok 7 240 (by omega) (by omega)) 6 x h0 h1

def s1false (x : Int) : Bd := writeB (p1 x) 9 128
theorem s1false_start (x : Int) : (s1false x).on = true ∧ (s1false x).slides = false ∧ (s1false x).reg 9 = 128 ∧ (s1false x).div = 0 ∧ (s1false x).step = 0 ∧ ((s1false x).vc 1).len = (64 - x % 64) ∧ ((s1false x).vc 1).on = true :=
  ⟨rfl, rfl, rfl, rfl, rfl, (keep_len (show (64 - x % 64 : Int) ≠ 0 by omega)), rfl⟩
theorem s1false_ok (x : Int) (h0 : 0 ≤ x) (h1 : x ≤ 255) : (s1false x).Ok := write_ok (p1_ok x h0 h1) 9 128 (by omega) (by omega)
set_option maxRecDepth 20000 in
set_option maxHeartbeats 2000000 in
theorem walk1false (v x : Int) (hv : v % 4 = 1) (hv0 : 0 ≤ v) (hv1 : v ≤ 255) (hx0 : 0 ≤ x) (hx1 : x ≤ 255) (w : World) :
    Calls Try.prog 4 #[.int .u8 v, .int .u8 x, .bool false] w (Ret (.bool true) w) := by
  have hz := board_zero
  have hsz : (enc zeroB).size = 70 := enc_size zeroB rfl
  have HZ := hid_ hsz
  have e1 := and63 x hx0 hx1
  have e2 : wrap64 (x % 64) = x % 64 := wrap_small _ (by omega) (by omega)
  have HS0 := hid_ (enc_size b10 b10_ok.regs)
  have H10 := hid_ (enc_one b10)
  have HSp := hid_ (enc_size (p1 x) (p1_ok x (by omega) (by omega)).regs)
  have H1p := hid_ (enc_one (p1 x))
  go_enter Try.func4, Try.ntmps4
  go_wp2_with fail
  refine (awake_any _).mono ?_
  rintro e w1 ⟨rfl, hc1, hf1, hz1, hb1⟩
  clear hc1 hf1 hz1
  go_wp2_with fail
  refine (write_any zeroB zero_ok 22 128 (by omega) (by omega) _).mono ?_
  rintro e w2 ⟨rfl, hc1, hf1, hz1, hb2⟩
  clear hc1 hf1 hz1
  rw [show writeB zeroB 22 128 = b1 from rfl]
  go_wp2_with fail
  refine (write_any b1 b1_ok 10 128 (by omega) (by omega) _).mono ?_
  rintro e w3 ⟨rfl, hc1, hf1, hz1, hb3⟩
  clear hc1 hf1 hz1
  rw [show writeB b1 10 128 = b10 from rfl]
  have hW3 := below_join (below_join hb1 hb2) hb3
  have HW3 := hid_ hW3
  have hs3 := hW3.size
  clear hb1 hb2 hb3 hW3
  go_wp2_with (first
    | ((with_reducible refine wpList_allocZ (op := ⟨some 8, .alloc 29, _, _, _, _⟩) rfl rfl ?_); intro w5 HB5 HW5)
    | (with_reducible refine wpList_store29 (op := ⟨none, .store 29 (.tmp 8) (.tmp 19), _, _, _, _⟩) rfl (.tmp 8) (.tmp 19) rfl w3.heap.size (enc zeroB) (enc b10) (by with_unfolding_all rfl) (by with_unfolding_all rfl) HB5.out HZ.out HS0.out H10.out ?_)
    | (with_reducible refine wpList_load29 (op := ⟨some 26, _, _, _, _, _⟩) rfl (.tmp 8) rfl w3.heap.size (by with_unfolding_all rfl) (enc b10) (HB5.out.setRow _) HS0.out ?_))
  refine (write_any b10 b10_ok 7 240 (by omega) (by omega) _).mono ?_
  have HB6 : Hid (Blk (w5.setRow w3.heap.size (enc b10)) w3.heap.size 29 (enc b10)) := HB5.out.setRow _
  have HW6 : Hid (Below w.heap.size w (w5.setRow w3.heap.size (enc b10))) := below_setRow (HW3.out.trans (HW5.out.mono hs3)) hs3 _
  clear HB5 HW5 HW3
  generalize w5.setRow w3.heap.size (enc b10) = w6 at *
  generalize w3.heap.size = g at *
  rintro e w7 ⟨rfl, hc1, hf1, hz1, hb7⟩
  clear hc1 hf1 hz1
  have HB7 := hid_ (HB6.out.below hb7 HB6.out.lt)
  have HW7 := hid_ (below_join HW6.out hb7)
  clear hb7 HB6 HW6
  go_wp2_with fail
  refine (write_any (writeB b10 7 240) (write_ok b10_ok 7 240 (by omega) (by omega)) 6 x (by omega) (by omega) _).mono ?_
  rintro e w8 ⟨rfl, hc1, hf1, hz1, hb8⟩
  clear hc1 hf1 hz1
  have HB8 := hid_ (HB7.out.below hb8 HB7.out.lt)
  have HW8 := hid_ (below_join HW7.out hb8)
  clear hb8 HB7 HW7
  rw [show writeB (writeB b10 7 240) 6 x = p1 x from rfl]
  go_wp2_with (first
    | (with_reducible refine wpList_store29 (op := ⟨none, .store 29 (.tmp 8) (.tmp 35), _, _, _, _⟩) rfl (.tmp 8) (.tmp 35) rfl g (enc b10) (enc (p1 x)) (by with_unfolding_all rfl) (by with_unfolding_all rfl) HB8.out HS0.out HSp.out H1p.out ?_)
    | (with_reducible refine wpList_load29 (op := ⟨some 37, _, _, _, _, _⟩) rfl (.tmp 8) rfl g (by with_unfolding_all rfl) (enc (p1 x)) (HB8.out.setRow _) HSp.out ?_))
  have HB9 : Hid (Blk (w8.setRow g (enc (p1 x))) g 29 (enc (p1 x))) := HB8.out.setRow _
  have HW9 : Hid (Below w.heap.size w (w8.setRow g (enc (p1 x)))) := below_setRow HW8.out hs3 _
  clear HB8 HW8
  generalize w8.setRow g (enc (p1 x)) = w9 at *
  refine (write_any (p1 x) (p1_ok x (by omega) (by omega)) 9 128 (by omega) (by omega) _).mono ?_
  rintro e wa ⟨rfl, hc1, hf1, hz1, hba⟩
  clear hc1 hf1 hz1
  rw [show writeB (p1 x) 9 128 = s1false x from rfl]
  have HBa := hid_ (HB9.out.below hba HB9.out.lt)
  have HWa := hid_ (below_join HW9.out hba)
  clear hba HB9 HW9
  have HO := hid_ (s1false_ok x (by omega) (by omega))
  obtain ⟨q1, q2, q3, q4, q5, q6, q7⟩ := s1false_start x
  have HR := hid_ (fun t => (len_run (s1false x) 1 (by omega) (64 - x % 64) false (by omega) q1 q2 (by show 0 ≤ (s1false x).reg 9; rw [q3]; omega) (by show ((s1false x).reg 9 / 64 % 2 = 1) = _; rw [q3]; simp) q4 q5 q6 q7 t).2.2.2.2.2.2)
  clear q1 q2 q3 q4 q5 q6 q7
  have HS := hid_ (enc_size (s1false x) HO.out.regs)
  have H1 := hid_ (enc_one (s1false x))
  generalize s1false x = b at *
  go_wp2_with (with_reducible refine wpList_store29 (op := ⟨none, .store 29 (.tmp 8) (.tmp 42), _, _, _, _⟩) rfl (.tmp 8) (.tmp 42) rfl g (enc (p1 x)) (enc b) (by with_unfolding_all rfl) (by with_unfolding_all rfl) HBa.out HSp.out HS.out H1.out ?_)
  have HBb : Hid (Blk (wa.setRow g (enc b)) g 29 (enc b)) := HBa.out.setRow _
  have HWb : Hid (Below w.heap.size w (wa.setRow g (enc b))) := below_setRow HWa.out hs3 _
  clear HBa HWa
  generalize wa.setRow g (enc b) = wb at *
  try rw [hv]
  clear hv
  go_loopw [11] (fun i wr => ∃ m : Nat, m ≤ 140 ∧  i = .int .i64 m ∧ Hid (Blk wr g 29 (enc (iterB (2048 * m) b))) ∧ Hid (Below w.heap.size w wr)) (fun i _ => 140 - (intOf i).toNat)
  case atStart => exact ⟨0, by omega, rfl, HBb, HWb⟩
  case round =>
    clear HBb HWb
    obtain ⟨m, hm, rfl, HB, HW⟩ := hrel
    have HOm := hid_ (iter_ok HO.out (2048 * m))
    have hon := HR.out (2048 * m)
    rw [show 2048 * m / 2048 = m by omega] at hon
    have con : wr.cell? ⟨g, 55, none⟩ = some (.bool (onN (64 - x % 64) false ((m + 1) / 2))) := by rw [← hon]; exact HB.out.a55 HOm.out.regs
    clear hon
    have HSm := hid_ (enc_size (iterB (2048 * m) b) HOm.out.regs)
    have ho : onN (64 - x % 64) false ((m + 1) / 2) = true := rfl
    rw [ho] at con
    clear ho
    by_cases hc : m < 140
    · have q : decide ((m : Int) < 140) = true := by simp; omega
      go_wp2_with fail
      go_loopw [52] (fun i wz => ∃ j : Nat, j ≤ 2048 ∧ i = .int .i64 j ∧ Hid (Blk wz g 29 (enc (iterB (2048 * m + j) b))) ∧ Hid (Below w.heap.size w wz)) (fun i _ => 2048 - (intOf i).toNat)
      case atStart => exact ⟨0, by omega, rfl, HB, HW⟩
      case round =>
        clear HB HW con
        obtain ⟨j, hj, rfl, HB, HW⟩ := hrel
        have HOk := hid_ (iter_ok HO.out (2048 * m + j))
        have HSk := hid_ (enc_size (iterB (2048 * m + j) b) HOk.out.regs)
        by_cases hlt : j < 2048
        · have q : decide ((j : Int) < 2048) = true := by simp; omega
          go_wp2_with (with_reducible refine wpList_load29 (op := ⟨some 54, _, _, _, _, _⟩) rfl (.tmp 8) rfl g (by with_unfolding_all rfl) (enc (iterB (2048 * m + j) b)) HB.out HSk.out ?_)
          refine (tick_any (iterB (2048 * m + j) b) HOk.out _).mono ?_
          rintro e wc ⟨rfl, hc4, hf4, hz4, hb4⟩
          clear hc4 hf4 hz4
          have HBc := hid_ (HB.out.below hb4 HB.out.lt)
          have HWc := hid_ (below_join HW.out hb4)
          have HSc : Hid ((enc (tickB (iterB (2048 * m + j) b))).size = 70) := enc_size _ (tick_ok HOk.out).regs
          have H1c := hid_ (enc_one (tickB (iterB (2048 * m + j) b)))
          clear hb4 HB HW
          go_wp2_with (with_reducible refine wpList_store29 (op := ⟨none, .store 29 (.tmp 8) (.tmp 55), _, _, _, _⟩) rfl (.tmp 8) (.tmp 55) rfl g (enc (iterB (2048 * m + j) b)) (enc (tickB (iterB (2048 * m + j) b))) (by with_unfolding_all rfl) (by with_unfolding_all rfl) HBc.out HSk.out HSc.out H1c.out ?_)
          go_roundw
          case rel => exact ⟨j + 1, by omega, by go_num, HBc.out.setRow _, below_setRow HWc.out hs3 _⟩
          case measure => simp [intOf]; omega
        · obtain rfl : j = 2048 := by omega
          rw [show 2048 * m + 2048 = 2048 * (m + 1) by omega] at HB
          go_wp2_with fail
          go_roundw
          case rel => exact ⟨m + 1, by omega, by go_num, HB, HW⟩
          case measure => simp [intOf]; omega
    · obtain rfl : m = 140 := by omega
      go_wp2
      all_goals (go_ret; exact .of (by first | rfl | exact ret_bool (by simp)) HW.out)

def s1true (x : Int) : Bd := writeB (p1 x) 9 192
theorem s1true_start (x : Int) : (s1true x).on = true ∧ (s1true x).slides = false ∧ (s1true x).reg 9 = 192 ∧ (s1true x).div = 0 ∧ (s1true x).step = 0 ∧ ((s1true x).vc 1).len = (64 - x % 64) ∧ ((s1true x).vc 1).on = true :=
  ⟨rfl, rfl, rfl, rfl, rfl, (keep_len (show (64 - x % 64 : Int) ≠ 0 by omega)), rfl⟩
theorem s1true_ok (x : Int) (h0 : 0 ≤ x) (h1 : x ≤ 255) : (s1true x).Ok := write_ok (p1_ok x h0 h1) 9 192 (by omega) (by omega)
set_option maxRecDepth 20000 in
set_option maxHeartbeats 2000000 in
theorem walk1true (v x : Int) (hv : v % 4 = 1) (hv0 : 0 ≤ v) (hv1 : v ≤ 255) (hx0 : 0 ≤ x) (hx1 : x ≤ 255) (w : World) :
    Calls Try.prog 4 #[.int .u8 v, .int .u8 x, .bool true] w (Ret (.bool true) w) := by
  have hz := board_zero
  have hsz : (enc zeroB).size = 70 := enc_size zeroB rfl
  have HZ := hid_ hsz
  have e1 := and63 x hx0 hx1
  have e2 : wrap64 (x % 64) = x % 64 := wrap_small _ (by omega) (by omega)
  have HS0 := hid_ (enc_size b10 b10_ok.regs)
  have H10 := hid_ (enc_one b10)
  have HSp := hid_ (enc_size (p1 x) (p1_ok x (by omega) (by omega)).regs)
  have H1p := hid_ (enc_one (p1 x))
  go_enter Try.func4, Try.ntmps4
  go_wp2_with fail
  refine (awake_any _).mono ?_
  rintro e w1 ⟨rfl, hc1, hf1, hz1, hb1⟩
  clear hc1 hf1 hz1
  go_wp2_with fail
  refine (write_any zeroB zero_ok 22 128 (by omega) (by omega) _).mono ?_
  rintro e w2 ⟨rfl, hc1, hf1, hz1, hb2⟩
  clear hc1 hf1 hz1
  rw [show writeB zeroB 22 128 = b1 from rfl]
  go_wp2_with fail
  refine (write_any b1 b1_ok 10 128 (by omega) (by omega) _).mono ?_
  rintro e w3 ⟨rfl, hc1, hf1, hz1, hb3⟩
  clear hc1 hf1 hz1
  rw [show writeB b1 10 128 = b10 from rfl]
  have hW3 := below_join (below_join hb1 hb2) hb3
  have HW3 := hid_ hW3
  have hs3 := hW3.size
  clear hb1 hb2 hb3 hW3
  go_wp2_with (first
    | ((with_reducible refine wpList_allocZ (op := ⟨some 8, .alloc 29, _, _, _, _⟩) rfl rfl ?_); intro w5 HB5 HW5)
    | (with_reducible refine wpList_store29 (op := ⟨none, .store 29 (.tmp 8) (.tmp 19), _, _, _, _⟩) rfl (.tmp 8) (.tmp 19) rfl w3.heap.size (enc zeroB) (enc b10) (by with_unfolding_all rfl) (by with_unfolding_all rfl) HB5.out HZ.out HS0.out H10.out ?_)
    | (with_reducible refine wpList_load29 (op := ⟨some 26, _, _, _, _, _⟩) rfl (.tmp 8) rfl w3.heap.size (by with_unfolding_all rfl) (enc b10) (HB5.out.setRow _) HS0.out ?_))
  refine (write_any b10 b10_ok 7 240 (by omega) (by omega) _).mono ?_
  have HB6 : Hid (Blk (w5.setRow w3.heap.size (enc b10)) w3.heap.size 29 (enc b10)) := HB5.out.setRow _
  have HW6 : Hid (Below w.heap.size w (w5.setRow w3.heap.size (enc b10))) := below_setRow (HW3.out.trans (HW5.out.mono hs3)) hs3 _
  clear HB5 HW5 HW3
  generalize w5.setRow w3.heap.size (enc b10) = w6 at *
  generalize w3.heap.size = g at *
  rintro e w7 ⟨rfl, hc1, hf1, hz1, hb7⟩
  clear hc1 hf1 hz1
  have HB7 := hid_ (HB6.out.below hb7 HB6.out.lt)
  have HW7 := hid_ (below_join HW6.out hb7)
  clear hb7 HB6 HW6
  go_wp2_with fail
  refine (write_any (writeB b10 7 240) (write_ok b10_ok 7 240 (by omega) (by omega)) 6 x (by omega) (by omega) _).mono ?_
  rintro e w8 ⟨rfl, hc1, hf1, hz1, hb8⟩
  clear hc1 hf1 hz1
  have HB8 := hid_ (HB7.out.below hb8 HB7.out.lt)
  have HW8 := hid_ (below_join HW7.out hb8)
  clear hb8 HB7 HW7
  rw [show writeB (writeB b10 7 240) 6 x = p1 x from rfl]
  go_wp2_with (first
    | (with_reducible refine wpList_store29 (op := ⟨none, .store 29 (.tmp 8) (.tmp 35), _, _, _, _⟩) rfl (.tmp 8) (.tmp 35) rfl g (enc b10) (enc (p1 x)) (by with_unfolding_all rfl) (by with_unfolding_all rfl) HB8.out HS0.out HSp.out H1p.out ?_)
    | (with_reducible refine wpList_load29 (op := ⟨some 37, _, _, _, _, _⟩) rfl (.tmp 8) rfl g (by with_unfolding_all rfl) (enc (p1 x)) (HB8.out.setRow _) HSp.out ?_))
  have HB9 : Hid (Blk (w8.setRow g (enc (p1 x))) g 29 (enc (p1 x))) := HB8.out.setRow _
  have HW9 : Hid (Below w.heap.size w (w8.setRow g (enc (p1 x)))) := below_setRow HW8.out hs3 _
  clear HB8 HW8
  generalize w8.setRow g (enc (p1 x)) = w9 at *
  refine (write_any (p1 x) (p1_ok x (by omega) (by omega)) 9 192 (by omega) (by omega) _).mono ?_
  rintro e wa ⟨rfl, hc1, hf1, hz1, hba⟩
  clear hc1 hf1 hz1
  rw [show writeB (p1 x) 9 192 = s1true x from rfl]
  have HBa := hid_ (HB9.out.below hba HB9.out.lt)
  have HWa := hid_ (below_join HW9.out hba)
  clear hba HB9 HW9
  have HO := hid_ (s1true_ok x (by omega) (by omega))
  obtain ⟨q1, q2, q3, q4, q5, q6, q7⟩ := s1true_start x
  have HR := hid_ (fun t => (len_run (s1true x) 1 (by omega) (64 - x % 64) true (by omega) q1 q2 (by show 0 ≤ (s1true x).reg 9; rw [q3]; omega) (by show ((s1true x).reg 9 / 64 % 2 = 1) = _; rw [q3]; simp) q4 q5 q6 q7 t).2.2.2.2.2.2)
  clear q1 q2 q3 q4 q5 q6 q7
  have HS := hid_ (enc_size (s1true x) HO.out.regs)
  have H1 := hid_ (enc_one (s1true x))
  generalize s1true x = b at *
  go_wp2_with (with_reducible refine wpList_store29 (op := ⟨none, .store 29 (.tmp 8) (.tmp 42), _, _, _, _⟩) rfl (.tmp 8) (.tmp 42) rfl g (enc (p1 x)) (enc b) (by with_unfolding_all rfl) (by with_unfolding_all rfl) HBa.out HSp.out HS.out H1.out ?_)
  have HBb : Hid (Blk (wa.setRow g (enc b)) g 29 (enc b)) := HBa.out.setRow _
  have HWb : Hid (Below w.heap.size w (wa.setRow g (enc b))) := below_setRow HWa.out hs3 _
  clear HBa HWa
  generalize wa.setRow g (enc b) = wb at *
  try rw [hv]
  clear hv
  go_loopw [11] (fun i wr => ∃ m : Nat, m ≤ 140 ∧ (m : Int) ≤ 2 * (64 - x % 64) - 1 ∧ i = .int .i64 m ∧ Hid (Blk wr g 29 (enc (iterB (2048 * m) b))) ∧ Hid (Below w.heap.size w wr)) (fun i _ => 140 - (intOf i).toNat)
  case atStart => exact ⟨0, by omega, by omega, rfl, HBb, HWb⟩
  case round =>
    clear HBb HWb
    obtain ⟨m, hm, hm2, rfl, HB, HW⟩ := hrel
    have HOm := hid_ (iter_ok HO.out (2048 * m))
    have hon := HR.out (2048 * m)
    rw [show 2048 * m / 2048 = m by omega] at hon
    have con : wr.cell? ⟨g, 55, none⟩ = some (.bool (onN (64 - x % 64) true ((m + 1) / 2))) := by rw [← hon]; exact HB.out.a55 HOm.out.regs
    clear hon
    have HSm := hid_ (enc_size (iterB (2048 * m) b) HOm.out.regs)
    by_cases hc : ((m + 1) / 2 : Nat) < (64 - x % 64)
    · have ho : onN (64 - x % 64) true ((m + 1) / 2) = true := by unfold onN; rw [if_pos rfl]; exact decide_eq_true (by omega)
      rw [ho] at con
      have q : decide ((m : Int) < 140) = true := by simp; omega
      clear ho
      go_wp2_with fail
      go_loopw [52] (fun i wz => ∃ j : Nat, j ≤ 2048 ∧ i = .int .i64 j ∧ Hid (Blk wz g 29 (enc (iterB (2048 * m + j) b))) ∧ Hid (Below w.heap.size w wz)) (fun i _ => 2048 - (intOf i).toNat)
      case atStart => exact ⟨0, by omega, rfl, HB, HW⟩
      case round =>
        clear HB HW con
        obtain ⟨j, hj, rfl, HB, HW⟩ := hrel
        have HOk := hid_ (iter_ok HO.out (2048 * m + j))
        have HSk := hid_ (enc_size (iterB (2048 * m + j) b) HOk.out.regs)
        by_cases hlt : j < 2048
        · have q : decide ((j : Int) < 2048) = true := by simp; omega
          go_wp2_with (with_reducible refine wpList_load29 (op := ⟨some 54, _, _, _, _, _⟩) rfl (.tmp 8) rfl g (by with_unfolding_all rfl) (enc (iterB (2048 * m + j) b)) HB.out HSk.out ?_)
          refine (tick_any (iterB (2048 * m + j) b) HOk.out _).mono ?_
          rintro e wc ⟨rfl, hc4, hf4, hz4, hb4⟩
          clear hc4 hf4 hz4
          have HBc := hid_ (HB.out.below hb4 HB.out.lt)
          have HWc := hid_ (below_join HW.out hb4)
          have HSc : Hid ((enc (tickB (iterB (2048 * m + j) b))).size = 70) := enc_size _ (tick_ok HOk.out).regs
          have H1c := hid_ (enc_one (tickB (iterB (2048 * m + j) b)))
          clear hb4 HB HW
          go_wp2_with (with_reducible refine wpList_store29 (op := ⟨none, .store 29 (.tmp 8) (.tmp 55), _, _, _, _⟩) rfl (.tmp 8) (.tmp 55) rfl g (enc (iterB (2048 * m + j) b)) (enc (tickB (iterB (2048 * m + j) b))) (by with_unfolding_all rfl) (by with_unfolding_all rfl) HBc.out HSk.out HSc.out H1c.out ?_)
          go_roundw
          case rel => exact ⟨j + 1, by omega, by go_num, HBc.out.setRow _, below_setRow HWc.out hs3 _⟩
          case measure => simp [intOf]; omega
        · obtain rfl : j = 2048 := by omega
          rw [show 2048 * m + 2048 = 2048 * (m + 1) by omega] at HB
          go_wp2_with fail
          go_roundw
          case rel => exact ⟨m + 1, by omega, by omega, by go_num, HB, HW⟩
          case measure => simp [intOf]; omega
    · have ho : onN (64 - x % 64) true ((m + 1) / 2) = false := by unfold onN; rw [if_pos rfl]; exact decide_eq_false (by omega)
      rw [ho] at con
      have hm3 : (m : Int) = 2 * (64 - x % 64) - 1 := by omega
      clear ho
      go_wp2
      all_goals (go_ret; exact .of (by first | rfl | exact ret_bool (by simp; omega)) HW.out)

def p2 (x : Int) : Bd := writeB (writeB b10 12 240) 11 x
theorem p2_ok (x : Int) (h0 : 0 ≤ x) (h1 : x ≤ 255) : (p2 x).Ok := write_ok (write_ok b10_ok 12 240 (by omega) (by omega)) 11 x h0 h1

def s2false (x : Int) : Bd := writeB (p2 x) 14 128
theorem s2false_start (x : Int) : (s2false 252).on = true ∧ (s2false 252).slides = false ∧ (s2false 252).reg 14 = 128 ∧ (s2false 252).div = 0 ∧ (s2false 252).step = 0 ∧ ((s2false 252).vc 2).len = 4 ∧ ((s2false 252).vc 2).on = true :=
  ⟨rfl, rfl, rfl, rfl, rfl, rfl, rfl⟩
theorem s2false_ok (x : Int) (h0 : 0 ≤ x) (h1 : x ≤ 255) : (s2false x).Ok := write_ok (p2_ok x h0 h1) 14 128 (by omega) (by omega)
set_option maxRecDepth 20000 in
set_option maxHeartbeats 2000000 in
theorem walk2false (v x : Int) (hv : v % 4 = 2) (hv0 : 0 ≤ v) (hv1 : v ≤ 255) (hx0 : 0 ≤ x) (hx1 : x ≤ 255) (w : World) :
    Calls Try.prog 4 #[.int .u8 v, .int .u8 x, .bool false] w (Ret (.bool true) w) := by
  have hz := board_zero
  have hsz : (enc zeroB).size = 70 := enc_size zeroB rfl
  have HZ := hid_ hsz
  have e1 := and63 x hx0 hx1
  have e2 : wrap64 (x % 64) = x % 64 := wrap_small _ (by omega) (by omega)
  have HS0 := hid_ (enc_size b10 b10_ok.regs)
  have H10 := hid_ (enc_one b10)
  have HSp := hid_ (enc_size (p2 252) (p2_ok 252 (by omega) (by omega)).regs)
  have H1p := hid_ (enc_one (p2 252))
  go_enter Try.func4, Try.ntmps4
  go_wp2_with fail
  refine (awake_any _).mono ?_
  rintro e w1 ⟨rfl, hc1, hf1, hz1, hb1⟩
  clear hc1 hf1 hz1
  go_wp2_with fail
  refine (write_any zeroB zero_ok 22 128 (by omega) (by omega) _).mono ?_
  rintro e w2 ⟨rfl, hc1, hf1, hz1, hb2⟩
  clear hc1 hf1 hz1
  rw [show writeB zeroB 22 128 = b1 from rfl]
  go_wp2_with fail
  refine (write_any b1 b1_ok 10 128 (by omega) (by omega) _).mono ?_
  rintro e w3 ⟨rfl, hc1, hf1, hz1, hb3⟩
  clear hc1 hf1 hz1
  rw [show writeB b1 10 128 = b10 from rfl]
  have hW3 := below_join (below_join hb1 hb2) hb3
  have HW3 := hid_ hW3
  have hs3 := hW3.size
  clear hb1 hb2 hb3 hW3
  go_wp2_with (first
    | ((with_reducible refine wpList_allocZ (op := ⟨some 8, .alloc 29, _, _, _, _⟩) rfl rfl ?_); intro w5 HB5 HW5)
    | (with_reducible refine wpList_store29 (op := ⟨none, .store 29 (.tmp 8) (.tmp 19), _, _, _, _⟩) rfl (.tmp 8) (.tmp 19) rfl w3.heap.size (enc zeroB) (enc b10) (by with_unfolding_all rfl) (by with_unfolding_all rfl) HB5.out HZ.out HS0.out H10.out ?_)
    | (with_reducible refine wpList_load29 (op := ⟨some 26, _, _, _, _, _⟩) rfl (.tmp 8) rfl w3.heap.size (by with_unfolding_all rfl) (enc b10) (HB5.out.setRow _) HS0.out ?_))
  refine (write_any b10 b10_ok 12 240 (by omega) (by omega) _).mono ?_
  have HB6 : Hid (Blk (w5.setRow w3.heap.size (enc b10)) w3.heap.size 29 (enc b10)) := HB5.out.setRow _
  have HW6 : Hid (Below w.heap.size w (w5.setRow w3.heap.size (enc b10))) := below_setRow (HW3.out.trans (HW5.out.mono hs3)) hs3 _
  clear HB5 HW5 HW3
  generalize w5.setRow w3.heap.size (enc b10) = w6 at *
  generalize w3.heap.size = g at *
  rintro e w7 ⟨rfl, hc1, hf1, hz1, hb7⟩
  clear hc1 hf1 hz1
  have HB7 := hid_ (HB6.out.below hb7 HB6.out.lt)
  have HW7 := hid_ (below_join HW6.out hb7)
  clear hb7 HB6 HW6
  go_wp2_with fail
  refine (write_any (writeB b10 12 240) (write_ok b10_ok 12 240 (by omega) (by omega)) 11 252 (by omega) (by omega) _).mono ?_
  rintro e w8 ⟨rfl, hc1, hf1, hz1, hb8⟩
  clear hc1 hf1 hz1
  have HB8 := hid_ (HB7.out.below hb8 HB7.out.lt)
  have HW8 := hid_ (below_join HW7.out hb8)
  clear hb8 HB7 HW7
  rw [show writeB (writeB b10 12 240) 11 252 = p2 252 from rfl]
  go_wp2_with (first
    | (with_reducible refine wpList_store29 (op := ⟨none, .store 29 (.tmp 8) (.tmp 35), _, _, _, _⟩) rfl (.tmp 8) (.tmp 35) rfl g (enc b10) (enc (p2 252)) (by with_unfolding_all rfl) (by with_unfolding_all rfl) HB8.out HS0.out HSp.out H1p.out ?_)
    | (with_reducible refine wpList_load29 (op := ⟨some 37, _, _, _, _, _⟩) rfl (.tmp 8) rfl g (by with_unfolding_all rfl) (enc (p2 252)) (HB8.out.setRow _) HSp.out ?_))
  have HB9 : Hid (Blk (w8.setRow g (enc (p2 252))) g 29 (enc (p2 252))) := HB8.out.setRow _
  have HW9 : Hid (Below w.heap.size w (w8.setRow g (enc (p2 252)))) := below_setRow HW8.out hs3 _
  clear HB8 HW8
  generalize w8.setRow g (enc (p2 252)) = w9 at *
  refine (write_any (p2 252) (p2_ok 252 (by omega) (by omega)) 14 128 (by omega) (by omega) _).mono ?_
  rintro e wa ⟨rfl, hc1, hf1, hz1, hba⟩
  clear hc1 hf1 hz1
  rw [show writeB (p2 252) 14 128 = s2false 252 from rfl]
  have HBa := hid_ (HB9.out.below hba HB9.out.lt)
  have HWa := hid_ (below_join HW9.out hba)
  clear hba HB9 HW9
  have HO := hid_ (s2false_ok 252 (by omega) (by omega))
  obtain ⟨q1, q2, q3, q4, q5, q6, q7⟩ := s2false_start x
  have HR := hid_ (fun t => (len_run (s2false 252) 2 (by omega) 4 false (by omega) q1 q2 (by show 0 ≤ (s2false 252).reg 14; rw [q3]; omega) (by show ((s2false 252).reg 14 / 64 % 2 = 1) = _; rw [q3]; simp) q4 q5 q6 q7 t).2.2.2.2.2.2)
  clear q1 q2 q3 q4 q5 q6 q7
  have HS := hid_ (enc_size (s2false 252) HO.out.regs)
  have H1 := hid_ (enc_one (s2false 252))
  generalize s2false 252 = b at *
  go_wp2_with (with_reducible refine wpList_store29 (op := ⟨none, .store 29 (.tmp 8) (.tmp 42), _, _, _, _⟩) rfl (.tmp 8) (.tmp 42) rfl g (enc (p2 252)) (enc b) (by with_unfolding_all rfl) (by with_unfolding_all rfl) HBa.out HSp.out HS.out H1.out ?_)
  have HBb : Hid (Blk (wa.setRow g (enc b)) g 29 (enc b)) := HBa.out.setRow _
  have HWb : Hid (Below w.heap.size w (wa.setRow g (enc b))) := below_setRow HWa.out hs3 _
  clear HBa HWa
  generalize wa.setRow g (enc b) = wb at *
  try rw [hv]
  clear hv
  go_loopw [11] (fun i wr => ∃ m : Nat, m ≤ 140 ∧  i = .int .i64 m ∧ Hid (Blk wr g 29 (enc (iterB (2048 * m) b))) ∧ Hid (Below w.heap.size w wr)) (fun i _ => 140 - (intOf i).toNat)
  case atStart => exact ⟨0, by omega, rfl, HBb, HWb⟩
  case round =>
    clear HBb HWb
    obtain ⟨m, hm, rfl, HB, HW⟩ := hrel
    have HOm := hid_ (iter_ok HO.out (2048 * m))
    have hon := HR.out (2048 * m)
    rw [show 2048 * m / 2048 = m by omega] at hon
    have con : wr.cell? ⟨g, 59, none⟩ = some (.bool (onN 4 false ((m + 1) / 2))) := by rw [← hon]; exact HB.out.a59 HOm.out.regs
    clear hon
    have HSm := hid_ (enc_size (iterB (2048 * m) b) HOm.out.regs)
    have ho : onN 4 false ((m + 1) / 2) = true := rfl
    rw [ho] at con
    clear ho
    by_cases hc : m < 140
    · have q : decide ((m : Int) < 140) = true := by simp; omega
      go_wp2_with fail
      go_loopw [52] (fun i wz => ∃ j : Nat, j ≤ 2048 ∧ i = .int .i64 j ∧ Hid (Blk wz g 29 (enc (iterB (2048 * m + j) b))) ∧ Hid (Below w.heap.size w wz)) (fun i _ => 2048 - (intOf i).toNat)
      case atStart => exact ⟨0, by omega, rfl, HB, HW⟩
      case round =>
        clear HB HW con
        obtain ⟨j, hj, rfl, HB, HW⟩ := hrel
        have HOk := hid_ (iter_ok HO.out (2048 * m + j))
        have HSk := hid_ (enc_size (iterB (2048 * m + j) b) HOk.out.regs)
        by_cases hlt : j < 2048
        · have q : decide ((j : Int) < 2048) = true := by simp; omega
          go_wp2_with (with_reducible refine wpList_load29 (op := ⟨some 54, _, _, _, _, _⟩) rfl (.tmp 8) rfl g (by with_unfolding_all rfl) (enc (iterB (2048 * m + j) b)) HB.out HSk.out ?_)
          refine (tick_any (iterB (2048 * m + j) b) HOk.out _).mono ?_
          rintro e wc ⟨rfl, hc4, hf4, hz4, hb4⟩
          clear hc4 hf4 hz4
          have HBc := hid_ (HB.out.below hb4 HB.out.lt)
          have HWc := hid_ (below_join HW.out hb4)
          have HSc : Hid ((enc (tickB (iterB (2048 * m + j) b))).size = 70) := enc_size _ (tick_ok HOk.out).regs
          have H1c := hid_ (enc_one (tickB (iterB (2048 * m + j) b)))
          clear hb4 HB HW
          go_wp2_with (with_reducible refine wpList_store29 (op := ⟨none, .store 29 (.tmp 8) (.tmp 55), _, _, _, _⟩) rfl (.tmp 8) (.tmp 55) rfl g (enc (iterB (2048 * m + j) b)) (enc (tickB (iterB (2048 * m + j) b))) (by with_unfolding_all rfl) (by with_unfolding_all rfl) HBc.out HSk.out HSc.out H1c.out ?_)
          go_roundw
          case rel => exact ⟨j + 1, by omega, by go_num, HBc.out.setRow _, below_setRow HWc.out hs3 _⟩
          case measure => simp [intOf]; omega
        · obtain rfl : j = 2048 := by omega
          rw [show 2048 * m + 2048 = 2048 * (m + 1) by omega] at HB
          go_wp2_with fail
          go_roundw
          case rel => exact ⟨m + 1, by omega, by go_num, HB, HW⟩
          case measure => simp [intOf]; omega
    · obtain rfl : m = 140 := by omega
      go_wp2
      all_goals (go_ret; exact .of (by first | rfl | exact ret_bool (by simp)) HW.out)

def s2true (x : Int) : Bd := writeB (p2 x) 14 192
theorem s2true_start (x : Int) : (s2true 252).on = true ∧ (s2true 252).slides = false ∧ (s2true 252).reg 14 = 192 ∧ (s2true 252).div = 0 ∧ (s2true 252).step = 0 ∧ ((s2true 252).vc 2).len = 4 ∧ ((s2true 252).vc 2).on = true :=
  ⟨rfl, rfl, rfl, rfl, rfl, rfl, rfl⟩
theorem s2true_ok (x : Int) (h0 : 0 ≤ x) (h1 : x ≤ 255) : (s2true x).Ok := write_ok (p2_ok x h0 h1) 14 192 (by omega) (by omega)
set_option maxRecDepth 20000 in
set_option maxHeartbeats 2000000 in
theorem walk2true (v x : Int) (hv : v % 4 = 2) (hv0 : 0 ≤ v) (hv1 : v ≤ 255) (hx0 : 0 ≤ x) (hx1 : x ≤ 255) (w : World) :
    Calls Try.prog 4 #[.int .u8 v, .int .u8 x, .bool true] w (Ret (.bool true) w) := by
  have hz := board_zero
  have hsz : (enc zeroB).size = 70 := enc_size zeroB rfl
  have HZ := hid_ hsz
  have e1 := and63 x hx0 hx1
  have e2 : wrap64 (x % 64) = x % 64 := wrap_small _ (by omega) (by omega)
  have HS0 := hid_ (enc_size b10 b10_ok.regs)
  have H10 := hid_ (enc_one b10)
  have HSp := hid_ (enc_size (p2 252) (p2_ok 252 (by omega) (by omega)).regs)
  have H1p := hid_ (enc_one (p2 252))
  go_enter Try.func4, Try.ntmps4
  go_wp2_with fail
  refine (awake_any _).mono ?_
  rintro e w1 ⟨rfl, hc1, hf1, hz1, hb1⟩
  clear hc1 hf1 hz1
  go_wp2_with fail
  refine (write_any zeroB zero_ok 22 128 (by omega) (by omega) _).mono ?_
  rintro e w2 ⟨rfl, hc1, hf1, hz1, hb2⟩
  clear hc1 hf1 hz1
  rw [show writeB zeroB 22 128 = b1 from rfl]
  go_wp2_with fail
  refine (write_any b1 b1_ok 10 128 (by omega) (by omega) _).mono ?_
  rintro e w3 ⟨rfl, hc1, hf1, hz1, hb3⟩
  clear hc1 hf1 hz1
  rw [show writeB b1 10 128 = b10 from rfl]
  have hW3 := below_join (below_join hb1 hb2) hb3
  have HW3 := hid_ hW3
  have hs3 := hW3.size
  clear hb1 hb2 hb3 hW3
  go_wp2_with (first
    | ((with_reducible refine wpList_allocZ (op := ⟨some 8, .alloc 29, _, _, _, _⟩) rfl rfl ?_); intro w5 HB5 HW5)
    | (with_reducible refine wpList_store29 (op := ⟨none, .store 29 (.tmp 8) (.tmp 19), _, _, _, _⟩) rfl (.tmp 8) (.tmp 19) rfl w3.heap.size (enc zeroB) (enc b10) (by with_unfolding_all rfl) (by with_unfolding_all rfl) HB5.out HZ.out HS0.out H10.out ?_)
    | (with_reducible refine wpList_load29 (op := ⟨some 26, _, _, _, _, _⟩) rfl (.tmp 8) rfl w3.heap.size (by with_unfolding_all rfl) (enc b10) (HB5.out.setRow _) HS0.out ?_))
  refine (write_any b10 b10_ok 12 240 (by omega) (by omega) _).mono ?_
  have HB6 : Hid (Blk (w5.setRow w3.heap.size (enc b10)) w3.heap.size 29 (enc b10)) := HB5.out.setRow _
  have HW6 : Hid (Below w.heap.size w (w5.setRow w3.heap.size (enc b10))) := below_setRow (HW3.out.trans (HW5.out.mono hs3)) hs3 _
  clear HB5 HW5 HW3
  generalize w5.setRow w3.heap.size (enc b10) = w6 at *
  generalize w3.heap.size = g at *
  rintro e w7 ⟨rfl, hc1, hf1, hz1, hb7⟩
  clear hc1 hf1 hz1
  have HB7 := hid_ (HB6.out.below hb7 HB6.out.lt)
  have HW7 := hid_ (below_join HW6.out hb7)
  clear hb7 HB6 HW6
  go_wp2_with fail
  refine (write_any (writeB b10 12 240) (write_ok b10_ok 12 240 (by omega) (by omega)) 11 252 (by omega) (by omega) _).mono ?_
  rintro e w8 ⟨rfl, hc1, hf1, hz1, hb8⟩
  clear hc1 hf1 hz1
  have HB8 := hid_ (HB7.out.below hb8 HB7.out.lt)
  have HW8 := hid_ (below_join HW7.out hb8)
  clear hb8 HB7 HW7
  rw [show writeB (writeB b10 12 240) 11 252 = p2 252 from rfl]
  go_wp2_with (first
    | (with_reducible refine wpList_store29 (op := ⟨none, .store 29 (.tmp 8) (.tmp 35), _, _, _, _⟩) rfl (.tmp 8) (.tmp 35) rfl g (enc b10) (enc (p2 252)) (by with_unfolding_all rfl) (by with_unfolding_all rfl) HB8.out HS0.out HSp.out H1p.out ?_)
    | (with_reducible refine wpList_load29 (op := ⟨some 37, _, _, _, _, _⟩) rfl (.tmp 8) rfl g (by with_unfolding_all rfl) (enc (p2 252)) (HB8.out.setRow _) HSp.out ?_))
  have HB9 : Hid (Blk (w8.setRow g (enc (p2 252))) g 29 (enc (p2 252))) := HB8.out.setRow _
  have HW9 : Hid (Below w.heap.size w (w8.setRow g (enc (p2 252)))) := below_setRow HW8.out hs3 _
  clear HB8 HW8
  generalize w8.setRow g (enc (p2 252)) = w9 at *
  refine (write_any (p2 252) (p2_ok 252 (by omega) (by omega)) 14 192 (by omega) (by omega) _).mono ?_
  rintro e wa ⟨rfl, hc1, hf1, hz1, hba⟩
  clear hc1 hf1 hz1
  rw [show writeB (p2 252) 14 192 = s2true 252 from rfl]
  have HBa := hid_ (HB9.out.below hba HB9.out.lt)
  have HWa := hid_ (below_join HW9.out hba)
  clear hba HB9 HW9
  have HO := hid_ (s2true_ok 252 (by omega) (by omega))
  obtain ⟨q1, q2, q3, q4, q5, q6, q7⟩ := s2true_start x
  have HR := hid_ (fun t => (len_run (s2true 252) 2 (by omega) 4 true (by omega) q1 q2 (by show 0 ≤ (s2true 252).reg 14; rw [q3]; omega) (by show ((s2true 252).reg 14 / 64 % 2 = 1) = _; rw [q3]; simp) q4 q5 q6 q7 t).2.2.2.2.2.2)
  clear q1 q2 q3 q4 q5 q6 q7
  have HS := hid_ (enc_size (s2true 252) HO.out.regs)
  have H1 := hid_ (enc_one (s2true 252))
  generalize s2true 252 = b at *
  go_wp2_with (with_reducible refine wpList_store29 (op := ⟨none, .store 29 (.tmp 8) (.tmp 42), _, _, _, _⟩) rfl (.tmp 8) (.tmp 42) rfl g (enc (p2 252)) (enc b) (by with_unfolding_all rfl) (by with_unfolding_all rfl) HBa.out HSp.out HS.out H1.out ?_)
  have HBb : Hid (Blk (wa.setRow g (enc b)) g 29 (enc b)) := HBa.out.setRow _
  have HWb : Hid (Below w.heap.size w (wa.setRow g (enc b))) := below_setRow HWa.out hs3 _
  clear HBa HWa
  generalize wa.setRow g (enc b) = wb at *
  try rw [hv]
  clear hv
  go_loopw [11] (fun i wr => ∃ m : Nat, m ≤ 140 ∧ (m : Int) ≤ 2 * 4 - 1 ∧ i = .int .i64 m ∧ Hid (Blk wr g 29 (enc (iterB (2048 * m) b))) ∧ Hid (Below w.heap.size w wr)) (fun i _ => 140 - (intOf i).toNat)
  case atStart => exact ⟨0, by omega, by omega, rfl, HBb, HWb⟩
  case round =>
    clear HBb HWb
    obtain ⟨m, hm, hm2, rfl, HB, HW⟩ := hrel
    have HOm := hid_ (iter_ok HO.out (2048 * m))
    have hon := HR.out (2048 * m)
    rw [show 2048 * m / 2048 = m by omega] at hon
    have con : wr.cell? ⟨g, 59, none⟩ = some (.bool (onN 4 true ((m + 1) / 2))) := by rw [← hon]; exact HB.out.a59 HOm.out.regs
    clear hon
    have HSm := hid_ (enc_size (iterB (2048 * m) b) HOm.out.regs)
    by_cases hc : ((m + 1) / 2 : Nat) < 4
    · have ho : onN 4 true ((m + 1) / 2) = true := by unfold onN; rw [if_pos rfl]; exact decide_eq_true (by omega)
      rw [ho] at con
      have q : decide ((m : Int) < 140) = true := by simp; omega
      clear ho
      go_wp2_with fail
      go_loopw [52] (fun i wz => ∃ j : Nat, j ≤ 2048 ∧ i = .int .i64 j ∧ Hid (Blk wz g 29 (enc (iterB (2048 * m + j) b))) ∧ Hid (Below w.heap.size w wz)) (fun i _ => 2048 - (intOf i).toNat)
      case atStart => exact ⟨0, by omega, rfl, HB, HW⟩
      case round =>
        clear HB HW con
        obtain ⟨j, hj, rfl, HB, HW⟩ := hrel
        have HOk := hid_ (iter_ok HO.out (2048 * m + j))
        have HSk := hid_ (enc_size (iterB (2048 * m + j) b) HOk.out.regs)
        by_cases hlt : j < 2048
        · have q : decide ((j : Int) < 2048) = true := by simp; omega
          go_wp2_with (with_reducible refine wpList_load29 (op := ⟨some 54, _, _, _, _, _⟩) rfl (.tmp 8) rfl g (by with_unfolding_all rfl) (enc (iterB (2048 * m + j) b)) HB.out HSk.out ?_)
          refine (tick_any (iterB (2048 * m + j) b) HOk.out _).mono ?_
          rintro e wc ⟨rfl, hc4, hf4, hz4, hb4⟩
          clear hc4 hf4 hz4
          have HBc := hid_ (HB.out.below hb4 HB.out.lt)
          have HWc := hid_ (below_join HW.out hb4)
          have HSc : Hid ((enc (tickB (iterB (2048 * m + j) b))).size = 70) := enc_size _ (tick_ok HOk.out).regs
          have H1c := hid_ (enc_one (tickB (iterB (2048 * m + j) b)))
          clear hb4 HB HW
          go_wp2_with (with_reducible refine wpList_store29 (op := ⟨none, .store 29 (.tmp 8) (.tmp 55), _, _, _, _⟩) rfl (.tmp 8) (.tmp 55) rfl g (enc (iterB (2048 * m + j) b)) (enc (tickB (iterB (2048 * m + j) b))) (by with_unfolding_all rfl) (by with_unfolding_all rfl) HBc.out HSk.out HSc.out H1c.out ?_)
          go_roundw
          case rel => exact ⟨j + 1, by omega, by go_num, HBc.out.setRow _, below_setRow HWc.out hs3 _⟩
          case measure => simp [intOf]; omega
        · obtain rfl : j = 2048 := by omega
          rw [show 2048 * m + 2048 = 2048 * (m + 1) by omega] at HB
          go_wp2_with fail
          go_roundw
          case rel => exact ⟨m + 1, by omega, by omega, by go_num, HB, HW⟩
          case measure => simp [intOf]; omega
    · have ho : onN 4 true ((m + 1) / 2) = false := by unfold onN; rw [if_pos rfl]; exact decide_eq_false (by omega)
      rw [ho] at con
      have hm3 : (m : Int) = 2 * 4 - 1 := by omega
      clear ho
      go_wp2
      all_goals (go_ret; exact .of (by first | rfl | exact ret_bool (by simp; omega)) HW.out)

def p3 (x : Int) : Bd := writeB (writeB b10 17 240) 16 x
theorem p3_ok (x : Int) (h0 : 0 ≤ x) (h1 : x ≤ 255) : (p3 x).Ok := write_ok (write_ok b10_ok 17 240 (by omega) (by omega)) 16 x h0 h1

def s3false (x : Int) : Bd := writeB (p3 x) 19 128
theorem s3false_start (x : Int) : (s3false x).on = true ∧ (s3false x).slides = false ∧ (s3false x).reg 19 = 128 ∧ (s3false x).div = 0 ∧ (s3false x).step = 0 ∧ ((s3false x).vc 3).len = (64 - x % 64) ∧ ((s3false x).vc 3).on = true :=
  ⟨rfl, rfl, rfl, rfl, rfl, (keep_len (show (64 - x % 64 : Int) ≠ 0 by omega)), rfl⟩
theorem s3false_ok (x : Int) (h0 : 0 ≤ x) (h1 : x ≤ 255) : (s3false x).Ok := write_ok (p3_ok x h0 h1) 19 128 (by omega) (by omega)
set_option maxRecDepth 20000 in
set_option maxHeartbeats 2000000 in
theorem walk3false (v x : Int) (hv : v % 4 = 3) (hv0 : 0 ≤ v) (hv1 : v ≤ 255) (hx0 : 0 ≤ x) (hx1 : x ≤ 255) (w : World) :
    Calls Try.prog 4 #[.int .u8 v, .int .u8 x, .bool false] w (Ret (.bool true) w) := by
  have hz := board_zero
  have hsz : (enc zeroB).size = 70 := enc_size zeroB rfl
  have HZ := hid_ hsz
  have e1 := and63 x hx0 hx1
  have e2 : wrap64 (x % 64) = x % 64 := wrap_small _ (by omega) (by omega)
  have HS0 := hid_ (enc_size b10 b10_ok.regs)
  have H10 := hid_ (enc_one b10)
  have HSp := hid_ (enc_size (p3 x) (p3_ok x (by omega) (by omega)).regs)
  have H1p := hid_ (enc_one (p3 x))
  go_enter Try.func4, Try.ntmps4
  go_wp2_with fail
  refine (awake_any _).mono ?_
  rintro e w1 ⟨rfl, hc1, hf1, hz1, hb1⟩
  clear hc1 hf1 hz1
  go_wp2_with fail
  refine (write_any zeroB zero_ok 22 128 (by omega) (by omega) _).mono ?_
  rintro e w2 ⟨rfl, hc1, hf1, hz1, hb2⟩
  clear hc1 hf1 hz1
  rw [show writeB zeroB 22 128 = b1 from rfl]
  go_wp2_with fail
  refine (write_any b1 b1_ok 10 128 (by omega) (by omega) _).mono ?_
  rintro e w3 ⟨rfl, hc1, hf1, hz1, hb3⟩
  clear hc1 hf1 hz1
  rw [show writeB b1 10 128 = b10 from rfl]
  have hW3 := below_join (below_join hb1 hb2) hb3
  have HW3 := hid_ hW3
  have hs3 := hW3.size
  clear hb1 hb2 hb3 hW3
  go_wp2_with (first
    | ((with_reducible refine wpList_allocZ (op := ⟨some 8, .alloc 29, _, _, _, _⟩) rfl rfl ?_); intro w5 HB5 HW5)
    | (with_reducible refine wpList_store29 (op := ⟨none, .store 29 (.tmp 8) (.tmp 19), _, _, _, _⟩) rfl (.tmp 8) (.tmp 19) rfl w3.heap.size (enc zeroB) (enc b10) (by with_unfolding_all rfl) (by with_unfolding_all rfl) HB5.out HZ.out HS0.out H10.out ?_)
    | (with_reducible refine wpList_load29 (op := ⟨some 26, _, _, _, _, _⟩) rfl (.tmp 8) rfl w3.heap.size (by with_unfolding_all rfl) (enc b10) (HB5.out.setRow _) HS0.out ?_))
  refine (write_any b10 b10_ok 17 240 (by omega) (by omega) _).mono ?_
  have HB6 : Hid (Blk (w5.setRow w3.heap.size (enc b10)) w3.heap.size 29 (enc b10)) := HB5.out.setRow _
  have HW6 : Hid (Below w.heap.size w (w5.setRow w3.heap.size (enc b10))) := below_setRow (HW3.out.trans (HW5.out.mono hs3)) hs3 _
  clear HB5 HW5 HW3
  generalize w5.setRow w3.heap.size (enc b10) = w6 at *
  generalize w3.heap.size = g at *
  rintro e w7 ⟨rfl, hc1, hf1, hz1, hb7⟩
  clear hc1 hf1 hz1
  have HB7 := hid_ (HB6.out.below hb7 HB6.out.lt)
  have HW7 := hid_ (below_join HW6.out hb7)
  clear hb7 HB6 HW6
  go_wp2_with fail
  refine (write_any (writeB b10 17 240) (write_ok b10_ok 17 240 (by omega) (by omega)) 16 x (by omega) (by omega) _).mono ?_
  rintro e w8 ⟨rfl, hc1, hf1, hz1, hb8⟩
  clear hc1 hf1 hz1
  have HB8 := hid_ (HB7.out.below hb8 HB7.out.lt)
  have HW8 := hid_ (below_join HW7.out hb8)
  clear hb8 HB7 HW7
  rw [show writeB (writeB b10 17 240) 16 x = p3 x from rfl]
  go_wp2_with (first
    | (with_reducible refine wpList_store29 (op := ⟨none, .store 29 (.tmp 8) (.tmp 35), _, _, _, _⟩) rfl (.tmp 8) (.tmp 35) rfl g (enc b10) (enc (p3 x)) (by with_unfolding_all rfl) (by with_unfolding_all rfl) HB8.out HS0.out HSp.out H1p.out ?_)
    | (with_reducible refine wpList_load29 (op := ⟨some 37, _, _, _, _, _⟩) rfl (.tmp 8) rfl g (by with_unfolding_all rfl) (enc (p3 x)) (HB8.out.setRow _) HSp.out ?_))
  have HB9 : Hid (Blk (w8.setRow g (enc (p3 x))) g 29 (enc (p3 x))) := HB8.out.setRow _
  have HW9 : Hid (Below w.heap.size w (w8.setRow g (enc (p3 x)))) := below_setRow HW8.out hs3 _
  clear HB8 HW8
  generalize w8.setRow g (enc (p3 x)) = w9 at *
  refine (write_any (p3 x) (p3_ok x (by omega) (by omega)) 19 128 (by omega) (by omega) _).mono ?_
  rintro e wa ⟨rfl, hc1, hf1, hz1, hba⟩
  clear hc1 hf1 hz1
  rw [show writeB (p3 x) 19 128 = s3false x from rfl]
  have HBa := hid_ (HB9.out.below hba HB9.out.lt)
  have HWa := hid_ (below_join HW9.out hba)
  clear hba HB9 HW9
  have HO := hid_ (s3false_ok x (by omega) (by omega))
  obtain ⟨q1, q2, q3, q4, q5, q6, q7⟩ := s3false_start x
  have HR := hid_ (fun t => (len_run (s3false x) 3 (by omega) (64 - x % 64) false (by omega) q1 q2 (by show 0 ≤ (s3false x).reg 19; rw [q3]; omega) (by show ((s3false x).reg 19 / 64 % 2 = 1) = _; rw [q3]; simp) q4 q5 q6 q7 t).2.2.2.2.2.2)
  clear q1 q2 q3 q4 q5 q6 q7
  have HS := hid_ (enc_size (s3false x) HO.out.regs)
  have H1 := hid_ (enc_one (s3false x))
  generalize s3false x = b at *
  go_wp2_with (with_reducible refine wpList_store29 (op := ⟨none, .store 29 (.tmp 8) (.tmp 42), _, _, _, _⟩) rfl (.tmp 8) (.tmp 42) rfl g (enc (p3 x)) (enc b) (by with_unfolding_all rfl) (by with_unfolding_all rfl) HBa.out HSp.out HS.out H1.out ?_)
  have HBb : Hid (Blk (wa.setRow g (enc b)) g 29 (enc b)) := HBa.out.setRow _
  have HWb : Hid (Below w.heap.size w (wa.setRow g (enc b))) := below_setRow HWa.out hs3 _
  clear HBa HWa
  generalize wa.setRow g (enc b) = wb at *
  try rw [hv]
  clear hv
  go_loopw [11] (fun i wr => ∃ m : Nat, m ≤ 140 ∧  i = .int .i64 m ∧ Hid (Blk wr g 29 (enc (iterB (2048 * m) b))) ∧ Hid (Below w.heap.size w wr)) (fun i _ => 140 - (intOf i).toNat)
  case atStart => exact ⟨0, by omega, rfl, HBb, HWb⟩
  case round =>
    clear HBb HWb
    obtain ⟨m, hm, rfl, HB, HW⟩ := hrel
    have HOm := hid_ (iter_ok HO.out (2048 * m))
    have hon := HR.out (2048 * m)
    rw [show 2048 * m / 2048 = m by omega] at hon
    have con : wr.cell? ⟨g, 63, none⟩ = some (.bool (onN (64 - x % 64) false ((m + 1) / 2))) := by rw [← hon]; exact HB.out.a63 HOm.out.regs
    clear hon
    have HSm := hid_ (enc_size (iterB (2048 * m) b) HOm.out.regs)
    have ho : onN (64 - x % 64) false ((m + 1) / 2) = true := rfl
    rw [ho] at con
    clear ho
    by_cases hc : m < 140
    · have q : decide ((m : Int) < 140) = true := by simp; omega
      go_wp2_with fail
      go_loopw [52] (fun i wz => ∃ j : Nat, j ≤ 2048 ∧ i = .int .i64 j ∧ Hid (Blk wz g 29 (enc (iterB (2048 * m + j) b))) ∧ Hid (Below w.heap.size w wz)) (fun i _ => 2048 - (intOf i).toNat)
      case atStart => exact ⟨0, by omega, rfl, HB, HW⟩
      case round =>
        clear HB HW con
        obtain ⟨j, hj, rfl, HB, HW⟩ := hrel
        have HOk := hid_ (iter_ok HO.out (2048 * m + j))
        have HSk := hid_ (enc_size (iterB (2048 * m + j) b) HOk.out.regs)
        by_cases hlt : j < 2048
        · have q : decide ((j : Int) < 2048) = true := by simp; omega
          go_wp2_with (with_reducible refine wpList_load29 (op := ⟨some 54, _, _, _, _, _⟩) rfl (.tmp 8) rfl g (by with_unfolding_all rfl) (enc (iterB (2048 * m + j) b)) HB.out HSk.out ?_)
          refine (tick_any (iterB (2048 * m + j) b) HOk.out _).mono ?_
          rintro e wc ⟨rfl, hc4, hf4, hz4, hb4⟩
          clear hc4 hf4 hz4
          have HBc := hid_ (HB.out.below hb4 HB.out.lt)
          have HWc := hid_ (below_join HW.out hb4)
          have HSc : Hid ((enc (tickB (iterB (2048 * m + j) b))).size = 70) := enc_size _ (tick_ok HOk.out).regs
          have H1c := hid_ (enc_one (tickB (iterB (2048 * m + j) b)))
          clear hb4 HB HW
          go_wp2_with (with_reducible refine wpList_store29 (op := ⟨none, .store 29 (.tmp 8) (.tmp 55), _, _, _, _⟩) rfl (.tmp 8) (.tmp 55) rfl g (enc (iterB (2048 * m + j) b)) (enc (tickB (iterB (2048 * m + j) b))) (by with_unfolding_all rfl) (by with_unfolding_all rfl) HBc.out HSk.out HSc.out H1c.out ?_)
          go_roundw
          case rel => exact ⟨j + 1, by omega, by go_num, HBc.out.setRow _, below_setRow HWc.out hs3 _⟩
          case measure => simp [intOf]; omega
        · obtain rfl : j = 2048 := by omega
          rw [show 2048 * m + 2048 = 2048 * (m + 1) by omega] at HB
          go_wp2_with fail
          go_roundw
          case rel => exact ⟨m + 1, by omega, by go_num, HB, HW⟩
          case measure => simp [intOf]; omega
    · obtain rfl : m = 140 := by omega
      go_wp2
      all_goals (go_ret; exact .of (by first | rfl | exact ret_bool (by simp)) HW.out)

def s3true (x : Int) : Bd := writeB (p3 x) 19 192
theorem s3true_start (x : Int) : (s3true x).on = true ∧ (s3true x).slides = false ∧ (s3true x).reg 19 = 192 ∧ (s3true x).div = 0 ∧ (s3true x).step = 0 ∧ ((s3true x).vc 3).len = (64 - x % 64) ∧ ((s3true x).vc 3).on = true :=
  ⟨rfl, rfl, rfl, rfl, rfl, (keep_len (show (64 - x % 64 : Int) ≠ 0 by omega)), rfl⟩
theorem s3true_ok (x : Int) (h0 : 0 ≤ x) (h1 : x ≤ 255) : (s3true x).Ok := write_ok (p3_ok x h0 h1) 19 192 (by omega) (by omega)
set_option maxRecDepth 20000 in
set_option maxHeartbeats 2000000 in
theorem walk3true (v x : Int) (hv : v % 4 = 3) (hv0 : 0 ≤ v) (hv1 : v ≤ 255) (hx0 : 0 ≤ x) (hx1 : x ≤ 255) (w : World) :
    Calls Try.prog 4 #[.int .u8 v, .int .u8 x, .bool true] w (Ret (.bool true) w) := by
  have hz := board_zero
  have hsz : (enc zeroB).size = 70 := enc_size zeroB rfl
  have HZ := hid_ hsz
  have e1 := and63 x hx0 hx1
  have e2 : wrap64 (x % 64) = x % 64 := wrap_small _ (by omega) (by omega)
  have HS0 := hid_ (enc_size b10 b10_ok.regs)
  have H10 := hid_ (enc_one b10)
  have HSp := hid_ (enc_size (p3 x) (p3_ok x (by omega) (by omega)).regs)
  have H1p := hid_ (enc_one (p3 x))
  go_enter Try.func4, Try.ntmps4
  go_wp2_with fail
  refine (awake_any _).mono ?_
  rintro e w1 ⟨rfl, hc1, hf1, hz1, hb1⟩
  clear hc1 hf1 hz1
  go_wp2_with fail
  refine (write_any zeroB zero_ok 22 128 (by omega) (by omega) _).mono ?_
  rintro e w2 ⟨rfl, hc1, hf1, hz1, hb2⟩
  clear hc1 hf1 hz1
  rw [show writeB zeroB 22 128 = b1 from rfl]
  go_wp2_with fail
  refine (write_any b1 b1_ok 10 128 (by omega) (by omega) _).mono ?_
  rintro e w3 ⟨rfl, hc1, hf1, hz1, hb3⟩
  clear hc1 hf1 hz1
  rw [show writeB b1 10 128 = b10 from rfl]
  have hW3 := below_join (below_join hb1 hb2) hb3
  have HW3 := hid_ hW3
  have hs3 := hW3.size
  clear hb1 hb2 hb3 hW3
  go_wp2_with (first
    | ((with_reducible refine wpList_allocZ (op := ⟨some 8, .alloc 29, _, _, _, _⟩) rfl rfl ?_); intro w5 HB5 HW5)
    | (with_reducible refine wpList_store29 (op := ⟨none, .store 29 (.tmp 8) (.tmp 19), _, _, _, _⟩) rfl (.tmp 8) (.tmp 19) rfl w3.heap.size (enc zeroB) (enc b10) (by with_unfolding_all rfl) (by with_unfolding_all rfl) HB5.out HZ.out HS0.out H10.out ?_)
    | (with_reducible refine wpList_load29 (op := ⟨some 26, _, _, _, _, _⟩) rfl (.tmp 8) rfl w3.heap.size (by with_unfolding_all rfl) (enc b10) (HB5.out.setRow _) HS0.out ?_))
  refine (write_any b10 b10_ok 17 240 (by omega) (by omega) _).mono ?_
  have HB6 : Hid (Blk (w5.setRow w3.heap.size (enc b10)) w3.heap.size 29 (enc b10)) := HB5.out.setRow _
  have HW6 : Hid (Below w.heap.size w (w5.setRow w3.heap.size (enc b10))) := below_setRow (HW3.out.trans (HW5.out.mono hs3)) hs3 _
  clear HB5 HW5 HW3
  generalize w5.setRow w3.heap.size (enc b10) = w6 at *
  generalize w3.heap.size = g at *
  rintro e w7 ⟨rfl, hc1, hf1, hz1, hb7⟩
  clear hc1 hf1 hz1
  have HB7 := hid_ (HB6.out.below hb7 HB6.out.lt)
  have HW7 := hid_ (below_join HW6.out hb7)
  clear hb7 HB6 HW6
  go_wp2_with fail
  refine (write_any (writeB b10 17 240) (write_ok b10_ok 17 240 (by omega) (by omega)) 16 x (by omega) (by omega) _).mono ?_
  rintro e w8 ⟨rfl, hc1, hf1, hz1, hb8⟩
  clear hc1 hf1 hz1
  have HB8 := hid_ (HB7.out.below hb8 HB7.out.lt)
  have HW8 := hid_ (below_join HW7.out hb8)
  clear hb8 HB7 HW7
  rw [show writeB (writeB b10 17 240) 16 x = p3 x from rfl]
  go_wp2_with (first
    | (with_reducible refine wpList_store29 (op := ⟨none, .store 29 (.tmp 8) (.tmp 35), _, _, _, _⟩) rfl (.tmp 8) (.tmp 35) rfl g (enc b10) (enc (p3 x)) (by with_unfolding_all rfl) (by with_unfolding_all rfl) HB8.out HS0.out HSp.out H1p.out ?_)
    | (with_reducible refine wpList_load29 (op := ⟨some 37, _, _, _, _, _⟩) rfl (.tmp 8) rfl g (by with_unfolding_all rfl) (enc (p3 x)) (HB8.out.setRow _) HSp.out ?_))
  have HB9 : Hid (Blk (w8.setRow g (enc (p3 x))) g 29 (enc (p3 x))) := HB8.out.setRow _
  have HW9 : Hid (Below w.heap.size w (w8.setRow g (enc (p3 x)))) := below_setRow HW8.out hs3 _
  clear HB8 HW8
  generalize w8.setRow g (enc (p3 x)) = w9 at *
  refine (write_any (p3 x) (p3_ok x (by omega) (by omega)) 19 192 (by omega) (by omega) _).mono ?_
  rintro e wa ⟨rfl, hc1, hf1, hz1, hba⟩
  clear hc1 hf1 hz1
  rw [show writeB (p3 x) 19 192 = s3true x from rfl]
  have HBa := hid_ (HB9.out.below hba HB9.out.lt)
  have HWa := hid_ (below_join HW9.out hba)
  clear hba HB9 HW9
  have HO := hid_ (s3true_ok x (by omega) (by omega))
  obtain ⟨q1, q2, q3, q4, q5, q6, q7⟩ := s3true_start x
  have HR := hid_ (fun t => (len_run (s3true x) 3 (by omega) (64 - x % 64) true (by omega) q1 q2 (by show 0 ≤ (s3true x).reg 19; rw [q3]; omega) (by show ((s3true x).reg 19 / 64 % 2 = 1) = _; rw [q3]; simp) q4 q5 q6 q7 t).2.2.2.2.2.2)
  clear q1 q2 q3 q4 q5 q6 q7
  have HS := hid_ (enc_size (s3true x) HO.out.regs)
  have H1 := hid_ (enc_one (s3true x))
  generalize s3true x = b at *
  go_wp2_with (with_reducible refine wpList_store29 (op := ⟨none, .store 29 (.tmp 8) (.tmp 42), _, _, _, _⟩) rfl (.tmp 8) (.tmp 42) rfl g (enc (p3 x)) (enc b) (by with_unfolding_all rfl) (by with_unfolding_all rfl) HBa.out HSp.out HS.out H1.out ?_)
  have HBb : Hid (Blk (wa.setRow g (enc b)) g 29 (enc b)) := HBa.out.setRow _
  have HWb : Hid (Below w.heap.size w (wa.setRow g (enc b))) := below_setRow HWa.out hs3 _
  clear HBa HWa
  generalize wa.setRow g (enc b) = wb at *
  try rw [hv]
  clear hv
  go_loopw [11] (fun i wr => ∃ m : Nat, m ≤ 140 ∧ (m : Int) ≤ 2 * (64 - x % 64) - 1 ∧ i = .int .i64 m ∧ Hid (Blk wr g 29 (enc (iterB (2048 * m) b))) ∧ Hid (Below w.heap.size w wr)) (fun i _ => 140 - (intOf i).toNat)
  case atStart => exact ⟨0, by omega, by omega, rfl, HBb, HWb⟩
  case round =>
    clear HBb HWb
    obtain ⟨m, hm, hm2, rfl, HB, HW⟩ := hrel
    have HOm := hid_ (iter_ok HO.out (2048 * m))
    have hon := HR.out (2048 * m)
    rw [show 2048 * m / 2048 = m by omega] at hon
    have con : wr.cell? ⟨g, 63, none⟩ = some (.bool (onN (64 - x % 64) true ((m + 1) / 2))) := by rw [← hon]; exact HB.out.a63 HOm.out.regs
    clear hon
    have HSm := hid_ (enc_size (iterB (2048 * m) b) HOm.out.regs)
    by_cases hc : ((m + 1) / 2 : Nat) < (64 - x % 64)
    · have ho : onN (64 - x % 64) true ((m + 1) / 2) = true := by unfold onN; rw [if_pos rfl]; exact decide_eq_true (by omega)
      rw [ho] at con
      have q : decide ((m : Int) < 140) = true := by simp; omega
      clear ho
      go_wp2_with fail
      go_loopw [52] (fun i wz => ∃ j : Nat, j ≤ 2048 ∧ i = .int .i64 j ∧ Hid (Blk wz g 29 (enc (iterB (2048 * m + j) b))) ∧ Hid (Below w.heap.size w wz)) (fun i _ => 2048 - (intOf i).toNat)
      case atStart => exact ⟨0, by omega, rfl, HB, HW⟩
      case round =>
        clear HB HW con
        obtain ⟨j, hj, rfl, HB, HW⟩ := hrel
        have HOk := hid_ (iter_ok HO.out (2048 * m + j))
        have HSk := hid_ (enc_size (iterB (2048 * m + j) b) HOk.out.regs)
        by_cases hlt : j < 2048
        · have q : decide ((j : Int) < 2048) = true := by simp; omega
          go_wp2_with (with_reducible refine wpList_load29 (op := ⟨some 54, _, _, _, _, _⟩) rfl (.tmp 8) rfl g (by with_unfolding_all rfl) (enc (iterB (2048 * m + j) b)) HB.out HSk.out ?_)
          refine (tick_any (iterB (2048 * m + j) b) HOk.out _).mono ?_
          rintro e wc ⟨rfl, hc4, hf4, hz4, hb4⟩
          clear hc4 hf4 hz4
          have HBc := hid_ (HB.out.below hb4 HB.out.lt)
          have HWc := hid_ (below_join HW.out hb4)
          have HSc : Hid ((enc (tickB (iterB (2048 * m + j) b))).size = 70) := enc_size _ (tick_ok HOk.out).regs
          have H1c := hid_ (enc_one (tickB (iterB (2048 * m + j) b)))
          clear hb4 HB HW
          go_wp2_with (with_reducible refine wpList_store29 (op := ⟨none, .store 29 (.tmp 8) (.tmp 55), _, _, _, _⟩) rfl (.tmp 8) (.tmp 55) rfl g (enc (iterB (2048 * m + j) b)) (enc (tickB (iterB (2048 * m + j) b))) (by with_unfolding_all rfl) (by with_unfolding_all rfl) HBc.out HSk.out HSc.out H1c.out ?_)
          go_roundw
          case rel => exact ⟨j + 1, by omega, by go_num, HBc.out.setRow _, below_setRow HWc.out hs3 _⟩
          case measure => simp [intOf]; omega
        · obtain rfl : j = 2048 := by omega
          rw [show 2048 * m + 2048 = 2048 * (m + 1) by omega] at HB
          go_wp2_with fail
          go_roundw
          case rel => exact ⟨m + 1, by omega, by omega, by go_num, HB, HW⟩
          case measure => simp [intOf]; omega
    · have ho : onN (64 - x % 64) true ((m + 1) / 2) = false := by unfold onN; rw [if_pos rfl]; exact decide_eq_false (by omega)
      rw [ho] at con
      have hm3 : (m : Int) = 2 * (64 - x % 64) - 1 := by omega
      clear ho
      go_wp2
      all_goals (go_ret; exact .of (by first | rfl | exact ret_bool (by simp; omega)) HW.out)

theorem walk (v x : Int) (cnt : Bool) (hv0 : 0 ≤ v) (hv1 : v ≤ 255) (hx0 : 0 ≤ x) (hx1 : x ≤ 255) (w : World) :
    Calls Try.prog 4 #[.int .u8 v, .int .u8 x, .bool cnt] w (Ret (.bool true) w) := by
  obtain h | h | h | h : v % 4 = 0 ∨ v % 4 = 1 ∨ v % 4 = 2 ∨ v % 4 = 3 := by omega
  · cases cnt with
    | true => exact walk0true v x h hv0 hv1 hx0 hx1 w
    | false => exact walk0false v x h hv0 hv1 hx0 hx1 w
  · cases cnt with
    | true => exact walk1true v x h hv0 hv1 hx0 hx1 w
    | false => exact walk1false v x h hv0 hv1 hx0 hx1 w
  · cases cnt with
    | true => exact walk2true v x h hv0 hv1 hx0 hx1 w
    | false => exact walk2false v x h hv0 hv1 hx0 hx1 w
  · cases cnt with
    | true => exact walk3true v x h hv0 hv1 hx0 hx1 w
    | false => exact walk3false v x h hv0 hv1 hx0 hx1 w
end Go.Proofs.Ytacbdapgdgliiaa.soundLengths
