/- Contract of a board's write: what it makes; the plain cases. -/
import Derived.Test.YtacbdapgdgliiaaSwitch
import Derived.Test.YtacbdapgdgliiaaTickB
namespace Go.Proofs.Ytacbdapgdgliiaa
open Go.RowKit
set_option linter.unusedSimpArgs false
set_option linter.unusedVariables false

def Bd.vc (b : Bd) : Nat → Vc
  | 0 => b.v0
  | 1 => b.v1
  | 2 => b.v2
  | _ => b.v3
def Bd.setV (b : Bd) (v : Nat) (x : Vc) : Bd :=
  match v with
  | 0 => { b with v0 := x }
  | 1 => { b with v1 := x }
  | 2 => { b with v2 := x }
  | _ => { b with v3 := x }
abbrev putB (b : Bd) (n : Nat) (x : Int) : Bd := { b with regs := b.regs.set n x }
/-- What a write below 20 makes. -/
def lowB (b : Bd) (n : Nat) (x : Int) : Bd :=
  if n % 5 = 1 then (putB b n x).setV (n / 5) { (putB b n x).vc (n / 5) with len := longestB (n / 5) - x % longestB (n / 5) }
  else if n % 5 = 4 then (if 128 ≤ x then beginB (putB b n x) (n / 5) else putB b n x)
  else (putB b n x).setV (n / 5) { (putB b n x).vc (n / 5) with on := ((putB b n x).vc (n / 5)).on && readyB (putB b n x) (n / 5) }
/-- What a write makes. -/
def writeB (b : Bd) (n x : Int) : Bd :=
  if n < 0 ∨ 48 ≤ n then b
  else if n = 22 then switchB b (decide (128 ≤ x))
  else if b.on = false ∧ n < 32 then b
  else if 20 ≤ n then putB b n.toNat x
  else lowB b n.toNat x
theorem put_okR {b : Bd} (h : b.OkR) (n : Nat) (x : Int) (h0 : 0 ≤ x) (h1 : x ≤ 255) : (putB b n x).OkR :=
  ⟨by simp only [putB, List.length_set]; exact h.regs, set_byte h.byte n x h0 h1, h.pitch0, h.pitch1⟩
theorem put_ok {b : Bd} (h : b.Ok) (n : Nat) (x : Int) (h0 : 0 ≤ x) (h1 : x ≤ 255) : (putB b n x).Ok :=
  ⟨put_okR h.toOkR n x h0 h1, h.div0, h.div1, h.step0, h.step1, h.v0, h.v1, h.v2, h.v3, h.slide0, h.slide1⟩

set_option maxRecDepth 20000 in
set_option maxHeartbeats 2000000 in
theorem write_neg (b : Bd) (hb : b.OkR) (n x : Int) (hn : n < 0) (w : World) : Calls Try.prog 10 #[.agg (enc b), .int .i64 n, .int .u8 x] w (Ret (.agg (enc b)) w) := by
  have HO := hid_ hb
  have HS := hid_ (enc_size b hb.regs)
  have HZ := hid_ (enc_size zeroB rfl)
  have H1 := hid_ (enc_one b)
  have d0 : decide (n < 0) = true := by simp; omega
  clear hb
  go_enter Try.func10, Try.ntmps10
  go_wp2_with (first
      | (with_reducible refine wpList_alloc29 (op := ⟨some 6, .alloc 29, _, _, _, _⟩) rfl rfl b w rfl ?_; intro w1 HB1 HB2 HW1 hg1; skip)
      | (with_reducible refine wpList_load29 (op := ⟨some 15, _, _, _, _, _⟩) rfl (.tmp 3) rfl w.heap.size (by with_unfolding_all rfl) (enc b) HB1.out HS.out ?_)
      | (with_reducible refine wpList_store29 (op := ⟨none, .store 29 (.tmp 6) (.tmp 15), _, _, _, _⟩) rfl (.tmp 6) (.tmp 15) rfl (w.heap.size + 1) (enc zeroB) (enc b) (by with_unfolding_all rfl) (by with_unfolding_all rfl) HB2.out HZ.out HS.out H1.out ?_))
  refine bodyPost_ret (v := .agg (enc b)) (results_board Try.results10 rfl (HB2.out.setRow _) HS.out) rfl (.of ?_ (below_setRow HW1.out (by omega) _))
  rfl
set_option maxRecDepth 20000 in
set_option maxHeartbeats 2000000 in
theorem write_far (b : Bd) (hb : b.OkR) (n x : Int) (hn : 48 ≤ n) (w : World) : Calls Try.prog 10 #[.agg (enc b), .int .i64 n, .int .u8 x] w (Ret (.agg (enc b)) w) := by
  have HO := hid_ hb
  have HS := hid_ (enc_size b hb.regs)
  have HZ := hid_ (enc_size zeroB rfl)
  have H1 := hid_ (enc_one b)
  have d0 : decide (n < 0) = false := by simp; omega
  clear hb
  go_enter Try.func10, Try.ntmps10
  go_wp2_with (first
      | (with_reducible refine wpList_alloc29 (op := ⟨some 6, .alloc 29, _, _, _, _⟩) rfl rfl b w rfl ?_; intro w1 HB1 HB2 HW1 hg1; skip)
      | (with_reducible refine wpList_load29 (op := ⟨some 15, _, _, _, _, _⟩) rfl (.tmp 3) rfl w.heap.size (by with_unfolding_all rfl) (enc b) HB1.out HS.out ?_)
      | (with_reducible refine wpList_store29 (op := ⟨none, .store 29 (.tmp 6) (.tmp 15), _, _, _, _⟩) rfl (.tmp 6) (.tmp 15) rfl (w.heap.size + 1) (enc zeroB) (enc b) (by with_unfolding_all rfl) (by with_unfolding_all rfl) HB2.out HZ.out HS.out H1.out ?_))
  refine bodyPost_ret (v := .agg (enc b)) (results_board Try.results10 rfl (HB2.out.setRow _) HS.out) rfl (.of ?_ (below_setRow HW1.out (by omega) _))
  rfl
set_option maxRecDepth 20000 in
set_option maxHeartbeats 2000000 in
theorem write_power (b : Bd) (hb : b.Ok) (x : Int) (hx0 : 0 ≤ x) (hx1 : x ≤ 255) (w : World) : Calls Try.prog 10 #[.agg (enc b), .int .i64 22, .int .u8 x] w (Ret (.agg (enc (switchB b (decide (128 ≤ x))))) w) := by
  have HO : Hid b.OkR := hb.toOkR
  have HS := hid_ (enc_size b hb.regs)
  have HZ := hid_ (enc_size zeroB rfl)
  have H1 := hid_ (enc_one b)
  have e1 := and128 x hx0 hx1
  clear hb
  go_enter Try.func10, Try.ntmps10
  go_wp2_with (first
      | (with_reducible refine wpList_alloc29 (op := ⟨some 6, .alloc 29, _, _, _, _⟩) rfl rfl b w rfl ?_; intro w1 HB1 HB2 HW1 hg1; skip)
      | (with_reducible refine wpList_load29 (op := ⟨some 19, _, _, _, _, _⟩) rfl (.tmp 3) rfl w.heap.size (by with_unfolding_all rfl) (enc b) HB1.out HS.out ?_)
      | (with_reducible refine wpList_store29 (op := ⟨none, .store 29 (.tmp 6) (.tmp 19), _, _, _, _⟩) rfl (.tmp 6) (.tmp 19) rfl (w.heap.size + 1) (enc zeroB) (enc b) (by with_unfolding_all rfl) (by with_unfolding_all rfl) HB2.out HZ.out HS.out H1.out ?_))
  refine (switch_any b HO.out _ _).mono ?_
  rintro e w2 ⟨rfl, hc2, hf2, hz2, hb2⟩
  clear hc2 hf2 hz2
  have HB3 := hid_ (HB2.out.below hb2 HB2.out.lt)
  have HW3 := hid_ (HW1.out.trans (hb2.mono HW1.out.size))
  have HSS : Hid ((enc (switchB b (decide (128 ≤ x)))).size = 70) := by
    refine enc_size _ ?_
    unfold switchB offB
    split
    · simp [HO.out.regs]
    · split <;> exact HO.out.regs
  have H1S := hid_ (enc_one (switchB b (decide (128 ≤ x))))
  clear hb2 HB1 HB2 HW1
  generalize switchB b (decide (128 ≤ x)) = c at *
  go_wp2_with (with_reducible refine wpList_store29 (op := ⟨none, .store 29 (.tmp 6) (.tmp 23), _, _, _, _⟩) rfl (.tmp 6) (.tmp 23) rfl (w.heap.size + 1) (enc zeroB) (enc c) (by with_unfolding_all rfl) (by with_unfolding_all rfl) HB3.out HZ.out HSS.out H1S.out ?_)
  refine bodyPost_ret (v := .agg (enc c)) (results_board Try.results10 rfl (HB3.out.setRow _) HSS.out) rfl (.of ?_ (below_setRow HW3.out (by omega) _))
  rfl
set_option maxRecDepth 20000 in
set_option maxHeartbeats 2000000 in
theorem write_off (b : Bd) (hb : b.OkR) (n x : Int) (h0 : 0 ≤ n) (h1 : n < 32) (h22 : n ≠ 22) (hon : b.on = false) (w : World) : Calls Try.prog 10 #[.agg (enc b), .int .i64 n, .int .u8 x] w (Ret (.agg (enc b)) w) := by
  have HO := hid_ hb
  have HN := hid_ hon
  have HS := hid_ (enc_size b hb.regs)
  have HZ := hid_ (enc_size zeroB rfl)
  have H1 := hid_ (enc_one b)
  have d0 : decide (n < 0) = false := by simp; omega
  have d1 : decide (48 ≤ n) = false := by simp; omega
  have d2 : (n == 22) = false := by simp [h22]
  have d3 : decide (n < 32) = true := by simp [h1]
  clear hb hon h22
  go_enter Try.func10, Try.ntmps10
  go_wp2_with (first
      | (with_reducible refine wpList_alloc29 (op := ⟨some 6, .alloc 29, _, _, _, _⟩) rfl rfl b w rfl ?_; intro w1 HB1 HB2 HW1 hg1; have c48 := HB1.out.a48 HO.out.regs; rw [HN.out] at c48)
      | (with_reducible refine wpList_load29 (op := ⟨some 32, _, _, _, _, _⟩) rfl (.tmp 3) rfl w.heap.size (by with_unfolding_all rfl) (enc b) HB1.out HS.out ?_)
      | (with_reducible refine wpList_store29 (op := ⟨none, .store 29 (.tmp 6) (.tmp 32), _, _, _, _⟩) rfl (.tmp 6) (.tmp 32) rfl (w.heap.size + 1) (enc zeroB) (enc b) (by with_unfolding_all rfl) (by with_unfolding_all rfl) HB2.out HZ.out HS.out H1.out ?_))
  refine bodyPost_ret (v := .agg (enc b)) (results_board Try.results10 rfl (HB2.out.setRow _) HS.out) rfl (.of ?_ (below_setRow HW1.out (by omega) _))
  rfl
set_option maxRecDepth 20000 in
set_option maxHeartbeats 2000000 in
theorem write_high (b : Bd) (hb : b.OkR) (n : Nat) (x : Int) (h0 : 20 ≤ n) (h1 : n < 48) (h22 : n ≠ 22) (hon : b.on = true) (w : World) : Calls Try.prog 10 #[.agg (enc b), .int .i64 n, .int .u8 x] w (Ret (.agg (enc (putB b n x))) w) := by
  have HO := hid_ hb
  have HN := hid_ hon
  have HS : Hid ((enc (putB b n x)).size = 70) := enc_size _ (by simp only [putB, List.length_set]; exact hb.regs)
  have HZ := hid_ (enc_size zeroB rfl)
  have H1 := hid_ (enc_one (putB b n x))
  have d0 : decide ((n : Int) < 0) = false := by simp
  have d1 : decide (48 ≤ (n : Int)) = false := by simp; omega
  have d2 : ((n : Int) == 22) = false := by simp; omega
  have d3 : decide (20 ≤ (n : Int)) = true := by simp; omega
  skip
  have i0 : 0 ≤ (n : Int) := by omega
  have i1 : (n : Int) < 48 := by omega
  clear hb hon h22
  go_enter Try.func10, Try.ntmps10
  go_wp2_with (first
      | (with_reducible refine wpList_alloc29 (op := ⟨some 6, .alloc 29, _, _, _, _⟩) rfl rfl b w rfl ?_; intro w1 HB1 HB2 HW1 hg1; (have c48 := HB1.out.a48 HO.out.regs; rw [HN.out] at c48; have cn := HB1.out.ar HO.out.regs n h1; have fn := HB1.out.frozen n; have hg0 := HB1.out.lt))
      | (with_reducible refine wpList_load29 (op := ⟨some 39, _, _, _, _, _⟩) rfl (.tmp 3) rfl w.heap.size (by with_unfolding_all rfl) (enc (putB b n x)) (HB1.out.sr HO.out.regs n h1 x) HS.out ?_)
      | (with_reducible refine wpList_store29 (op := ⟨none, .store 29 (.tmp 6) (.tmp 39), _, _, _, _⟩) rfl (.tmp 6) (.tmp 39) rfl (w.heap.size + 1) (enc zeroB) (enc (putB b n x)) (by with_unfolding_all rfl) (by with_unfolding_all rfl) (HB2.out.far (p := ⟨w.heap.size, n, none⟩) (by simp) (.int .u8 x)) HZ.out HS.out H1.out ?_))
  refine bodyPost_ret (v := .agg (enc (putB b n x))) (results_board Try.results10 rfl ((HB2.out.far (p := ⟨w.heap.size, n, none⟩) (by simp) (.int .u8 x)).setRow _) HS.out) rfl (.of ?_ (below_setRow (HW1.out.setCell (p := ⟨w.heap.size, n, none⟩) (by simp) (.int .u8 x)) (by omega) _))
  rfl
set_option maxRecDepth 20000 in
set_option maxHeartbeats 2000000 in
theorem write_wave (b : Bd) (hb : b.OkR) (n : Nat) (x : Int) (h0 : 32 ≤ n) (h1 : n < 48) (h22 : n ≠ 22) (hon : b.on = false) (w : World) : Calls Try.prog 10 #[.agg (enc b), .int .i64 n, .int .u8 x] w (Ret (.agg (enc (putB b n x))) w) := by
  have HO := hid_ hb
  have HN := hid_ hon
  have HS : Hid ((enc (putB b n x)).size = 70) := enc_size _ (by simp only [putB, List.length_set]; exact hb.regs)
  have HZ := hid_ (enc_size zeroB rfl)
  have H1 := hid_ (enc_one (putB b n x))
  have d0 : decide ((n : Int) < 0) = false := by simp
  have d1 : decide (48 ≤ (n : Int)) = false := by simp; omega
  have d2 : ((n : Int) == 22) = false := by simp; omega
  have d3 : decide (20 ≤ (n : Int)) = true := by simp; omega
  have d4 : decide ((n : Int) < 32) = false := by simp; omega
  have i0 : 0 ≤ (n : Int) := by omega
  have i1 : (n : Int) < 48 := by omega
  clear hb hon h22
  go_enter Try.func10, Try.ntmps10
  go_wp2_with (first
      | (with_reducible refine wpList_alloc29 (op := ⟨some 6, .alloc 29, _, _, _, _⟩) rfl rfl b w rfl ?_; intro w1 HB1 HB2 HW1 hg1; (have c48 := HB1.out.a48 HO.out.regs; rw [HN.out] at c48; have cn := HB1.out.ar HO.out.regs n h1; have fn := HB1.out.frozen n; have hg0 := HB1.out.lt))
      | (with_reducible refine wpList_load29 (op := ⟨some 39, _, _, _, _, _⟩) rfl (.tmp 3) rfl w.heap.size (by with_unfolding_all rfl) (enc (putB b n x)) (HB1.out.sr HO.out.regs n h1 x) HS.out ?_)
      | (with_reducible refine wpList_store29 (op := ⟨none, .store 29 (.tmp 6) (.tmp 39), _, _, _, _⟩) rfl (.tmp 6) (.tmp 39) rfl (w.heap.size + 1) (enc zeroB) (enc (putB b n x)) (by with_unfolding_all rfl) (by with_unfolding_all rfl) (HB2.out.far (p := ⟨w.heap.size, n, none⟩) (by simp) (.int .u8 x)) HZ.out HS.out H1.out ?_))
  refine bodyPost_ret (v := .agg (enc (putB b n x))) (results_board Try.results10 rfl ((HB2.out.far (p := ⟨w.heap.size, n, none⟩) (by simp) (.int .u8 x)).setRow _) HS.out) rfl (.of ?_ (below_setRow (HW1.out.setCell (p := ⟨w.heap.size, n, none⟩) (by simp) (.int .u8 x)) (by omega) _))
  rfl
end Go.Proofs.Ytacbdapgdgliiaa
