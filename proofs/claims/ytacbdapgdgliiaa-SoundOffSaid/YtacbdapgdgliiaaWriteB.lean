/- Contract of a board's write: the bytes below 20, one by one. -/
import Derived.Test.YtacbdapgdgliiaaWriteA
namespace Go.Proofs.Ytacbdapgdgliiaa
open Go.RowKit
set_option linter.unusedSimpArgs false
set_option linter.unusedVariables false

theorem check_regs (b : Bd) : (checkB b).regs = b.regs := by unfold checkB; split <;> rfl
theorem begin_regs (b : Bd) (v : Nat) : (beginB b v).regs = b.regs := by
  match v with
  | 0 =>
    show (if byB b = 0 then begS b else checkB (begS b)).regs = b.regs
    split
    · rfl
    · rw [check_regs]; rfl
  | 1 => rfl
  | 2 => rfl
  | _ + 3 => rfl

set_option maxRecDepth 20000 in
set_option maxHeartbeats 2000000 in
theorem write_0 (b : Bd) (hb : b.OkR) (hon : b.on = true) (x : Int) (hx0 : 0 ≤ x) (hx1 : x ≤ 255) (w : World) : Calls Try.prog 10 #[.agg (enc b), .int .i64 0, .int .u8 x] w (Ret (.agg (enc (lowB b 0 x))) w) := by
  have HO := hid_ hb
  have HN := hid_ hon
  have HZ := hid_ (enc_size zeroB rfl)
  have HC := hid_ (put_okR hb 0 x hx0 hx1)
  have e1 := and128 x hx0 hx1
  clear hb hon
  by_cases hv : b.v0.on = true
  · have HV := hid_ hv
    have HQ : Hid (lowB b 0 x = { putB b 0 x with v0 := { (putB b 0 x).v0 with on := readyB (putB b 0 x) 0 } }) := by
      show { putB b 0 x with v0 := { b.v0 with on := b.v0.on && readyB (putB b 0 x) 0 } } = _
      rw [hv]; rfl
    rw [HQ.out]
    go_enter Try.func10, Try.ntmps10
    go_wp2_with ((with_reducible refine wpList_alloc29 (op := ⟨some 6, .alloc 29, _, _, _, _⟩) rfl rfl b w rfl ?_); intro w1 HB1 HB2 HW1 hg1; (have c48 := HB1.out.a48 HO.out.regs; rw [HN.out] at c48; have cn := HB1.out.ar HO.out.regs 0 (by omega); have fn := HB1.out.frozen 0; have hg0 := HB1.out.lt; have cv := HB1.out.a51 HO.out.regs; rw [HV.out] at cv; have fv := HB1.out.frozen 51))
    have HBc : Hid (Blk (w1.setCell ⟨w.heap.size, 0, none⟩ (.int .u8 x)) w.heap.size 29 (enc (putB b 0 x))) := HB1.out.sr HO.out.regs 0 (by omega) x
    have HZc : Hid (Blk (w1.setCell ⟨w.heap.size, 0, none⟩ (.int .u8 x)) (w.heap.size + 1) 29 (enc zeroB)) := HB2.out.far (by simp) _
    have HWc : Hid (Below w.heap.size w (w1.setCell ⟨w.heap.size, 0, none⟩ (.int .u8 x))) := HW1.out.setCell (by simp) _
    clear cv fv c48 cn fn hg0 HB1 HB2 HW1
    generalize w1.setCell ⟨w.heap.size, 0, none⟩ (.int .u8 x) = w2 at *
    refine (ready_any (putB b 0 x) HC.out w.heap.size 0 (by omega) _ HBc.out).mono ?_
    rintro e w3 ⟨rfl, rfl⟩
    have cv := HBc.out.a51 HC.out.regs
    have fv := HBc.out.frozen 51
    have hg0 := HBc.out.lt
    have HS : Hid ((enc { putB b 0 x with v0 := { (putB b 0 x).v0 with on := readyB (putB b 0 x) 0 } }).size = 70) := enc_size _ HC.out.regs
    have H1 := hid_ (enc_one { putB b 0 x with v0 := { (putB b 0 x).v0 with on := readyB (putB b 0 x) 0 } })
    clear HQ
    generalize readyB (putB b 0 x) 0 = rd at *
    go_wp2_with (first
        | (with_reducible refine wpList_load29 (op := ⟨some 78, _, _, _, _, _⟩) rfl (.tmp 3) rfl w.heap.size (by with_unfolding_all rfl) (enc { putB b 0 x with v0 := { (putB b 0 x).v0 with on := rd } }) (HBc.out.s51 HC.out.regs rd) HS.out ?_)
        | (with_reducible refine wpList_store29 (op := ⟨none, .store 29 (.tmp 6) (.tmp 78), _, _, _, _⟩) rfl (.tmp 6) (.tmp 78) rfl (w.heap.size + 1) (enc zeroB) (enc { putB b 0 x with v0 := { (putB b 0 x).v0 with on := rd } }) (by with_unfolding_all rfl) (by with_unfolding_all rfl) (HZc.out.far (p := ⟨w.heap.size, 51, none⟩) (by simp) (.bool rd)) HZ.out HS.out H1.out ?_))
    refine bodyPost_ret (v := .agg (enc { putB b 0 x with v0 := { (putB b 0 x).v0 with on := rd } })) (results_board Try.results10 rfl ((HZc.out.far (p := ⟨w.heap.size, 51, none⟩) (by simp) (.bool rd)).setRow _) HS.out) rfl (.of ?_ (below_setRow (HWc.out.setCell (p := ⟨w.heap.size, 51, none⟩) (by simp) (.bool rd)) (by omega) _))
    rfl
  · have hv' : b.v0.on = false := by simpa using hv
    have HV := hid_ hv'
    have HQ : Hid (lowB b 0 x = { putB b 0 x with v0 := { (putB b 0 x).v0 with on := false } }) := by
      show { putB b 0 x with v0 := { b.v0 with on := b.v0.on && readyB (putB b 0 x) 0 } } = _
      rw [hv']; rfl
    clear hv hv'
    rw [HQ.out]
    have HS : Hid ((enc { putB b 0 x with v0 := { (putB b 0 x).v0 with on := false } }).size = 70) := enc_size _ HC.out.regs
    have H1 := hid_ (enc_one { putB b 0 x with v0 := { (putB b 0 x).v0 with on := false } })
    go_enter Try.func10, Try.ntmps10
    go_wp2_with (first
        | (with_reducible refine wpList_alloc29 (op := ⟨some 6, .alloc 29, _, _, _, _⟩) rfl rfl b w rfl ?_; intro w1 HB1 HB2 HW1 hg1; (have c48 := HB1.out.a48 HO.out.regs; rw [HN.out] at c48; have cn := HB1.out.ar HO.out.regs 0 (by omega); have fn := HB1.out.frozen 0; have hg0 := HB1.out.lt; have cv := HB1.out.a51 HO.out.regs; rw [HV.out] at cv; have fv := HB1.out.frozen 51))
        | (with_reducible refine wpList_load29 (op := ⟨some 78, _, _, _, _, _⟩) rfl (.tmp 3) rfl w.heap.size (by with_unfolding_all rfl) (enc { putB b 0 x with v0 := { (putB b 0 x).v0 with on := false } }) ((HB1.out.sr HO.out.regs 0 (by omega) x).s51 HC.out.regs false) HS.out ?_)
        | (with_reducible refine wpList_store29 (op := ⟨none, .store 29 (.tmp 6) (.tmp 78), _, _, _, _⟩) rfl (.tmp 6) (.tmp 78) rfl (w.heap.size + 1) (enc zeroB) (enc { putB b 0 x with v0 := { (putB b 0 x).v0 with on := false } }) (by with_unfolding_all rfl) (by with_unfolding_all rfl) ((HB2.out.far (p := ⟨w.heap.size, 0, none⟩) (by simp) (.int .u8 x)).far (p := ⟨w.heap.size, 51, none⟩) (by simp) (.bool false)) HZ.out HS.out H1.out ?_))
    refine bodyPost_ret (v := .agg (enc { putB b 0 x with v0 := { (putB b 0 x).v0 with on := false } })) (results_board Try.results10 rfl (((HB2.out.far (p := ⟨w.heap.size, 0, none⟩) (by simp) (.int .u8 x)).far (p := ⟨w.heap.size, 51, none⟩) (by simp) (.bool false)).setRow _) HS.out) rfl (.of ?_ (below_setRow ((HW1.out.setCell (p := ⟨w.heap.size, 0, none⟩) (by simp) (.int .u8 x)).setCell (p := ⟨w.heap.size, 51, none⟩) (by simp) (.bool false)) (by omega) _))
    rfl
set_option maxRecDepth 20000 in
set_option maxHeartbeats 2000000 in
theorem write_1 (b : Bd) (hb : b.OkR) (hon : b.on = true) (x : Int) (hx0 : 0 ≤ x) (hx1 : x ≤ 255) (w : World) : Calls Try.prog 10 #[.agg (enc b), .int .i64 1, .int .u8 x] w (Ret (.agg (enc (lowB b 1 x))) w) := by
  have HO := hid_ hb
  have HN := hid_ hon
  have HZ := hid_ (enc_size zeroB rfl)
  have HC := hid_ (put_okR hb 1 x hx0 hx1)
  have e1 := and128 x hx0 hx1
  clear hb hon
  go_enter Try.func10, Try.ntmps10
  go_wp2_with ((with_reducible refine wpList_alloc29 (op := ⟨some 6, .alloc 29, _, _, _, _⟩) rfl rfl b w rfl ?_); intro w1 HB1 HB2 HW1 hg1; (have c48 := HB1.out.a48 HO.out.regs; rw [HN.out] at c48; have cn := HB1.out.ar HO.out.regs 1 (by omega); have fn := HB1.out.frozen 1; have hg0 := HB1.out.lt))
  have HBc : Hid (Blk (w1.setCell ⟨w.heap.size, 1, none⟩ (.int .u8 x)) w.heap.size 29 (enc (putB b 1 x))) := HB1.out.sr HO.out.regs 1 (by omega) x
  have HZc : Hid (Blk (w1.setCell ⟨w.heap.size, 1, none⟩ (.int .u8 x)) (w.heap.size + 1) 29 (enc zeroB)) := HB2.out.far (by simp) _
  have HWc : Hid (Below w.heap.size w (w1.setCell ⟨w.heap.size, 1, none⟩ (.int .u8 x))) := HW1.out.setCell (by simp) _
  clear c48 cn fn hg0 HB1 HB2 HW1
  generalize w1.setCell ⟨w.heap.size, 1, none⟩ (.int .u8 x) = w2 at *
  refine (longest_any 0 (by omega) _).mono ?_
  rintro e w3 ⟨rfl, rfl⟩
  rw [show longestB 0 = 64 from rfl]
  have c52 := HBc.out.a52 HC.out.regs
  have f52 := HBc.out.frozen 52
  have hg0 := HBc.out.lt
  have ew : wrap64 x = x := wrap_small x hx0 (by omega)
  go_wp2_with fail
  refine (longest_any 0 (by omega) _).mono ?_
  rintro e w3 ⟨rfl, rfl⟩
  rw [show longestB 0 = 64 from rfl]
  have HS : Hid ((enc { putB b 1 x with v0 := { (putB b 1 x).v0 with len := 64 - x % 64 } }).size = 70) := enc_size _ HC.out.regs
  have H1 := hid_ (enc_one { putB b 1 x with v0 := { (putB b 1 x).v0 with len := 64 - x % 64 } })
  go_wp2_with (first
      | (with_reducible refine wpList_load29 (op := ⟨some 78, _, _, _, _, _⟩) rfl (.tmp 3) rfl w.heap.size (by with_unfolding_all rfl) (enc { putB b 1 x with v0 := { (putB b 1 x).v0 with len := 64 - x % 64 } }) (HBc.out.s52 HC.out.regs (64 - x % 64)) HS.out ?_)
      | (with_reducible refine wpList_store29 (op := ⟨none, .store 29 (.tmp 6) (.tmp 78), _, _, _, _⟩) rfl (.tmp 6) (.tmp 78) rfl (w.heap.size + 1) (enc zeroB) (enc { putB b 1 x with v0 := { (putB b 1 x).v0 with len := 64 - x % 64 } }) (by with_unfolding_all rfl) (by with_unfolding_all rfl) (HZc.out.far (p := ⟨w.heap.size, 52, none⟩) (by simp) (.int .i64 (64 - x % 64))) HZ.out HS.out H1.out ?_))
  refine bodyPost_ret (v := .agg (enc { putB b 1 x with v0 := { (putB b 1 x).v0 with len := 64 - x % 64 } })) (results_board Try.results10 rfl ((HZc.out.far (p := ⟨w.heap.size, 52, none⟩) (by simp) (.int .i64 (64 - x % 64))).setRow _) HS.out) rfl (.of ?_ (below_setRow (HWc.out.setCell (p := ⟨w.heap.size, 52, none⟩) (by simp) (.int .i64 (64 - x % 64))) (by omega) _))
  rfl
set_option maxRecDepth 20000 in
set_option maxHeartbeats 2000000 in
theorem write_2 (b : Bd) (hb : b.OkR) (hon : b.on = true) (x : Int) (hx0 : 0 ≤ x) (hx1 : x ≤ 255) (w : World) : Calls Try.prog 10 #[.agg (enc b), .int .i64 2, .int .u8 x] w (Ret (.agg (enc (lowB b 2 x))) w) := by
  have HO := hid_ hb
  have HN := hid_ hon
  have HZ := hid_ (enc_size zeroB rfl)
  have HC := hid_ (put_okR hb 2 x hx0 hx1)
  have e1 := and128 x hx0 hx1
  clear hb hon
  by_cases hv : b.v0.on = true
  · have HV := hid_ hv
    have HQ : Hid (lowB b 2 x = { putB b 2 x with v0 := { (putB b 2 x).v0 with on := readyB (putB b 2 x) 0 } }) := by
      show { putB b 2 x with v0 := { b.v0 with on := b.v0.on && readyB (putB b 2 x) 0 } } = _
      rw [hv]; rfl
    rw [HQ.out]
    go_enter Try.func10, Try.ntmps10
    go_wp2_with ((with_reducible refine wpList_alloc29 (op := ⟨some 6, .alloc 29, _, _, _, _⟩) rfl rfl b w rfl ?_); intro w1 HB1 HB2 HW1 hg1; (have c48 := HB1.out.a48 HO.out.regs; rw [HN.out] at c48; have cn := HB1.out.ar HO.out.regs 2 (by omega); have fn := HB1.out.frozen 2; have hg0 := HB1.out.lt; have cv := HB1.out.a51 HO.out.regs; rw [HV.out] at cv; have fv := HB1.out.frozen 51))
    have HBc : Hid (Blk (w1.setCell ⟨w.heap.size, 2, none⟩ (.int .u8 x)) w.heap.size 29 (enc (putB b 2 x))) := HB1.out.sr HO.out.regs 2 (by omega) x
    have HZc : Hid (Blk (w1.setCell ⟨w.heap.size, 2, none⟩ (.int .u8 x)) (w.heap.size + 1) 29 (enc zeroB)) := HB2.out.far (by simp) _
    have HWc : Hid (Below w.heap.size w (w1.setCell ⟨w.heap.size, 2, none⟩ (.int .u8 x))) := HW1.out.setCell (by simp) _
    clear cv fv c48 cn fn hg0 HB1 HB2 HW1
    generalize w1.setCell ⟨w.heap.size, 2, none⟩ (.int .u8 x) = w2 at *
    refine (ready_any (putB b 2 x) HC.out w.heap.size 0 (by omega) _ HBc.out).mono ?_
    rintro e w3 ⟨rfl, rfl⟩
    have cv := HBc.out.a51 HC.out.regs
    have fv := HBc.out.frozen 51
    have hg0 := HBc.out.lt
    have HS : Hid ((enc { putB b 2 x with v0 := { (putB b 2 x).v0 with on := readyB (putB b 2 x) 0 } }).size = 70) := enc_size _ HC.out.regs
    have H1 := hid_ (enc_one { putB b 2 x with v0 := { (putB b 2 x).v0 with on := readyB (putB b 2 x) 0 } })
    clear HQ
    generalize readyB (putB b 2 x) 0 = rd at *
    go_wp2_with (first
        | (with_reducible refine wpList_load29 (op := ⟨some 78, _, _, _, _, _⟩) rfl (.tmp 3) rfl w.heap.size (by with_unfolding_all rfl) (enc { putB b 2 x with v0 := { (putB b 2 x).v0 with on := rd } }) (HBc.out.s51 HC.out.regs rd) HS.out ?_)
        | (with_reducible refine wpList_store29 (op := ⟨none, .store 29 (.tmp 6) (.tmp 78), _, _, _, _⟩) rfl (.tmp 6) (.tmp 78) rfl (w.heap.size + 1) (enc zeroB) (enc { putB b 2 x with v0 := { (putB b 2 x).v0 with on := rd } }) (by with_unfolding_all rfl) (by with_unfolding_all rfl) (HZc.out.far (p := ⟨w.heap.size, 51, none⟩) (by simp) (.bool rd)) HZ.out HS.out H1.out ?_))
    refine bodyPost_ret (v := .agg (enc { putB b 2 x with v0 := { (putB b 2 x).v0 with on := rd } })) (results_board Try.results10 rfl ((HZc.out.far (p := ⟨w.heap.size, 51, none⟩) (by simp) (.bool rd)).setRow _) HS.out) rfl (.of ?_ (below_setRow (HWc.out.setCell (p := ⟨w.heap.size, 51, none⟩) (by simp) (.bool rd)) (by omega) _))
    rfl
  · have hv' : b.v0.on = false := by simpa using hv
    have HV := hid_ hv'
    have HQ : Hid (lowB b 2 x = { putB b 2 x with v0 := { (putB b 2 x).v0 with on := false } }) := by
      show { putB b 2 x with v0 := { b.v0 with on := b.v0.on && readyB (putB b 2 x) 0 } } = _
      rw [hv']; rfl
    clear hv hv'
    rw [HQ.out]
    have HS : Hid ((enc { putB b 2 x with v0 := { (putB b 2 x).v0 with on := false } }).size = 70) := enc_size _ HC.out.regs
    have H1 := hid_ (enc_one { putB b 2 x with v0 := { (putB b 2 x).v0 with on := false } })
    go_enter Try.func10, Try.ntmps10
    go_wp2_with (first
        | (with_reducible refine wpList_alloc29 (op := ⟨some 6, .alloc 29, _, _, _, _⟩) rfl rfl b w rfl ?_; intro w1 HB1 HB2 HW1 hg1; (have c48 := HB1.out.a48 HO.out.regs; rw [HN.out] at c48; have cn := HB1.out.ar HO.out.regs 2 (by omega); have fn := HB1.out.frozen 2; have hg0 := HB1.out.lt; have cv := HB1.out.a51 HO.out.regs; rw [HV.out] at cv; have fv := HB1.out.frozen 51))
        | (with_reducible refine wpList_load29 (op := ⟨some 78, _, _, _, _, _⟩) rfl (.tmp 3) rfl w.heap.size (by with_unfolding_all rfl) (enc { putB b 2 x with v0 := { (putB b 2 x).v0 with on := false } }) ((HB1.out.sr HO.out.regs 2 (by omega) x).s51 HC.out.regs false) HS.out ?_)
        | (with_reducible refine wpList_store29 (op := ⟨none, .store 29 (.tmp 6) (.tmp 78), _, _, _, _⟩) rfl (.tmp 6) (.tmp 78) rfl (w.heap.size + 1) (enc zeroB) (enc { putB b 2 x with v0 := { (putB b 2 x).v0 with on := false } }) (by with_unfolding_all rfl) (by with_unfolding_all rfl) ((HB2.out.far (p := ⟨w.heap.size, 2, none⟩) (by simp) (.int .u8 x)).far (p := ⟨w.heap.size, 51, none⟩) (by simp) (.bool false)) HZ.out HS.out H1.out ?_))
    refine bodyPost_ret (v := .agg (enc { putB b 2 x with v0 := { (putB b 2 x).v0 with on := false } })) (results_board Try.results10 rfl (((HB2.out.far (p := ⟨w.heap.size, 2, none⟩) (by simp) (.int .u8 x)).far (p := ⟨w.heap.size, 51, none⟩) (by simp) (.bool false)).setRow _) HS.out) rfl (.of ?_ (below_setRow ((HW1.out.setCell (p := ⟨w.heap.size, 2, none⟩) (by simp) (.int .u8 x)).setCell (p := ⟨w.heap.size, 51, none⟩) (by simp) (.bool false)) (by omega) _))
    rfl
set_option maxRecDepth 20000 in
set_option maxHeartbeats 2000000 in
theorem write_3 (b : Bd) (hb : b.OkR) (hon : b.on = true) (x : Int) (hx0 : 0 ≤ x) (hx1 : x ≤ 255) (w : World) : Calls Try.prog 10 #[.agg (enc b), .int .i64 3, .int .u8 x] w (Ret (.agg (enc (lowB b 3 x))) w) := by
  have HO := hid_ hb
  have HN := hid_ hon
  have HZ := hid_ (enc_size zeroB rfl)
  have HC := hid_ (put_okR hb 3 x hx0 hx1)
  have e1 := and128 x hx0 hx1
  clear hb hon
  by_cases hv : b.v0.on = true
  · have HV := hid_ hv
    have HQ : Hid (lowB b 3 x = { putB b 3 x with v0 := { (putB b 3 x).v0 with on := readyB (putB b 3 x) 0 } }) := by
      show { putB b 3 x with v0 := { b.v0 with on := b.v0.on && readyB (putB b 3 x) 0 } } = _
      rw [hv]; rfl
    rw [HQ.out]
    go_enter Try.func10, Try.ntmps10
    go_wp2_with ((with_reducible refine wpList_alloc29 (op := ⟨some 6, .alloc 29, _, _, _, _⟩) rfl rfl b w rfl ?_); intro w1 HB1 HB2 HW1 hg1; (have c48 := HB1.out.a48 HO.out.regs; rw [HN.out] at c48; have cn := HB1.out.ar HO.out.regs 3 (by omega); have fn := HB1.out.frozen 3; have hg0 := HB1.out.lt; have cv := HB1.out.a51 HO.out.regs; rw [HV.out] at cv; have fv := HB1.out.frozen 51))
    have HBc : Hid (Blk (w1.setCell ⟨w.heap.size, 3, none⟩ (.int .u8 x)) w.heap.size 29 (enc (putB b 3 x))) := HB1.out.sr HO.out.regs 3 (by omega) x
    have HZc : Hid (Blk (w1.setCell ⟨w.heap.size, 3, none⟩ (.int .u8 x)) (w.heap.size + 1) 29 (enc zeroB)) := HB2.out.far (by simp) _
    have HWc : Hid (Below w.heap.size w (w1.setCell ⟨w.heap.size, 3, none⟩ (.int .u8 x))) := HW1.out.setCell (by simp) _
    clear cv fv c48 cn fn hg0 HB1 HB2 HW1
    generalize w1.setCell ⟨w.heap.size, 3, none⟩ (.int .u8 x) = w2 at *
    refine (ready_any (putB b 3 x) HC.out w.heap.size 0 (by omega) _ HBc.out).mono ?_
    rintro e w3 ⟨rfl, rfl⟩
    have cv := HBc.out.a51 HC.out.regs
    have fv := HBc.out.frozen 51
    have hg0 := HBc.out.lt
    have HS : Hid ((enc { putB b 3 x with v0 := { (putB b 3 x).v0 with on := readyB (putB b 3 x) 0 } }).size = 70) := enc_size _ HC.out.regs
    have H1 := hid_ (enc_one { putB b 3 x with v0 := { (putB b 3 x).v0 with on := readyB (putB b 3 x) 0 } })
    clear HQ
    generalize readyB (putB b 3 x) 0 = rd at *
    go_wp2_with (first
        | (with_reducible refine wpList_load29 (op := ⟨some 78, _, _, _, _, _⟩) rfl (.tmp 3) rfl w.heap.size (by with_unfolding_all rfl) (enc { putB b 3 x with v0 := { (putB b 3 x).v0 with on := rd } }) (HBc.out.s51 HC.out.regs rd) HS.out ?_)
        | (with_reducible refine wpList_store29 (op := ⟨none, .store 29 (.tmp 6) (.tmp 78), _, _, _, _⟩) rfl (.tmp 6) (.tmp 78) rfl (w.heap.size + 1) (enc zeroB) (enc { putB b 3 x with v0 := { (putB b 3 x).v0 with on := rd } }) (by with_unfolding_all rfl) (by with_unfolding_all rfl) (HZc.out.far (p := ⟨w.heap.size, 51, none⟩) (by simp) (.bool rd)) HZ.out HS.out H1.out ?_))
    refine bodyPost_ret (v := .agg (enc { putB b 3 x with v0 := { (putB b 3 x).v0 with on := rd } })) (results_board Try.results10 rfl ((HZc.out.far (p := ⟨w.heap.size, 51, none⟩) (by simp) (.bool rd)).setRow _) HS.out) rfl (.of ?_ (below_setRow (HWc.out.setCell (p := ⟨w.heap.size, 51, none⟩) (by simp) (.bool rd)) (by omega) _))
    rfl
  · have hv' : b.v0.on = false := by simpa using hv
    have HV := hid_ hv'
    have HQ : Hid (lowB b 3 x = { putB b 3 x with v0 := { (putB b 3 x).v0 with on := false } }) := by
      show { putB b 3 x with v0 := { b.v0 with on := b.v0.on && readyB (putB b 3 x) 0 } } = _
      rw [hv']; rfl
    clear hv hv'
    rw [HQ.out]
    have HS : Hid ((enc { putB b 3 x with v0 := { (putB b 3 x).v0 with on := false } }).size = 70) := enc_size _ HC.out.regs
    have H1 := hid_ (enc_one { putB b 3 x with v0 := { (putB b 3 x).v0 with on := false } })
    go_enter Try.func10, Try.ntmps10
    go_wp2_with (first
        | (with_reducible refine wpList_alloc29 (op := ⟨some 6, .alloc 29, _, _, _, _⟩) rfl rfl b w rfl ?_; intro w1 HB1 HB2 HW1 hg1; (have c48 := HB1.out.a48 HO.out.regs; rw [HN.out] at c48; have cn := HB1.out.ar HO.out.regs 3 (by omega); have fn := HB1.out.frozen 3; have hg0 := HB1.out.lt; have cv := HB1.out.a51 HO.out.regs; rw [HV.out] at cv; have fv := HB1.out.frozen 51))
        | (with_reducible refine wpList_load29 (op := ⟨some 78, _, _, _, _, _⟩) rfl (.tmp 3) rfl w.heap.size (by with_unfolding_all rfl) (enc { putB b 3 x with v0 := { (putB b 3 x).v0 with on := false } }) ((HB1.out.sr HO.out.regs 3 (by omega) x).s51 HC.out.regs false) HS.out ?_)
        | (with_reducible refine wpList_store29 (op := ⟨none, .store 29 (.tmp 6) (.tmp 78), _, _, _, _⟩) rfl (.tmp 6) (.tmp 78) rfl (w.heap.size + 1) (enc zeroB) (enc { putB b 3 x with v0 := { (putB b 3 x).v0 with on := false } }) (by with_unfolding_all rfl) (by with_unfolding_all rfl) ((HB2.out.far (p := ⟨w.heap.size, 3, none⟩) (by simp) (.int .u8 x)).far (p := ⟨w.heap.size, 51, none⟩) (by simp) (.bool false)) HZ.out HS.out H1.out ?_))
    refine bodyPost_ret (v := .agg (enc { putB b 3 x with v0 := { (putB b 3 x).v0 with on := false } })) (results_board Try.results10 rfl (((HB2.out.far (p := ⟨w.heap.size, 3, none⟩) (by simp) (.int .u8 x)).far (p := ⟨w.heap.size, 51, none⟩) (by simp) (.bool false)).setRow _) HS.out) rfl (.of ?_ (below_setRow ((HW1.out.setCell (p := ⟨w.heap.size, 3, none⟩) (by simp) (.int .u8 x)).setCell (p := ⟨w.heap.size, 51, none⟩) (by simp) (.bool false)) (by omega) _))
    rfl
set_option maxRecDepth 20000 in
set_option maxHeartbeats 2000000 in
theorem write_4 (b : Bd) (hb : b.OkR) (hon : b.on = true) (x : Int) (hx0 : 0 ≤ x) (hx1 : x ≤ 255) (w : World) : Calls Try.prog 10 #[.agg (enc b), .int .i64 4, .int .u8 x] w (Ret (.agg (enc (lowB b 4 x))) w) := by
  have HO := hid_ hb
  have HN := hid_ hon
  have HZ := hid_ (enc_size zeroB rfl)
  have HC := hid_ (put_okR hb 4 x hx0 hx1)
  have e1 := and128 x hx0 hx1
  clear hb hon
  by_cases h128 : 128 ≤ x
  · have HQ : Hid (lowB b 4 x = beginB (putB b 4 x) 0) := by unfold lowB; rw [if_neg (by decide), if_pos (by decide), if_pos h128]; exact hid_ rfl
    have e2 : decide (128 ≤ x) = true := by simp [h128]
    rw [HQ.out]
    go_enter Try.func10, Try.ntmps10
    go_wp2_with ((with_reducible refine wpList_alloc29 (op := ⟨some 6, .alloc 29, _, _, _, _⟩) rfl rfl b w rfl ?_); intro w1 HB1 HB2 HW1 hg1; (have c48 := HB1.out.a48 HO.out.regs; rw [HN.out] at c48; have cn := HB1.out.ar HO.out.regs 4 (by omega); have fn := HB1.out.frozen 4; have hg0 := HB1.out.lt))
    have HBc : Hid (Blk (w1.setCell ⟨w.heap.size, 4, none⟩ (.int .u8 x)) w.heap.size 29 (enc (putB b 4 x))) := HB1.out.sr HO.out.regs 4 (by omega) x
    have HZc : Hid (Blk (w1.setCell ⟨w.heap.size, 4, none⟩ (.int .u8 x)) (w.heap.size + 1) 29 (enc zeroB)) := HB2.out.far (by simp) _
    have HWc : Hid (Below w.heap.size w (w1.setCell ⟨w.heap.size, 4, none⟩ (.int .u8 x))) := HW1.out.setCell (by simp) _
    clear c48 cn fn hg0 HB1 HB2 HW1
    generalize w1.setCell ⟨w.heap.size, 4, none⟩ (.int .u8 x) = w2 at *
    refine (begin_0 (putB b 4 x) HC.out w.heap.size _ HBc.out).mono ?_
    rintro e w3 ⟨rfl, hB3, hO3⟩
    have HBd := hid_ hB3
    have HZd := hid_ (hO3.blk (by omega) HZc.out)
    have HWd := hid_ (hO3.below HWc.out (Nat.le_refl _) (Nat.le_of_lt HBc.out.lt))
    have hrr : (beginB (putB b 4 x) 0).regs = (putB b 4 x).regs := begin_regs _ _
    have HRR := hid_ hrr
    clear hB3 hO3 hrr
    have HS : Hid ((enc (beginB (putB b 4 x) 0)).size = 70) := enc_size _ (by rw [HRR.out]; exact HC.out.regs)
    have H1 := hid_ (enc_one (beginB (putB b 4 x) 0))
    go_wp2_with (first
        | (with_reducible refine wpList_load29 (op := ⟨some 78, _, _, _, _, _⟩) rfl (.tmp 3) rfl w.heap.size (by with_unfolding_all rfl) (enc (beginB (putB b 4 x) 0)) HBd.out HS.out ?_)
        | (with_reducible refine wpList_store29 (op := ⟨none, .store 29 (.tmp 6) (.tmp 78), _, _, _, _⟩) rfl (.tmp 6) (.tmp 78) rfl (w.heap.size + 1) (enc zeroB) (enc (beginB (putB b 4 x) 0)) (by with_unfolding_all rfl) (by with_unfolding_all rfl) HZd.out HZ.out HS.out H1.out ?_))
    refine bodyPost_ret (v := .agg (enc (beginB (putB b 4 x) 0))) (results_board Try.results10 rfl (HZd.out.setRow _) HS.out) rfl (.of ?_ (below_setRow HWd.out (by omega) _))
    rfl
  · have HQ : Hid (lowB b 4 x = putB b 4 x) := by unfold lowB; rw [if_neg (by decide), if_pos (by decide), if_neg h128]; exact hid_ rfl
    have e2 : decide (128 ≤ x) = false := by simp; omega
    rw [HQ.out]
    have HS : Hid ((enc (putB b 4 x)).size = 70) := enc_size _ HC.out.regs
    have H1 := hid_ (enc_one (putB b 4 x))
    go_enter Try.func10, Try.ntmps10
    go_wp2_with (first
        | (with_reducible refine wpList_alloc29 (op := ⟨some 6, .alloc 29, _, _, _, _⟩) rfl rfl b w rfl ?_; intro w1 HB1 HB2 HW1 hg1; (have c48 := HB1.out.a48 HO.out.regs; rw [HN.out] at c48; have cn := HB1.out.ar HO.out.regs 4 (by omega); have fn := HB1.out.frozen 4; have hg0 := HB1.out.lt))
        | (with_reducible refine wpList_load29 (op := ⟨some 78, _, _, _, _, _⟩) rfl (.tmp 3) rfl w.heap.size (by with_unfolding_all rfl) (enc (putB b 4 x)) (HB1.out.sr HO.out.regs 4 (by omega) x) HS.out ?_)
        | (with_reducible refine wpList_store29 (op := ⟨none, .store 29 (.tmp 6) (.tmp 78), _, _, _, _⟩) rfl (.tmp 6) (.tmp 78) rfl (w.heap.size + 1) (enc zeroB) (enc (putB b 4 x)) (by with_unfolding_all rfl) (by with_unfolding_all rfl) (HB2.out.far (p := ⟨w.heap.size, 4, none⟩) (by simp) (.int .u8 x)) HZ.out HS.out H1.out ?_))
    refine bodyPost_ret (v := .agg (enc (putB b 4 x))) (results_board Try.results10 rfl ((HB2.out.far (p := ⟨w.heap.size, 4, none⟩) (by simp) (.int .u8 x)).setRow _) HS.out) rfl (.of ?_ (below_setRow (HW1.out.setCell (p := ⟨w.heap.size, 4, none⟩) (by simp) (.int .u8 x)) (by omega) _))
    rfl
set_option maxRecDepth 20000 in
set_option maxHeartbeats 2000000 in
theorem write_5 (b : Bd) (hb : b.OkR) (hon : b.on = true) (x : Int) (hx0 : 0 ≤ x) (hx1 : x ≤ 255) (w : World) : Calls Try.prog 10 #[.agg (enc b), .int .i64 5, .int .u8 x] w (Ret (.agg (enc (lowB b 5 x))) w) := by
  have HO := hid_ hb
  have HN := hid_ hon
  have HZ := hid_ (enc_size zeroB rfl)
  have HC := hid_ (put_okR hb 5 x hx0 hx1)
  have e1 := and128 x hx0 hx1
  clear hb hon
  by_cases hv : b.v1.on = true
  · have HV := hid_ hv
    have HQ : Hid (lowB b 5 x = { putB b 5 x with v1 := { (putB b 5 x).v1 with on := readyB (putB b 5 x) 1 } }) := by
      show { putB b 5 x with v1 := { b.v1 with on := b.v1.on && readyB (putB b 5 x) 1 } } = _
      rw [hv]; rfl
    rw [HQ.out]
    go_enter Try.func10, Try.ntmps10
    go_wp2_with ((with_reducible refine wpList_alloc29 (op := ⟨some 6, .alloc 29, _, _, _, _⟩) rfl rfl b w rfl ?_); intro w1 HB1 HB2 HW1 hg1; (have c48 := HB1.out.a48 HO.out.regs; rw [HN.out] at c48; have cn := HB1.out.ar HO.out.regs 5 (by omega); have fn := HB1.out.frozen 5; have hg0 := HB1.out.lt; have cv := HB1.out.a55 HO.out.regs; rw [HV.out] at cv; have fv := HB1.out.frozen 55))
    have HBc : Hid (Blk (w1.setCell ⟨w.heap.size, 5, none⟩ (.int .u8 x)) w.heap.size 29 (enc (putB b 5 x))) := HB1.out.sr HO.out.regs 5 (by omega) x
    have HZc : Hid (Blk (w1.setCell ⟨w.heap.size, 5, none⟩ (.int .u8 x)) (w.heap.size + 1) 29 (enc zeroB)) := HB2.out.far (by simp) _
    have HWc : Hid (Below w.heap.size w (w1.setCell ⟨w.heap.size, 5, none⟩ (.int .u8 x))) := HW1.out.setCell (by simp) _
    clear cv fv c48 cn fn hg0 HB1 HB2 HW1
    generalize w1.setCell ⟨w.heap.size, 5, none⟩ (.int .u8 x) = w2 at *
    refine (ready_any (putB b 5 x) HC.out w.heap.size 1 (by omega) _ HBc.out).mono ?_
    rintro e w3 ⟨rfl, rfl⟩
    have cv := HBc.out.a55 HC.out.regs
    have fv := HBc.out.frozen 55
    have hg0 := HBc.out.lt
    have HS : Hid ((enc { putB b 5 x with v1 := { (putB b 5 x).v1 with on := readyB (putB b 5 x) 1 } }).size = 70) := enc_size _ HC.out.regs
    have H1 := hid_ (enc_one { putB b 5 x with v1 := { (putB b 5 x).v1 with on := readyB (putB b 5 x) 1 } })
    clear HQ
    generalize readyB (putB b 5 x) 1 = rd at *
    go_wp2_with (first
        | (with_reducible refine wpList_load29 (op := ⟨some 78, _, _, _, _, _⟩) rfl (.tmp 3) rfl w.heap.size (by with_unfolding_all rfl) (enc { putB b 5 x with v1 := { (putB b 5 x).v1 with on := rd } }) (HBc.out.s55 HC.out.regs rd) HS.out ?_)
        | (with_reducible refine wpList_store29 (op := ⟨none, .store 29 (.tmp 6) (.tmp 78), _, _, _, _⟩) rfl (.tmp 6) (.tmp 78) rfl (w.heap.size + 1) (enc zeroB) (enc { putB b 5 x with v1 := { (putB b 5 x).v1 with on := rd } }) (by with_unfolding_all rfl) (by with_unfolding_all rfl) (HZc.out.far (p := ⟨w.heap.size, 55, none⟩) (by simp) (.bool rd)) HZ.out HS.out H1.out ?_))
    refine bodyPost_ret (v := .agg (enc { putB b 5 x with v1 := { (putB b 5 x).v1 with on := rd } })) (results_board Try.results10 rfl ((HZc.out.far (p := ⟨w.heap.size, 55, none⟩) (by simp) (.bool rd)).setRow _) HS.out) rfl (.of ?_ (below_setRow (HWc.out.setCell (p := ⟨w.heap.size, 55, none⟩) (by simp) (.bool rd)) (by omega) _))
    rfl
  · have hv' : b.v1.on = false := by simpa using hv
    have HV := hid_ hv'
    have HQ : Hid (lowB b 5 x = { putB b 5 x with v1 := { (putB b 5 x).v1 with on := false } }) := by
      show { putB b 5 x with v1 := { b.v1 with on := b.v1.on && readyB (putB b 5 x) 1 } } = _
      rw [hv']; rfl
    clear hv hv'
    rw [HQ.out]
    have HS : Hid ((enc { putB b 5 x with v1 := { (putB b 5 x).v1 with on := false } }).size = 70) := enc_size _ HC.out.regs
    have H1 := hid_ (enc_one { putB b 5 x with v1 := { (putB b 5 x).v1 with on := false } })
    go_enter Try.func10, Try.ntmps10
    go_wp2_with (first
        | (with_reducible refine wpList_alloc29 (op := ⟨some 6, .alloc 29, _, _, _, _⟩) rfl rfl b w rfl ?_; intro w1 HB1 HB2 HW1 hg1; (have c48 := HB1.out.a48 HO.out.regs; rw [HN.out] at c48; have cn := HB1.out.ar HO.out.regs 5 (by omega); have fn := HB1.out.frozen 5; have hg0 := HB1.out.lt; have cv := HB1.out.a55 HO.out.regs; rw [HV.out] at cv; have fv := HB1.out.frozen 55))
        | (with_reducible refine wpList_load29 (op := ⟨some 78, _, _, _, _, _⟩) rfl (.tmp 3) rfl w.heap.size (by with_unfolding_all rfl) (enc { putB b 5 x with v1 := { (putB b 5 x).v1 with on := false } }) ((HB1.out.sr HO.out.regs 5 (by omega) x).s55 HC.out.regs false) HS.out ?_)
        | (with_reducible refine wpList_store29 (op := ⟨none, .store 29 (.tmp 6) (.tmp 78), _, _, _, _⟩) rfl (.tmp 6) (.tmp 78) rfl (w.heap.size + 1) (enc zeroB) (enc { putB b 5 x with v1 := { (putB b 5 x).v1 with on := false } }) (by with_unfolding_all rfl) (by with_unfolding_all rfl) ((HB2.out.far (p := ⟨w.heap.size, 5, none⟩) (by simp) (.int .u8 x)).far (p := ⟨w.heap.size, 55, none⟩) (by simp) (.bool false)) HZ.out HS.out H1.out ?_))
    refine bodyPost_ret (v := .agg (enc { putB b 5 x with v1 := { (putB b 5 x).v1 with on := false } })) (results_board Try.results10 rfl (((HB2.out.far (p := ⟨w.heap.size, 5, none⟩) (by simp) (.int .u8 x)).far (p := ⟨w.heap.size, 55, none⟩) (by simp) (.bool false)).setRow _) HS.out) rfl (.of ?_ (below_setRow ((HW1.out.setCell (p := ⟨w.heap.size, 5, none⟩) (by simp) (.int .u8 x)).setCell (p := ⟨w.heap.size, 55, none⟩) (by simp) (.bool false)) (by omega) _))
    rfl
set_option maxRecDepth 20000 in
set_option maxHeartbeats 2000000 in
theorem write_6 (b : Bd) (hb : b.OkR) (hon : b.on = true) (x : Int) (hx0 : 0 ≤ x) (hx1 : x ≤ 255) (w : World) : Calls Try.prog 10 #[.agg (enc b), .int .i64 6, .int .u8 x] w (Ret (.agg (enc (lowB b 6 x))) w) := by
  have HO := hid_ hb
  have HN := hid_ hon
  have HZ := hid_ (enc_size zeroB rfl)
  have HC := hid_ (put_okR hb 6 x hx0 hx1)
  have e1 := and128 x hx0 hx1
  clear hb hon
  go_enter Try.func10, Try.ntmps10
  go_wp2_with ((with_reducible refine wpList_alloc29 (op := ⟨some 6, .alloc 29, _, _, _, _⟩) rfl rfl b w rfl ?_); intro w1 HB1 HB2 HW1 hg1; (have c48 := HB1.out.a48 HO.out.regs; rw [HN.out] at c48; have cn := HB1.out.ar HO.out.regs 6 (by omega); have fn := HB1.out.frozen 6; have hg0 := HB1.out.lt))
  have HBc : Hid (Blk (w1.setCell ⟨w.heap.size, 6, none⟩ (.int .u8 x)) w.heap.size 29 (enc (putB b 6 x))) := HB1.out.sr HO.out.regs 6 (by omega) x
  have HZc : Hid (Blk (w1.setCell ⟨w.heap.size, 6, none⟩ (.int .u8 x)) (w.heap.size + 1) 29 (enc zeroB)) := HB2.out.far (by simp) _
  have HWc : Hid (Below w.heap.size w (w1.setCell ⟨w.heap.size, 6, none⟩ (.int .u8 x))) := HW1.out.setCell (by simp) _
  clear c48 cn fn hg0 HB1 HB2 HW1
  generalize w1.setCell ⟨w.heap.size, 6, none⟩ (.int .u8 x) = w2 at *
  refine (longest_any 1 (by omega) _).mono ?_
  rintro e w3 ⟨rfl, rfl⟩
  rw [show longestB 1 = 64 from rfl]
  have c56 := HBc.out.a56 HC.out.regs
  have f56 := HBc.out.frozen 56
  have hg0 := HBc.out.lt
  have ew : wrap64 x = x := wrap_small x hx0 (by omega)
  go_wp2_with fail
  refine (longest_any 1 (by omega) _).mono ?_
  rintro e w3 ⟨rfl, rfl⟩
  rw [show longestB 1 = 64 from rfl]
  have HS : Hid ((enc { putB b 6 x with v1 := { (putB b 6 x).v1 with len := 64 - x % 64 } }).size = 70) := enc_size _ HC.out.regs
  have H1 := hid_ (enc_one { putB b 6 x with v1 := { (putB b 6 x).v1 with len := 64 - x % 64 } })
  go_wp2_with (first
      | (with_reducible refine wpList_load29 (op := ⟨some 78, _, _, _, _, _⟩) rfl (.tmp 3) rfl w.heap.size (by with_unfolding_all rfl) (enc { putB b 6 x with v1 := { (putB b 6 x).v1 with len := 64 - x % 64 } }) (HBc.out.s56 HC.out.regs (64 - x % 64)) HS.out ?_)
      | (with_reducible refine wpList_store29 (op := ⟨none, .store 29 (.tmp 6) (.tmp 78), _, _, _, _⟩) rfl (.tmp 6) (.tmp 78) rfl (w.heap.size + 1) (enc zeroB) (enc { putB b 6 x with v1 := { (putB b 6 x).v1 with len := 64 - x % 64 } }) (by with_unfolding_all rfl) (by with_unfolding_all rfl) (HZc.out.far (p := ⟨w.heap.size, 56, none⟩) (by simp) (.int .i64 (64 - x % 64))) HZ.out HS.out H1.out ?_))
  refine bodyPost_ret (v := .agg (enc { putB b 6 x with v1 := { (putB b 6 x).v1 with len := 64 - x % 64 } })) (results_board Try.results10 rfl ((HZc.out.far (p := ⟨w.heap.size, 56, none⟩) (by simp) (.int .i64 (64 - x % 64))).setRow _) HS.out) rfl (.of ?_ (below_setRow (HWc.out.setCell (p := ⟨w.heap.size, 56, none⟩) (by simp) (.int .i64 (64 - x % 64))) (by omega) _))
  rfl
set_option maxRecDepth 20000 in
set_option maxHeartbeats 2000000 in
theorem write_7 (b : Bd) (hb : b.OkR) (hon : b.on = true) (x : Int) (hx0 : 0 ≤ x) (hx1 : x ≤ 255) (w : World) : Calls Try.prog 10 #[.agg (enc b), .int .i64 7, .int .u8 x] w (Ret (.agg (enc (lowB b 7 x))) w) := by
  have HO := hid_ hb
  have HN := hid_ hon
  have HZ := hid_ (enc_size zeroB rfl)
  have HC := hid_ (put_okR hb 7 x hx0 hx1)
  have e1 := and128 x hx0 hx1
  clear hb hon
  by_cases hv : b.v1.on = true
  · have HV := hid_ hv
    have HQ : Hid (lowB b 7 x = { putB b 7 x with v1 := { (putB b 7 x).v1 with on := readyB (putB b 7 x) 1 } }) := by
      show { putB b 7 x with v1 := { b.v1 with on := b.v1.on && readyB (putB b 7 x) 1 } } = _
      rw [hv]; rfl
    rw [HQ.out]
    go_enter Try.func10, Try.ntmps10
    go_wp2_with ((with_reducible refine wpList_alloc29 (op := ⟨some 6, .alloc 29, _, _, _, _⟩) rfl rfl b w rfl ?_); intro w1 HB1 HB2 HW1 hg1; (have c48 := HB1.out.a48 HO.out.regs; rw [HN.out] at c48; have cn := HB1.out.ar HO.out.regs 7 (by omega); have fn := HB1.out.frozen 7; have hg0 := HB1.out.lt; have cv := HB1.out.a55 HO.out.regs; rw [HV.out] at cv; have fv := HB1.out.frozen 55))
    have HBc : Hid (Blk (w1.setCell ⟨w.heap.size, 7, none⟩ (.int .u8 x)) w.heap.size 29 (enc (putB b 7 x))) := HB1.out.sr HO.out.regs 7 (by omega) x
    have HZc : Hid (Blk (w1.setCell ⟨w.heap.size, 7, none⟩ (.int .u8 x)) (w.heap.size + 1) 29 (enc zeroB)) := HB2.out.far (by simp) _
    have HWc : Hid (Below w.heap.size w (w1.setCell ⟨w.heap.size, 7, none⟩ (.int .u8 x))) := HW1.out.setCell (by simp) _
    clear cv fv c48 cn fn hg0 HB1 HB2 HW1
    generalize w1.setCell ⟨w.heap.size, 7, none⟩ (.int .u8 x) = w2 at *
    refine (ready_any (putB b 7 x) HC.out w.heap.size 1 (by omega) _ HBc.out).mono ?_
    rintro e w3 ⟨rfl, rfl⟩
    have cv := HBc.out.a55 HC.out.regs
    have fv := HBc.out.frozen 55
    have hg0 := HBc.out.lt
    have HS : Hid ((enc { putB b 7 x with v1 := { (putB b 7 x).v1 with on := readyB (putB b 7 x) 1 } }).size = 70) := enc_size _ HC.out.regs
    have H1 := hid_ (enc_one { putB b 7 x with v1 := { (putB b 7 x).v1 with on := readyB (putB b 7 x) 1 } })
    clear HQ
    generalize readyB (putB b 7 x) 1 = rd at *
    go_wp2_with (first
        | (with_reducible refine wpList_load29 (op := ⟨some 78, _, _, _, _, _⟩) rfl (.tmp 3) rfl w.heap.size (by with_unfolding_all rfl) (enc { putB b 7 x with v1 := { (putB b 7 x).v1 with on := rd } }) (HBc.out.s55 HC.out.regs rd) HS.out ?_)
        | (with_reducible refine wpList_store29 (op := ⟨none, .store 29 (.tmp 6) (.tmp 78), _, _, _, _⟩) rfl (.tmp 6) (.tmp 78) rfl (w.heap.size + 1) (enc zeroB) (enc { putB b 7 x with v1 := { (putB b 7 x).v1 with on := rd } }) (by with_unfolding_all rfl) (by with_unfolding_all rfl) (HZc.out.far (p := ⟨w.heap.size, 55, none⟩) (by simp) (.bool rd)) HZ.out HS.out H1.out ?_))
    refine bodyPost_ret (v := .agg (enc { putB b 7 x with v1 := { (putB b 7 x).v1 with on := rd } })) (results_board Try.results10 rfl ((HZc.out.far (p := ⟨w.heap.size, 55, none⟩) (by simp) (.bool rd)).setRow _) HS.out) rfl (.of ?_ (below_setRow (HWc.out.setCell (p := ⟨w.heap.size, 55, none⟩) (by simp) (.bool rd)) (by omega) _))
    rfl
  · have hv' : b.v1.on = false := by simpa using hv
    have HV := hid_ hv'
    have HQ : Hid (lowB b 7 x = { putB b 7 x with v1 := { (putB b 7 x).v1 with on := false } }) := by
      show { putB b 7 x with v1 := { b.v1 with on := b.v1.on && readyB (putB b 7 x) 1 } } = _
      rw [hv']; rfl
    clear hv hv'
    rw [HQ.out]
    have HS : Hid ((enc { putB b 7 x with v1 := { (putB b 7 x).v1 with on := false } }).size = 70) := enc_size _ HC.out.regs
    have H1 := hid_ (enc_one { putB b 7 x with v1 := { (putB b 7 x).v1 with on := false } })
    go_enter Try.func10, Try.ntmps10
    go_wp2_with (first
        | (with_reducible refine wpList_alloc29 (op := ⟨some 6, .alloc 29, _, _, _, _⟩) rfl rfl b w rfl ?_; intro w1 HB1 HB2 HW1 hg1; (have c48 := HB1.out.a48 HO.out.regs; rw [HN.out] at c48; have cn := HB1.out.ar HO.out.regs 7 (by omega); have fn := HB1.out.frozen 7; have hg0 := HB1.out.lt; have cv := HB1.out.a55 HO.out.regs; rw [HV.out] at cv; have fv := HB1.out.frozen 55))
        | (with_reducible refine wpList_load29 (op := ⟨some 78, _, _, _, _, _⟩) rfl (.tmp 3) rfl w.heap.size (by with_unfolding_all rfl) (enc { putB b 7 x with v1 := { (putB b 7 x).v1 with on := false } }) ((HB1.out.sr HO.out.regs 7 (by omega) x).s55 HC.out.regs false) HS.out ?_)
        | (with_reducible refine wpList_store29 (op := ⟨none, .store 29 (.tmp 6) (.tmp 78), _, _, _, _⟩) rfl (.tmp 6) (.tmp 78) rfl (w.heap.size + 1) (enc zeroB) (enc { putB b 7 x with v1 := { (putB b 7 x).v1 with on := false } }) (by with_unfolding_all rfl) (by with_unfolding_all rfl) ((HB2.out.far (p := ⟨w.heap.size, 7, none⟩) (by simp) (.int .u8 x)).far (p := ⟨w.heap.size, 55, none⟩) (by simp) (.bool false)) HZ.out HS.out H1.out ?_))
    refine bodyPost_ret (v := .agg (enc { putB b 7 x with v1 := { (putB b 7 x).v1 with on := false } })) (results_board Try.results10 rfl (((HB2.out.far (p := ⟨w.heap.size, 7, none⟩) (by simp) (.int .u8 x)).far (p := ⟨w.heap.size, 55, none⟩) (by simp) (.bool false)).setRow _) HS.out) rfl (.of ?_ (below_setRow ((HW1.out.setCell (p := ⟨w.heap.size, 7, none⟩) (by simp) (.int .u8 x)).setCell (p := ⟨w.heap.size, 55, none⟩) (by simp) (.bool false)) (by omega) _))
    rfl
set_option maxRecDepth 20000 in
set_option maxHeartbeats 2000000 in
theorem write_8 (b : Bd) (hb : b.OkR) (hon : b.on = true) (x : Int) (hx0 : 0 ≤ x) (hx1 : x ≤ 255) (w : World) : Calls Try.prog 10 #[.agg (enc b), .int .i64 8, .int .u8 x] w (Ret (.agg (enc (lowB b 8 x))) w) := by
  have HO := hid_ hb
  have HN := hid_ hon
  have HZ := hid_ (enc_size zeroB rfl)
  have HC := hid_ (put_okR hb 8 x hx0 hx1)
  have e1 := and128 x hx0 hx1
  clear hb hon
  by_cases hv : b.v1.on = true
  · have HV := hid_ hv
    have HQ : Hid (lowB b 8 x = { putB b 8 x with v1 := { (putB b 8 x).v1 with on := readyB (putB b 8 x) 1 } }) := by
      show { putB b 8 x with v1 := { b.v1 with on := b.v1.on && readyB (putB b 8 x) 1 } } = _
      rw [hv]; rfl
    rw [HQ.out]
    go_enter Try.func10, Try.ntmps10
    go_wp2_with ((with_reducible refine wpList_alloc29 (op := ⟨some 6, .alloc 29, _, _, _, _⟩) rfl rfl b w rfl ?_); intro w1 HB1 HB2 HW1 hg1; (have c48 := HB1.out.a48 HO.out.regs; rw [HN.out] at c48; have cn := HB1.out.ar HO.out.regs 8 (by omega); have fn := HB1.out.frozen 8; have hg0 := HB1.out.lt; have cv := HB1.out.a55 HO.out.regs; rw [HV.out] at cv; have fv := HB1.out.frozen 55))
    have HBc : Hid (Blk (w1.setCell ⟨w.heap.size, 8, none⟩ (.int .u8 x)) w.heap.size 29 (enc (putB b 8 x))) := HB1.out.sr HO.out.regs 8 (by omega) x
    have HZc : Hid (Blk (w1.setCell ⟨w.heap.size, 8, none⟩ (.int .u8 x)) (w.heap.size + 1) 29 (enc zeroB)) := HB2.out.far (by simp) _
    have HWc : Hid (Below w.heap.size w (w1.setCell ⟨w.heap.size, 8, none⟩ (.int .u8 x))) := HW1.out.setCell (by simp) _
    clear cv fv c48 cn fn hg0 HB1 HB2 HW1
    generalize w1.setCell ⟨w.heap.size, 8, none⟩ (.int .u8 x) = w2 at *
    refine (ready_any (putB b 8 x) HC.out w.heap.size 1 (by omega) _ HBc.out).mono ?_
    rintro e w3 ⟨rfl, rfl⟩
    have cv := HBc.out.a55 HC.out.regs
    have fv := HBc.out.frozen 55
    have hg0 := HBc.out.lt
    have HS : Hid ((enc { putB b 8 x with v1 := { (putB b 8 x).v1 with on := readyB (putB b 8 x) 1 } }).size = 70) := enc_size _ HC.out.regs
    have H1 := hid_ (enc_one { putB b 8 x with v1 := { (putB b 8 x).v1 with on := readyB (putB b 8 x) 1 } })
    clear HQ
    generalize readyB (putB b 8 x) 1 = rd at *
    go_wp2_with (first
        | (with_reducible refine wpList_load29 (op := ⟨some 78, _, _, _, _, _⟩) rfl (.tmp 3) rfl w.heap.size (by with_unfolding_all rfl) (enc { putB b 8 x with v1 := { (putB b 8 x).v1 with on := rd } }) (HBc.out.s55 HC.out.regs rd) HS.out ?_)
        | (with_reducible refine wpList_store29 (op := ⟨none, .store 29 (.tmp 6) (.tmp 78), _, _, _, _⟩) rfl (.tmp 6) (.tmp 78) rfl (w.heap.size + 1) (enc zeroB) (enc { putB b 8 x with v1 := { (putB b 8 x).v1 with on := rd } }) (by with_unfolding_all rfl) (by with_unfolding_all rfl) (HZc.out.far (p := ⟨w.heap.size, 55, none⟩) (by simp) (.bool rd)) HZ.out HS.out H1.out ?_))
    refine bodyPost_ret (v := .agg (enc { putB b 8 x with v1 := { (putB b 8 x).v1 with on := rd } })) (results_board Try.results10 rfl ((HZc.out.far (p := ⟨w.heap.size, 55, none⟩) (by simp) (.bool rd)).setRow _) HS.out) rfl (.of ?_ (below_setRow (HWc.out.setCell (p := ⟨w.heap.size, 55, none⟩) (by simp) (.bool rd)) (by omega) _))
    rfl
  · have hv' : b.v1.on = false := by simpa using hv
    have HV := hid_ hv'
    have HQ : Hid (lowB b 8 x = { putB b 8 x with v1 := { (putB b 8 x).v1 with on := false } }) := by
      show { putB b 8 x with v1 := { b.v1 with on := b.v1.on && readyB (putB b 8 x) 1 } } = _
      rw [hv']; rfl
    clear hv hv'
    rw [HQ.out]
    have HS : Hid ((enc { putB b 8 x with v1 := { (putB b 8 x).v1 with on := false } }).size = 70) := enc_size _ HC.out.regs
    have H1 := hid_ (enc_one { putB b 8 x with v1 := { (putB b 8 x).v1 with on := false } })
    go_enter Try.func10, Try.ntmps10
    go_wp2_with (first
        | (with_reducible refine wpList_alloc29 (op := ⟨some 6, .alloc 29, _, _, _, _⟩) rfl rfl b w rfl ?_; intro w1 HB1 HB2 HW1 hg1; (have c48 := HB1.out.a48 HO.out.regs; rw [HN.out] at c48; have cn := HB1.out.ar HO.out.regs 8 (by omega); have fn := HB1.out.frozen 8; have hg0 := HB1.out.lt; have cv := HB1.out.a55 HO.out.regs; rw [HV.out] at cv; have fv := HB1.out.frozen 55))
        | (with_reducible refine wpList_load29 (op := ⟨some 78, _, _, _, _, _⟩) rfl (.tmp 3) rfl w.heap.size (by with_unfolding_all rfl) (enc { putB b 8 x with v1 := { (putB b 8 x).v1 with on := false } }) ((HB1.out.sr HO.out.regs 8 (by omega) x).s55 HC.out.regs false) HS.out ?_)
        | (with_reducible refine wpList_store29 (op := ⟨none, .store 29 (.tmp 6) (.tmp 78), _, _, _, _⟩) rfl (.tmp 6) (.tmp 78) rfl (w.heap.size + 1) (enc zeroB) (enc { putB b 8 x with v1 := { (putB b 8 x).v1 with on := false } }) (by with_unfolding_all rfl) (by with_unfolding_all rfl) ((HB2.out.far (p := ⟨w.heap.size, 8, none⟩) (by simp) (.int .u8 x)).far (p := ⟨w.heap.size, 55, none⟩) (by simp) (.bool false)) HZ.out HS.out H1.out ?_))
    refine bodyPost_ret (v := .agg (enc { putB b 8 x with v1 := { (putB b 8 x).v1 with on := false } })) (results_board Try.results10 rfl (((HB2.out.far (p := ⟨w.heap.size, 8, none⟩) (by simp) (.int .u8 x)).far (p := ⟨w.heap.size, 55, none⟩) (by simp) (.bool false)).setRow _) HS.out) rfl (.of ?_ (below_setRow ((HW1.out.setCell (p := ⟨w.heap.size, 8, none⟩) (by simp) (.int .u8 x)).setCell (p := ⟨w.heap.size, 55, none⟩) (by simp) (.bool false)) (by omega) _))
    rfl
set_option maxRecDepth 20000 in
set_option maxHeartbeats 2000000 in
theorem write_9 (b : Bd) (hb : b.OkR) (hon : b.on = true) (x : Int) (hx0 : 0 ≤ x) (hx1 : x ≤ 255) (w : World) : Calls Try.prog 10 #[.agg (enc b), .int .i64 9, .int .u8 x] w (Ret (.agg (enc (lowB b 9 x))) w) := by
  have HO := hid_ hb
  have HN := hid_ hon
  have HZ := hid_ (enc_size zeroB rfl)
  have HC := hid_ (put_okR hb 9 x hx0 hx1)
  have e1 := and128 x hx0 hx1
  clear hb hon
  by_cases h128 : 128 ≤ x
  · have HQ : Hid (lowB b 9 x = beginB (putB b 9 x) 1) := by unfold lowB; rw [if_neg (by decide), if_pos (by decide), if_pos h128]; exact hid_ rfl
    have e2 : decide (128 ≤ x) = true := by simp [h128]
    rw [HQ.out]
    go_enter Try.func10, Try.ntmps10
    go_wp2_with ((with_reducible refine wpList_alloc29 (op := ⟨some 6, .alloc 29, _, _, _, _⟩) rfl rfl b w rfl ?_); intro w1 HB1 HB2 HW1 hg1; (have c48 := HB1.out.a48 HO.out.regs; rw [HN.out] at c48; have cn := HB1.out.ar HO.out.regs 9 (by omega); have fn := HB1.out.frozen 9; have hg0 := HB1.out.lt))
    have HBc : Hid (Blk (w1.setCell ⟨w.heap.size, 9, none⟩ (.int .u8 x)) w.heap.size 29 (enc (putB b 9 x))) := HB1.out.sr HO.out.regs 9 (by omega) x
    have HZc : Hid (Blk (w1.setCell ⟨w.heap.size, 9, none⟩ (.int .u8 x)) (w.heap.size + 1) 29 (enc zeroB)) := HB2.out.far (by simp) _
    have HWc : Hid (Below w.heap.size w (w1.setCell ⟨w.heap.size, 9, none⟩ (.int .u8 x))) := HW1.out.setCell (by simp) _
    clear c48 cn fn hg0 HB1 HB2 HW1
    generalize w1.setCell ⟨w.heap.size, 9, none⟩ (.int .u8 x) = w2 at *
    refine (begin_1 (putB b 9 x) HC.out w.heap.size _ HBc.out).mono ?_
    rintro e w3 ⟨rfl, hB3, hO3⟩
    have HBd := hid_ hB3
    have HZd := hid_ (hO3.blk (by omega) HZc.out)
    have HWd := hid_ (hO3.below HWc.out (Nat.le_refl _) (Nat.le_of_lt HBc.out.lt))
    have hrr : (beginB (putB b 9 x) 1).regs = (putB b 9 x).regs := begin_regs _ _
    have HRR := hid_ hrr
    clear hB3 hO3 hrr
    have HS : Hid ((enc (beginB (putB b 9 x) 1)).size = 70) := enc_size _ (by rw [HRR.out]; exact HC.out.regs)
    have H1 := hid_ (enc_one (beginB (putB b 9 x) 1))
    go_wp2_with (first
        | (with_reducible refine wpList_load29 (op := ⟨some 78, _, _, _, _, _⟩) rfl (.tmp 3) rfl w.heap.size (by with_unfolding_all rfl) (enc (beginB (putB b 9 x) 1)) HBd.out HS.out ?_)
        | (with_reducible refine wpList_store29 (op := ⟨none, .store 29 (.tmp 6) (.tmp 78), _, _, _, _⟩) rfl (.tmp 6) (.tmp 78) rfl (w.heap.size + 1) (enc zeroB) (enc (beginB (putB b 9 x) 1)) (by with_unfolding_all rfl) (by with_unfolding_all rfl) HZd.out HZ.out HS.out H1.out ?_))
    refine bodyPost_ret (v := .agg (enc (beginB (putB b 9 x) 1))) (results_board Try.results10 rfl (HZd.out.setRow _) HS.out) rfl (.of ?_ (below_setRow HWd.out (by omega) _))
    rfl
  · have HQ : Hid (lowB b 9 x = putB b 9 x) := by unfold lowB; rw [if_neg (by decide), if_pos (by decide), if_neg h128]; exact hid_ rfl
    have e2 : decide (128 ≤ x) = false := by simp; omega
    rw [HQ.out]
    have HS : Hid ((enc (putB b 9 x)).size = 70) := enc_size _ HC.out.regs
    have H1 := hid_ (enc_one (putB b 9 x))
    go_enter Try.func10, Try.ntmps10
    go_wp2_with (first
        | (with_reducible refine wpList_alloc29 (op := ⟨some 6, .alloc 29, _, _, _, _⟩) rfl rfl b w rfl ?_; intro w1 HB1 HB2 HW1 hg1; (have c48 := HB1.out.a48 HO.out.regs; rw [HN.out] at c48; have cn := HB1.out.ar HO.out.regs 9 (by omega); have fn := HB1.out.frozen 9; have hg0 := HB1.out.lt))
        | (with_reducible refine wpList_load29 (op := ⟨some 78, _, _, _, _, _⟩) rfl (.tmp 3) rfl w.heap.size (by with_unfolding_all rfl) (enc (putB b 9 x)) (HB1.out.sr HO.out.regs 9 (by omega) x) HS.out ?_)
        | (with_reducible refine wpList_store29 (op := ⟨none, .store 29 (.tmp 6) (.tmp 78), _, _, _, _⟩) rfl (.tmp 6) (.tmp 78) rfl (w.heap.size + 1) (enc zeroB) (enc (putB b 9 x)) (by with_unfolding_all rfl) (by with_unfolding_all rfl) (HB2.out.far (p := ⟨w.heap.size, 9, none⟩) (by simp) (.int .u8 x)) HZ.out HS.out H1.out ?_))
    refine bodyPost_ret (v := .agg (enc (putB b 9 x))) (results_board Try.results10 rfl ((HB2.out.far (p := ⟨w.heap.size, 9, none⟩) (by simp) (.int .u8 x)).setRow _) HS.out) rfl (.of ?_ (below_setRow (HW1.out.setCell (p := ⟨w.heap.size, 9, none⟩) (by simp) (.int .u8 x)) (by omega) _))
    rfl
set_option maxRecDepth 20000 in
set_option maxHeartbeats 2000000 in
theorem write_10 (b : Bd) (hb : b.OkR) (hon : b.on = true) (x : Int) (hx0 : 0 ≤ x) (hx1 : x ≤ 255) (w : World) : Calls Try.prog 10 #[.agg (enc b), .int .i64 10, .int .u8 x] w (Ret (.agg (enc (lowB b 10 x))) w) := by
  have HO := hid_ hb
  have HN := hid_ hon
  have HZ := hid_ (enc_size zeroB rfl)
  have HC := hid_ (put_okR hb 10 x hx0 hx1)
  have e1 := and128 x hx0 hx1
  clear hb hon
  by_cases hv : b.v2.on = true
  · have HV := hid_ hv
    have HQ : Hid (lowB b 10 x = { putB b 10 x with v2 := { (putB b 10 x).v2 with on := readyB (putB b 10 x) 2 } }) := by
      show { putB b 10 x with v2 := { b.v2 with on := b.v2.on && readyB (putB b 10 x) 2 } } = _
      rw [hv]; rfl
    rw [HQ.out]
    go_enter Try.func10, Try.ntmps10
    go_wp2_with ((with_reducible refine wpList_alloc29 (op := ⟨some 6, .alloc 29, _, _, _, _⟩) rfl rfl b w rfl ?_); intro w1 HB1 HB2 HW1 hg1; (have c48 := HB1.out.a48 HO.out.regs; rw [HN.out] at c48; have cn := HB1.out.ar HO.out.regs 10 (by omega); have fn := HB1.out.frozen 10; have hg0 := HB1.out.lt; have cv := HB1.out.a59 HO.out.regs; rw [HV.out] at cv; have fv := HB1.out.frozen 59))
    have HBc : Hid (Blk (w1.setCell ⟨w.heap.size, 10, none⟩ (.int .u8 x)) w.heap.size 29 (enc (putB b 10 x))) := HB1.out.sr HO.out.regs 10 (by omega) x
    have HZc : Hid (Blk (w1.setCell ⟨w.heap.size, 10, none⟩ (.int .u8 x)) (w.heap.size + 1) 29 (enc zeroB)) := HB2.out.far (by simp) _
    have HWc : Hid (Below w.heap.size w (w1.setCell ⟨w.heap.size, 10, none⟩ (.int .u8 x))) := HW1.out.setCell (by simp) _
    clear cv fv c48 cn fn hg0 HB1 HB2 HW1
    generalize w1.setCell ⟨w.heap.size, 10, none⟩ (.int .u8 x) = w2 at *
    refine (ready_any (putB b 10 x) HC.out w.heap.size 2 (by omega) _ HBc.out).mono ?_
    rintro e w3 ⟨rfl, rfl⟩
    have cv := HBc.out.a59 HC.out.regs
    have fv := HBc.out.frozen 59
    have hg0 := HBc.out.lt
    have HS : Hid ((enc { putB b 10 x with v2 := { (putB b 10 x).v2 with on := readyB (putB b 10 x) 2 } }).size = 70) := enc_size _ HC.out.regs
    have H1 := hid_ (enc_one { putB b 10 x with v2 := { (putB b 10 x).v2 with on := readyB (putB b 10 x) 2 } })
    clear HQ
    generalize readyB (putB b 10 x) 2 = rd at *
    go_wp2_with (first
        | (with_reducible refine wpList_load29 (op := ⟨some 78, _, _, _, _, _⟩) rfl (.tmp 3) rfl w.heap.size (by with_unfolding_all rfl) (enc { putB b 10 x with v2 := { (putB b 10 x).v2 with on := rd } }) (HBc.out.s59 HC.out.regs rd) HS.out ?_)
        | (with_reducible refine wpList_store29 (op := ⟨none, .store 29 (.tmp 6) (.tmp 78), _, _, _, _⟩) rfl (.tmp 6) (.tmp 78) rfl (w.heap.size + 1) (enc zeroB) (enc { putB b 10 x with v2 := { (putB b 10 x).v2 with on := rd } }) (by with_unfolding_all rfl) (by with_unfolding_all rfl) (HZc.out.far (p := ⟨w.heap.size, 59, none⟩) (by simp) (.bool rd)) HZ.out HS.out H1.out ?_))
    refine bodyPost_ret (v := .agg (enc { putB b 10 x with v2 := { (putB b 10 x).v2 with on := rd } })) (results_board Try.results10 rfl ((HZc.out.far (p := ⟨w.heap.size, 59, none⟩) (by simp) (.bool rd)).setRow _) HS.out) rfl (.of ?_ (below_setRow (HWc.out.setCell (p := ⟨w.heap.size, 59, none⟩) (by simp) (.bool rd)) (by omega) _))
    rfl
  · have hv' : b.v2.on = false := by simpa using hv
    have HV := hid_ hv'
    have HQ : Hid (lowB b 10 x = { putB b 10 x with v2 := { (putB b 10 x).v2 with on := false } }) := by
      show { putB b 10 x with v2 := { b.v2 with on := b.v2.on && readyB (putB b 10 x) 2 } } = _
      rw [hv']; rfl
    clear hv hv'
    rw [HQ.out]
    have HS : Hid ((enc { putB b 10 x with v2 := { (putB b 10 x).v2 with on := false } }).size = 70) := enc_size _ HC.out.regs
    have H1 := hid_ (enc_one { putB b 10 x with v2 := { (putB b 10 x).v2 with on := false } })
    go_enter Try.func10, Try.ntmps10
    go_wp2_with (first
        | (with_reducible refine wpList_alloc29 (op := ⟨some 6, .alloc 29, _, _, _, _⟩) rfl rfl b w rfl ?_; intro w1 HB1 HB2 HW1 hg1; (have c48 := HB1.out.a48 HO.out.regs; rw [HN.out] at c48; have cn := HB1.out.ar HO.out.regs 10 (by omega); have fn := HB1.out.frozen 10; have hg0 := HB1.out.lt; have cv := HB1.out.a59 HO.out.regs; rw [HV.out] at cv; have fv := HB1.out.frozen 59))
        | (with_reducible refine wpList_load29 (op := ⟨some 78, _, _, _, _, _⟩) rfl (.tmp 3) rfl w.heap.size (by with_unfolding_all rfl) (enc { putB b 10 x with v2 := { (putB b 10 x).v2 with on := false } }) ((HB1.out.sr HO.out.regs 10 (by omega) x).s59 HC.out.regs false) HS.out ?_)
        | (with_reducible refine wpList_store29 (op := ⟨none, .store 29 (.tmp 6) (.tmp 78), _, _, _, _⟩) rfl (.tmp 6) (.tmp 78) rfl (w.heap.size + 1) (enc zeroB) (enc { putB b 10 x with v2 := { (putB b 10 x).v2 with on := false } }) (by with_unfolding_all rfl) (by with_unfolding_all rfl) ((HB2.out.far (p := ⟨w.heap.size, 10, none⟩) (by simp) (.int .u8 x)).far (p := ⟨w.heap.size, 59, none⟩) (by simp) (.bool false)) HZ.out HS.out H1.out ?_))
    refine bodyPost_ret (v := .agg (enc { putB b 10 x with v2 := { (putB b 10 x).v2 with on := false } })) (results_board Try.results10 rfl (((HB2.out.far (p := ⟨w.heap.size, 10, none⟩) (by simp) (.int .u8 x)).far (p := ⟨w.heap.size, 59, none⟩) (by simp) (.bool false)).setRow _) HS.out) rfl (.of ?_ (below_setRow ((HW1.out.setCell (p := ⟨w.heap.size, 10, none⟩) (by simp) (.int .u8 x)).setCell (p := ⟨w.heap.size, 59, none⟩) (by simp) (.bool false)) (by omega) _))
    rfl
set_option maxRecDepth 20000 in
set_option maxHeartbeats 2000000 in
theorem write_11 (b : Bd) (hb : b.OkR) (hon : b.on = true) (x : Int) (hx0 : 0 ≤ x) (hx1 : x ≤ 255) (w : World) : Calls Try.prog 10 #[.agg (enc b), .int .i64 11, .int .u8 x] w (Ret (.agg (enc (lowB b 11 x))) w) := by
  have HO := hid_ hb
  have HN := hid_ hon
  have HZ := hid_ (enc_size zeroB rfl)
  have HC := hid_ (put_okR hb 11 x hx0 hx1)
  have e1 := and128 x hx0 hx1
  clear hb hon
  go_enter Try.func10, Try.ntmps10
  go_wp2_with ((with_reducible refine wpList_alloc29 (op := ⟨some 6, .alloc 29, _, _, _, _⟩) rfl rfl b w rfl ?_); intro w1 HB1 HB2 HW1 hg1; (have c48 := HB1.out.a48 HO.out.regs; rw [HN.out] at c48; have cn := HB1.out.ar HO.out.regs 11 (by omega); have fn := HB1.out.frozen 11; have hg0 := HB1.out.lt))
  have HBc : Hid (Blk (w1.setCell ⟨w.heap.size, 11, none⟩ (.int .u8 x)) w.heap.size 29 (enc (putB b 11 x))) := HB1.out.sr HO.out.regs 11 (by omega) x
  have HZc : Hid (Blk (w1.setCell ⟨w.heap.size, 11, none⟩ (.int .u8 x)) (w.heap.size + 1) 29 (enc zeroB)) := HB2.out.far (by simp) _
  have HWc : Hid (Below w.heap.size w (w1.setCell ⟨w.heap.size, 11, none⟩ (.int .u8 x))) := HW1.out.setCell (by simp) _
  clear c48 cn fn hg0 HB1 HB2 HW1
  generalize w1.setCell ⟨w.heap.size, 11, none⟩ (.int .u8 x) = w2 at *
  refine (longest_any 2 (by omega) _).mono ?_
  rintro e w3 ⟨rfl, rfl⟩
  rw [show longestB 2 = 256 from rfl]
  have c60 := HBc.out.a60 HC.out.regs
  have f60 := HBc.out.frozen 60
  have hg0 := HBc.out.lt
  have ew : wrap64 x = x := wrap_small x hx0 (by omega)
  go_wp2_with fail
  refine (longest_any 2 (by omega) _).mono ?_
  rintro e w3 ⟨rfl, rfl⟩
  rw [show longestB 2 = 256 from rfl]
  have HS : Hid ((enc { putB b 11 x with v2 := { (putB b 11 x).v2 with len := 256 - x % 256 } }).size = 70) := enc_size _ HC.out.regs
  have H1 := hid_ (enc_one { putB b 11 x with v2 := { (putB b 11 x).v2 with len := 256 - x % 256 } })
  go_wp2_with (first
      | (with_reducible refine wpList_load29 (op := ⟨some 78, _, _, _, _, _⟩) rfl (.tmp 3) rfl w.heap.size (by with_unfolding_all rfl) (enc { putB b 11 x with v2 := { (putB b 11 x).v2 with len := 256 - x % 256 } }) (HBc.out.s60 HC.out.regs (256 - x % 256)) HS.out ?_)
      | (with_reducible refine wpList_store29 (op := ⟨none, .store 29 (.tmp 6) (.tmp 78), _, _, _, _⟩) rfl (.tmp 6) (.tmp 78) rfl (w.heap.size + 1) (enc zeroB) (enc { putB b 11 x with v2 := { (putB b 11 x).v2 with len := 256 - x % 256 } }) (by with_unfolding_all rfl) (by with_unfolding_all rfl) (HZc.out.far (p := ⟨w.heap.size, 60, none⟩) (by simp) (.int .i64 (256 - x % 256))) HZ.out HS.out H1.out ?_))
  refine bodyPost_ret (v := .agg (enc { putB b 11 x with v2 := { (putB b 11 x).v2 with len := 256 - x % 256 } })) (results_board Try.results10 rfl ((HZc.out.far (p := ⟨w.heap.size, 60, none⟩) (by simp) (.int .i64 (256 - x % 256))).setRow _) HS.out) rfl (.of ?_ (below_setRow (HWc.out.setCell (p := ⟨w.heap.size, 60, none⟩) (by simp) (.int .i64 (256 - x % 256))) (by omega) _))
  rfl
set_option maxRecDepth 20000 in
set_option maxHeartbeats 2000000 in
theorem write_12 (b : Bd) (hb : b.OkR) (hon : b.on = true) (x : Int) (hx0 : 0 ≤ x) (hx1 : x ≤ 255) (w : World) : Calls Try.prog 10 #[.agg (enc b), .int .i64 12, .int .u8 x] w (Ret (.agg (enc (lowB b 12 x))) w) := by
  have HO := hid_ hb
  have HN := hid_ hon
  have HZ := hid_ (enc_size zeroB rfl)
  have HC := hid_ (put_okR hb 12 x hx0 hx1)
  have e1 := and128 x hx0 hx1
  clear hb hon
  by_cases hv : b.v2.on = true
  · have HV := hid_ hv
    have HQ : Hid (lowB b 12 x = { putB b 12 x with v2 := { (putB b 12 x).v2 with on := readyB (putB b 12 x) 2 } }) := by
      show { putB b 12 x with v2 := { b.v2 with on := b.v2.on && readyB (putB b 12 x) 2 } } = _
      rw [hv]; rfl
    rw [HQ.out]
    go_enter Try.func10, Try.ntmps10
    go_wp2_with ((with_reducible refine wpList_alloc29 (op := ⟨some 6, .alloc 29, _, _, _, _⟩) rfl rfl b w rfl ?_); intro w1 HB1 HB2 HW1 hg1; (have c48 := HB1.out.a48 HO.out.regs; rw [HN.out] at c48; have cn := HB1.out.ar HO.out.regs 12 (by omega); have fn := HB1.out.frozen 12; have hg0 := HB1.out.lt; have cv := HB1.out.a59 HO.out.regs; rw [HV.out] at cv; have fv := HB1.out.frozen 59))
    have HBc : Hid (Blk (w1.setCell ⟨w.heap.size, 12, none⟩ (.int .u8 x)) w.heap.size 29 (enc (putB b 12 x))) := HB1.out.sr HO.out.regs 12 (by omega) x
    have HZc : Hid (Blk (w1.setCell ⟨w.heap.size, 12, none⟩ (.int .u8 x)) (w.heap.size + 1) 29 (enc zeroB)) := HB2.out.far (by simp) _
    have HWc : Hid (Below w.heap.size w (w1.setCell ⟨w.heap.size, 12, none⟩ (.int .u8 x))) := HW1.out.setCell (by simp) _
    clear cv fv c48 cn fn hg0 HB1 HB2 HW1
    generalize w1.setCell ⟨w.heap.size, 12, none⟩ (.int .u8 x) = w2 at *
    refine (ready_any (putB b 12 x) HC.out w.heap.size 2 (by omega) _ HBc.out).mono ?_
    rintro e w3 ⟨rfl, rfl⟩
    have cv := HBc.out.a59 HC.out.regs
    have fv := HBc.out.frozen 59
    have hg0 := HBc.out.lt
    have HS : Hid ((enc { putB b 12 x with v2 := { (putB b 12 x).v2 with on := readyB (putB b 12 x) 2 } }).size = 70) := enc_size _ HC.out.regs
    have H1 := hid_ (enc_one { putB b 12 x with v2 := { (putB b 12 x).v2 with on := readyB (putB b 12 x) 2 } })
    clear HQ
    generalize readyB (putB b 12 x) 2 = rd at *
    go_wp2_with (first
        | (with_reducible refine wpList_load29 (op := ⟨some 78, _, _, _, _, _⟩) rfl (.tmp 3) rfl w.heap.size (by with_unfolding_all rfl) (enc { putB b 12 x with v2 := { (putB b 12 x).v2 with on := rd } }) (HBc.out.s59 HC.out.regs rd) HS.out ?_)
        | (with_reducible refine wpList_store29 (op := ⟨none, .store 29 (.tmp 6) (.tmp 78), _, _, _, _⟩) rfl (.tmp 6) (.tmp 78) rfl (w.heap.size + 1) (enc zeroB) (enc { putB b 12 x with v2 := { (putB b 12 x).v2 with on := rd } }) (by with_unfolding_all rfl) (by with_unfolding_all rfl) (HZc.out.far (p := ⟨w.heap.size, 59, none⟩) (by simp) (.bool rd)) HZ.out HS.out H1.out ?_))
    refine bodyPost_ret (v := .agg (enc { putB b 12 x with v2 := { (putB b 12 x).v2 with on := rd } })) (results_board Try.results10 rfl ((HZc.out.far (p := ⟨w.heap.size, 59, none⟩) (by simp) (.bool rd)).setRow _) HS.out) rfl (.of ?_ (below_setRow (HWc.out.setCell (p := ⟨w.heap.size, 59, none⟩) (by simp) (.bool rd)) (by omega) _))
    rfl
  · have hv' : b.v2.on = false := by simpa using hv
    have HV := hid_ hv'
    have HQ : Hid (lowB b 12 x = { putB b 12 x with v2 := { (putB b 12 x).v2 with on := false } }) := by
      show { putB b 12 x with v2 := { b.v2 with on := b.v2.on && readyB (putB b 12 x) 2 } } = _
      rw [hv']; rfl
    clear hv hv'
    rw [HQ.out]
    have HS : Hid ((enc { putB b 12 x with v2 := { (putB b 12 x).v2 with on := false } }).size = 70) := enc_size _ HC.out.regs
    have H1 := hid_ (enc_one { putB b 12 x with v2 := { (putB b 12 x).v2 with on := false } })
    go_enter Try.func10, Try.ntmps10
    go_wp2_with (first
        | (with_reducible refine wpList_alloc29 (op := ⟨some 6, .alloc 29, _, _, _, _⟩) rfl rfl b w rfl ?_; intro w1 HB1 HB2 HW1 hg1; (have c48 := HB1.out.a48 HO.out.regs; rw [HN.out] at c48; have cn := HB1.out.ar HO.out.regs 12 (by omega); have fn := HB1.out.frozen 12; have hg0 := HB1.out.lt; have cv := HB1.out.a59 HO.out.regs; rw [HV.out] at cv; have fv := HB1.out.frozen 59))
        | (with_reducible refine wpList_load29 (op := ⟨some 78, _, _, _, _, _⟩) rfl (.tmp 3) rfl w.heap.size (by with_unfolding_all rfl) (enc { putB b 12 x with v2 := { (putB b 12 x).v2 with on := false } }) ((HB1.out.sr HO.out.regs 12 (by omega) x).s59 HC.out.regs false) HS.out ?_)
        | (with_reducible refine wpList_store29 (op := ⟨none, .store 29 (.tmp 6) (.tmp 78), _, _, _, _⟩) rfl (.tmp 6) (.tmp 78) rfl (w.heap.size + 1) (enc zeroB) (enc { putB b 12 x with v2 := { (putB b 12 x).v2 with on := false } }) (by with_unfolding_all rfl) (by with_unfolding_all rfl) ((HB2.out.far (p := ⟨w.heap.size, 12, none⟩) (by simp) (.int .u8 x)).far (p := ⟨w.heap.size, 59, none⟩) (by simp) (.bool false)) HZ.out HS.out H1.out ?_))
    refine bodyPost_ret (v := .agg (enc { putB b 12 x with v2 := { (putB b 12 x).v2 with on := false } })) (results_board Try.results10 rfl (((HB2.out.far (p := ⟨w.heap.size, 12, none⟩) (by simp) (.int .u8 x)).far (p := ⟨w.heap.size, 59, none⟩) (by simp) (.bool false)).setRow _) HS.out) rfl (.of ?_ (below_setRow ((HW1.out.setCell (p := ⟨w.heap.size, 12, none⟩) (by simp) (.int .u8 x)).setCell (p := ⟨w.heap.size, 59, none⟩) (by simp) (.bool false)) (by omega) _))
    rfl
set_option maxRecDepth 20000 in
set_option maxHeartbeats 2000000 in
theorem write_13 (b : Bd) (hb : b.OkR) (hon : b.on = true) (x : Int) (hx0 : 0 ≤ x) (hx1 : x ≤ 255) (w : World) : Calls Try.prog 10 #[.agg (enc b), .int .i64 13, .int .u8 x] w (Ret (.agg (enc (lowB b 13 x))) w) := by
  have HO := hid_ hb
  have HN := hid_ hon
  have HZ := hid_ (enc_size zeroB rfl)
  have HC := hid_ (put_okR hb 13 x hx0 hx1)
  have e1 := and128 x hx0 hx1
  clear hb hon
  by_cases hv : b.v2.on = true
  · have HV := hid_ hv
    have HQ : Hid (lowB b 13 x = { putB b 13 x with v2 := { (putB b 13 x).v2 with on := readyB (putB b 13 x) 2 } }) := by
      show { putB b 13 x with v2 := { b.v2 with on := b.v2.on && readyB (putB b 13 x) 2 } } = _
      rw [hv]; rfl
    rw [HQ.out]
    go_enter Try.func10, Try.ntmps10
    go_wp2_with ((with_reducible refine wpList_alloc29 (op := ⟨some 6, .alloc 29, _, _, _, _⟩) rfl rfl b w rfl ?_); intro w1 HB1 HB2 HW1 hg1; (have c48 := HB1.out.a48 HO.out.regs; rw [HN.out] at c48; have cn := HB1.out.ar HO.out.regs 13 (by omega); have fn := HB1.out.frozen 13; have hg0 := HB1.out.lt; have cv := HB1.out.a59 HO.out.regs; rw [HV.out] at cv; have fv := HB1.out.frozen 59))
    have HBc : Hid (Blk (w1.setCell ⟨w.heap.size, 13, none⟩ (.int .u8 x)) w.heap.size 29 (enc (putB b 13 x))) := HB1.out.sr HO.out.regs 13 (by omega) x
    have HZc : Hid (Blk (w1.setCell ⟨w.heap.size, 13, none⟩ (.int .u8 x)) (w.heap.size + 1) 29 (enc zeroB)) := HB2.out.far (by simp) _
    have HWc : Hid (Below w.heap.size w (w1.setCell ⟨w.heap.size, 13, none⟩ (.int .u8 x))) := HW1.out.setCell (by simp) _
    clear cv fv c48 cn fn hg0 HB1 HB2 HW1
    generalize w1.setCell ⟨w.heap.size, 13, none⟩ (.int .u8 x) = w2 at *
    refine (ready_any (putB b 13 x) HC.out w.heap.size 2 (by omega) _ HBc.out).mono ?_
    rintro e w3 ⟨rfl, rfl⟩
    have cv := HBc.out.a59 HC.out.regs
    have fv := HBc.out.frozen 59
    have hg0 := HBc.out.lt
    have HS : Hid ((enc { putB b 13 x with v2 := { (putB b 13 x).v2 with on := readyB (putB b 13 x) 2 } }).size = 70) := enc_size _ HC.out.regs
    have H1 := hid_ (enc_one { putB b 13 x with v2 := { (putB b 13 x).v2 with on := readyB (putB b 13 x) 2 } })
    clear HQ
    generalize readyB (putB b 13 x) 2 = rd at *
    go_wp2_with (first
        | (with_reducible refine wpList_load29 (op := ⟨some 78, _, _, _, _, _⟩) rfl (.tmp 3) rfl w.heap.size (by with_unfolding_all rfl) (enc { putB b 13 x with v2 := { (putB b 13 x).v2 with on := rd } }) (HBc.out.s59 HC.out.regs rd) HS.out ?_)
        | (with_reducible refine wpList_store29 (op := ⟨none, .store 29 (.tmp 6) (.tmp 78), _, _, _, _⟩) rfl (.tmp 6) (.tmp 78) rfl (w.heap.size + 1) (enc zeroB) (enc { putB b 13 x with v2 := { (putB b 13 x).v2 with on := rd } }) (by with_unfolding_all rfl) (by with_unfolding_all rfl) (HZc.out.far (p := ⟨w.heap.size, 59, none⟩) (by simp) (.bool rd)) HZ.out HS.out H1.out ?_))
    refine bodyPost_ret (v := .agg (enc { putB b 13 x with v2 := { (putB b 13 x).v2 with on := rd } })) (results_board Try.results10 rfl ((HZc.out.far (p := ⟨w.heap.size, 59, none⟩) (by simp) (.bool rd)).setRow _) HS.out) rfl (.of ?_ (below_setRow (HWc.out.setCell (p := ⟨w.heap.size, 59, none⟩) (by simp) (.bool rd)) (by omega) _))
    rfl
  · have hv' : b.v2.on = false := by simpa using hv
    have HV := hid_ hv'
    have HQ : Hid (lowB b 13 x = { putB b 13 x with v2 := { (putB b 13 x).v2 with on := false } }) := by
      show { putB b 13 x with v2 := { b.v2 with on := b.v2.on && readyB (putB b 13 x) 2 } } = _
      rw [hv']; rfl
    clear hv hv'
    rw [HQ.out]
    have HS : Hid ((enc { putB b 13 x with v2 := { (putB b 13 x).v2 with on := false } }).size = 70) := enc_size _ HC.out.regs
    have H1 := hid_ (enc_one { putB b 13 x with v2 := { (putB b 13 x).v2 with on := false } })
    go_enter Try.func10, Try.ntmps10
    go_wp2_with (first
        | (with_reducible refine wpList_alloc29 (op := ⟨some 6, .alloc 29, _, _, _, _⟩) rfl rfl b w rfl ?_; intro w1 HB1 HB2 HW1 hg1; (have c48 := HB1.out.a48 HO.out.regs; rw [HN.out] at c48; have cn := HB1.out.ar HO.out.regs 13 (by omega); have fn := HB1.out.frozen 13; have hg0 := HB1.out.lt; have cv := HB1.out.a59 HO.out.regs; rw [HV.out] at cv; have fv := HB1.out.frozen 59))
        | (with_reducible refine wpList_load29 (op := ⟨some 78, _, _, _, _, _⟩) rfl (.tmp 3) rfl w.heap.size (by with_unfolding_all rfl) (enc { putB b 13 x with v2 := { (putB b 13 x).v2 with on := false } }) ((HB1.out.sr HO.out.regs 13 (by omega) x).s59 HC.out.regs false) HS.out ?_)
        | (with_reducible refine wpList_store29 (op := ⟨none, .store 29 (.tmp 6) (.tmp 78), _, _, _, _⟩) rfl (.tmp 6) (.tmp 78) rfl (w.heap.size + 1) (enc zeroB) (enc { putB b 13 x with v2 := { (putB b 13 x).v2 with on := false } }) (by with_unfolding_all rfl) (by with_unfolding_all rfl) ((HB2.out.far (p := ⟨w.heap.size, 13, none⟩) (by simp) (.int .u8 x)).far (p := ⟨w.heap.size, 59, none⟩) (by simp) (.bool false)) HZ.out HS.out H1.out ?_))
    refine bodyPost_ret (v := .agg (enc { putB b 13 x with v2 := { (putB b 13 x).v2 with on := false } })) (results_board Try.results10 rfl (((HB2.out.far (p := ⟨w.heap.size, 13, none⟩) (by simp) (.int .u8 x)).far (p := ⟨w.heap.size, 59, none⟩) (by simp) (.bool false)).setRow _) HS.out) rfl (.of ?_ (below_setRow ((HW1.out.setCell (p := ⟨w.heap.size, 13, none⟩) (by simp) (.int .u8 x)).setCell (p := ⟨w.heap.size, 59, none⟩) (by simp) (.bool false)) (by omega) _))
    rfl
set_option maxRecDepth 20000 in
set_option maxHeartbeats 2000000 in
theorem write_14 (b : Bd) (hb : b.OkR) (hon : b.on = true) (x : Int) (hx0 : 0 ≤ x) (hx1 : x ≤ 255) (w : World) : Calls Try.prog 10 #[.agg (enc b), .int .i64 14, .int .u8 x] w (Ret (.agg (enc (lowB b 14 x))) w) := by
  have HO := hid_ hb
  have HN := hid_ hon
  have HZ := hid_ (enc_size zeroB rfl)
  have HC := hid_ (put_okR hb 14 x hx0 hx1)
  have e1 := and128 x hx0 hx1
  clear hb hon
  by_cases h128 : 128 ≤ x
  · have HQ : Hid (lowB b 14 x = beginB (putB b 14 x) 2) := by unfold lowB; rw [if_neg (by decide), if_pos (by decide), if_pos h128]; exact hid_ rfl
    have e2 : decide (128 ≤ x) = true := by simp [h128]
    rw [HQ.out]
    go_enter Try.func10, Try.ntmps10
    go_wp2_with ((with_reducible refine wpList_alloc29 (op := ⟨some 6, .alloc 29, _, _, _, _⟩) rfl rfl b w rfl ?_); intro w1 HB1 HB2 HW1 hg1; (have c48 := HB1.out.a48 HO.out.regs; rw [HN.out] at c48; have cn := HB1.out.ar HO.out.regs 14 (by omega); have fn := HB1.out.frozen 14; have hg0 := HB1.out.lt))
    have HBc : Hid (Blk (w1.setCell ⟨w.heap.size, 14, none⟩ (.int .u8 x)) w.heap.size 29 (enc (putB b 14 x))) := HB1.out.sr HO.out.regs 14 (by omega) x
    have HZc : Hid (Blk (w1.setCell ⟨w.heap.size, 14, none⟩ (.int .u8 x)) (w.heap.size + 1) 29 (enc zeroB)) := HB2.out.far (by simp) _
    have HWc : Hid (Below w.heap.size w (w1.setCell ⟨w.heap.size, 14, none⟩ (.int .u8 x))) := HW1.out.setCell (by simp) _
    clear c48 cn fn hg0 HB1 HB2 HW1
    generalize w1.setCell ⟨w.heap.size, 14, none⟩ (.int .u8 x) = w2 at *
    refine (begin_2 (putB b 14 x) HC.out w.heap.size _ HBc.out).mono ?_
    rintro e w3 ⟨rfl, hB3, hO3⟩
    have HBd := hid_ hB3
    have HZd := hid_ (hO3.blk (by omega) HZc.out)
    have HWd := hid_ (hO3.below HWc.out (Nat.le_refl _) (Nat.le_of_lt HBc.out.lt))
    have hrr : (beginB (putB b 14 x) 2).regs = (putB b 14 x).regs := begin_regs _ _
    have HRR := hid_ hrr
    clear hB3 hO3 hrr
    have HS : Hid ((enc (beginB (putB b 14 x) 2)).size = 70) := enc_size _ (by rw [HRR.out]; exact HC.out.regs)
    have H1 := hid_ (enc_one (beginB (putB b 14 x) 2))
    go_wp2_with (first
        | (with_reducible refine wpList_load29 (op := ⟨some 78, _, _, _, _, _⟩) rfl (.tmp 3) rfl w.heap.size (by with_unfolding_all rfl) (enc (beginB (putB b 14 x) 2)) HBd.out HS.out ?_)
        | (with_reducible refine wpList_store29 (op := ⟨none, .store 29 (.tmp 6) (.tmp 78), _, _, _, _⟩) rfl (.tmp 6) (.tmp 78) rfl (w.heap.size + 1) (enc zeroB) (enc (beginB (putB b 14 x) 2)) (by with_unfolding_all rfl) (by with_unfolding_all rfl) HZd.out HZ.out HS.out H1.out ?_))
    refine bodyPost_ret (v := .agg (enc (beginB (putB b 14 x) 2))) (results_board Try.results10 rfl (HZd.out.setRow _) HS.out) rfl (.of ?_ (below_setRow HWd.out (by omega) _))
    rfl
  · have HQ : Hid (lowB b 14 x = putB b 14 x) := by unfold lowB; rw [if_neg (by decide), if_pos (by decide), if_neg h128]; exact hid_ rfl
    have e2 : decide (128 ≤ x) = false := by simp; omega
    rw [HQ.out]
    have HS : Hid ((enc (putB b 14 x)).size = 70) := enc_size _ HC.out.regs
    have H1 := hid_ (enc_one (putB b 14 x))
    go_enter Try.func10, Try.ntmps10
    go_wp2_with (first
        | (with_reducible refine wpList_alloc29 (op := ⟨some 6, .alloc 29, _, _, _, _⟩) rfl rfl b w rfl ?_; intro w1 HB1 HB2 HW1 hg1; (have c48 := HB1.out.a48 HO.out.regs; rw [HN.out] at c48; have cn := HB1.out.ar HO.out.regs 14 (by omega); have fn := HB1.out.frozen 14; have hg0 := HB1.out.lt))
        | (with_reducible refine wpList_load29 (op := ⟨some 78, _, _, _, _, _⟩) rfl (.tmp 3) rfl w.heap.size (by with_unfolding_all rfl) (enc (putB b 14 x)) (HB1.out.sr HO.out.regs 14 (by omega) x) HS.out ?_)
        | (with_reducible refine wpList_store29 (op := ⟨none, .store 29 (.tmp 6) (.tmp 78), _, _, _, _⟩) rfl (.tmp 6) (.tmp 78) rfl (w.heap.size + 1) (enc zeroB) (enc (putB b 14 x)) (by with_unfolding_all rfl) (by with_unfolding_all rfl) (HB2.out.far (p := ⟨w.heap.size, 14, none⟩) (by simp) (.int .u8 x)) HZ.out HS.out H1.out ?_))
    refine bodyPost_ret (v := .agg (enc (putB b 14 x))) (results_board Try.results10 rfl ((HB2.out.far (p := ⟨w.heap.size, 14, none⟩) (by simp) (.int .u8 x)).setRow _) HS.out) rfl (.of ?_ (below_setRow (HW1.out.setCell (p := ⟨w.heap.size, 14, none⟩) (by simp) (.int .u8 x)) (by omega) _))
    rfl
set_option maxRecDepth 20000 in
set_option maxHeartbeats 2000000 in
theorem write_15 (b : Bd) (hb : b.OkR) (hon : b.on = true) (x : Int) (hx0 : 0 ≤ x) (hx1 : x ≤ 255) (w : World) : Calls Try.prog 10 #[.agg (enc b), .int .i64 15, .int .u8 x] w (Ret (.agg (enc (lowB b 15 x))) w) := by
  have HO := hid_ hb
  have HN := hid_ hon
  have HZ := hid_ (enc_size zeroB rfl)
  have HC := hid_ (put_okR hb 15 x hx0 hx1)
  have e1 := and128 x hx0 hx1
  clear hb hon
  by_cases hv : b.v3.on = true
  · have HV := hid_ hv
    have HQ : Hid (lowB b 15 x = { putB b 15 x with v3 := { (putB b 15 x).v3 with on := readyB (putB b 15 x) 3 } }) := by
      show { putB b 15 x with v3 := { b.v3 with on := b.v3.on && readyB (putB b 15 x) 3 } } = _
      rw [hv]; rfl
    rw [HQ.out]
    go_enter Try.func10, Try.ntmps10
    go_wp2_with ((with_reducible refine wpList_alloc29 (op := ⟨some 6, .alloc 29, _, _, _, _⟩) rfl rfl b w rfl ?_); intro w1 HB1 HB2 HW1 hg1; (have c48 := HB1.out.a48 HO.out.regs; rw [HN.out] at c48; have cn := HB1.out.ar HO.out.regs 15 (by omega); have fn := HB1.out.frozen 15; have hg0 := HB1.out.lt; have cv := HB1.out.a63 HO.out.regs; rw [HV.out] at cv; have fv := HB1.out.frozen 63))
    have HBc : Hid (Blk (w1.setCell ⟨w.heap.size, 15, none⟩ (.int .u8 x)) w.heap.size 29 (enc (putB b 15 x))) := HB1.out.sr HO.out.regs 15 (by omega) x
    have HZc : Hid (Blk (w1.setCell ⟨w.heap.size, 15, none⟩ (.int .u8 x)) (w.heap.size + 1) 29 (enc zeroB)) := HB2.out.far (by simp) _
    have HWc : Hid (Below w.heap.size w (w1.setCell ⟨w.heap.size, 15, none⟩ (.int .u8 x))) := HW1.out.setCell (by simp) _
    clear cv fv c48 cn fn hg0 HB1 HB2 HW1
    generalize w1.setCell ⟨w.heap.size, 15, none⟩ (.int .u8 x) = w2 at *
    refine (ready_any (putB b 15 x) HC.out w.heap.size 3 (by omega) _ HBc.out).mono ?_
    rintro e w3 ⟨rfl, rfl⟩
    have cv := HBc.out.a63 HC.out.regs
    have fv := HBc.out.frozen 63
    have hg0 := HBc.out.lt
    have HS : Hid ((enc { putB b 15 x with v3 := { (putB b 15 x).v3 with on := readyB (putB b 15 x) 3 } }).size = 70) := enc_size _ HC.out.regs
    have H1 := hid_ (enc_one { putB b 15 x with v3 := { (putB b 15 x).v3 with on := readyB (putB b 15 x) 3 } })
    clear HQ
    generalize readyB (putB b 15 x) 3 = rd at *
    go_wp2_with (first
        | (with_reducible refine wpList_load29 (op := ⟨some 78, _, _, _, _, _⟩) rfl (.tmp 3) rfl w.heap.size (by with_unfolding_all rfl) (enc { putB b 15 x with v3 := { (putB b 15 x).v3 with on := rd } }) (HBc.out.s63 HC.out.regs rd) HS.out ?_)
        | (with_reducible refine wpList_store29 (op := ⟨none, .store 29 (.tmp 6) (.tmp 78), _, _, _, _⟩) rfl (.tmp 6) (.tmp 78) rfl (w.heap.size + 1) (enc zeroB) (enc { putB b 15 x with v3 := { (putB b 15 x).v3 with on := rd } }) (by with_unfolding_all rfl) (by with_unfolding_all rfl) (HZc.out.far (p := ⟨w.heap.size, 63, none⟩) (by simp) (.bool rd)) HZ.out HS.out H1.out ?_))
    refine bodyPost_ret (v := .agg (enc { putB b 15 x with v3 := { (putB b 15 x).v3 with on := rd } })) (results_board Try.results10 rfl ((HZc.out.far (p := ⟨w.heap.size, 63, none⟩) (by simp) (.bool rd)).setRow _) HS.out) rfl (.of ?_ (below_setRow (HWc.out.setCell (p := ⟨w.heap.size, 63, none⟩) (by simp) (.bool rd)) (by omega) _))
    rfl
  · have hv' : b.v3.on = false := by simpa using hv
    have HV := hid_ hv'
    have HQ : Hid (lowB b 15 x = { putB b 15 x with v3 := { (putB b 15 x).v3 with on := false } }) := by
      show { putB b 15 x with v3 := { b.v3 with on := b.v3.on && readyB (putB b 15 x) 3 } } = _
      rw [hv']; rfl
    clear hv hv'
    rw [HQ.out]
    have HS : Hid ((enc { putB b 15 x with v3 := { (putB b 15 x).v3 with on := false } }).size = 70) := enc_size _ HC.out.regs
    have H1 := hid_ (enc_one { putB b 15 x with v3 := { (putB b 15 x).v3 with on := false } })
    go_enter Try.func10, Try.ntmps10
    go_wp2_with (first
        | (with_reducible refine wpList_alloc29 (op := ⟨some 6, .alloc 29, _, _, _, _⟩) rfl rfl b w rfl ?_; intro w1 HB1 HB2 HW1 hg1; (have c48 := HB1.out.a48 HO.out.regs; rw [HN.out] at c48; have cn := HB1.out.ar HO.out.regs 15 (by omega); have fn := HB1.out.frozen 15; have hg0 := HB1.out.lt; have cv := HB1.out.a63 HO.out.regs; rw [HV.out] at cv; have fv := HB1.out.frozen 63))
        | (with_reducible refine wpList_load29 (op := ⟨some 78, _, _, _, _, _⟩) rfl (.tmp 3) rfl w.heap.size (by with_unfolding_all rfl) (enc { putB b 15 x with v3 := { (putB b 15 x).v3 with on := false } }) ((HB1.out.sr HO.out.regs 15 (by omega) x).s63 HC.out.regs false) HS.out ?_)
        | (with_reducible refine wpList_store29 (op := ⟨none, .store 29 (.tmp 6) (.tmp 78), _, _, _, _⟩) rfl (.tmp 6) (.tmp 78) rfl (w.heap.size + 1) (enc zeroB) (enc { putB b 15 x with v3 := { (putB b 15 x).v3 with on := false } }) (by with_unfolding_all rfl) (by with_unfolding_all rfl) ((HB2.out.far (p := ⟨w.heap.size, 15, none⟩) (by simp) (.int .u8 x)).far (p := ⟨w.heap.size, 63, none⟩) (by simp) (.bool false)) HZ.out HS.out H1.out ?_))
    refine bodyPost_ret (v := .agg (enc { putB b 15 x with v3 := { (putB b 15 x).v3 with on := false } })) (results_board Try.results10 rfl (((HB2.out.far (p := ⟨w.heap.size, 15, none⟩) (by simp) (.int .u8 x)).far (p := ⟨w.heap.size, 63, none⟩) (by simp) (.bool false)).setRow _) HS.out) rfl (.of ?_ (below_setRow ((HW1.out.setCell (p := ⟨w.heap.size, 15, none⟩) (by simp) (.int .u8 x)).setCell (p := ⟨w.heap.size, 63, none⟩) (by simp) (.bool false)) (by omega) _))
    rfl
set_option maxRecDepth 20000 in
set_option maxHeartbeats 2000000 in
theorem write_16 (b : Bd) (hb : b.OkR) (hon : b.on = true) (x : Int) (hx0 : 0 ≤ x) (hx1 : x ≤ 255) (w : World) : Calls Try.prog 10 #[.agg (enc b), .int .i64 16, .int .u8 x] w (Ret (.agg (enc (lowB b 16 x))) w) := by
  have HO := hid_ hb
  have HN := hid_ hon
  have HZ := hid_ (enc_size zeroB rfl)
  have HC := hid_ (put_okR hb 16 x hx0 hx1)
  have e1 := and128 x hx0 hx1
  clear hb hon
  go_enter Try.func10, Try.ntmps10
  go_wp2_with ((with_reducible refine wpList_alloc29 (op := ⟨some 6, .alloc 29, _, _, _, _⟩) rfl rfl b w rfl ?_); intro w1 HB1 HB2 HW1 hg1; (have c48 := HB1.out.a48 HO.out.regs; rw [HN.out] at c48; have cn := HB1.out.ar HO.out.regs 16 (by omega); have fn := HB1.out.frozen 16; have hg0 := HB1.out.lt))
  have HBc : Hid (Blk (w1.setCell ⟨w.heap.size, 16, none⟩ (.int .u8 x)) w.heap.size 29 (enc (putB b 16 x))) := HB1.out.sr HO.out.regs 16 (by omega) x
  have HZc : Hid (Blk (w1.setCell ⟨w.heap.size, 16, none⟩ (.int .u8 x)) (w.heap.size + 1) 29 (enc zeroB)) := HB2.out.far (by simp) _
  have HWc : Hid (Below w.heap.size w (w1.setCell ⟨w.heap.size, 16, none⟩ (.int .u8 x))) := HW1.out.setCell (by simp) _
  clear c48 cn fn hg0 HB1 HB2 HW1
  generalize w1.setCell ⟨w.heap.size, 16, none⟩ (.int .u8 x) = w2 at *
  refine (longest_any 3 (by omega) _).mono ?_
  rintro e w3 ⟨rfl, rfl⟩
  rw [show longestB 3 = 64 from rfl]
  have c64 := HBc.out.a64 HC.out.regs
  have f64 := HBc.out.frozen 64
  have hg0 := HBc.out.lt
  have ew : wrap64 x = x := wrap_small x hx0 (by omega)
  go_wp2_with fail
  refine (longest_any 3 (by omega) _).mono ?_
  rintro e w3 ⟨rfl, rfl⟩
  rw [show longestB 3 = 64 from rfl]
  have HS : Hid ((enc { putB b 16 x with v3 := { (putB b 16 x).v3 with len := 64 - x % 64 } }).size = 70) := enc_size _ HC.out.regs
  have H1 := hid_ (enc_one { putB b 16 x with v3 := { (putB b 16 x).v3 with len := 64 - x % 64 } })
  go_wp2_with (first
      | (with_reducible refine wpList_load29 (op := ⟨some 78, _, _, _, _, _⟩) rfl (.tmp 3) rfl w.heap.size (by with_unfolding_all rfl) (enc { putB b 16 x with v3 := { (putB b 16 x).v3 with len := 64 - x % 64 } }) (HBc.out.s64 HC.out.regs (64 - x % 64)) HS.out ?_)
      | (with_reducible refine wpList_store29 (op := ⟨none, .store 29 (.tmp 6) (.tmp 78), _, _, _, _⟩) rfl (.tmp 6) (.tmp 78) rfl (w.heap.size + 1) (enc zeroB) (enc { putB b 16 x with v3 := { (putB b 16 x).v3 with len := 64 - x % 64 } }) (by with_unfolding_all rfl) (by with_unfolding_all rfl) (HZc.out.far (p := ⟨w.heap.size, 64, none⟩) (by simp) (.int .i64 (64 - x % 64))) HZ.out HS.out H1.out ?_))
  refine bodyPost_ret (v := .agg (enc { putB b 16 x with v3 := { (putB b 16 x).v3 with len := 64 - x % 64 } })) (results_board Try.results10 rfl ((HZc.out.far (p := ⟨w.heap.size, 64, none⟩) (by simp) (.int .i64 (64 - x % 64))).setRow _) HS.out) rfl (.of ?_ (below_setRow (HWc.out.setCell (p := ⟨w.heap.size, 64, none⟩) (by simp) (.int .i64 (64 - x % 64))) (by omega) _))
  rfl
set_option maxRecDepth 20000 in
set_option maxHeartbeats 2000000 in
theorem write_17 (b : Bd) (hb : b.OkR) (hon : b.on = true) (x : Int) (hx0 : 0 ≤ x) (hx1 : x ≤ 255) (w : World) : Calls Try.prog 10 #[.agg (enc b), .int .i64 17, .int .u8 x] w (Ret (.agg (enc (lowB b 17 x))) w) := by
  have HO := hid_ hb
  have HN := hid_ hon
  have HZ := hid_ (enc_size zeroB rfl)
  have HC := hid_ (put_okR hb 17 x hx0 hx1)
  have e1 := and128 x hx0 hx1
  clear hb hon
  by_cases hv : b.v3.on = true
  · have HV := hid_ hv
    have HQ : Hid (lowB b 17 x = { putB b 17 x with v3 := { (putB b 17 x).v3 with on := readyB (putB b 17 x) 3 } }) := by
      show { putB b 17 x with v3 := { b.v3 with on := b.v3.on && readyB (putB b 17 x) 3 } } = _
      rw [hv]; rfl
    rw [HQ.out]
    go_enter Try.func10, Try.ntmps10
    go_wp2_with ((with_reducible refine wpList_alloc29 (op := ⟨some 6, .alloc 29, _, _, _, _⟩) rfl rfl b w rfl ?_); intro w1 HB1 HB2 HW1 hg1; (have c48 := HB1.out.a48 HO.out.regs; rw [HN.out] at c48; have cn := HB1.out.ar HO.out.regs 17 (by omega); have fn := HB1.out.frozen 17; have hg0 := HB1.out.lt; have cv := HB1.out.a63 HO.out.regs; rw [HV.out] at cv; have fv := HB1.out.frozen 63))
    have HBc : Hid (Blk (w1.setCell ⟨w.heap.size, 17, none⟩ (.int .u8 x)) w.heap.size 29 (enc (putB b 17 x))) := HB1.out.sr HO.out.regs 17 (by omega) x
    have HZc : Hid (Blk (w1.setCell ⟨w.heap.size, 17, none⟩ (.int .u8 x)) (w.heap.size + 1) 29 (enc zeroB)) := HB2.out.far (by simp) _
    have HWc : Hid (Below w.heap.size w (w1.setCell ⟨w.heap.size, 17, none⟩ (.int .u8 x))) := HW1.out.setCell (by simp) _
    clear cv fv c48 cn fn hg0 HB1 HB2 HW1
    generalize w1.setCell ⟨w.heap.size, 17, none⟩ (.int .u8 x) = w2 at *
    refine (ready_any (putB b 17 x) HC.out w.heap.size 3 (by omega) _ HBc.out).mono ?_
    rintro e w3 ⟨rfl, rfl⟩
    have cv := HBc.out.a63 HC.out.regs
    have fv := HBc.out.frozen 63
    have hg0 := HBc.out.lt
    have HS : Hid ((enc { putB b 17 x with v3 := { (putB b 17 x).v3 with on := readyB (putB b 17 x) 3 } }).size = 70) := enc_size _ HC.out.regs
    have H1 := hid_ (enc_one { putB b 17 x with v3 := { (putB b 17 x).v3 with on := readyB (putB b 17 x) 3 } })
    clear HQ
    generalize readyB (putB b 17 x) 3 = rd at *
    go_wp2_with (first
        | (with_reducible refine wpList_load29 (op := ⟨some 78, _, _, _, _, _⟩) rfl (.tmp 3) rfl w.heap.size (by with_unfolding_all rfl) (enc { putB b 17 x with v3 := { (putB b 17 x).v3 with on := rd } }) (HBc.out.s63 HC.out.regs rd) HS.out ?_)
        | (with_reducible refine wpList_store29 (op := ⟨none, .store 29 (.tmp 6) (.tmp 78), _, _, _, _⟩) rfl (.tmp 6) (.tmp 78) rfl (w.heap.size + 1) (enc zeroB) (enc { putB b 17 x with v3 := { (putB b 17 x).v3 with on := rd } }) (by with_unfolding_all rfl) (by with_unfolding_all rfl) (HZc.out.far (p := ⟨w.heap.size, 63, none⟩) (by simp) (.bool rd)) HZ.out HS.out H1.out ?_))
    refine bodyPost_ret (v := .agg (enc { putB b 17 x with v3 := { (putB b 17 x).v3 with on := rd } })) (results_board Try.results10 rfl ((HZc.out.far (p := ⟨w.heap.size, 63, none⟩) (by simp) (.bool rd)).setRow _) HS.out) rfl (.of ?_ (below_setRow (HWc.out.setCell (p := ⟨w.heap.size, 63, none⟩) (by simp) (.bool rd)) (by omega) _))
    rfl
  · have hv' : b.v3.on = false := by simpa using hv
    have HV := hid_ hv'
    have HQ : Hid (lowB b 17 x = { putB b 17 x with v3 := { (putB b 17 x).v3 with on := false } }) := by
      show { putB b 17 x with v3 := { b.v3 with on := b.v3.on && readyB (putB b 17 x) 3 } } = _
      rw [hv']; rfl
    clear hv hv'
    rw [HQ.out]
    have HS : Hid ((enc { putB b 17 x with v3 := { (putB b 17 x).v3 with on := false } }).size = 70) := enc_size _ HC.out.regs
    have H1 := hid_ (enc_one { putB b 17 x with v3 := { (putB b 17 x).v3 with on := false } })
    go_enter Try.func10, Try.ntmps10
    go_wp2_with (first
        | (with_reducible refine wpList_alloc29 (op := ⟨some 6, .alloc 29, _, _, _, _⟩) rfl rfl b w rfl ?_; intro w1 HB1 HB2 HW1 hg1; (have c48 := HB1.out.a48 HO.out.regs; rw [HN.out] at c48; have cn := HB1.out.ar HO.out.regs 17 (by omega); have fn := HB1.out.frozen 17; have hg0 := HB1.out.lt; have cv := HB1.out.a63 HO.out.regs; rw [HV.out] at cv; have fv := HB1.out.frozen 63))
        | (with_reducible refine wpList_load29 (op := ⟨some 78, _, _, _, _, _⟩) rfl (.tmp 3) rfl w.heap.size (by with_unfolding_all rfl) (enc { putB b 17 x with v3 := { (putB b 17 x).v3 with on := false } }) ((HB1.out.sr HO.out.regs 17 (by omega) x).s63 HC.out.regs false) HS.out ?_)
        | (with_reducible refine wpList_store29 (op := ⟨none, .store 29 (.tmp 6) (.tmp 78), _, _, _, _⟩) rfl (.tmp 6) (.tmp 78) rfl (w.heap.size + 1) (enc zeroB) (enc { putB b 17 x with v3 := { (putB b 17 x).v3 with on := false } }) (by with_unfolding_all rfl) (by with_unfolding_all rfl) ((HB2.out.far (p := ⟨w.heap.size, 17, none⟩) (by simp) (.int .u8 x)).far (p := ⟨w.heap.size, 63, none⟩) (by simp) (.bool false)) HZ.out HS.out H1.out ?_))
    refine bodyPost_ret (v := .agg (enc { putB b 17 x with v3 := { (putB b 17 x).v3 with on := false } })) (results_board Try.results10 rfl (((HB2.out.far (p := ⟨w.heap.size, 17, none⟩) (by simp) (.int .u8 x)).far (p := ⟨w.heap.size, 63, none⟩) (by simp) (.bool false)).setRow _) HS.out) rfl (.of ?_ (below_setRow ((HW1.out.setCell (p := ⟨w.heap.size, 17, none⟩) (by simp) (.int .u8 x)).setCell (p := ⟨w.heap.size, 63, none⟩) (by simp) (.bool false)) (by omega) _))
    rfl
set_option maxRecDepth 20000 in
set_option maxHeartbeats 2000000 in
theorem write_18 (b : Bd) (hb : b.OkR) (hon : b.on = true) (x : Int) (hx0 : 0 ≤ x) (hx1 : x ≤ 255) (w : World) : Calls Try.prog 10 #[.agg (enc b), .int .i64 18, .int .u8 x] w (Ret (.agg (enc (lowB b 18 x))) w) := by
  have HO := hid_ hb
  have HN := hid_ hon
  have HZ := hid_ (enc_size zeroB rfl)
  have HC := hid_ (put_okR hb 18 x hx0 hx1)
  have e1 := and128 x hx0 hx1
  clear hb hon
  by_cases hv : b.v3.on = true
  · have HV := hid_ hv
    have HQ : Hid (lowB b 18 x = { putB b 18 x with v3 := { (putB b 18 x).v3 with on := readyB (putB b 18 x) 3 } }) := by
      show { putB b 18 x with v3 := { b.v3 with on := b.v3.on && readyB (putB b 18 x) 3 } } = _
      rw [hv]; rfl
    rw [HQ.out]
    go_enter Try.func10, Try.ntmps10
    go_wp2_with ((with_reducible refine wpList_alloc29 (op := ⟨some 6, .alloc 29, _, _, _, _⟩) rfl rfl b w rfl ?_); intro w1 HB1 HB2 HW1 hg1; (have c48 := HB1.out.a48 HO.out.regs; rw [HN.out] at c48; have cn := HB1.out.ar HO.out.regs 18 (by omega); have fn := HB1.out.frozen 18; have hg0 := HB1.out.lt; have cv := HB1.out.a63 HO.out.regs; rw [HV.out] at cv; have fv := HB1.out.frozen 63))
    have HBc : Hid (Blk (w1.setCell ⟨w.heap.size, 18, none⟩ (.int .u8 x)) w.heap.size 29 (enc (putB b 18 x))) := HB1.out.sr HO.out.regs 18 (by omega) x
    have HZc : Hid (Blk (w1.setCell ⟨w.heap.size, 18, none⟩ (.int .u8 x)) (w.heap.size + 1) 29 (enc zeroB)) := HB2.out.far (by simp) _
    have HWc : Hid (Below w.heap.size w (w1.setCell ⟨w.heap.size, 18, none⟩ (.int .u8 x))) := HW1.out.setCell (by simp) _
    clear cv fv c48 cn fn hg0 HB1 HB2 HW1
    generalize w1.setCell ⟨w.heap.size, 18, none⟩ (.int .u8 x) = w2 at *
    refine (ready_any (putB b 18 x) HC.out w.heap.size 3 (by omega) _ HBc.out).mono ?_
    rintro e w3 ⟨rfl, rfl⟩
    have cv := HBc.out.a63 HC.out.regs
    have fv := HBc.out.frozen 63
    have hg0 := HBc.out.lt
    have HS : Hid ((enc { putB b 18 x with v3 := { (putB b 18 x).v3 with on := readyB (putB b 18 x) 3 } }).size = 70) := enc_size _ HC.out.regs
    have H1 := hid_ (enc_one { putB b 18 x with v3 := { (putB b 18 x).v3 with on := readyB (putB b 18 x) 3 } })
    clear HQ
    generalize readyB (putB b 18 x) 3 = rd at *
    go_wp2_with (first
        | (with_reducible refine wpList_load29 (op := ⟨some 78, _, _, _, _, _⟩) rfl (.tmp 3) rfl w.heap.size (by with_unfolding_all rfl) (enc { putB b 18 x with v3 := { (putB b 18 x).v3 with on := rd } }) (HBc.out.s63 HC.out.regs rd) HS.out ?_)
        | (with_reducible refine wpList_store29 (op := ⟨none, .store 29 (.tmp 6) (.tmp 78), _, _, _, _⟩) rfl (.tmp 6) (.tmp 78) rfl (w.heap.size + 1) (enc zeroB) (enc { putB b 18 x with v3 := { (putB b 18 x).v3 with on := rd } }) (by with_unfolding_all rfl) (by with_unfolding_all rfl) (HZc.out.far (p := ⟨w.heap.size, 63, none⟩) (by simp) (.bool rd)) HZ.out HS.out H1.out ?_))
    refine bodyPost_ret (v := .agg (enc { putB b 18 x with v3 := { (putB b 18 x).v3 with on := rd } })) (results_board Try.results10 rfl ((HZc.out.far (p := ⟨w.heap.size, 63, none⟩) (by simp) (.bool rd)).setRow _) HS.out) rfl (.of ?_ (below_setRow (HWc.out.setCell (p := ⟨w.heap.size, 63, none⟩) (by simp) (.bool rd)) (by omega) _))
    rfl
  · have hv' : b.v3.on = false := by simpa using hv
    have HV := hid_ hv'
    have HQ : Hid (lowB b 18 x = { putB b 18 x with v3 := { (putB b 18 x).v3 with on := false } }) := by
      show { putB b 18 x with v3 := { b.v3 with on := b.v3.on && readyB (putB b 18 x) 3 } } = _
      rw [hv']; rfl
    clear hv hv'
    rw [HQ.out]
    have HS : Hid ((enc { putB b 18 x with v3 := { (putB b 18 x).v3 with on := false } }).size = 70) := enc_size _ HC.out.regs
    have H1 := hid_ (enc_one { putB b 18 x with v3 := { (putB b 18 x).v3 with on := false } })
    go_enter Try.func10, Try.ntmps10
    go_wp2_with (first
        | (with_reducible refine wpList_alloc29 (op := ⟨some 6, .alloc 29, _, _, _, _⟩) rfl rfl b w rfl ?_; intro w1 HB1 HB2 HW1 hg1; (have c48 := HB1.out.a48 HO.out.regs; rw [HN.out] at c48; have cn := HB1.out.ar HO.out.regs 18 (by omega); have fn := HB1.out.frozen 18; have hg0 := HB1.out.lt; have cv := HB1.out.a63 HO.out.regs; rw [HV.out] at cv; have fv := HB1.out.frozen 63))
        | (with_reducible refine wpList_load29 (op := ⟨some 78, _, _, _, _, _⟩) rfl (.tmp 3) rfl w.heap.size (by with_unfolding_all rfl) (enc { putB b 18 x with v3 := { (putB b 18 x).v3 with on := false } }) ((HB1.out.sr HO.out.regs 18 (by omega) x).s63 HC.out.regs false) HS.out ?_)
        | (with_reducible refine wpList_store29 (op := ⟨none, .store 29 (.tmp 6) (.tmp 78), _, _, _, _⟩) rfl (.tmp 6) (.tmp 78) rfl (w.heap.size + 1) (enc zeroB) (enc { putB b 18 x with v3 := { (putB b 18 x).v3 with on := false } }) (by with_unfolding_all rfl) (by with_unfolding_all rfl) ((HB2.out.far (p := ⟨w.heap.size, 18, none⟩) (by simp) (.int .u8 x)).far (p := ⟨w.heap.size, 63, none⟩) (by simp) (.bool false)) HZ.out HS.out H1.out ?_))
    refine bodyPost_ret (v := .agg (enc { putB b 18 x with v3 := { (putB b 18 x).v3 with on := false } })) (results_board Try.results10 rfl (((HB2.out.far (p := ⟨w.heap.size, 18, none⟩) (by simp) (.int .u8 x)).far (p := ⟨w.heap.size, 63, none⟩) (by simp) (.bool false)).setRow _) HS.out) rfl (.of ?_ (below_setRow ((HW1.out.setCell (p := ⟨w.heap.size, 18, none⟩) (by simp) (.int .u8 x)).setCell (p := ⟨w.heap.size, 63, none⟩) (by simp) (.bool false)) (by omega) _))
    rfl
set_option maxRecDepth 20000 in
set_option maxHeartbeats 2000000 in
theorem write_19 (b : Bd) (hb : b.OkR) (hon : b.on = true) (x : Int) (hx0 : 0 ≤ x) (hx1 : x ≤ 255) (w : World) : Calls Try.prog 10 #[.agg (enc b), .int .i64 19, .int .u8 x] w (Ret (.agg (enc (lowB b 19 x))) w) := by
  have HO := hid_ hb
  have HN := hid_ hon
  have HZ := hid_ (enc_size zeroB rfl)
  have HC := hid_ (put_okR hb 19 x hx0 hx1)
  have e1 := and128 x hx0 hx1
  clear hb hon
  by_cases h128 : 128 ≤ x
  · have HQ : Hid (lowB b 19 x = beginB (putB b 19 x) 3) := by unfold lowB; rw [if_neg (by decide), if_pos (by decide), if_pos h128]; exact hid_ rfl
    have e2 : decide (128 ≤ x) = true := by simp [h128]
    rw [HQ.out]
    go_enter Try.func10, Try.ntmps10
    go_wp2_with ((with_reducible refine wpList_alloc29 (op := ⟨some 6, .alloc 29, _, _, _, _⟩) rfl rfl b w rfl ?_); intro w1 HB1 HB2 HW1 hg1; (have c48 := HB1.out.a48 HO.out.regs; rw [HN.out] at c48; have cn := HB1.out.ar HO.out.regs 19 (by omega); have fn := HB1.out.frozen 19; have hg0 := HB1.out.lt))
    have HBc : Hid (Blk (w1.setCell ⟨w.heap.size, 19, none⟩ (.int .u8 x)) w.heap.size 29 (enc (putB b 19 x))) := HB1.out.sr HO.out.regs 19 (by omega) x
    have HZc : Hid (Blk (w1.setCell ⟨w.heap.size, 19, none⟩ (.int .u8 x)) (w.heap.size + 1) 29 (enc zeroB)) := HB2.out.far (by simp) _
    have HWc : Hid (Below w.heap.size w (w1.setCell ⟨w.heap.size, 19, none⟩ (.int .u8 x))) := HW1.out.setCell (by simp) _
    clear c48 cn fn hg0 HB1 HB2 HW1
    generalize w1.setCell ⟨w.heap.size, 19, none⟩ (.int .u8 x) = w2 at *
    refine (begin_3 (putB b 19 x) HC.out w.heap.size _ HBc.out).mono ?_
    rintro e w3 ⟨rfl, hB3, hO3⟩
    have HBd := hid_ hB3
    have HZd := hid_ (hO3.blk (by omega) HZc.out)
    have HWd := hid_ (hO3.below HWc.out (Nat.le_refl _) (Nat.le_of_lt HBc.out.lt))
    have hrr : (beginB (putB b 19 x) 3).regs = (putB b 19 x).regs := begin_regs _ _
    have HRR := hid_ hrr
    clear hB3 hO3 hrr
    have HS : Hid ((enc (beginB (putB b 19 x) 3)).size = 70) := enc_size _ (by rw [HRR.out]; exact HC.out.regs)
    have H1 := hid_ (enc_one (beginB (putB b 19 x) 3))
    go_wp2_with (first
        | (with_reducible refine wpList_load29 (op := ⟨some 78, _, _, _, _, _⟩) rfl (.tmp 3) rfl w.heap.size (by with_unfolding_all rfl) (enc (beginB (putB b 19 x) 3)) HBd.out HS.out ?_)
        | (with_reducible refine wpList_store29 (op := ⟨none, .store 29 (.tmp 6) (.tmp 78), _, _, _, _⟩) rfl (.tmp 6) (.tmp 78) rfl (w.heap.size + 1) (enc zeroB) (enc (beginB (putB b 19 x) 3)) (by with_unfolding_all rfl) (by with_unfolding_all rfl) HZd.out HZ.out HS.out H1.out ?_))
    refine bodyPost_ret (v := .agg (enc (beginB (putB b 19 x) 3))) (results_board Try.results10 rfl (HZd.out.setRow _) HS.out) rfl (.of ?_ (below_setRow HWd.out (by omega) _))
    rfl
  · have HQ : Hid (lowB b 19 x = putB b 19 x) := by unfold lowB; rw [if_neg (by decide), if_pos (by decide), if_neg h128]; exact hid_ rfl
    have e2 : decide (128 ≤ x) = false := by simp; omega
    rw [HQ.out]
    have HS : Hid ((enc (putB b 19 x)).size = 70) := enc_size _ HC.out.regs
    have H1 := hid_ (enc_one (putB b 19 x))
    go_enter Try.func10, Try.ntmps10
    go_wp2_with (first
        | (with_reducible refine wpList_alloc29 (op := ⟨some 6, .alloc 29, _, _, _, _⟩) rfl rfl b w rfl ?_; intro w1 HB1 HB2 HW1 hg1; (have c48 := HB1.out.a48 HO.out.regs; rw [HN.out] at c48; have cn := HB1.out.ar HO.out.regs 19 (by omega); have fn := HB1.out.frozen 19; have hg0 := HB1.out.lt))
        | (with_reducible refine wpList_load29 (op := ⟨some 78, _, _, _, _, _⟩) rfl (.tmp 3) rfl w.heap.size (by with_unfolding_all rfl) (enc (putB b 19 x)) (HB1.out.sr HO.out.regs 19 (by omega) x) HS.out ?_)
        | (with_reducible refine wpList_store29 (op := ⟨none, .store 29 (.tmp 6) (.tmp 78), _, _, _, _⟩) rfl (.tmp 6) (.tmp 78) rfl (w.heap.size + 1) (enc zeroB) (enc (putB b 19 x)) (by with_unfolding_all rfl) (by with_unfolding_all rfl) (HB2.out.far (p := ⟨w.heap.size, 19, none⟩) (by simp) (.int .u8 x)) HZ.out HS.out H1.out ?_))
    refine bodyPost_ret (v := .agg (enc (putB b 19 x))) (results_board Try.results10 rfl ((HB2.out.far (p := ⟨w.heap.size, 19, none⟩) (by simp) (.int .u8 x)).setRow _) HS.out) rfl (.of ?_ (below_setRow (HW1.out.setCell (p := ⟨w.heap.size, 19, none⟩) (by simp) (.int .u8 x)) (by omega) _))
    rfl
end Go.Proofs.Ytacbdapgdgliiaa
