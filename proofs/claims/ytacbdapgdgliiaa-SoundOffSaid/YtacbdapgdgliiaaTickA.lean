/- Contract of a board's tick. -/
import Derived.Test.YtacbdapgdgliiaaLev
import Derived.Test.YtacbdapgdgliiaaBegin
import Derived.Test.YtacbdapgdgliiaaLaw
namespace Go.Proofs.Ytacbdapgdgliiaa
open Go.RowKit
set_option linter.unusedSimpArgs false
set_option linter.unusedVariables false

def stepB (b : Bd) : Bd := if b.step = 2 ∨ b.step = 6 then slideB b else if b.step = 7 then levelsB b else b
def evenB (b : Bd) : Bd := if b.step % 2 = 0 then lengthsB b else b
def beatB (b : Bd) : Bd := { stepB (evenB { b with div := 0 }) with step := (b.step + 1) % 8 }
def tickB (b : Bd) : Bd := if b.on = false then b else if b.div + 1 < 2048 then { b with div := b.div + 1 } else beatB b

theorem vOk_len {v : Vc} {m r : Int} (h : vOk v m) : vOk (lenV r v) m := by
  unfold vOk lenV at *
  split
  · exact h
  · simp only; omega
theorem vOk_lev {v : Vc} {m r : Int} (h : vOk v m) : vOk (levV r v) m := by
  unfold vOk levV at *
  split
  · exact h
  · split
    · simp only; omega
    · refine ⟨h.1, h.2.1, ?_⟩
      simp only
      split <;> split <;> omega
theorem lengths_ok {b : Bd} (h : b.Ok) : (lengthsB b).Ok :=
  ⟨⟨h.regs, h.byte, h.pitch0, h.pitch1⟩, h.div0, h.div1, h.step0, h.step1, vOk_len h.v0, vOk_len h.v1, vOk_len h.v2, vOk_len h.v3, h.slide0, h.slide1⟩
theorem levels_ok {b : Bd} (h : b.Ok) : (levelsB b).Ok :=
  ⟨⟨h.regs, h.byte, h.pitch0, h.pitch1⟩, h.div0, h.div1, h.step0, h.step1, vOk_lev h.v0, vOk_lev h.v1, h.v2, vOk_lev h.v3, h.slide0, h.slide1⟩
theorem div_ok {b : Bd} (h : b.Ok) (d : Int) (h0 : 0 ≤ d) (h1 : d ≤ 2047) : Bd.Ok { b with div := d } :=
  ⟨⟨h.regs, h.byte, h.pitch0, h.pitch1⟩, h0, h1, h.step0, h.step1, h.v0, h.v1, h.v2, h.v3, h.slide0, h.slide1⟩
theorem step_ok {b : Bd} (h : b.Ok) (d : Int) (h0 : 0 ≤ d) (h1 : d ≤ 7) : Bd.Ok { b with step := d } :=
  ⟨⟨h.regs, h.byte, h.pitch0, h.pitch1⟩, h.div0, h.div1, h0, h1, h.v0, h.v1, h.v2, h.v3, h.slide0, h.slide1⟩
theorem vOk_off {v : Vc} {m : Int} (h : vOk v m) (x : Bool) : vOk { v with on := x } m := h
theorem check_ok {b : Bd} (h : b.Ok) : (checkB b).Ok := by
  unfold checkB
  split
  · exact ⟨⟨h.regs, h.byte, h.pitch0, h.pitch1⟩, h.div0, h.div1, h.step0, h.step1, h.v0, h.v1, h.v2, h.v3, h.slide0, h.slide1⟩
  · exact h
theorem slideW_ok {b : Bd} (h : b.Ok) (s : Int) : (waitB { b with slide := s }).Ok := by
  have e := every_bd b
  have e' : everyB { b with slide := s } = everyB b := rfl
  refine ⟨⟨h.regs, h.byte, h.pitch0, h.pitch1⟩, h.div0, h.div1, h.step0, h.step1, h.v0, h.v1, h.v2, h.v3, ?_, ?_⟩ <;> simp only [waitB, e'] <;> split <;> omega
theorem slid_ok {b : Bd} (h : b.Ok) (hn : nextB b ≤ 2047) : (slid b).Ok :=
  ⟨slid_okR h.toOkR hn, h.div0, h.div1, h.step0, h.step1, h.v0, h.v1, h.v2, h.v3, h.slide0, h.slide1⟩
theorem slide_ok {b : Bd} (h : b.Ok) : (slideB b).Ok := by
  have s0 := h.slide0
  have s1 := h.slide1
  unfold slideB
  split
  · exact h
  · split
    · exact ⟨⟨h.regs, h.byte, h.pitch0, h.pitch1⟩, h.div0, h.div1, h.step0, h.step1, h.v0, h.v1, h.v2, h.v3, by simp only; omega, by simp only; omega⟩
    · split
      · exact slideW_ok h _
      · split
        · exact check_ok (slideW_ok h _)
        · rename_i hh
          refine check_ok (slid_ok (slideW_ok h _) ?_)
          have := (not_or.1 hh).1
          simpa [highB] using this
theorem check_step (b : Bd) : (checkB b).step = b.step := by unfold checkB; split <;> rfl
theorem slide_step (b : Bd) : (slideB b).step = b.step := by
  unfold slideB
  split
  · rfl
  · split
    · rfl
    · split
      · rfl
      · split
        · rw [check_step]; rfl
        · rw [check_step]; rfl
theorem even_ok {b : Bd} (h : b.Ok) : (evenB b).Ok := by
  unfold evenB
  split
  · exact lengths_ok h
  · exact h
theorem stepB_ok {b : Bd} (h : b.Ok) : (stepB b).Ok := by
  unfold stepB
  split
  · exact slide_ok h
  · split
    · exact levels_ok h
    · exact h
theorem tick_ok {b : Bd} (h : b.Ok) : (tickB b).Ok := by
  have s0 := h.step0
  have d0 := h.div0
  unfold tickB
  split
  · exact h
  · split
    · exact div_ok h _ (by omega) (by omega)
    · exact step_ok (stepB_ok (even_ok (div_ok h 0 (by omega) (by omega)))) _ (by omega) (by omega)

set_option maxRecDepth 20000 in
set_option maxHeartbeats 4000000 in
theorem tick_off (b : Bd) (hb : b.OkR) (hon : b.on = false) (w : World) : Calls Try.prog 11 #[.agg (enc b)] w (Ret (.agg (enc b)) w) := by
  have HO := hid_ hb
  have HN := hid_ hon
  have HS := hid_ (enc_size b hb.regs)
  have HZ := hid_ (enc_size zeroB rfl)
  have H1 := hid_ (enc_one b)
  clear hb hon
  go_enter Try.func11, Try.ntmps11
  go_wp2_with (first
      | (with_reducible refine wpList_alloc29 (op := ⟨some 2, .alloc 29, _, _, _, _⟩) rfl rfl b w rfl ?_; intro w1 HB1 HB2 HW1 hg1; have c48 := HB1.out.a48 HO.out.regs; rw [HN.out] at c48)
      | (with_reducible refine wpList_load29 (op := ⟨some 6, _, _, _, _, _⟩) rfl (.tmp 1) rfl w.heap.size (by with_unfolding_all rfl) (enc b) HB1.out HS.out ?_)
      | (with_reducible refine wpList_store29 (op := ⟨none, .store 29 (.tmp 2) (.tmp 6), _, _, _, _⟩) rfl (.tmp 2) (.tmp 6) rfl (w.heap.size + 1) (enc zeroB) (enc b) (by with_unfolding_all rfl) (by with_unfolding_all rfl) HB2.out HZ.out HS.out H1.out ?_))
  refine bodyPost_ret (v := .agg (enc b)) (results_board Try.results11 rfl (HB2.out.setRow _) HS.out) rfl (.of ?_ (below_setRow HW1.out (by omega) _))
  rfl

set_option maxRecDepth 20000 in
set_option maxHeartbeats 4000000 in
theorem tick_few (b : Bd) (hb : b.Ok) (hon : b.on = true) (hd : b.div + 1 < 2048) (w : World) : Calls Try.prog 11 #[.agg (enc b)] w (Ret (.agg (enc { b with div := b.div + 1 })) w) := by
  have HO : Hid b.OkR := hb.toOkR
  have HN := hid_ hon
  have d0 := hb.div0
  have HS := hid_ (enc_size { b with div := b.div + 1 } hb.regs)
  have HZ := hid_ (enc_size zeroB rfl)
  have H1 := hid_ (enc_one { b with div := b.div + 1 })
  clear hb hon
  go_enter Try.func11, Try.ntmps11
  go_wp2_with (first
      | (with_reducible refine wpList_alloc29 (op := ⟨some 2, .alloc 29, _, _, _, _⟩) rfl rfl b w rfl ?_; intro w1 HB1 HB2 HW1 hg1; have c48 := HB1.out.a48 HO.out.regs; rw [HN.out] at c48; have c49 := HB1.out.a49 HO.out.regs; have f49 := HB1.out.frozen 49; have hg0 := HB1.out.lt)
      | (with_reducible refine wpList_load29 (op := ⟨some 14, _, _, _, _, _⟩) rfl (.tmp 1) rfl w.heap.size (by with_unfolding_all rfl) (enc { b with div := b.div + 1 }) (HB1.out.s49 HO.out.regs (b.div + 1)) HS.out ?_)
      | (with_reducible refine wpList_store29 (op := ⟨none, .store 29 (.tmp 2) (.tmp 14), _, _, _, _⟩) rfl (.tmp 2) (.tmp 14) rfl (w.heap.size + 1) (enc zeroB) (enc { b with div := b.div + 1 }) (by with_unfolding_all rfl) (by with_unfolding_all rfl) (HB2.out.far (by simp) _) HZ.out HS.out H1.out ?_))
  refine bodyPost_ret (v := .agg (enc { b with div := b.div + 1 })) (results_board Try.results11 rfl ((HB2.out.far (p := ⟨w.heap.size, 49, none⟩) (by simp) (.int .i64 (b.div + 1))).setRow _) HS.out) rfl (.of ?_ (below_setRow (HW1.out.setCell (p := ⟨w.heap.size, 49, none⟩) (by simp) (.int .i64 (b.div + 1))) (by omega) _))
  rfl
end Go.Proofs.Ytacbdapgdgliiaa
