/- Contract of a board's write. -/
import Derived.Test.YtacbdapgdgliiaaWriteB
namespace Go.Proofs.Ytacbdapgdgliiaa
open Go.RowKit
set_option linter.unusedSimpArgs false
set_option linter.unusedVariables false

/-- A write's contract. -/
theorem write_any (b : Bd) (hb : b.Ok) (n x : Int) (hx0 : 0 ≤ x) (hx1 : x ≤ 255) (w : World) :
    Calls Try.prog 10 #[.agg (enc b), .int .i64 n, .int .u8 x] w (Ret (.agg (enc (writeB b n x))) w) := by
  unfold writeB
  by_cases h0 : n < 0
  · rw [if_pos (.inl h0)]; exact write_neg b hb.toOkR n x h0 w
  · by_cases h48 : 48 ≤ n
    · rw [if_pos (.inr h48)]; exact write_far b hb.toOkR n x h48 w
    · rw [if_neg (by omega)]
      by_cases h22 : n = 22
      · rw [if_pos h22]; subst h22; exact write_power b hb x hx0 hx1 w
      · rw [if_neg h22]
        obtain ⟨k, rfl⟩ := Int.eq_ofNat_of_zero_le (show 0 ≤ n by omega)
        by_cases hoff : b.on = false ∧ (k : Int) < 32
        · rw [if_pos hoff]; exact write_off b hb.toOkR k x (by omega) hoff.2 h22 hoff.1 w
        · rw [if_neg hoff]
          by_cases h20 : 20 ≤ (k : Int)
          · rw [if_pos h20]
            by_cases hon : b.on = true
            · exact write_high b hb.toOkR k x (by omega) (by omega) (by omega) hon w
            · have hon' : b.on = false := by simpa using hon
              have : ¬ (k : Int) < 32 := fun h => hoff ⟨hon', h⟩
              exact write_wave b hb.toOkR k x (by omega) (by omega) (by omega) hon' w
          · rw [if_neg h20]
            have hon : b.on = true := by
              cases h : b.on with
              | true => rfl
              | false => exact absurd ⟨h, by omega⟩ hoff
            have hk : k = 0 ∨ k = 1 ∨ k = 2 ∨ k = 3 ∨ k = 4 ∨ k = 5 ∨ k = 6 ∨ k = 7 ∨ k = 8 ∨ k = 9 ∨ k = 10 ∨ k = 11 ∨ k = 12 ∨ k = 13 ∨ k = 14 ∨ k = 15 ∨ k = 16 ∨ k = 17 ∨ k = 18 ∨ k = 19 := by omega
            have hr := hb.toOkR
            rcases hk with rfl | rfl | rfl | rfl | rfl | rfl | rfl | rfl | rfl | rfl | rfl | rfl | rfl | rfl | rfl | rfl | rfl | rfl | rfl | rfl
            · exact write_0 b hr hon x hx0 hx1 w
            · exact write_1 b hr hon x hx0 hx1 w
            · exact write_2 b hr hon x hx0 hx1 w
            · exact write_3 b hr hon x hx0 hx1 w
            · exact write_4 b hr hon x hx0 hx1 w
            · exact write_5 b hr hon x hx0 hx1 w
            · exact write_6 b hr hon x hx0 hx1 w
            · exact write_7 b hr hon x hx0 hx1 w
            · exact write_8 b hr hon x hx0 hx1 w
            · exact write_9 b hr hon x hx0 hx1 w
            · exact write_10 b hr hon x hx0 hx1 w
            · exact write_11 b hr hon x hx0 hx1 w
            · exact write_12 b hr hon x hx0 hx1 w
            · exact write_13 b hr hon x hx0 hx1 w
            · exact write_14 b hr hon x hx0 hx1 w
            · exact write_15 b hr hon x hx0 hx1 w
            · exact write_16 b hr hon x hx0 hx1 w
            · exact write_17 b hr hon x hx0 hx1 w
            · exact write_18 b hr hon x hx0 hx1 w
            · exact write_19 b hr hon x hx0 hx1 w
/-- What is always so stays so. -/
theorem vOk_zero (m : Int) (h : 0 ≤ m) : vOk ⟨false, 0, 0, 0⟩ m := by unfold vOk; simp only; omega
theorem off_byte {l : List Int} (h : ∀ i, 0 ≤ l.getD i 0 ∧ l.getD i 0 ≤ 255) (i : Nat) : 0 ≤ (List.replicate 22 (0 : Int) ++ l.drop 22).getD i 0 ∧ (List.replicate 22 (0 : Int) ++ l.drop 22).getD i 0 ≤ 255 := by
  have := h (22 + (i - 22))
  simp only [List.getD_eq_getElem?_getD] at this ⊢
  by_cases hi : i < 22
  · rw [List.getElem?_append_left (by rw [List.length_replicate]; exact hi), List.getElem?_replicate, if_pos hi]
    exact ⟨Int.le_refl 0, (show (0 : Int) ≤ 255 by omega)⟩
  · rw [List.getElem?_append_right (by simp; omega)]
    simp only [List.length_replicate, List.getElem?_drop]
    exact this
theorem off_ok {b : Bd} (h : b.Ok) : (offB b).Ok :=
  ⟨⟨by simp [offB, h.regs], off_byte h.byte, Int.le_refl 0, (show (0 : Int) ≤ 2047 by omega)⟩, h.div0, h.div1, h.step0, h.step1, vOk_zero 64 (by omega), vOk_zero 64 (by omega), vOk_zero 256 (by omega), vOk_zero 64 (by omega), Int.le_refl 0, (show (0 : Int) ≤ 8 by omega)⟩
theorem switch_ok {b : Bd} (h : b.Ok) (on : Bool) : (switchB b on).Ok := by
  unfold switchB
  split
  · exact off_ok h
  · split
    · exact ⟨⟨h.regs, h.byte, h.pitch0, h.pitch1⟩, Int.le_refl 0, (show (0 : Int) ≤ 2047 by omega), Int.le_refl 0, (show (0 : Int) ≤ 7 by omega), h.v0, h.v1, h.v2, h.v3, h.slide0, h.slide1⟩
    · exact ⟨⟨h.regs, h.byte, h.pitch0, h.pitch1⟩, h.div0, h.div1, h.step0, h.step1, h.v0, h.v1, h.v2, h.v3, h.slide0, h.slide1⟩
theorem begV_ok {v : Vc} {m : Int} (h : vOk v m) (r : Bool) (how l : Int) (h0 : 0 ≤ how) (h1 : how ≤ 255) (hl : 0 ≤ l) (hm : l ≤ m) : vOk (begV r how l v) m := by
  unfold vOk begV at *
  obtain ⟨a, c, _⟩ := h
  refine ⟨?_, ?_, ?_, ?_, ?_, ?_⟩ <;> simp only
  · split <;> omega
  · split <;> omega
  all_goals omega
theorem begS_ok {b : Bd} (h : b.Ok) : (begS b).Ok := by
  have e := every_bd (begP b)
  have k2 : 0 ≤ b.reg 2 ∧ b.reg 2 ≤ 255 := h.byte 2
  refine ⟨begS_okR h.toOkR, h.div0, h.div1, h.step0, h.step1, begV_ok h.v0 _ _ _ k2.1 k2.2 (by omega) (by omega), h.v1, h.v2, h.v3, ?_, ?_⟩ <;> simp only [begS, waitB] <;> split <;> omega
theorem begin_ok {b : Bd} (h : b.Ok) (v : Nat) : (beginB b v).Ok := by
  have k7 : 0 ≤ b.reg 7 ∧ b.reg 7 ≤ 255 := h.byte 7
  have k12 : 0 ≤ b.reg 12 ∧ b.reg 12 ≤ 255 := h.byte 12
  have k17 : 0 ≤ b.reg 17 ∧ b.reg 17 ≤ 255 := h.byte 17
  match v with
  | 0 =>
    show (if byB b = 0 then begS b else checkB (begS b)).Ok
    split
    · exact begS_ok h
    · exact check_ok (begS_ok h)
  | 1 => exact ⟨⟨h.regs, h.byte, h.pitch0, h.pitch1⟩, h.div0, h.div1, h.step0, h.step1, h.v0, begV_ok h.v1 _ _ _ k7.1 k7.2 (by omega) (by omega), h.v2, h.v3, h.slide0, h.slide1⟩
  | 2 => exact ⟨⟨h.regs, h.byte, h.pitch0, h.pitch1⟩, h.div0, h.div1, h.step0, h.step1, h.v0, h.v1, begV_ok h.v2 _ _ _ k12.1 k12.2 (by omega) (by omega), h.v3, h.slide0, h.slide1⟩
  | _ + 3 => exact ⟨⟨h.regs, h.byte, h.pitch0, h.pitch1⟩, h.div0, h.div1, h.step0, h.step1, h.v0, h.v1, h.v2, begV_ok h.v3 _ _ _ k17.1 k17.2 (by omega) (by omega), h.slide0, h.slide1⟩
def maxV (v : Nat) : Int := if v = 2 then 256 else 64
theorem vc_ok {b : Bd} (h : b.Ok) (v : Nat) (hv : v < 4) : vOk (b.vc v) (maxV v) := by
  obtain rfl | rfl | rfl | rfl : v = 0 ∨ v = 1 ∨ v = 2 ∨ v = 3 := by omega
  · exact h.v0
  · exact h.v1
  · exact h.v2
  · exact h.v3
theorem setV_ok {b : Bd} (h : b.Ok) (v : Nat) (hv : v < 4) (x : Vc) (hx : vOk x (maxV v)) : (b.setV v x).Ok := by
  obtain rfl | rfl | rfl | rfl : v = 0 ∨ v = 1 ∨ v = 2 ∨ v = 3 := by omega
  · exact ⟨⟨h.regs, h.byte, h.pitch0, h.pitch1⟩, h.div0, h.div1, h.step0, h.step1, hx, h.v1, h.v2, h.v3, h.slide0, h.slide1⟩
  · exact ⟨⟨h.regs, h.byte, h.pitch0, h.pitch1⟩, h.div0, h.div1, h.step0, h.step1, h.v0, hx, h.v2, h.v3, h.slide0, h.slide1⟩
  · exact ⟨⟨h.regs, h.byte, h.pitch0, h.pitch1⟩, h.div0, h.div1, h.step0, h.step1, h.v0, h.v1, hx, h.v3, h.slide0, h.slide1⟩
  · exact ⟨⟨h.regs, h.byte, h.pitch0, h.pitch1⟩, h.div0, h.div1, h.step0, h.step1, h.v0, h.v1, h.v2, hx, h.slide0, h.slide1⟩
theorem low_ok {b : Bd} (h : b.Ok) (n : Nat) (hn : n < 20) (x : Int) (h0 : 0 ≤ x) (h1 : x ≤ 255) : (lowB b n x).Ok := by
  have hp := put_ok h n x h0 h1
  have hv : n / 5 < 4 := by omega
  have hvc := vc_ok hp (n / 5) hv
  unfold lowB
  split
  · refine setV_ok hp _ hv _ ?_
    obtain ⟨_, _, a3, a4, a5, a6⟩ := hvc
    unfold vOk maxV longestB
    refine ⟨?_, ?_, a3, a4, a5, a6⟩ <;> simp only <;> split <;> omega
  · split
    · split
      · exact begin_ok hp _
      · exact hp
    · exact setV_ok hp _ hv _ hvc
theorem write_ok {b : Bd} (h : b.Ok) (n x : Int) (h0 : 0 ≤ x) (h1 : x ≤ 255) : (writeB b n x).Ok := by
  unfold writeB
  split
  · exact h
  · split
    · exact switch_ok h _
    · split
      · exact h
      · split
        · exact put_ok h _ x h0 h1
        · exact low_ok h _ (by omega) x h0 h1
end Go.Proofs.Ytacbdapgdgliiaa
