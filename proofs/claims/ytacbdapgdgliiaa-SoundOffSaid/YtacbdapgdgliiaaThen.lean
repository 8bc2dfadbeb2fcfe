/- Contracts of how many ticks a call is, and of a board behind one call more. -/
import Derived.Test.YtacbdapgdgliiaaWrite
namespace Go.Proofs.Ytacbdapgdgliiaa
open Go.RowKit
set_option linter.unusedSimpArgs false
set_option linter.unusedVariables false

/-- So many ticks later. -/
def iterB : Nat → Bd → Bd
  | 0, b => b
  | k + 1, b => tickB (iterB k b)
theorem iter_ok {b : Bd} (h : b.Ok) : ∀ k, (iterB k b).Ok
  | 0 => h
  | k + 1 => tick_ok (iter_ok h k)
def clampI (n m : Int) : Int := if n < 0 then 0 else if m < n then m else n
theorem clamp_lo {n m : Int} (h : n ≤ 0) (hm : 0 ≤ m) : clampI n m = 0 := by unfold clampI; split <;> (try split) <;> omega
theorem clamp_hi {n m : Int} (h : m < n) (hm : 0 ≤ m) : clampI n m = m := by unfold clampI; split <;> (try split) <;> omega
theorem clamp_mid {n m : Int} (h : 0 ≤ n) (hm : n ≤ m) : clampI n m = n := by unfold clampI; split <;> (try split) <;> omega
def ticksI (K N : Int) : Int := if K = 1 then 2048 * clampI N 12 else if K = 3 then clampI N 300 else 0
theorem ticks_bd (K N : Int) : 0 ≤ ticksI K N ∧ ticksI K N ≤ 24576 := by
  unfold ticksI clampI
  split
  · split
    · omega
    · split <;> omega
  · split
    · split
      · omega
      · split <;> omega
    · omega
def op3 (K N X : Int) : Value := .agg #[.int .i64 K, .int .i64 N, .int .u8 X]
def thenB (b : Bd) (K N X : Int) : Bd := if K = 2 then writeB (iterB (ticksI K N).toNat b) N X else iterB (ticksI K N).toNat b
theorem then_ok {b : Bd} (h : b.Ok) (K N X : Int) (h0 : 0 ≤ X) (h1 : X ≤ 255) : (thenB b K N X).Ok := by
  unfold thenB
  split
  · exact write_ok (iter_ok h _) N X h0 h1
  · exact iter_ok h _
set_option maxRecDepth 20000 in
theorem ticks_any (K N X : Int) (w : World) : Calls Try.prog 14 #[.agg #[.int .i64 K, .int .i64 N, .int .u8 X]] w (Ret (.int .i64 (ticksI K N)) w) := by
  by_cases h1 : K = 1
  · subst h1
    by_cases h : N ≤ 0
    · have d1 : decide (12 < N) = false := by simp; omega
      go_enter Try.func14, Try.ntmps14
      go_wp2
      go_ret
      exact .of (by simp [ticksI, clamp_lo h (show (0 : Int) ≤ 12 by omega)]) ((Below.refl _ _).alloc (Nat.le_refl _) _)
    · by_cases h12 : 12 < N
      · go_enter Try.func14, Try.ntmps14
        go_wp2
        go_ret
        exact .of (by simp [ticksI, clamp_hi h12 (by omega)]) ((Below.refl _ _).alloc (Nat.le_refl _) _)
      · go_enter Try.func14, Try.ntmps14
        go_wp2
        go_ret
        exact .of (by simp [ticksI, clamp_mid (show 0 ≤ N by omega) (show N ≤ 12 by omega)]) ((Below.refl _ _).alloc (Nat.le_refl _) _)
  · by_cases h3 : K = 3
    · subst h3
      by_cases h : N ≤ 0
      · have d1 : decide (300 < N) = false := by simp; omega
        go_enter Try.func14, Try.ntmps14
        go_wp2
        go_ret
        exact .of (by simp [ticksI, clamp_lo h (show (0 : Int) ≤ 300 by omega)]) ((Below.refl _ _).alloc (Nat.le_refl _) _)
      · by_cases h12 : 300 < N
        · go_enter Try.func14, Try.ntmps14
          go_wp2
          go_ret
          exact .of (by simp [ticksI, clamp_hi h12 (by omega)]) ((Below.refl _ _).alloc (Nat.le_refl _) _)
        · go_enter Try.func14, Try.ntmps14
          go_wp2
          go_ret
          exact .of (by simp [ticksI, clamp_mid (show 0 ≤ N by omega) (show N ≤ 300 by omega)]) ((Below.refl _ _).alloc (Nat.le_refl _) _)
    · have d1 : (K == 1) = false := by simp [h1]
      have d3 : (K == 3) = false := by simp [h3]
      go_enter Try.func14, Try.ntmps14
      go_wp2
      go_ret
      exact .of (by simp [ticksI, h1, h3]) ((Below.refl _ _).alloc (Nat.le_refl _) _)

theorem wpList_alloc3 {ops : Array Oper} {rest : List Oper} {op : Oper} {a : Act} {w : World} {Q : Exit → Act → World → Prop} (hgd : op.guard = none) (ho : op.op = .alloc 29)
    (b : Bd) (K N X : Int) (w0 : World) (hw : w = (w0.alloc (.cells (enc b) 29)).alloc (.cells #[.int .i64 K, .int .i64 N, .int .u8 X] 32))
    (h : ∀ w', Hid (Blk w' w0.heap.size 29 (enc b)) → Hid (Blk w' (w0.heap.size + 1) 32 #[.int .i64 K, .int .i64 N, .int .u8 X]) → Hid (Blk w' (w0.heap.size + 2) 29 (enc zeroB)) → Hid (Below w0.heap.size w0 w') → w0.heap.size + 2 < w'.heap.size → wpList Try.prog ops Q rest (a.put op.dst (.pointer (some ⟨w0.heap.size + 2, 0, none⟩))) w') :
    wpList Try.prog ops Q (op :: rest) a w :=
  wpList_plain hgd fun _ hK => by
    subst hw
    have h' := h _ (((Blk.new w0 29 (enc b)).alloc (.cells #[.int .i64 K, .int .i64 N, .int .u8 X] 32)).alloc (.cells (enc zeroB) 29))
      (((by simpa using Blk.new (w0.alloc (.cells (enc b) 29)) 32 #[.int .i64 K, .int .i64 N, .int .u8 X] : Blk ((w0.alloc (.cells (enc b) 29)).alloc (.cells #[.int .i64 K, .int .i64 N, .int .u8 X] 32)) (w0.heap.size + 1) 32 #[.int .i64 K, .int .i64 N, .int .u8 X])).alloc (.cells (enc zeroB) 29))
      (show Blk _ (w0.heap.size + 1 + 1) 29 (enc zeroB) by simpa using Blk.new ((w0.alloc (.cells (enc b) 29)).alloc (.cells #[.int .i64 K, .int .i64 N, .int .u8 X] 32)) 29 (enc zeroB))
      ((((Below.refl _ _).alloc (Nat.le_refl _) _).alloc (by simp) _).alloc (by simp; omega) _) (by simp)
    unfold Oper.wp execOp
    simp only [ho, run_alloc29, Sem.run_bind, Result.andThen_ok]
    refine hK _ _ ?_
    simpa using h'
theorem Blk.three {W : World} {g : Nat} {t : TypeId} {c0 c1 c2 : Value} (h : Blk W g t #[c0, c1, c2]) : W.cell? ⟨g, 0, none⟩ = some c0 ∧ W.cell? ⟨g, 1, none⟩ = some c1 ∧ W.cell? ⟨g, 2, none⟩ = some c2 := ⟨h.cell 0, h.cell 1, h.cell 2⟩

set_option maxRecDepth 20000 in
set_option maxHeartbeats 2000000 in
theorem then_any (b : Bd) (hb : b.Ok) (K N X : Int) (hX0 : 0 ≤ X) (hX1 : X ≤ 255) (w : World) :
    Calls Try.prog 9 #[.agg (enc b), .agg #[.int .i64 K, .int .i64 N, .int .u8 X]] w (Ret (.agg (enc (thenB b K N X))) w) := by
  have HO := hid_ hb
  have HZ := hid_ (enc_size zeroB rfl)
  obtain ⟨Tn, hT, hT2⟩ : ∃ Tn : Nat, ticksI K N = (Tn : Int) ∧ (ticksI K N).toNat = Tn := ⟨(ticksI K N).toNat, by have := (ticks_bd K N).1; omega, rfl⟩
  have HT := hid_ hT
  have HT2 := hid_ hT2
  have tb : Tn ≤ 24576 := by have := (ticks_bd K N).2; omega
  clear hb hT hT2
  go_enter Try.func9, Try.ntmps9
  go_wp2_with ((with_reducible refine wpList_alloc3 (op := ⟨some 4, .alloc 29, _, _, _, _⟩) rfl rfl b K N X w rfl ?_); intro w1 HB1 HP1 HR1 HW1 hg1; (obtain ⟨x0, x1, x2⟩ := HP1.out.three))
  refine (ticks_any K N X _).mono ?_
  rintro e w2 ⟨rfl, hc2, hf2, hz2, hb2⟩
  clear hc2 hf2 hz2 x0 x1 x2
  rw [HT.out]
  have HB2 := hid_ (HB1.out.below hb2 HB1.out.lt)
  have HP2 := hid_ (HP1.out.below hb2 HP1.out.lt)
  have HR2 := hid_ (HR1.out.below hb2 HR1.out.lt)
  have HW2 := hid_ (HW1.out.trans (hb2.mono HW1.out.size))
  clear hb2 HB1 HP1 HR1 HW1 hg1
  go_wp2_with fail
  go_loopw [7] (fun i wr => ∃ k : Nat, k ≤ Tn ∧ i = .int .i64 k ∧ Hid (Blk wr w.heap.size 29 (enc (iterB k b))) ∧ Hid (Blk wr (w.heap.size + 1) 32 #[.int .i64 K, .int .i64 N, .int .u8 X]) ∧ Hid (Blk wr (w.heap.size + 2) 29 (enc zeroB)) ∧ Hid (Below w.heap.size w wr)) (fun i _ => Tn - (intOf i).toNat)
  case atStart => exact ⟨0, by omega, rfl, HB2, HP2, HR2, HW2⟩
  case round =>
    clear HB2 HP2 HR2 HW2
    obtain ⟨k, hk, rfl, HB, HP, HR, HW⟩ := hrel
    have HOk := hid_ (iter_ok HO.out k)
    have HSk := hid_ (enc_size (iterB k b) HOk.out.regs)
    by_cases hlt : k < Tn
    · have q : decide ((k : Int) < (Tn : Int)) = true := by simp; omega
      go_wp2_with (with_reducible refine wpList_load29 (op := ⟨some 9, _, _, _, _, _⟩) rfl (.tmp 2) rfl w.heap.size (by with_unfolding_all rfl) (enc (iterB k b)) HB.out HSk.out ?_)
      refine (tick_any (iterB k b) HOk.out _).mono ?_
      rintro e w4 ⟨rfl, hc4, hf4, hz4, hb4⟩
      clear hc4 hf4 hz4
      have HB4 := hid_ (HB.out.below hb4 HB.out.lt)
      have HP4 := hid_ (HP.out.below hb4 HP.out.lt)
      have HR4 := hid_ (HR.out.below hb4 HR.out.lt)
      have HW4 := hid_ (HW.out.trans (hb4.mono HW.out.size))
      have HS4 : Hid ((enc (tickB (iterB k b))).size = 70) := enc_size _ (tick_ok HOk.out).regs
      have H14 := hid_ (enc_one (tickB (iterB k b)))
      clear hb4 HB HP HR HW
      go_wp2_with (with_reducible refine wpList_store29 (op := ⟨none, .store 29 (.tmp 2) (.tmp 10), _, _, _, _⟩) rfl (.tmp 2) (.tmp 10) rfl w.heap.size (enc (iterB k b)) (enc (tickB (iterB k b))) (by with_unfolding_all rfl) (by with_unfolding_all rfl) HB4.out HSk.out HS4.out H14.out ?_)
      go_roundw
      case rel => exact ⟨k + 1, by omega, by go_num, HB4.out.setRow _, HP4.out.farRow (by omega) _, HR4.out.farRow (by omega) _, below_setRow HW4.out (Nat.le_refl _) _⟩
      case measure => simp [intOf]; omega
    · obtain rfl : k = Tn := by omega
      obtain ⟨x0, x1, x2⟩ := HP.out.three
      by_cases hK : K = 2
      · subst hK
        have HQ : Hid (thenB b 2 N X = writeB (iterB k b) N X) := by unfold thenB; rw [if_pos rfl, HT2.out]; exact hid_ rfl
        go_wp2_with (with_reducible refine wpList_load29 (op := ⟨some 15, _, _, _, _, _⟩) rfl (.tmp 2) rfl w.heap.size (by with_unfolding_all rfl) (enc (iterB k b)) HB.out HSk.out ?_)
        refine (write_any (iterB k b) HOk.out N X hX0 hX1 _).mono ?_
        rintro e w4 ⟨rfl, hc4, hf4, hz4, hb4⟩
        clear hc4 hf4 hz4 x0 x1 x2
        have HB4 := hid_ (HB.out.below hb4 HB.out.lt)
        have HR4 := hid_ (HR.out.below hb4 HR.out.lt)
        have HW4 := hid_ (HW.out.trans (hb4.mono HW.out.size))
        have HS4 : Hid ((enc (writeB (iterB k b) N X)).size = 70) := enc_size _ (write_ok HOk.out N X hX0 hX1).regs
        have H14 := hid_ (enc_one (writeB (iterB k b) N X))
        clear hb4 HB HP HR HW
        generalize writeB (iterB k b) N X = c at *
        go_wp2_with (first
          | (with_reducible refine wpList_store29 (op := ⟨none, .store 29 (.tmp 2) (.tmp 20), _, _, _, _⟩) rfl (.tmp 2) (.tmp 20) rfl w.heap.size (enc (iterB k b)) (enc c) (by with_unfolding_all rfl) (by with_unfolding_all rfl) HB4.out HSk.out HS4.out H14.out ?_)
          | (with_reducible refine wpList_load29 (op := ⟨some 21, _, _, _, _, _⟩) rfl (.tmp 2) rfl w.heap.size (by with_unfolding_all rfl) (enc c) (HB4.out.setRow _) HS4.out ?_)
          | (with_reducible refine wpList_store29 (op := ⟨none, .store 29 (.tmp 4) (.tmp 21), _, _, _, _⟩) rfl (.tmp 4) (.tmp 21) rfl (w.heap.size + 2) (enc zeroB) (enc c) (by with_unfolding_all rfl) (by with_unfolding_all rfl) (HR4.out.farRow (by omega) _) HZ.out HS4.out H14.out ?_))
        refine bodyPost_ret (v := .agg (enc c)) (results_board Try.results9 rfl ((HR4.out.farRow (k := w.heap.size) (by omega) (enc c)).setRow _) HS4.out) rfl (.of (by rw [HQ.out]) (below_setRow (below_setRow HW4.out (Nat.le_refl _) _) (by omega) _))
      · have hK2 : (K == 2) = false := by simp [hK]
        have HQ : Hid (thenB b K N X = iterB k b) := by unfold thenB; rw [if_neg hK, HT2.out]; exact hid_ rfl
        clear hK
        have H14 := hid_ (enc_one (iterB k b))
        generalize iterB k b = c at *
        go_wp2_with (first
          | (with_reducible refine wpList_load29 (op := ⟨some 21, _, _, _, _, _⟩) rfl (.tmp 2) rfl w.heap.size (by with_unfolding_all rfl) (enc c) HB.out HSk.out ?_)
          | (with_reducible refine wpList_store29 (op := ⟨none, .store 29 (.tmp 4) (.tmp 21), _, _, _, _⟩) rfl (.tmp 4) (.tmp 21) rfl (w.heap.size + 2) (enc zeroB) (enc c) (by with_unfolding_all rfl) (by with_unfolding_all rfl) HR.out HZ.out HSk.out H14.out ?_))
        refine bodyPost_ret (v := .agg (enc c)) (results_board Try.results9 rfl (HR.out.setRow _) HSk.out) rfl (.of (by rw [HQ.out]) (below_setRow HW.out (by omega) _))
end Go.Proofs.Ytacbdapgdgliiaa
