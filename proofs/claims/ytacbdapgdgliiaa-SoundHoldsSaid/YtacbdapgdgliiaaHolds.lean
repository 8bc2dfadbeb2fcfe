/- The law of what always holds: its walk. -/
import Derived.Test.YtacbdapgdgliiaaInv
namespace Go.Proofs.Ytacbdapgdgliiaa.soundHolds
open Go.RowKit
set_option linter.unusedSimpArgs false
set_option linter.unusedVariables false

set_option maxRecDepth 20000 in
set_option maxHeartbeats 4000000 in
theorem walkIn (b1 o1 len cap : Nat) (w0 : World) (hl : len ≤ 40) (h0l : 0 < len) (hb1' : b1 < w0.heap.size)
    (hc1 : ∀ i, i < len → ∃ K N X : Int, -9223372036854775808 ≤ N ∧ N ≤ 9223372036854775807 ∧ 0 ≤ X ∧ X ≤ 255 ∧
      w0.cell? ⟨b1, o1 + i * 3, none⟩ = some (.int .i64 K) ∧ w0.cell? ⟨b1, o1 + i * 3 + 1, none⟩ = some (.int .i64 N) ∧ w0.cell? ⟨b1, o1 + i * 3 + 2, none⟩ = some (.int .u8 X)) :
    Calls Try.prog 3 #[.slice (some ⟨b1, o1, none⟩) len cap] w0 (Ret (.bool true) w0) := by
  have HC := hid_ hc1
  have hz := board_zero
  have hsz : (enc zeroB).size = 70 := enc_size zeroB rfl
  have HZ := hid_ hsz
  have H1Z := hid_ (enc_one zeroB)
  have ql : decide (40 < (len : Int)) = false := by simp; omega
  clear hc1
  go_enter Try.func3, Try.ntmps3
  go_wp2_with fail
  refine (awake_any _).mono ?_
  rintro e w ⟨rfl, hd1, hf1, hz1, hbw⟩
  clear hd1 hf1 hz1
  have HBW := hid_ hbw
  have hb1 : b1 < w.heap.size := Nat.lt_of_lt_of_le hb1' hbw.size
  clear hbw
  go_wp2_with (first
    | ((with_reducible refine wpList_allocZ2 (op := ⟨some 3, .alloc 29, _, _, _, _⟩) rfl rfl ?_); intro w3 HB3 HW3 hl3)
    | (with_reducible refine wpList_store29 (op := ⟨none, .store 29 (.tmp 3) (.tmp 17), _, _, _, _⟩) rfl (.tmp 3) (.tmp 17) rfl w.heap.size (enc zeroB) (enc zeroB) (by with_unfolding_all rfl) (by with_unfolding_all rfl) HB3.out HZ.out HZ.out H1Z.out ?_))
  have HB4 : Hid (Blk (w3.setRow w.heap.size (enc zeroB)) w.heap.size 29 (enc zeroB)) := HB3.out.setRow _
  have HW4 : Hid (Below w.heap.size w (w3.setRow w.heap.size (enc zeroB))) := below_setRow HW3.out (Nat.le_refl _) _
  obtain ⟨g3, hg3⟩ : ∃ g3, w.heap.size = g3 := ⟨_, rfl⟩
  have hgle : w.heap.size ≤ g3 := Nat.le_of_eq hg3
  clear HB3 HW3 hl3 ql
  generalize w3.setRow w.heap.size (enc zeroB) = w4 at *
  rw [hg3] at HB4
  rw [hg3]
  clear hg3
  go_loopw [20] (fun i wr => ∃ (k : Nat) (b : Bd), k ≤ len ∧ i = .int .i64 k ∧ Hid b.Ok ∧ Hid (Inv b) ∧ Hid (Blk wr g3 29 (enc b)) ∧ Hid (Below w.heap.size w wr)) (fun i _ => len - (intOf i).toNat)
  case atStart => exact ⟨0, zeroB, by omega, rfl, zero_ok, inv_zero, HB4, HW4⟩
  case round =>
    clear HB4 HW4
    obtain ⟨k, b, hk, rfl, HO, HI, HB, HW⟩ := hrel
    have HSb := hid_ (enc_size b HO.out.regs)
    by_cases hlt : k < len
    · obtain ⟨KK, N, X, hN0, hN1, hX0, hX1, cK, cN, cX⟩ := HC.out k hlt
      have i0 : (0 : Int) ≤ (k : Int) := by omega
      have i1 : (k : Int) < (len : Int) := by omega
      have hall : Below w0.heap.size w0 wr := HBW.out.trans (HW.out.mono HBW.out.size)
      have y0 := (hall.cell (p := ⟨b1, _, none⟩) hb1').trans cK
      have y1 := (hall.cell (p := ⟨b1, _, none⟩) hb1').trans cN
      have y2 := (hall.cell (p := ⟨b1, _, none⟩) hb1').trans cX
      clear cK cN cX hall
      have HOw := hid_ (then_ok HO.out KK N X hX0 hX1)
      have HIw := hid_ (inv_then HI.out KK N X)
      have HSw := hid_ (enc_size _ HOw.out.regs)
      have H1w := hid_ (enc_one (thenB b KK N X))
      go_wp2_with fail
      generalize hwq : wr = wq at *
      clear hwq
      have hbq : b1 < wq.heap.size := Nat.lt_of_lt_of_le hb1 HW.out.size
      refine wp_region_tail (S := (fun W => (∀ b o, b < wq.heap.size → W.cell? ⟨b, o, none⟩ = wq.cell? ⟨b, o, none⟩) ∧ Keeps wq W)) (tail := (fun j => j == 6)) (by kernel_rfl) ?hS1 (fun hHeld => ?rest1)
      case hS1 => (exact ⟨fun _ _ _ => rfl, (Keeps.refl _).drew⟩)
      refine wpAnyT_take (i := 0) (v := .agg (enc b)) rfl (by kernel_rfl) (by kernel_rfl) (by kernel_rfl) (by kernel_rfl) (by kernel_rfl) (fun _ _ _ h => h) (Or.inl ⟨by rfl, ?hy2⟩) (by assumption) ?rest2
      case hy2 => (intro W hSw; exact run_load29 rfl (.tmp 3) rfl g3 (by with_unfolding_all rfl) (enc b) (HB.out.below hSw.2 HB.out.lt) HSb.out)
      (try simp only [Act.put, List.getElem_toArray, List.getElem_cons_succ, List.getElem_cons_zero, List.setIfInBounds_toArray, List.set_cons_zero, List.set_cons_succ])
      refine wpAnyT_take (i := 1) (v := ?v3) rfl (by kernel_rfl) (by kernel_rfl) (by kernel_rfl) (by kernel_rfl) (by kernel_rfl) (fun _ _ _ h => h) (Or.inl ⟨by rfl, ?hy3⟩) (by assumption) ?rest3
      case hy3 => (intro w hSw; (try simp only [List.getElem_toArray, List.getElem_cons_succ, List.getElem_cons_zero]); (try dsimp only at hSw); go_simp; all_goals (with_reducible rfl))
      (try simp only [Act.put, List.getElem_toArray, List.getElem_cons_succ, List.getElem_cons_zero, List.setIfInBounds_toArray, List.set_cons_zero, List.set_cons_succ])
      refine wpAnyT_take (i := 2) (v := ?v4) rfl (by kernel_rfl) (by kernel_rfl) (by kernel_rfl) (by kernel_rfl) (by kernel_rfl) (fun _ _ _ h => h) (Or.inl ⟨by rfl, ?hy4⟩) (by assumption) ?rest4
      case hy4 => (intro w hSw; (try simp only [List.getElem_toArray, List.getElem_cons_succ, List.getElem_cons_zero]); (try dsimp only at hSw); go_simp; all_goals (with_reducible rfl))
      (try simp only [Act.put, List.getElem_toArray, List.getElem_cons_succ, List.getElem_cons_zero, List.setIfInBounds_toArray, List.set_cons_zero, List.set_cons_succ])
      refine wpAnyT_take (i := 3) (v := ?v5) rfl (by kernel_rfl) (by kernel_rfl) (by kernel_rfl) (by kernel_rfl) (by kernel_rfl) (fun _ _ _ h => h) (Or.inl ⟨by rfl, ?hy5⟩) (by assumption) ?rest5
      case hy5 => (intro w hSw; (try simp only [List.getElem_toArray, List.getElem_cons_succ, List.getElem_cons_zero]); (try dsimp only at hSw); go_simp; all_goals (with_reducible rfl))
      (try simp only [Act.put, List.getElem_toArray, List.getElem_cons_succ, List.getElem_cons_zero, List.setIfInBounds_toArray, List.set_cons_zero, List.set_cons_succ])
      refine wpAnyT_take (i := 4) (v := ?v6) rfl (by kernel_rfl) (by kernel_rfl) (by kernel_rfl) (by kernel_rfl) (by kernel_rfl) (fun _ _ _ h => h) (Or.inl ⟨by rfl, ?hy6⟩) (by assumption) ?rest6
      case hy6 => (intro w hSw; (try simp only [List.getElem_toArray, List.getElem_cons_succ, List.getElem_cons_zero]); (try dsimp only at hSw); go_simp; all_goals (with_reducible rfl))
      (try simp only [Act.put, List.getElem_toArray, List.getElem_cons_succ, List.getElem_cons_zero, List.setIfInBounds_toArray, List.set_cons_zero, List.set_cons_succ])
      refine wpAnyT_one (i := 5) rfl (by kernel_rfl) (fun K hK => ?_)
      (try simp only [List.getElem_toArray, List.getElem_cons_succ, List.getElem_cons_zero])
      go_simp
      (refine (then_any b HO.out KK N X hX0 hX1 _).mono ?_; rintro e w8 ⟨rfl, hc4, hf4, hz4, hb4⟩; have hk4 := Keeps.step (wo := wq) hHeld.2 hb4; clear hc4 hf4 hz4 hb4 hHeld)
      (try go_wp2_with fail)
      refine hK.out _ _ ?hS7 ?rest7
      case hS7 => (exact ⟨fun _ _ h => Keeps.cells hk4 _ _ h, hk4⟩)
      clear hK K
      (try simp only [Act.put, List.getElem_toArray, List.getElem_cons_succ, List.getElem_cons_zero, List.setIfInBounds_toArray, List.set_cons_zero, List.set_cons_succ])
      have hBd := HB.out.below hk4 HB.out.lt
      refine wpAnyT_last (i := 6) rfl (by kernel_rfl) rfl (fun K hK => ?_)
      (try simp only [List.getElem_toArray, List.getElem_cons_succ, List.getElem_cons_zero])
      refine step_store29 (op := ⟨none, .store 29 (.tmp 3) (.tmp 28), _, _, _, _⟩) rfl (.tmp 3) (.tmp 28) rfl g3 (enc b) (enc (thenB b KK N X)) (by with_unfolding_all rfl) (by with_unfolding_all rfl) hBd HSb.out HSw.out H1w.out ?_
      refine hK.out _ _ ?_
      clear hK K
      (try simp only [Act.put, List.getElem_toArray, List.getElem_cons_succ, List.getElem_cons_zero, List.setIfInBounds_toArray, List.set_cons_zero, List.set_cons_succ])
      refine wpAnyT_done (by kernel_rfl) ?_ _
      have HB5 : Hid (Blk (w8.setRow g3 (enc (thenB b KK N X))) g3 29 (enc (thenB b KK N X))) := hBd.setRow _
      have HW5 : Hid (Below w.heap.size w (w8.setRow g3 (enc (thenB b KK N X)))) := below_setRow (HW.out.trans (Below.mono hk4 HW.out.size)) hgle _
      clear y0 y1 y2 hBd hk4 HB HW HSb HSw H1w HO HI
      generalize w8.setRow g3 (enc (thenB b KK N X)) = w5 at *
      generalize thenB b KK N X = c at *
      have HOc := HOw
      have HIc := HIw
      go_wp2_with fail
      go_loopw [29] (fun i wz => ∃ v : Nat, v ≤ 4 ∧ i = .int .i64 v ∧ Hid (Blk wz g3 29 (enc c)) ∧ Hid (Below w.heap.size w wz)) (fun i _ => 4 - (intOf i).toNat)
      case atStart => exact ⟨0, by omega, rfl, HB5, HW5⟩
      case round =>
        clear HB5 HW5
        obtain ⟨v, hv, rfl, HBc, HWc⟩ := hrel
        by_cases h4 : v = 4
        · subst h4
          have c67 := HBc.out.a67 HOc.out.regs
          have c49 := HBc.out.a49 HOc.out.regs
          have c50 := HBc.out.a50 HOc.out.regs
          have p0 := HOc.out.pitch0
          have p1 := HOc.out.pitch1
          have p2 := HOc.out.div0
          have p3 := HOc.out.div1
          have p4 := HOc.out.step0
          have p5 := HOc.out.step1
          have d1 : decide (c.pitch < 0) = false := by simp; omega
          have d2 : decide (2047 < c.pitch) = false := by simp; omega
          have d3 : decide (c.div < 0) = false := by simp; omega
          have d4 : decide (2047 < c.div) = false := by simp; omega
          have d5 : decide (c.step < 0) = false := by simp; omega
          have d6 : decide (7 < c.step) = false := by simp; omega
          clear p0 p1 p2 p3 p4 p5
          go_wp2
          go_roundw
          case rel => exact ⟨k + 1, c, by omega, by go_num, HOc, HIc, HBc, HWc⟩
          case measure => simp [intOf]; omega
        · obtain rfl | rfl | rfl | rfl : v = 0 ∨ v = 1 ∨ v = 2 ∨ v = 3 := by omega
          · have con := HBc.out.a51 HOc.out.regs
            have cln := HBc.out.a52 HOc.out.regs
            have clv := HBc.out.a53 HOc.out.regs
            have cwt := HBc.out.a54 HOc.out.regs
            have cr : wr.cell? ⟨g3, 2, none⟩ = some (.int .u8 (c.reg 2)) := HBc.out.ar HOc.out.regs 2 (by omega)
            have e248 := and248 (c.reg 2) (HOc.out.byte 2).1 (HOc.out.byte 2).2
            have c48 := HBc.out.a48 HOc.out.regs
            have hg3 := HBc.out.lt
            obtain ⟨n0, n1, v0, v1, _, _⟩ := HOc.out.v0
            have d1 : decide (c.v0.lev < 0) = false := by simp; omega
            have d2 : decide (15 < c.v0.lev) = false := by simp; omega
            have d3 : decide (c.v0.len < 0) = false := by simp; omega
            have d4 : decide (64 < c.v0.len) = false := by simp; omega
            by_cases hon : c.v0.on = true
            · obtain ⟨r1, r2⟩ := HIc.out 0 (by omega) hon
              have hr : decide (8 ≤ c.reg 2) = true := r1
              rw [hon] at con
              rw [r2] at c48
              clear r1 r2 hon
              go_wp2
              go_roundw
              case rel => exact ⟨1, by omega, rfl, hid_ (HBc.out.below ((Below.refl _ _).alloc (Nat.le_refl _) _) hg3), hid_ (HWc.out.alloc HWc.out.size _)⟩
              case measure => simp [intOf]
            · have hon' : c.v0.on = false := by simpa using hon
              rw [hon'] at con
              clear hon hon'
              go_wp2
              go_roundw
              case rel => exact ⟨1, by omega, rfl, hid_ (HBc.out.below ((Below.refl _ _).alloc (Nat.le_refl _) _) hg3), hid_ (HWc.out.alloc HWc.out.size _)⟩
              case measure => simp [intOf]
          · have con := HBc.out.a55 HOc.out.regs
            have cln := HBc.out.a56 HOc.out.regs
            have clv := HBc.out.a57 HOc.out.regs
            have cwt := HBc.out.a58 HOc.out.regs
            have cr : wr.cell? ⟨g3, 7, none⟩ = some (.int .u8 (c.reg 7)) := HBc.out.ar HOc.out.regs 7 (by omega)
            have e248 := and248 (c.reg 7) (HOc.out.byte 7).1 (HOc.out.byte 7).2
            have c48 := HBc.out.a48 HOc.out.regs
            have hg3 := HBc.out.lt
            obtain ⟨n0, n1, v0, v1, _, _⟩ := HOc.out.v1
            have d1 : decide (c.v1.lev < 0) = false := by simp; omega
            have d2 : decide (15 < c.v1.lev) = false := by simp; omega
            have d3 : decide (c.v1.len < 0) = false := by simp; omega
            have d4 : decide (64 < c.v1.len) = false := by simp; omega
            by_cases hon : c.v1.on = true
            · obtain ⟨r1, r2⟩ := HIc.out 1 (by omega) hon
              have hr : decide (8 ≤ c.reg 7) = true := r1
              rw [hon] at con
              rw [r2] at c48
              clear r1 r2 hon
              go_wp2
              go_roundw
              case rel => exact ⟨2, by omega, rfl, hid_ (HBc.out.below ((Below.refl _ _).alloc (Nat.le_refl _) _) hg3), hid_ (HWc.out.alloc HWc.out.size _)⟩
              case measure => simp [intOf]
            · have hon' : c.v1.on = false := by simpa using hon
              rw [hon'] at con
              clear hon hon'
              go_wp2
              go_roundw
              case rel => exact ⟨2, by omega, rfl, hid_ (HBc.out.below ((Below.refl _ _).alloc (Nat.le_refl _) _) hg3), hid_ (HWc.out.alloc HWc.out.size _)⟩
              case measure => simp [intOf]
          · have con := HBc.out.a59 HOc.out.regs
            have cln := HBc.out.a60 HOc.out.regs
            have clv := HBc.out.a61 HOc.out.regs
            have cwt := HBc.out.a62 HOc.out.regs
            have cr : wr.cell? ⟨g3, 12, none⟩ = some (.int .u8 (c.reg 12)) := HBc.out.ar HOc.out.regs 12 (by omega)
            have e248 := and248 (c.reg 12) (HOc.out.byte 12).1 (HOc.out.byte 12).2
            have cr10 : wr.cell? ⟨g3, 10, none⟩ = some (.int .u8 (c.reg 10)) := HBc.out.ar HOc.out.regs 10 (by omega)
            have e128 := and128 (c.reg 10) (HOc.out.byte 10).1 (HOc.out.byte 10).2
            have c48 := HBc.out.a48 HOc.out.regs
            have hg3 := HBc.out.lt
            obtain ⟨n0, n1, v0, v1, _, _⟩ := HOc.out.v2
            have d1 : decide (c.v2.lev < 0) = false := by simp; omega
            have d2 : decide (15 < c.v2.lev) = false := by simp; omega
            have d3 : decide (c.v2.len < 0) = false := by simp; omega
            have d4 : decide (256 < c.v2.len) = false := by simp; omega
            by_cases hon : c.v2.on = true
            · obtain ⟨r1, r2⟩ := HIc.out 2 (by omega) hon
              have hr : decide (128 ≤ c.reg 10) = true := r1
              rw [hon] at con
              rw [r2] at c48
              clear r1 r2 hon
              go_wp2
              go_roundw
              case rel => exact ⟨3, by omega, rfl, hid_ (HBc.out.below ((Below.refl _ _).alloc (Nat.le_refl _) _) hg3), hid_ (HWc.out.alloc HWc.out.size _)⟩
              case measure => simp [intOf]
            · have hon' : c.v2.on = false := by simpa using hon
              rw [hon'] at con
              clear hon hon'
              go_wp2
              go_roundw
              case rel => exact ⟨3, by omega, rfl, hid_ (HBc.out.below ((Below.refl _ _).alloc (Nat.le_refl _) _) hg3), hid_ (HWc.out.alloc HWc.out.size _)⟩
              case measure => simp [intOf]
          · have con := HBc.out.a63 HOc.out.regs
            have cln := HBc.out.a64 HOc.out.regs
            have clv := HBc.out.a65 HOc.out.regs
            have cwt := HBc.out.a66 HOc.out.regs
            have cr : wr.cell? ⟨g3, 17, none⟩ = some (.int .u8 (c.reg 17)) := HBc.out.ar HOc.out.regs 17 (by omega)
            have e248 := and248 (c.reg 17) (HOc.out.byte 17).1 (HOc.out.byte 17).2
            have c48 := HBc.out.a48 HOc.out.regs
            have hg3 := HBc.out.lt
            obtain ⟨n0, n1, v0, v1, _, _⟩ := HOc.out.v3
            have d1 : decide (c.v3.lev < 0) = false := by simp; omega
            have d2 : decide (15 < c.v3.lev) = false := by simp; omega
            have d3 : decide (c.v3.len < 0) = false := by simp; omega
            have d4 : decide (64 < c.v3.len) = false := by simp; omega
            by_cases hon : c.v3.on = true
            · obtain ⟨r1, r2⟩ := HIc.out 3 (by omega) hon
              have hr : decide (8 ≤ c.reg 17) = true := r1
              rw [hon] at con
              rw [r2] at c48
              clear r1 r2 hon
              go_wp2
              go_roundw
              case rel => exact ⟨4, by omega, rfl, hid_ (HBc.out.below ((Below.refl _ _).alloc (Nat.le_refl _) _) hg3), hid_ (HWc.out.alloc HWc.out.size _)⟩
              case measure => simp [intOf]
            · have hon' : c.v3.on = false := by simpa using hon
              rw [hon'] at con
              clear hon hon'
              go_wp2
              go_roundw
              case rel => exact ⟨4, by omega, rfl, hid_ (HBc.out.below ((Below.refl _ _).alloc (Nat.le_refl _) _) hg3), hid_ (HWc.out.alloc HWc.out.size _)⟩
              case measure => simp [intOf]
    · obtain rfl : k = len := by omega
      have q : decide ((k : Int) < (k : Int)) = false := by simp
      go_wp2
      go_ret
      exact .of rfl (below_join HBW.out HW.out)
theorem walkOut (a : Option Addr) (len cap : Nat) (hl : 40 < len) (w : World) :
    Calls Try.prog 3 #[.slice a len cap] w (Ret (.bool true) w) := by
  have ql : decide (40 < (len : Int)) = true := by simp; omega
  go_enter Try.func3, Try.ntmps3
  go_wp2_with fail
  refine (awake_any _).mono ?_
  rintro e w1 ⟨rfl, hc1, hf1, hz1, hb1⟩
  clear hc1 hf1 hz1
  go_wp2_with fail
  refine (awake_any _).mono ?_
  rintro e w2 ⟨rfl, hc1, hf1, hz1, hb2⟩
  clear hc1 hf1 hz1
  go_wp2_with fail
  go_ret
  exact .of rfl (below_join hb1 hb2)
set_option maxRecDepth 20000 in
theorem walkZero (a : Option Addr) (cap : Nat) (w : World) :
    Calls Try.prog 3 #[.slice a 0 cap] w (Ret (.bool true) w) := by
  have hz := board_zero
  have hsz : (enc zeroB).size = 70 := enc_size zeroB rfl
  have HZ := hid_ hsz
  have H1Z := hid_ (enc_one zeroB)
  go_enter Try.func3, Try.ntmps3
  go_wp2_with fail
  refine (awake_any _).mono ?_
  rintro e w1 ⟨rfl, hd1, hf1, hz1, hbw⟩
  clear hd1 hf1 hz1
  have HBW := hid_ hbw
  have hs1 := hbw.size
  clear hbw
  go_wp2_with (first
    | ((with_reducible refine wpList_allocZ2 (op := ⟨some 3, .alloc 29, _, _, _, _⟩) rfl rfl ?_); intro w3 HB3 HW3 hl3)
    | (with_reducible refine wpList_store29 (op := ⟨none, .store 29 (.tmp 3) (.tmp 17), _, _, _, _⟩) rfl (.tmp 3) (.tmp 17) rfl w1.heap.size (enc zeroB) (enc zeroB) (by with_unfolding_all rfl) (by with_unfolding_all rfl) HB3.out HZ.out HZ.out H1Z.out ?_))
  have HW4 : Hid (Below w.heap.size w (w3.setRow w1.heap.size (enc zeroB))) := below_setRow (HBW.out.trans (HW3.out.mono hs1)) hs1 _
  clear HB3 HW3
  generalize w3.setRow w1.heap.size (enc zeroB) = w4 at *
  go_loopw [20] (fun i wr => i = .int .i64 0 ∧ Hid (Below w.heap.size w wr)) (fun i _ => 0)
  case atStart => exact ⟨rfl, HW4⟩
  case round =>
    clear HW4
    obtain ⟨rfl, HW⟩ := hrel
    go_wp2
    go_ret
    exact .of rfl HW.out
theorem walk (w : World) (a : Option Addr) (len cap : Nat) (z : Unit) (hops : IsOps w a len z) :
    Calls Try.prog 3 #[.slice a len cap] w (Ret (.bool true) w) := by
  by_cases hl : 40 < len
  · exact walkOut a len cap hl w
  · rcases Nat.eq_zero_or_pos len with h0 | h0
    · subst h0; exact walkZero a cap w
    · obtain ⟨b1, o1, rfl, hb1, hc1⟩ := hops h0
      exact walkIn b1 o1 len cap w (by omega) h0 hb1 hc1
end Go.Proofs.Ytacbdapgdgliiaa.soundHolds
