/- The law TilesSplit: its walk. -/
import Derived.Test.YtglnikjeloafiaaLines
namespace Go.Proofs.Ytglnikjeloafiaa
open Go.RowKit
set_option linter.unusedSimpArgs false
set_option linter.unusedVariables false

theorem wpList_load36g {ops : Array Oper} {rest : List Oper} {op : Oper} {a : Act} {w : World} {Q : Exit → Act → World → Prop} (hgd : Region.wanted op (yielded ops a.tmps) = true) (x : Operand) (ho : op.op = .load 36 x)
    (b : Nat) (hx : a.eval x = .pointer (some ⟨b, 0, none⟩)) (cs : Array Value) (hB : Blk w b 36 cs) (hs : cs.size = 160)
    (h : wpList Try.prog ops Q rest (a.put op.dst (.agg cs)) w) : wpList Try.prog ops Q (op :: rest) a w :=
  wpList_step fun _ hK => by
    rw [if_pos hgd]
    unfold Oper.wp execOp
    simp only [ho, hx, Instr.loadAt, Instr.sureAddr, Sem.run_bind, Sem.run_pure, Result.andThen_ok, row_load hB hs]
    exact hK _ _ h
theorem not32 (a : Int) (h : 0 ≤ a) (h' : a ≤ 255) : bits .andNot .u8 a 32 = a - a / 32 % 2 * 32 :=
  upto (P := fun a => bits .andNot .u8 a 32 = a - a / 32 % 2 * 32) (by decide +kernel) a h h'
theorem not1 (a : Int) (h : 0 ≤ a) (h' : a ≤ 255) : bits .andNot .u8 a 1 = a - a % 2 :=
  upto (P := fun a => bits .andNot .u8 a 1 = a - a % 2) (by decide +kernel) a h h'
theorem backI_of (zs : List Int) (c c1 sx sy x y : Int) (h3 : c1 / 8 % 2 = c / 8 % 2) (h4 : c1 / 16 % 2 = c / 16 % 2) : backI zs c1 sx sy x y = backI zs c sx sy x y := by
  have e3 : bitI c1 3 = bitI c 3 := h3
  unfold backI spotI numI
  rw [e3, h4]

namespace tilesSplit
set_option maxRecDepth 100000 in
set_option maxHeartbeats 4000000 in
theorem walkIn (w : World) (s : Option Addr) (len cap : Nat) (z : List Int) (c sx sy wx wy line own : Int) (h : IsRow .u8 w s len z) (hl : len ≤ 3000)
    (hc : 0 ≤ c) (hc' : c ≤ 255) (hw0 : 0 ≤ wx) (hw1 : wx ≤ 255) (hv0 : 0 ≤ wy) (hv1 : wy ≤ 255) (hn0 : 0 ≤ line) (hn1 : line ≤ 255) :
    Calls Try.prog 8 #[.slice s len cap, view c sx sy wx wy, .int .u8 line, .int .i64 own] w (Ret (.bool true) w) := by
  have q : decide (3000 < (len : Int)) = false := by simp; omega
  have H0 := hid_ h
  have HL := hid_ hl
  clear h hl
  obtain ⟨zz, hz, hsz, hat⟩ := row_zero
  have HSZ := hid_ hsz
  have hzr : zz = rowOf fun _ => 0 := eq_rowOf (F := fun _ => 0) hsz hat
  have HZO : Hid (zz.all (·.oneCell') = true) := bytes_one (F := fun _ => 0) hsz hat
  have heq : ∀ W : World, (Op.equalIn 10000 36 (.agg zz) (.agg zz)).run Try.prog W = .ok true W := fun W => by rw [hzr]; exact row_same _ W
  have hg36 : Try.prog.eqGuardType Try.prog.depth 36 = false := by kernel_rfl
  obtain ⟨c1, hc1⟩ : ∃ v, bits .andNot .u8 c 32 = v := ⟨_, rfl⟩
  obtain ⟨c2, hc2⟩ : ∃ v, bits .andNot .u8 c 1 = v := ⟨_, rfl⟩
  have hd1 : c1 = c - c / 32 % 2 * 32 := by rw [← hc1, not32 c hc hc']
  have hd2 : c2 = c - c % 2 := by rw [← hc2, not1 c hc hc']
  have hc10 : 0 ≤ c1 := by omega
  have hc11 : c1 ≤ 255 := by omega
  have hc20 : 0 ≤ c2 := by omega
  have hc21 : c2 ≤ 255 := by omega
  have P0 : bitI c1 0 = bitI c 0 := by unfold bitI; simp; omega
  have P5 : bitI c1 5 = 0 := by unfold bitI; simp; omega
  have P2 : bitI c2 0 = 0 := by unfold bitI; simp; omega
  obtain ⟨sb, hsb⟩ : ∃ b, seenB c wx wy line = b := ⟨_, rfl⟩
  obtain ⟨G1, hG1⟩ : ∃ F, lineG (fillZ z) c sx sy wx wy line own = F := ⟨_, rfl⟩
  obtain ⟨G2, hG2⟩ : ∃ F, lineG (fillZ z) c1 sx sy wx wy line own = F := ⟨_, rfl⟩
  have HS0 : Hid (seenB c wx wy line = sb) := hsb
  have HS1 : Hid (seenB c1 wx wy line = false) := by show _ = _; unfold seenB; simp [P5]
  have HE1 : Hid (∀ j : Nat, ¬ (sb = true ∧ 0 ≤ (j : Int) + 7 - wx) → G1 j = G2 j) := by
    intro j hj
    rw [← hG1, ← hG2]
    unfold lineG
    rw [P0]
    split
    · unfold lineF
      rw [hsb, if_neg hj, if_neg (by rw [HS1.out]; simp), backI_of _ c c1 _ _ _ _ (by omega) (by omega)]
    · rfl
  have HE2 : Hid (∀ j : Nat, (sb = true ∧ 0 ≤ (j : Int) + 7 - wx) → G1 j = windowI (fillZ z) c ((j : Int) + 7 - wx) own) := by
    intro j hj
    have hon : bitI c 0 = 1 := by have := hj.1; rw [← hsb] at this; unfold seenB at this; simp at this; exact this.1
    rw [← hG1]
    unfold lineG lineF
    rw [if_pos hon, hsb, if_pos hj]
  obtain ⟨L1, hL1⟩ : ∃ L : Array Value, rowOf G1 = L := ⟨_, rfl⟩
  obtain ⟨L2, hL2⟩ : ∃ L : Array Value, rowOf G2 = L := ⟨_, rfl⟩
  have HF1 : Hid (rowOf (lineG (fillZ z) c sx sy wx wy line own) = L1) := by show _ = _; rw [hG1, hL1]
  have HF2 : Hid (rowOf (lineG (fillZ z) c1 sx sy wx wy line own) = L2) := by show _ = _; rw [hG2, hL2]
  have HF3 : Hid (rowOf (lineG (fillZ z) c2 sx sy wx wy line own) = zz) := by
    show _ = _
    rw [hzr]; congr 1; funext j; unfold lineG; rw [if_neg (by rw [P2]; decide)]
  have HS2 : Hid (seenB c2 wx wy line = false) := by show _ = _; unfold seenB; simp [P2]
  have HN1 : Hid (L1.size = 160) := by show _ = _; rw [← hL1]; exact rowOf_size G1
  have HN2 : Hid (L2.size = 160) := by show _ = _; rw [← hL2]; exact rowOf_size G2
  have HO1 : Hid (L1.all (·.oneCell') = true) := by show _ = _; rw [← hL1]; exact bytes_one (rowOf_size G1) (rowOf_at G1)
  have HO2 : Hid (L2.all (·.oneCell') = true) := by show _ = _; rw [← hL2]; exact bytes_one (rowOf_size G2) (rowOf_at G2)
  have HA1 : Hid (∀ j, j < 160 → L1[j]? = some (.int .u8 (G1 j))) := fun j hj => by rw [← hL1]; exact rowOf_at G1 j hj
  have HA2 : Hid (∀ j, j < 160 → L2[j]? = some (.int .u8 (G2 j))) := fun j hj => by rw [← hL2]; exact rowOf_at G2 j hj
  clear hsz hat hzr hd1 hd2 P0 P5 P2 hsb hG1 hG2 hL1 hL2
  go_enter Try.func8, Try.ntmps8
  go_wp2_with fail
  refine (awake_any _).mono ?_
  rintro e w1 ⟨rfl, hd1, hf1, hz1, hb1⟩
  have hB1 := (Blk.new w 24 #[.int .u8 c, .int .u8 sx, .int .u8 sy, .int .u8 wx, .int .u8 wy]).below hb1 (by simp)
  have R1 := hid_ ((H0.out.alloc (.cells #[.int .u8 c, .int .u8 sx, .int .u8 sy, .int .u8 wx, .int .u8 wy] 24)).below hb1)
  have hW1 : Below w.heap.size w w1 := ((Below.refl _ _).alloc (Nat.le_refl _) _).trans (hb1.mono (by simp))
  simp at hz1
  clear hd1 hf1
  go_wp2_with fail
  refine (filled_any s len cap z HL.out _ R1.out).mono ?_
  rintro e w2 ⟨rfl, M2, hb2⟩
  obtain ⟨g, hg⟩ : ∃ g, w1.heap.size = g := ⟨_, rfl⟩
  rw [hg] at M2 ⊢
  clear hg
  have hB2 := hB1.below hb2 (by omega)
  have hW2 : Below w.heap.size w w2 := hW1.trans (hb2.mono (by omega))
  clear hb1 hb2 R1 hW1 hB1 hz1
  have gB := hB2.lt
  obtain ⟨a0, a1, a2, a3, a4, f0, f1, f2, f3, f4⟩ := hB2.five
  go_wp2_with fail
  have hV3 := Blk.new w2 26 #[.int .u8 c, .int .u8 sx, .int .u8 sy, .int .u8 wx, .int .u8 wy]
  have M3 := hid_ (M2.out.alloc (.cells #[.int .u8 c, .int .u8 sx, .int .u8 sy, .int .u8 wx, .int .u8 wy] 26))
  have hW3 : Below w.heap.size w (w2.alloc (.cells #[.int .u8 c, .int .u8 sx, .int .u8 sy, .int .u8 wx, .int .u8 wy] 26)) := hW2.alloc hW2.size _
  have nV : w.heap.size ≤ w2.heap.size := hW2.size
  clear a0 a1 a2 a3 a4 f0 f1 f2 f3 f4 gB hB2 M2 hW2
  generalize (w2.alloc (.cells #[.int .u8 c, .int .u8 sx, .int .u8 sy, .int .u8 wx, .int .u8 wy] 26)) = w3 at *
  generalize w2.heap.size = v at *
  obtain ⟨a0, a1, a2, a3, a4, f0, f1, f2, f3, f4⟩ := hV3.five
  go_wp2_with fail
  refine (line_any (fillZ z) _ 8192 8192 c sx sy wx wy line own hc hc' hw0 hw1 hv0 hv1 _ M3.out).mono ?_
  rintro e w4 ⟨rfl, hdd, hff, hzz, hbb⟩
  rw [HF1.out, HS0.out]
  have hV4 := hV3.below hbb hV3.lt
  have hW4 := hW3.trans (hbb.mono hW3.size)
  have M4 := hid_ (M3.out.below hbb)
  clear hdd hff hzz hbb hW3 M3 hV3
  clear a0 a1 a2 a3 a4 f0 f1 f2 f3 f4
  have g_hV := hV4.lt
  have hN := Blk.new w4 36 zz
  have hA5 := hN.setRow L1
  have hV5 := (hV4.alloc (.cells zz 36)).setFar (b := w4.heap.size) (by omega) L1
  have hW5 : Below w.heap.size w ((w4.alloc (.cells zz 36)).setRow w4.heap.size L1) := below_setRow (hW4.alloc hW4.size _) hW4.size _
  have M5 := hid_ (M4.out.below (below_setRow ((Below.refl w4.heap.size w4).alloc (Nat.le_refl _) (.cells zz 36)) (Nat.le_refl _) L1))
  have nA : w.heap.size ≤ w4.heap.size := hW4.size
  obtain ⟨a0, a1, a2, a3, a4, f0, f1, f2, f3, f4⟩ := hV5.five
  go_wp2_with (with_reducible refine wpList_store36 (op := ⟨none, .store 36 (.tmp 12) (.tmp 41), _, _, _, _⟩) rfl (.tmp 12) (.tmp 41) rfl w4.heap.size zz L1 (by with_unfolding_all rfl) (by with_unfolding_all rfl) hN HSZ.out HN1.out HO1.out ?_)
  clear hN hW4 M4 hV4
  have hV6 := hV5.alloc (.cells #[.int .u8 c1, .int .u8 sx, .int .u8 sy, .int .u8 wx, .int .u8 wy] 26)
  have hA6 := hA5.alloc (.cells #[.int .u8 c1, .int .u8 sx, .int .u8 sy, .int .u8 wx, .int .u8 wy] 26)
  have hW6 := hW5.alloc hW5.size (.cells #[.int .u8 c1, .int .u8 sx, .int .u8 sy, .int .u8 wx, .int .u8 wy] 26)
  have M6 := hid_ (M5.out.alloc (.cells #[.int .u8 c1, .int .u8 sx, .int .u8 sy, .int .u8 wx, .int .u8 wy] 26))
  clear hV5 hA5 hW5 M5 a0 a1 a2 a3 a4 f0 f1 f2 f3 f4
  generalize (((w4.alloc (.cells zz 36)).setRow w4.heap.size L1).alloc (.cells #[.int .u8 c1, .int .u8 sx, .int .u8 sy, .int .u8 wx, .int .u8 wy] 26)) = w6 at *
  generalize w4.heap.size = la at *
  obtain ⟨a0, a1, a2, a3, a4, f0, f1, f2, f3, f4⟩ := hV6.five
  refine (line_any (fillZ z) _ 8192 8192 c1 sx sy wx wy line own hc10 hc11 hw0 hw1 hv0 hv1 _ M6.out).mono ?_
  rintro e w7 ⟨rfl, hdd, hff, hzz, hbb⟩
  rw [HF2.out, HS1.out]
  have hV7 := hV6.below hbb hV6.lt
  have hA7 := hA6.below hbb hA6.lt
  have hW7 := hW6.trans (hbb.mono hW6.size)
  have M7 := hid_ (M6.out.below hbb)
  clear hdd hff hzz hbb hW6 M6 hV6 hA6
  clear a0 a1 a2 a3 a4 f0 f1 f2 f3 f4
  have g_hV := hV7.lt
  have g_hA := hA7.lt
  have hN := Blk.new w7 36 zz
  have hB8 := hN.setRow L2
  have hV8 := (hV7.alloc (.cells zz 36)).setFar (b := w7.heap.size) (by omega) L2
  have hA8 := (hA7.alloc (.cells zz 36)).setFar (b := w7.heap.size) (by omega) L2
  have hW8 : Below w.heap.size w ((w7.alloc (.cells zz 36)).setRow w7.heap.size L2) := below_setRow (hW7.alloc hW7.size _) hW7.size _
  have M8 := hid_ (M7.out.below (below_setRow ((Below.refl w7.heap.size w7).alloc (Nat.le_refl _) (.cells zz 36)) (Nat.le_refl _) L2))
  have nB : w.heap.size ≤ w7.heap.size := hW7.size
  obtain ⟨a0, a1, a2, a3, a4, f0, f1, f2, f3, f4⟩ := hV8.five
  go_wp2_with (with_reducible refine wpList_store36 (op := ⟨none, .store 36 (.tmp 15) (.tmp 54), _, _, _, _⟩) rfl (.tmp 15) (.tmp 54) rfl w7.heap.size zz L2 (by with_unfolding_all rfl) (by with_unfolding_all rfl) hN HSZ.out HN2.out HO2.out ?_)
  clear hN hW7 M7 hV7 hA7
  have hV9 := hV8.alloc (.cells #[.int .u8 c2, .int .u8 sx, .int .u8 sy, .int .u8 wx, .int .u8 wy] 26)
  have hA9 := hA8.alloc (.cells #[.int .u8 c2, .int .u8 sx, .int .u8 sy, .int .u8 wx, .int .u8 wy] 26)
  have hB9 := hB8.alloc (.cells #[.int .u8 c2, .int .u8 sx, .int .u8 sy, .int .u8 wx, .int .u8 wy] 26)
  have hW9 := hW8.alloc hW8.size (.cells #[.int .u8 c2, .int .u8 sx, .int .u8 sy, .int .u8 wx, .int .u8 wy] 26)
  have M9 := hid_ (M8.out.alloc (.cells #[.int .u8 c2, .int .u8 sx, .int .u8 sy, .int .u8 wx, .int .u8 wy] 26))
  clear hV8 hA8 hB8 hW8 M8 a0 a1 a2 a3 a4 f0 f1 f2 f3 f4
  generalize (((w7.alloc (.cells zz 36)).setRow w7.heap.size L2).alloc (.cells #[.int .u8 c2, .int .u8 sx, .int .u8 sy, .int .u8 wx, .int .u8 wy] 26)) = w9 at *
  generalize w7.heap.size = lb at *
  obtain ⟨a0, a1, a2, a3, a4, f0, f1, f2, f3, f4⟩ := hV9.five
  refine (line_any (fillZ z) _ 8192 8192 c2 sx sy wx wy line own hc20 hc21 hw0 hw1 hv0 hv1 _ M9.out).mono ?_
  rintro e w10 ⟨rfl, hdd, hff, hzz, hbb⟩
  rw [HF3.out, HS2.out]
  have hV10 := hV9.below hbb hV9.lt
  have hA10 := hA9.below hbb hA9.lt
  have hB10 := hB9.below hbb hB9.lt
  have hW10 := hW9.trans (hbb.mono hW9.size)
  have M10 := hid_ (M9.out.below hbb)
  clear hdd hff hzz hbb hW9 M9 hV9 hA9 hB9
  clear a0 a1 a2 a3 a4 f0 f1 f2 f3 f4
  have g_hV := hV10.lt
  have g_hA := hA10.lt
  have g_hB := hB10.lt
  have hN := Blk.new w10 36 zz
  have hC11 := hN
  have hV11 := hV10.alloc (.cells zz 36)
  have hA11 := hA10.alloc (.cells zz 36)
  have hB11 := hB10.alloc (.cells zz 36)
  have hW11 : Below w.heap.size w (w10.alloc (.cells zz 36)) := hW10.alloc hW10.size _
  have M11 := hid_ (M10.out.alloc (.cells zz 36))
  go_wp2_with (first
    | (with_reducible refine wpList_store36_same (op := ⟨none, .store 36 (.tmp 18) (.tmp 67), _, _, _, _⟩) rfl (.tmp 18) (.tmp 67) rfl w10.heap.size zz (by with_unfolding_all rfl) (by with_unfolding_all rfl) hN HSZ.out HZO.out ?_)
    | (with_reducible refine wpList_load36g (op := ⟨some 71, _, _, _, _, _⟩) (by with_unfolding_all rfl) (.tmp 18) rfl w10.heap.size (by with_unfolding_all rfl) zz hN HSZ.out ?_))
  clear hN hW10 M10 hV10 hA10 hB10
  generalize (w10.alloc (.cells zz 36)) = w11 at *
  clear hC11 heq hg36
  go_loopw [75] (fun i wr => ∃ k : Nat, k ≤ 160 ∧ i = .int .i64 k ∧ Keeps w11 wr) (fun i _ => 160 - (intOf i).toNat)
  case atStart => exact ⟨0, by omega, rfl, Keeps.refl _⟩
  case round =>
    obtain ⟨k, hk, rfl, hkeep⟩ := hrel
    have hV := hV11.below hkeep hV11.lt
    have hA := hA11.below hkeep hA11.lt
    have hB := hB11.below hkeep hB11.lt
    have M := hid_ (M11.out.below hkeep)
    by_cases hlt : k < 160
    · have hk0 : (0 : Int) ≤ (k : Int) := by omega
      have hk1 : (k : Int) < 160 := by omega
      obtain ⟨x1, hx1⟩ : ∃ x, G1 k = x := ⟨_, rfl⟩
      obtain ⟨x2, hx2⟩ : ∃ x, G2 k = x := ⟨_, rfl⟩
      have ca := hA.cell k
      have cb := hB.cell k
      rw [HA1.out k hlt, hx1] at ca
      rw [HA2.out k hlt, hx2] at cb
      have X1 := hid_ hx1
      have X2 := hid_ hx2
      clear hx1 hx2
      have gA := hA.lt
      have gB := hB.lt
      have gV := hV.lt
      obtain ⟨a0, a1, a2, a3, a4, f0, f1, f2, f3, f4⟩ := hV.five
      by_cases hcs : sb = true ∧ 0 ≤ (k : Int) + 7 - wx
      · have e2 := HE2.out k hcs
        rw [X1.out] at e2
        obtain ⟨rfl, hge⟩ := hcs
        have E2 := hid_ e2.symm
        have q7 : decide ((k : Int) + 7 - wx < 0) = false := by simp; omega
        clear e2 hge
        go_wp2_with fail
        generalize wr = wo at *
        go_region_held3 (fun W => (∀ b o, b < wo.heap.size → W.cell? ⟨b, o, none⟩ = wo.cell? ⟨b, o, none⟩) ∧ Keeps wo W)
          (first | exact ⟨fun _ _ _ => rfl, (Keeps.refl _).drew⟩ | exact ⟨fun _ _ h => Keeps.cells (by assumption) _ _ h, by assumption⟩)
          (first
          | (go_at_call 19; go_split_ands; refine (window_any (fillZ z) _ 8192 8192 c sx sy wx wy ((k : Int) + 7 - wx) own hc hc' _ (keeps_row M.out (by assumption))).mono ?_; rintro e w4 ⟨rfl, hc4, hf4, hz4, hb4⟩; rw [E2.out]; have hk4 := Keeps.step (wo := wo) (by assumption) hb4; clear hc4 hf4 hz4 hb4))
        go_wp2_with fail
        exact ⟨⟨k + 1, by omega, by go_num, Below.trans hkeep (Below.mono (by assumption : Keeps wo _) hkeep.size)⟩, by simp [intOf]; omega⟩
      · have e1 := HE1.out k hcs
        rw [X1.out, X2.out] at e1
        subst e1
        cases sb with
        | false =>
          go_wp2_with fail
          go_quiet (fail)
          go_wp2_with fail
          exact ⟨⟨k + 1, by omega, by go_num, below_drewN hkeep _⟩, by simp [intOf]; omega⟩
        | true =>
          have q7 : decide ((k : Int) + 7 - wx < 0) = true := by simp at hcs ⊢; omega
          clear hcs
          go_wp2_with fail
          go_quiet (fail)
          go_wp2_with fail
          exact ⟨⟨k + 1, by omega, by go_num, below_drewN hkeep _⟩, by simp [intOf]; omega⟩
    · obtain rfl : k = 160 := by omega
      go_wp2_with fail
      go_ret
      exact .of rfl (hW11.trans (Below.mono hkeep hW11.size))

set_option maxRecDepth 100000 in
theorem walk_out (w : World) (s : Option Addr) (len cap : Nat) (c sx sy wx wy line own : Int) (hl : 3000 < len) :
    Calls Try.prog 8 #[.slice s len cap, view c sx sy wx wy, .int .u8 line, .int .i64 own] w (Ret (.bool true) w) := by
  have q : decide (3000 < (len : Int)) = true := by simp; omega
  clear hl
  go_enter Try.func8, Try.ntmps8
  go_wp2_with fail
  refine (awake_any _).mono ?_
  rintro e w1 ⟨rfl, hd1, hf1, hz1, hb1⟩
  have hW1 : Below w.heap.size w w1 := ((Below.refl _ _).alloc (Nat.le_refl _) _).trans (hb1.mono (by simp))
  clear hd1 hf1
  go_wp2_with fail
  refine (awake_any _).mono ?_
  rintro e w2 ⟨rfl, hd2, hf2, hz2, hb2⟩
  clear hd2 hf2
  go_wp2_with fail
  go_ret
  exact .of rfl (hW1.trans (hb2.mono hW1.size))
theorem walk (w : World) (s : Option Addr) (len cap : Nat) (z : List Int) (c sx sy wx wy line own : Int) (h : IsRow .u8 w s len z)
    (hc : 0 ≤ c) (hc' : c ≤ 255) (_ : 0 ≤ sx) (_ : sx ≤ 255) (_ : 0 ≤ sy) (_ : sy ≤ 255) (hw0 : 0 ≤ wx) (hw1 : wx ≤ 255) (hv0 : 0 ≤ wy) (hv1 : wy ≤ 255)
    (hn0 : 0 ≤ line) (hn1 : line ≤ 255) (_ : -9223372036854775808 ≤ own) (_ : own ≤ 9223372036854775807) :
    Calls Try.prog 8 #[.slice s len cap, view c sx sy wx wy, .int .u8 line, .int .i64 own] w (Ret (.bool true) w) := by
  by_cases hl : len ≤ 3000
  · exact walkIn w s len cap z c sx sy wx wy line own h hl hc hc' hw0 hw1 hv0 hv1 hn0 hn1
  · exact walk_out w s len cap c sx sy wx wy line own (by omega)
end tilesSplit
end Go.Proofs.Ytglnikjeloafiaa
