/- A line of the background and of the window: the contract of layer 13, and of its reference. -/
import Derived.Test.YtglnikjeloafiaaLine
namespace Go.Proofs.Ytglnikjeloafiaa
open Go.RowKit
set_option linter.unusedSimpArgs false
set_option linter.unusedVariables false

def seenB (c wx wy line : Int) : Bool := decide (bitI c 0 = 1) && (decide (bitI c 5 = 1) && (decide (wy ≤ line) && decide (wx ≤ 166)))
def lineG (zs : List Int) (c sx sy wx wy line own : Int) (j : Nat) : Int := if bitI c 0 = 1 then lineF zs c sx sy wx line own (seenB c wx wy line) j else 0
theorem and32 (a : Int) (h : 0 ≤ a) (h' : a ≤ 255) : bits .and .u8 a 32 = a / 32 % 2 * 32 :=
  upto (P := fun a => bits .and .u8 a 32 = a / 32 % 2 * 32) (by decide +kernel) a h h'

theorem line_any (zs : List Int) (a : Option Addr) (len cap : Nat) (c sx sy wx wy line own : Int)
    (hc : 0 ≤ c) (hc' : c ≤ 255) (hw0 : 0 ≤ wx) (hw1 : wx ≤ 255) (hv0 : 0 ≤ wy) (hv1 : wy ≤ 255) (w : World) (h : IsRow .u8 w a len zs) :
    Calls Try.prog 21 #[view c sx sy wx wy, .slice a len cap, .int .i64 line, .int .i64 own] w (Ret (.tuple #[.agg (rowOf (lineG zs c sx sy wx wy line own)), .bool (seenB c wx wy line)]) w) := by
  have e0 : bitI c 0 = c % 2 := by unfold bitI; simp
  have e5 : bitI c 5 = c / 32 % 2 := rfl
  by_cases h0 : c % 2 = 1
  · have e1 : bits .and .u8 c 1 = 1 := by rw [and1 c hc hc', h0]
    by_cases h5 : c / 32 % 2 = 1
    · have e32 : bits .and .u8 c 32 = 32 := by rw [and32 c hc hc', h5]; rfl
      by_cases hy : wy ≤ line
      · by_cases hx : wx ≤ 166
        · have es : seenB c wx wy line = true := by unfold seenB; simp [e0, e5, h0, h5, hy, hx]
          have eg : lineG zs c sx sy wx wy line own = lineF zs c sx sy wx line own true := by funext j; unfold lineG; rw [if_pos (by rw [e0, h0]), es]
          rw [es, eg]
          exact line_seen zs a len cap c sx sy wx wy line own e1 hc hc' hw0 hw1 hv0 hv1 e32 hy hx w h
        · have es : seenB c wx wy line = false := by unfold seenB; simp [e0, e5, h0, h5, hy, hx]
          have eg : lineG zs c sx sy wx wy line own = lineF zs c sx sy wx line own false := by funext j; unfold lineG; rw [if_pos (by rw [e0, h0]), es]
          rw [es, eg]
          exact line_un3 zs a len cap c sx sy wx wy line own e1 hc hc' hw0 hw1 hv0 hv1 e32 hy hx w h
      · have es : seenB c wx wy line = false := by unfold seenB; simp [e0, e5, h0, h5, hy]
        have eg : lineG zs c sx sy wx wy line own = lineF zs c sx sy wx line own false := by funext j; unfold lineG; rw [if_pos (by rw [e0, h0]), es]
        rw [es, eg]
        exact line_un2 zs a len cap c sx sy wx wy line own e1 hc hc' hw0 hw1 hv0 hv1 e32 hy w h
    · have e32 : bits .and .u8 c 32 = 0 := by rw [and32 c hc hc']; omega
      have es : seenB c wx wy line = false := by unfold seenB; simp [e0, e5, h0, h5]
      have eg : lineG zs c sx sy wx wy line own = lineF zs c sx sy wx line own false := by funext j; unfold lineG; rw [if_pos (by rw [e0, h0]), es]
      rw [es, eg]
      exact line_un1 zs a len cap c sx sy wx wy line own e1 hc hc' hw0 hw1 hv0 hv1 e32 w h
  · have e1 : bits .and .u8 c 1 = 0 := by rw [and1 c hc hc']; omega
    have es : seenB c wx wy line = false := by unfold seenB; simp [e0, h0]
    have eg : lineG zs c sx sy wx wy line own = fun _ => 0 := by funext j; unfold lineG; rw [if_neg (by rw [e0]; exact h0)]
    rw [es, eg]
    exact line_off zs a len cap c sx sy wx wy line own e1 w

theorem rseen_any (c sx sy wx wy line : Int) (hc : 0 ≤ c) (hc' : c ≤ 255) (hw0 : 0 ≤ wx) (hw1 : wx ≤ 255) (hv0 : 0 ≤ wy) (hv1 : wy ≤ 255) (w : World) :
    Calls Try.prog 23 #[view c sx sy wx wy, .int .i64 line] w (Ret (.bool (seenB c wx wy line)) w) := by
  obtain ⟨b0, hb0⟩ : ∃ b, bitI c 0 = b := ⟨_, rfl⟩
  obtain ⟨b5, hb5⟩ : ∃ b, bitI c 5 = b := ⟨_, rfl⟩
  have h01 := bitI_bd c 0
  have h51 := bitI_bd c 5
  have es : seenB c wx wy line = (decide (b0 = 1) && (decide (b5 = 1) && (decide (wy ≤ line) && decide (wx ≤ 166)))) := by unfold seenB; rw [hb0, hb5]
  rw [es]
  rw [hb0] at h01
  rw [hb5] at h51
  have H0 := hid_ hb0
  have H5 := hid_ hb5
  clear hb0 hb5 es
  have hb0 : b0 = 0 ∨ b0 = 1 := by omega
  have hb5 : b5 = 0 ∨ b5 = 1 := by omega
  clear h01 h51
  have hW : Below w.heap.size w (w.alloc (.cells #[.int .u8 c, .int .u8 sx, .int .u8 sy, .int .u8 wx, .int .u8 wy] 24)) := (Below.refl _ _).alloc (Nat.le_refl _) _
  rcases hb0 with rfl | rfl
  · go_enter Try.func23, Try.ntmps23
    go_wp2_with fail
    refine (bit_q c 0 hc hc' (by omega) (by omega) _).mono ?_
    rintro e wp ⟨rfl, rfl⟩
    rw [H0.out]
    go_wp2_with fail
    go_ret
    exact .of (ret_bool (by simp)) hW
  · rcases hb5 with rfl | rfl
    · go_enter Try.func23, Try.ntmps23
      go_wp2_with fail
      refine (bit_q c 0 hc hc' (by omega) (by omega) _).mono ?_
      rintro e wp ⟨rfl, rfl⟩
      rw [H0.out]
      go_wp2_with fail
      refine (bit_q c 5 hc hc' (by omega) (by omega) _).mono ?_
      rintro e wp ⟨rfl, rfl⟩
      rw [H5.out]
      go_wp2_with fail
      go_ret
      exact .of (ret_bool (by simp)) hW
    · by_cases hy : wy ≤ line
      all_goals
        go_enter Try.func23, Try.ntmps23
        go_wp2_with fail
        refine (bit_q c 0 hc hc' (by omega) (by omega) _).mono ?_
        rintro e wp ⟨rfl, rfl⟩
        rw [H0.out]
        go_wp2_with fail
        refine (bit_q c 5 hc hc' (by omega) (by omega) _).mono ?_
        rintro e wp ⟨rfl, rfl⟩
        rw [H5.out]
        go_wp2_with fail
        go_ret
        exact .of (ret_bool (by first | (simp [hy]; done) | (simp; omega))) hW

theorem wpList_store36_same {ops : Array Oper} {rest : List Oper} {op : Oper} {a : Act} {w : World} {Q : Exit → Act → World → Prop} (hgd : op.guard = none) (x y : Operand) (ho : op.op = .store 36 x y)
    (b : Nat) (cs : Array Value) (hx : a.eval x = .pointer (some ⟨b, 0, none⟩)) (hy : a.eval y = .agg cs) (hB : Blk w b 36 cs) (hs : cs.size = 160) (h1 : cs.all (·.oneCell') = true)
    (h : wpList Try.prog ops Q rest (a.put op.dst undef) w) : wpList Try.prog ops Q (op :: rest) a w :=
  wpList_store36 hgd x y ho b cs cs hx hy hB hs hs h1 (by rw [setRow_self w b cs 36 (0, 0) hB]; exact h)

set_option maxRecDepth 100000 in
theorem rline_off (zs : List Int) (a : Option Addr) (len cap : Nat) (c sx sy wx wy line own : Int) (h0 : Hid (bitI c 0 = 0)) (hc : 0 ≤ c) (hc' : c ≤ 255)
    (w : World) :
    Calls Try.prog 22 #[view c sx sy wx wy, .slice a len cap, .int .i64 line, .int .i64 own] w (Ret (.agg (rowOf fun _ => 0)) w) := by
  obtain ⟨zz, hz, hsz, hat⟩ := row_zero
  have HS := hid_ hsz
  have HR : Hid (zz = rowOf fun _ => 0) := eq_rowOf (F := fun _ => 0) hsz hat
  have HO : Hid (zz.all (·.oneCell') = true) := bytes_one (F := fun _ => 0) hsz hat
  clear hat hsz
  have hA := (Blk.new w 24 #[.int .u8 c, .int .u8 sx, .int .u8 sy, .int .u8 wx, .int .u8 wy]).alloc (.cells zz 36) |>.alloc (.cells zz 36)
  have hB : Blk (((w.alloc (.cells #[.int .u8 c, .int .u8 sx, .int .u8 sy, .int .u8 wx, .int .u8 wy] 24)).alloc (.cells zz 36)).alloc (.cells zz 36)) (w.heap.size + 1) 36 zz := by
    simpa using (Blk.new (w.alloc (.cells #[.int .u8 c, .int .u8 sx, .int .u8 sy, .int .u8 wx, .int .u8 wy] 24)) 36 zz).alloc (.cells zz 36)
  have hC : Blk (((w.alloc (.cells #[.int .u8 c, .int .u8 sx, .int .u8 sy, .int .u8 wx, .int .u8 wy] 24)).alloc (.cells zz 36)).alloc (.cells zz 36)) (w.heap.size + 1 + 1) 36 zz := by
    simpa using Blk.new ((w.alloc (.cells #[.int .u8 c, .int .u8 sx, .int .u8 sy, .int .u8 wx, .int .u8 wy] 24)).alloc (.cells zz 36)) 36 zz
  have hW : Below w.heap.size w (((w.alloc (.cells #[.int .u8 c, .int .u8 sx, .int .u8 sy, .int .u8 wx, .int .u8 wy] 24)).alloc (.cells zz 36)).alloc (.cells zz 36)) := (((Below.refl _ _).alloc (Nat.le_refl _) _).alloc (by simp) _).alloc (by simp; omega) _
  obtain ⟨c0, c1, c2, c3, c4, f0, f1, f2, f3, f4⟩ := hA.five
  go_enter Try.func22, Try.ntmps22
  go_wp2_with (with_reducible refine wpList_store36_same (op := ⟨none, .store 36 (.tmp 9) (.tmp 13), _, _, _, _⟩) rfl (.tmp 9) (.tmp 13) rfl (w.heap.size + 1 + 1) zz (by with_unfolding_all rfl) (by with_unfolding_all rfl) hC HS.out HO.out ?_)
  refine (bit_q c 0 hc hc' (by omega) (by omega) _).mono ?_
  rintro e wp ⟨rfl, rfl⟩
  rw [h0.out]
  go_wp2_with (first
    | (with_reducible refine wpList_load36 (op := ⟨some 18, _, _, _, _, _⟩) rfl (.tmp 9) rfl (w.heap.size + 1 + 1) (by with_unfolding_all rfl) zz hC HS.out ?_)
    | (with_reducible refine wpList_store36_same (op := ⟨none, .store 36 (.tmp 8) (.tmp 18), _, _, _, _⟩) rfl (.tmp 8) (.tmp 18) rfl (w.heap.size + 1) zz (by with_unfolding_all rfl) (by with_unfolding_all rfl) hB HS.out HO.out ?_))
  have hL := row_load hB HS.out
  refine bodyPost_ret (v := .agg zz) (results_one Try.results22 rfl hL) rfl ?_
  exact .of (by rw [HR.out]) hW

set_option maxRecDepth 100000 in
set_option maxHeartbeats 1000000 in
theorem rline_seen (zs : List Int) (a : Option Addr) (len cap : Nat) (c sx sy wx wy line own : Int) (h0 : Hid (bitI c 0 = 1)) (hse : Hid (seenB c wx wy line = true))
    (hc : 0 ≤ c) (hc' : c ≤ 255) (hs0 : 0 ≤ sx) (hs1 : sx ≤ 255) (ht0 : 0 ≤ sy) (ht1 : sy ≤ 255) (hw0 : 0 ≤ wx) (hw1 : wx ≤ 255) (hv0 : 0 ≤ wy) (hv1 : wy ≤ 255) (w : World) (h : IsRow .u8 w a len zs) :
    Calls Try.prog 22 #[view c sx sy wx wy, .slice a len cap, .int .i64 line, .int .i64 own] w (Ret (.agg (rowOf fun j => lineF zs c sx sy wx line own true j)) w) := by
  obtain ⟨zz, hz, hsz, hat⟩ := row_zero
  have HZ := hid_ h
  have HS := hid_ hsz
  have HO : Hid (zz.all (·.oneCell') = true) := bytes_one (F := fun _ => 0) hsz hat
  have hat0 : Hid (∀ j, j < 160 → zz[j]? = some (.int .u8 (if j < 0 then lineF zs c sx sy wx line own true j else 0))) := fun j hj => by rw [hat j hj]; rfl
  clear hat hsz h
  have hA := (Blk.new w 24 #[.int .u8 c, .int .u8 sx, .int .u8 sy, .int .u8 wx, .int .u8 wy]).alloc (.cells zz 36) |>.alloc (.cells zz 36)
  have hB : Blk (((w.alloc (.cells #[.int .u8 c, .int .u8 sx, .int .u8 sy, .int .u8 wx, .int .u8 wy] 24)).alloc (.cells zz 36)).alloc (.cells zz 36)) (w.heap.size + 1) 36 zz := by
    simpa using (Blk.new (w.alloc (.cells #[.int .u8 c, .int .u8 sx, .int .u8 sy, .int .u8 wx, .int .u8 wy] 24)) 36 zz).alloc (.cells zz 36)
  have hC : Blk (((w.alloc (.cells #[.int .u8 c, .int .u8 sx, .int .u8 sy, .int .u8 wx, .int .u8 wy] 24)).alloc (.cells zz 36)).alloc (.cells zz 36)) (w.heap.size + 1 + 1) 36 zz := by
    simpa using Blk.new ((w.alloc (.cells #[.int .u8 c, .int .u8 sx, .int .u8 sy, .int .u8 wx, .int .u8 wy] 24)).alloc (.cells zz 36)) 36 zz
  have hW : Below w.heap.size w (((w.alloc (.cells #[.int .u8 c, .int .u8 sx, .int .u8 sy, .int .u8 wx, .int .u8 wy] 24)).alloc (.cells zz 36)).alloc (.cells zz 36)) := (((Below.refl _ _).alloc (Nat.le_refl _) _).alloc (by simp) _).alloc (by simp; omega) _
  obtain ⟨c0, c1, c2, c3, c4, f0, f1, f2, f3, f4⟩ := hA.five
  go_enter Try.func22, Try.ntmps22
  go_wp2_with (with_reducible refine wpList_store36_same (op := ⟨none, .store 36 (.tmp 9) (.tmp 13), _, _, _, _⟩) rfl (.tmp 9) (.tmp 13) rfl (w.heap.size + 1 + 1) zz (by with_unfolding_all rfl) (by with_unfolding_all rfl) hC HS.out HO.out ?_)
  refine (bit_q c 0 hc hc' (by omega) (by omega) _).mono ?_
  rintro e wp ⟨rfl, rfl⟩
  rw [h0.out]
  go_wp2_with fail
  refine (rseen_any c sx sy wx wy line hc hc' hw0 hw1 hv0 hv1 _).mono ?_
  rintro e w1 ⟨rfl, hd1, hf1, hz1, hb1⟩
  rw [hse.out]
  have hA1 := hA.below hb1 hA.lt
  have hB1 := hB.below hb1 hB.lt
  have hC1 := hC.below hb1 hC.lt
  have hW1 := hW.trans (hb1.mono hW.size)
  clear hd1 hf1 hz1 hb1 hA hB hC hW c0 c1 c2 c3 c4 f0 f1 f2 f3 f4
  go_wp2_with fail
  go_loopw [22] (fun i wr => ∃ (k : Nat) (cs : Array Value), k ≤ 160 ∧ i = .int .i64 k ∧ Hid (cs.size = 160) ∧ Hid (∀ j, j < 160 → cs[j]? = some (.int .u8 (if j < k then lineF zs c sx sy wx line own true j else 0))) ∧
    Blk wr w.heap.size 24 #[.int .u8 c, .int .u8 sx, .int .u8 sy, .int .u8 wx, .int .u8 wy] ∧ Blk wr (w.heap.size + 1) 36 zz ∧ Blk wr (w.heap.size + 1 + 1) 36 cs ∧ Below w.heap.size w wr) (fun i _ => 160 - (intOf i).toNat)
  case atStart => exact ⟨0, zz, by omega, rfl, HS, hat0, hA1, hB1, hC1, hW1⟩
  case round =>
    clear hA1 hB1 hC1 hW1 hat0
    obtain ⟨k, cs, hk, rfl, HC, HA, hA, hB, hC, hW⟩ := hrel
    have hwr := hW.size
    by_cases hlt : k < 160
    · have gA := hA.lt
      have gB := hB.lt
      have gC := hC.lt
      obtain ⟨c0, c1, c2, c3, c4, f0, f1, f2, f3, f4⟩ := hA.five
      have R := hid_ (HZ.out.below hW)
      have ck := hC.cell k
      rw [HA.out k hlt, if_neg (by omega)] at ck
      have fk := hC.frozen k
      by_cases hge : 0 ≤ (k : Int) + 7 - wx
      · have q7 : decide ((0 : Int) ≤ (k : Int) + 7 - wx) = true := by simp; omega
        go_wp2_with fail
        refine (rwindow_any zs a len cap c sx sy wx wy ((k : Int) + 7 - wx) own hc hc' _ R.out).mono ?_
        rintro e w8 ⟨rfl, hd, hf, hzz, hb⟩
        clear hd hf hzz c0 c1 c2 c3 c4 f0 f1 f2 f3 f4 ck fk
        have hA8 := hA.below hb gA
        have hB8 := hB.below hb gB
        have hC8 := hC.below hb gC
        have hW8 := hW.trans (hb.mono hwr)
        clear hb hA hB hC hW R gA gB gC hwr
        have ck := hC8.cell k
        rw [HA.out k hlt, if_neg (by omega)] at ck
        have fk := hC8.frozen k
        have hk0 : (0 : Int) ≤ (k : Int) := by omega
        have hk1 : (k : Int) < 160 := by omega
        go_wp2_with fail
        have hF : windowI zs c ((k : Int) + 7 - wx) own = lineF zs c sx sy wx line own true k := by unfold lineF; rw [if_pos ⟨rfl, by omega⟩]
        exact ⟨⟨k + 1, cs.setIfInBounds k (.int .u8 (windowI zs c ((k : Int) + 7 - wx) own)), by omega, by go_num, by show _ = _; rw [Array.size_setIfInBounds]; exact HC.out, row_step HC.out hlt HA.out hF,
          hA8.far (p := ⟨w.heap.size + 1 + 1, k, none⟩) (by simp; omega) _, hB8.far (p := ⟨w.heap.size + 1 + 1, k, none⟩) (by simp) _, hC8.set_ k _, hW8.setCell (by simp; omega) _⟩, by simp [intOf]; omega⟩
      · have q7 : decide ((0 : Int) ≤ (k : Int) + 7 - wx) = false := by simp; omega
        go_wp2_with fail
        refine (rback_any zs a len cap c sx sy wx wy (k : Int) line hc hc' hs0 hs1 ht0 ht1 _ R.out).mono ?_
        rintro e w8 ⟨rfl, hd, hf, hzz, hb⟩
        clear hd hf hzz c0 c1 c2 c3 c4 f0 f1 f2 f3 f4 ck fk
        have hA8 := hA.below hb gA
        have hB8 := hB.below hb gB
        have hC8 := hC.below hb gC
        have hW8 := hW.trans (hb.mono hwr)
        clear hb hA hB hC hW R gA gB gC hwr
        have ck := hC8.cell k
        rw [HA.out k hlt, if_neg (by omega)] at ck
        have fk := hC8.frozen k
        have hk0 : (0 : Int) ≤ (k : Int) := by omega
        have hk1 : (k : Int) < 160 := by omega
        go_wp2_with fail
        have hF : backI zs c sx sy (k : Int) line = lineF zs c sx sy wx line own true k := by unfold lineF; rw [if_neg (by rintro ⟨_, hh⟩; omega)]
        exact ⟨⟨k + 1, cs.setIfInBounds k (.int .u8 (backI zs c sx sy (k : Int) line)), by omega, by go_num, by show _ = _; rw [Array.size_setIfInBounds]; exact HC.out, row_step HC.out hlt HA.out hF,
          hA8.far (p := ⟨w.heap.size + 1 + 1, k, none⟩) (by simp; omega) _, hB8.far (p := ⟨w.heap.size + 1 + 1, k, none⟩) (by simp) _, hC8.set_ k _, hW8.setCell (by simp; omega) _⟩, by simp [intOf]; omega⟩
    · obtain rfl : k = 160 := by omega
      have hcs : cs = rowOf fun j => lineF zs c sx sy wx line own true j := eq_rowOf HC.out fun j hj => by rw [HA.out j hj, if_pos hj]
      have HOc : Hid (cs.all (·.oneCell') = true) := bytes_one (F := fun j => lineF zs c sx sy wx line own true j) HC.out fun j hj => by rw [HA.out j hj, if_pos hj]
      have HCS := hid_ hcs
      clear hcs
      have hBR := hB.setRow cs
      have hWR : Below w.heap.size w (wr.setRow (w.heap.size + 1) cs) := below_setRow hW (by omega) _
      go_wp2_with (first
        | (with_reducible refine wpList_load36 (op := ⟨some 51, _, _, _, _, _⟩) rfl (.tmp 9) rfl (w.heap.size + 1 + 1) (by with_unfolding_all rfl) cs hC HC.out ?_)
        | (with_reducible refine wpList_store36 (op := ⟨none, .store 36 (.tmp 8) (.tmp 51), _, _, _, _⟩) rfl (.tmp 8) (.tmp 51) rfl (w.heap.size + 1) zz cs (by with_unfolding_all rfl) (by with_unfolding_all rfl) hB HS.out HC.out HOc.out ?_))
      have hL := row_load hBR HC.out
      refine bodyPost_ret (v := .agg cs) (results_one Try.results22 rfl hL) rfl ?_
      exact .of (by rw [HCS.out]) hWR

set_option maxRecDepth 100000 in
set_option maxHeartbeats 1000000 in
theorem rline_un (zs : List Int) (a : Option Addr) (len cap : Nat) (c sx sy wx wy line own : Int) (h0 : Hid (bitI c 0 = 1)) (hse : Hid (seenB c wx wy line = false))
    (hc : 0 ≤ c) (hc' : c ≤ 255) (hs0 : 0 ≤ sx) (hs1 : sx ≤ 255) (ht0 : 0 ≤ sy) (ht1 : sy ≤ 255) (hw0 : 0 ≤ wx) (hw1 : wx ≤ 255) (hv0 : 0 ≤ wy) (hv1 : wy ≤ 255) (w : World) (h : IsRow .u8 w a len zs) :
    Calls Try.prog 22 #[view c sx sy wx wy, .slice a len cap, .int .i64 line, .int .i64 own] w (Ret (.agg (rowOf fun j => lineF zs c sx sy wx line own false j)) w) := by
  obtain ⟨zz, hz, hsz, hat⟩ := row_zero
  have HZ := hid_ h
  have HS := hid_ hsz
  have HO : Hid (zz.all (·.oneCell') = true) := bytes_one (F := fun _ => 0) hsz hat
  have hat0 : Hid (∀ j, j < 160 → zz[j]? = some (.int .u8 (if j < 0 then lineF zs c sx sy wx line own false j else 0))) := fun j hj => by rw [hat j hj]; rfl
  clear hat hsz h
  have hA := (Blk.new w 24 #[.int .u8 c, .int .u8 sx, .int .u8 sy, .int .u8 wx, .int .u8 wy]).alloc (.cells zz 36) |>.alloc (.cells zz 36)
  have hB : Blk (((w.alloc (.cells #[.int .u8 c, .int .u8 sx, .int .u8 sy, .int .u8 wx, .int .u8 wy] 24)).alloc (.cells zz 36)).alloc (.cells zz 36)) (w.heap.size + 1) 36 zz := by
    simpa using (Blk.new (w.alloc (.cells #[.int .u8 c, .int .u8 sx, .int .u8 sy, .int .u8 wx, .int .u8 wy] 24)) 36 zz).alloc (.cells zz 36)
  have hC : Blk (((w.alloc (.cells #[.int .u8 c, .int .u8 sx, .int .u8 sy, .int .u8 wx, .int .u8 wy] 24)).alloc (.cells zz 36)).alloc (.cells zz 36)) (w.heap.size + 1 + 1) 36 zz := by
    simpa using Blk.new ((w.alloc (.cells #[.int .u8 c, .int .u8 sx, .int .u8 sy, .int .u8 wx, .int .u8 wy] 24)).alloc (.cells zz 36)) 36 zz
  have hW : Below w.heap.size w (((w.alloc (.cells #[.int .u8 c, .int .u8 sx, .int .u8 sy, .int .u8 wx, .int .u8 wy] 24)).alloc (.cells zz 36)).alloc (.cells zz 36)) := (((Below.refl _ _).alloc (Nat.le_refl _) _).alloc (by simp) _).alloc (by simp; omega) _
  obtain ⟨c0, c1, c2, c3, c4, f0, f1, f2, f3, f4⟩ := hA.five
  go_enter Try.func22, Try.ntmps22
  go_wp2_with (with_reducible refine wpList_store36_same (op := ⟨none, .store 36 (.tmp 9) (.tmp 13), _, _, _, _⟩) rfl (.tmp 9) (.tmp 13) rfl (w.heap.size + 1 + 1) zz (by with_unfolding_all rfl) (by with_unfolding_all rfl) hC HS.out HO.out ?_)
  refine (bit_q c 0 hc hc' (by omega) (by omega) _).mono ?_
  rintro e wp ⟨rfl, rfl⟩
  rw [h0.out]
  go_wp2_with fail
  refine (rseen_any c sx sy wx wy line hc hc' hw0 hw1 hv0 hv1 _).mono ?_
  rintro e w1 ⟨rfl, hd1, hf1, hz1, hb1⟩
  rw [hse.out]
  have hA1 := hA.below hb1 hA.lt
  have hB1 := hB.below hb1 hB.lt
  have hC1 := hC.below hb1 hC.lt
  have hW1 := hW.trans (hb1.mono hW.size)
  clear hd1 hf1 hz1 hb1 hA hB hC hW c0 c1 c2 c3 c4 f0 f1 f2 f3 f4
  go_wp2_with fail
  go_loopw [22] (fun i wr => ∃ (k : Nat) (cs : Array Value), k ≤ 160 ∧ i = .int .i64 k ∧ Hid (cs.size = 160) ∧ Hid (∀ j, j < 160 → cs[j]? = some (.int .u8 (if j < k then lineF zs c sx sy wx line own false j else 0))) ∧
    Blk wr w.heap.size 24 #[.int .u8 c, .int .u8 sx, .int .u8 sy, .int .u8 wx, .int .u8 wy] ∧ Blk wr (w.heap.size + 1) 36 zz ∧ Blk wr (w.heap.size + 1 + 1) 36 cs ∧ Below w.heap.size w wr) (fun i _ => 160 - (intOf i).toNat)
  case atStart => exact ⟨0, zz, by omega, rfl, HS, hat0, hA1, hB1, hC1, hW1⟩
  case round =>
    clear hA1 hB1 hC1 hW1 hat0
    obtain ⟨k, cs, hk, rfl, HC, HA, hA, hB, hC, hW⟩ := hrel
    have hwr := hW.size
    by_cases hlt : k < 160
    · have gA := hA.lt
      have gB := hB.lt
      have gC := hC.lt
      obtain ⟨c0, c1, c2, c3, c4, f0, f1, f2, f3, f4⟩ := hA.five
      have R := hid_ (HZ.out.below hW)
      have ck := hC.cell k
      rw [HA.out k hlt, if_neg (by omega)] at ck
      have fk := hC.frozen k
      go_wp2_with fail
      refine (rback_any zs a len cap c sx sy wx wy (k : Int) line hc hc' hs0 hs1 ht0 ht1 _ R.out).mono ?_
      rintro e w8 ⟨rfl, hd, hf, hzz, hb⟩
      clear hd hf hzz c0 c1 c2 c3 c4 f0 f1 f2 f3 f4 ck fk
      have hA8 := hA.below hb gA
      have hB8 := hB.below hb gB
      have hC8 := hC.below hb gC
      have hW8 := hW.trans (hb.mono hwr)
      clear hb hA hB hC hW R gA gB gC hwr
      have ck := hC8.cell k
      rw [HA.out k hlt, if_neg (by omega)] at ck
      have fk := hC8.frozen k
      have hk0 : (0 : Int) ≤ (k : Int) := by omega
      have hk1 : (k : Int) < 160 := by omega
      go_wp2_with fail
      have hF : backI zs c sx sy (k : Int) line = lineF zs c sx sy wx line own false k := by unfold lineF; rw [if_neg (by simp)]
      exact ⟨⟨k + 1, cs.setIfInBounds k (.int .u8 (backI zs c sx sy (k : Int) line)), by omega, by go_num, by show _ = _; rw [Array.size_setIfInBounds]; exact HC.out, row_step HC.out hlt HA.out hF,
        hA8.far (p := ⟨w.heap.size + 1 + 1, k, none⟩) (by simp; omega) _, hB8.far (p := ⟨w.heap.size + 1 + 1, k, none⟩) (by simp) _, hC8.set_ k _, hW8.setCell (by simp; omega) _⟩, by simp [intOf]; omega⟩
    · obtain rfl : k = 160 := by omega
      have hcs : cs = rowOf fun j => lineF zs c sx sy wx line own false j := eq_rowOf HC.out fun j hj => by rw [HA.out j hj, if_pos hj]
      have HOc : Hid (cs.all (·.oneCell') = true) := bytes_one (F := fun j => lineF zs c sx sy wx line own false j) HC.out fun j hj => by rw [HA.out j hj, if_pos hj]
      have HCS := hid_ hcs
      clear hcs
      have hBR := hB.setRow cs
      have hWR : Below w.heap.size w (wr.setRow (w.heap.size + 1) cs) := below_setRow hW (by omega) _
      go_wp2_with (first
        | (with_reducible refine wpList_load36 (op := ⟨some 51, _, _, _, _, _⟩) rfl (.tmp 9) rfl (w.heap.size + 1 + 1) (by with_unfolding_all rfl) cs hC HC.out ?_)
        | (with_reducible refine wpList_store36 (op := ⟨none, .store 36 (.tmp 8) (.tmp 51), _, _, _, _⟩) rfl (.tmp 8) (.tmp 51) rfl (w.heap.size + 1) zz cs (by with_unfolding_all rfl) (by with_unfolding_all rfl) hB HS.out HC.out HOc.out ?_))
      have hL := row_load hBR HC.out
      refine bodyPost_ret (v := .agg cs) (results_one Try.results22 rfl hL) rfl ?_
      exact .of (by rw [HCS.out]) hWR

theorem rline_any (zs : List Int) (a : Option Addr) (len cap : Nat) (c sx sy wx wy line own : Int)
    (hc : 0 ≤ c) (hc' : c ≤ 255) (hs0 : 0 ≤ sx) (hs1 : sx ≤ 255) (ht0 : 0 ≤ sy) (ht1 : sy ≤ 255) (hw0 : 0 ≤ wx) (hw1 : wx ≤ 255) (hv0 : 0 ≤ wy) (hv1 : wy ≤ 255) (w : World) (h : IsRow .u8 w a len zs) :
    Calls Try.prog 22 #[view c sx sy wx wy, .slice a len cap, .int .i64 line, .int .i64 own] w (Ret (.agg (rowOf (lineG zs c sx sy wx wy line own))) w) := by
  have h01 := bitI_bd c 0
  by_cases h0 : bitI c 0 = 1
  · cases hs : seenB c wx wy line with
    | true =>
      have eg : lineG zs c sx sy wx wy line own = lineF zs c sx sy wx line own true := by funext j; unfold lineG; rw [if_pos h0, hs]
      rw [eg]
      exact rline_seen zs a len cap c sx sy wx wy line own h0 hs hc hc' hs0 hs1 ht0 ht1 hw0 hw1 hv0 hv1 w h
    | false =>
      have eg : lineG zs c sx sy wx wy line own = lineF zs c sx sy wx line own false := by funext j; unfold lineG; rw [if_pos h0, hs]
      rw [eg]
      exact rline_un zs a len cap c sx sy wx wy line own h0 hs hc hc' hs0 hs1 ht0 ht1 hw0 hw1 hv0 hv1 w h
  · have h00 : bitI c 0 = 0 := by omega
    have eg : lineG zs c sx sy wx wy line own = fun _ => 0 := by funext j; unfold lineG; rw [if_neg h0]
    rw [eg]
    exact rline_off zs a len cap c sx sy wx wy line own h00 hc hc' w
end Go.Proofs.Ytglnikjeloafiaa
