/- A line of the background and of the window, of layer 13 and of its reference. -/
import Derived.Test.YtglnikjeloafiaaFill
import Derived.Deep.MidRow
import Derived.Deep.WholeRow
import Derived.Laws.CopyOwn
namespace Go.Proofs.Ytglnikjeloafiaa
open Go.RowKit
set_option linter.unusedSimpArgs false
set_option linter.unusedVariables false

theorem row_info : (Try.prog.info? 36).map (fun i => (i.zero, i.size)) = some (some (.agg (Array.replicate 160 (.int .u8 0))), 160) := by kernel_rfl
theorem row_size : (Try.prog.info? 36).map (·.size) = some 160 := (zero_of_info row_info).2
theorem row_zero : ∃ zz : Array Value, (∀ W, (zeroValue 36).run Try.prog W = .ok (.agg zz) W) ∧ zz.size = 160 ∧ ∀ j, j < 160 → zz[j]? = some (.int .u8 0) :=
  ⟨_, (zero_of_info row_info).1, by simp, fun j hj => by simp [hj]⟩
theorem row_load {w : World} {b : Nat} {cs : Array Value} (hB : Blk w b 36 cs) (hs : cs.size = 160) : (loadVar 36 ⟨b, 0, none⟩).run Try.prog w = .ok (.agg cs) w :=
  run_loadVar_row _ _ 36 36 cs (0, 0) _ hB Try.underlying36 rfl (by rw [row_size, hs])
theorem row_store {w : World} {b : Nat} {cs cs' : Array Value} (hB : Blk w b 36 cs) (hs : cs.size = 160) (hs' : cs'.size = 160) (h1 : cs'.all (·.oneCell') = true) :
    (storeVar 36 ⟨b, 0, none⟩ (.agg cs')).run Try.prog w = .ok () (w.setRow b cs') :=
  run_storeVar_row _ _ 36 36 cs cs' hB (by rw [row_size, hs']) (by rw [hs, hs']) h1

theorem wpList_load36 {ops : Array Oper} {rest : List Oper} {op : Oper} {a : Act} {w : World} {Q : Exit → Act → World → Prop} (hgd : op.guard = none) (x : Operand) (ho : op.op = .load 36 x)
    (b : Nat) (hx : a.eval x = .pointer (some ⟨b, 0, none⟩)) (cs : Array Value) (hB : Blk w b 36 cs) (hs : cs.size = 160)
    (h : wpList Try.prog ops Q rest (a.put op.dst (.agg cs)) w) : wpList Try.prog ops Q (op :: rest) a w :=
  wpList_plain hgd fun _ hK => by
    unfold Oper.wp execOp
    simp only [ho, hx, Instr.loadAt, Instr.sureAddr, Sem.run_bind, Sem.run_pure, Result.andThen_ok, row_load hB hs]
    exact hK _ _ h
theorem wpList_store36 {ops : Array Oper} {rest : List Oper} {op : Oper} {a : Act} {w : World} {Q : Exit → Act → World → Prop} (hgd : op.guard = none) (x y : Operand) (ho : op.op = .store 36 x y)
    (b : Nat) (cs cs' : Array Value) (hx : a.eval x = .pointer (some ⟨b, 0, none⟩)) (hy : a.eval y = .agg cs') (hB : Blk w b 36 cs) (hs : cs.size = 160) (hs' : cs'.size = 160) (h1 : cs'.all (·.oneCell') = true)
    (h : wpList Try.prog ops Q rest (a.put op.dst undef) (w.setRow b cs')) : wpList Try.prog ops Q (op :: rest) a w :=
  wpList_plain hgd fun _ hK => by
    unfold Oper.wp execOp
    simp only [ho, hx, hy, Instr.storeAt, Instr.sureAddr, Sem.run_bind, Sem.run_pure, Result.andThen_ok, row_store hB hs hs' h1]
    exact hK _ _ h
theorem Blk.setRow {w : World} {g : Nat} {t : TypeId} {cs : Array Value} (h : Blk w g t cs) (cs' : Array Value) : Blk (w.setRow g cs') g t cs' := setRow_heap w g cs cs' t (0, 0) h
theorem bytes_one {cs : Array Value} {F : Nat → Int} (hs : cs.size = 160) (h : ∀ j, j < 160 → cs[j]? = some (.int .u8 (F j))) : cs.all (·.oneCell') = true := by
  refine Array.all_eq_true_iff_forall_mem.2 fun v hv => ?_
  obtain ⟨j, hj, rfl⟩ := Array.mem_iff_getElem.1 hv
  have := h j (by omega)
  rw [Array.getElem?_eq_getElem hj] at this
  obtain e := Option.some.inj this
  rw [e]; rfl
def rowOf (F : Nat → Int) : Array Value := (Array.range 160).map fun j => .int .u8 (F j)
theorem eq_rowOf {cs : Array Value} {F : Nat → Int} (hs : cs.size = 160) (h : ∀ j, j < 160 → cs[j]? = some (.int .u8 (F j))) : cs = rowOf F := by
  apply Array.ext_getElem?
  intro j
  by_cases hj : j < 160
  · rw [h j hj]; simp [rowOf, hj]
  · rw [Array.getElem?_eq_none (by omega), Array.getElem?_eq_none (by simp [rowOf]; omega)]

theorem results_two {fn : Func} {tmps : Array Value} {A B b : Nat} {w : World} {cs : Array Value} (hr : fn.results = #[.cell A 36, .tmp B]) (hA : tmps.getD A undef = .pointer (some ⟨b, 0, none⟩))
    (hl : (loadVar 36 ⟨b, 0, none⟩).run Try.prog w = .ok (.agg cs) w) : (results fn tmps).run Try.prog w = .ok (.tuple #[.agg cs, tmps.getD B undef]) w := by
  have hA' : tmps[A]?.getD undef = .pointer (some ⟨b, 0, none⟩) := by rw [← Array.getD_eq_getD_getElem?]; exact hA
  unfold results
  rw [hr]
  simp [hA', asAddr, Sem.run_bind, hl]
theorem results_one {fn : Func} {tmps : Array Value} {A b : Nat} {w : World} {cs : Array Value} (hr : fn.results = #[.cell A 36]) (hA : tmps.getD A undef = .pointer (some ⟨b, 0, none⟩))
    (hl : (loadVar 36 ⟨b, 0, none⟩).run Try.prog w = .ok (.agg cs) w) : (results fn tmps).run Try.prog w = .ok (.agg cs) w := by
  have hA' : tmps[A]?.getD undef = .pointer (some ⟨b, 0, none⟩) := by rw [← Array.getD_eq_getD_getElem?]; exact hA
  unfold results
  rw [hr]
  simp [hA', asAddr, Sem.run_bind, hl]

set_option maxRecDepth 100000 in
theorem line_off (zs : List Int) (a : Option Addr) (len cap : Nat) (c sx sy wx wy line own : Int) (hon : bits .and .u8 c 1 = 0)
    (w : World) :
    Calls Try.prog 21 #[view c sx sy wx wy, .slice a len cap, .int .i64 line, .int .i64 own] w (Ret (.tuple #[.agg (rowOf fun _ => 0), .bool false]) w) := by
  obtain ⟨zz, hz, hsz, hat⟩ := row_zero
  have HS := hid_ hsz
  have HA := hid_ hat
  have HR : Hid (zz = rowOf fun _ => 0) := eq_rowOf (F := fun _ => 0) hsz hat
  have HO : Hid (zz.all (·.oneCell') = true) := bytes_one (F := fun _ => 0) hsz hat
  clear hat hsz
  have hB18 : Blk (((w.alloc (.cells #[.int .u8 c, .int .u8 sx, .int .u8 sy, .int .u8 wx, .int .u8 wy] 26)).alloc (.cells zz 36)).alloc (.cells zz 36)) (w.heap.size + 1 + 1) 36 zz := by
    simpa using Blk.new ((w.alloc (.cells #[.int .u8 c, .int .u8 sx, .int .u8 sy, .int .u8 wx, .int .u8 wy] 26)).alloc (.cells zz 36)) 36 zz
  have hB18 : Blk (((w.alloc (.cells #[.int .u8 c, .int .u8 sx, .int .u8 sy, .int .u8 wx, .int .u8 wy] 26)).alloc (.cells zz 36)).alloc (.cells zz 36)) (w.heap.size + 1 + 1) 36 zz := by
    simpa using Blk.new ((w.alloc (.cells #[.int .u8 c, .int .u8 sx, .int .u8 sy, .int .u8 wx, .int .u8 wy] 26)).alloc (.cells zz 36)) 36 zz
  have hB8 : Blk (((w.alloc (.cells #[.int .u8 c, .int .u8 sx, .int .u8 sy, .int .u8 wx, .int .u8 wy] 26)).alloc (.cells zz 36)).alloc (.cells zz 36)) (w.heap.size + 1) 36 zz := by
    simpa using (Blk.new (w.alloc (.cells #[.int .u8 c, .int .u8 sx, .int .u8 sy, .int .u8 wx, .int .u8 wy] 26)) 36 zz).alloc (.cells zz 36)
  have hBR := hB8.setRow zz
  have hW3 : Below w.heap.size w ((((w.alloc (.cells #[.int .u8 c, .int .u8 sx, .int .u8 sy, .int .u8 wx, .int .u8 wy] 26)).alloc (.cells zz 36)).alloc (.cells zz 36)).setRow (w.heap.size + 1) zz) := below_setRow ((((Below.refl _ _).alloc (Nat.le_refl _) _).alloc (by simp) _).alloc (by simp; omega) _) (by omega) _
  go_enter Try.func21, Try.ntmps21
  go_wp2_with (first
    | (with_reducible refine wpList_load36 (op := ⟨some 18, _, _, _, _, _⟩) rfl (.tmp 10) rfl (w.heap.size + 1 + 1) (by with_unfolding_all rfl) zz hB18 HS.out ?_)
    | (with_reducible refine wpList_store36 (op := ⟨none, .store 36 (.tmp 8) (.tmp 18), _, _, _, _⟩) rfl (.tmp 8) (.tmp 18) rfl (w.heap.size + 1) zz zz (by with_unfolding_all rfl) (by with_unfolding_all rfl) hB8 HS.out HS.out HO.out ?_))
  have hL := row_load hBR HS.out
  refine bodyPost_ret (v := .tuple #[.agg zz, .bool false]) (results_two Try.results21 rfl hL) rfl ?_
  rw [HR.out]
  exact .of rfl (by rw [← HR.out]; exact hW3)
/-- The colours of a line. -/
def lineF (zs : List Int) (c sx sy wx line own : Int) (seen : Bool) (j : Nat) : Int :=
  if seen = true ∧ 0 ≤ (j : Int) + 7 - wx then windowI zs c ((j : Int) + 7 - wx) own else backI zs c sx sy (j : Int) line
theorem row_step {cs : Array Value} {k : Nat} {F : Nat → Int} {v : Int} (hs : cs.size = 160) (hlt : k < 160) (h : ∀ j, j < 160 → cs[j]? = some (.int .u8 (if j < k then F j else 0))) (hv : v = F k) :
    ∀ j, j < 160 → (cs.setIfInBounds k (.int .u8 v))[j]? = some (.int .u8 (if j < k + 1 then F j else 0)) := fun j hj => by
  rw [Array.getElem?_setIfInBounds]
  by_cases hjk : k = j
  · subst hjk
    rw [if_pos rfl, if_pos (by omega), if_pos (by omega), hv]
  · rw [if_neg hjk, h j hj]
    by_cases hj2 : j < k
    · rw [if_pos hj2, if_pos (by omega)]
    · rw [if_neg hj2, if_neg (by omega)]

set_option maxRecDepth 100000 in
set_option maxHeartbeats 1000000 in
theorem line_seen (zs : List Int) (a : Option Addr) (len cap : Nat) (c sx sy wx wy line own : Int) (hon : bits .and .u8 c 1 = 1)
    (hc : 0 ≤ c) (hc' : c ≤ 255) (hw0 : 0 ≤ wx) (hw1 : wx ≤ 255) (hv0 : 0 ≤ wy) (hv1 : wy ≤ 255) (h32 : bits .and .u8 c 32 = 32) (hy : wy ≤ line) (hx : wx ≤ 166) (w : World) (h : IsRow .u8 w a len zs) :
    Calls Try.prog 21 #[view c sx sy wx wy, .slice a len cap, .int .i64 line, .int .i64 own] w (Ret (.tuple #[.agg (rowOf fun j => lineF zs c sx sy wx line own true j), .bool true]) w) := by
  obtain ⟨zz, hz, hsz, hat⟩ := row_zero
  have HZ := hid_ h
  have HS := hid_ hsz
  have hat0 : Hid (∀ j, j < 160 → zz[j]? = some (.int .u8 (if j < 0 then lineF zs c sx sy wx line own true j else 0))) := fun j hj => by rw [hat j hj]; rfl
  clear hat hsz h

  have hA := (Blk.new w 26 #[.int .u8 c, .int .u8 sx, .int .u8 sy, .int .u8 wx, .int .u8 wy]).alloc (.cells zz 36) |>.alloc (.cells zz 36)
  have hB : Blk (((w.alloc (.cells #[.int .u8 c, .int .u8 sx, .int .u8 sy, .int .u8 wx, .int .u8 wy] 26)).alloc (.cells zz 36)).alloc (.cells zz 36)) (w.heap.size + 1) 36 zz := by
    simpa using (Blk.new (w.alloc (.cells #[.int .u8 c, .int .u8 sx, .int .u8 sy, .int .u8 wx, .int .u8 wy] 26)) 36 zz).alloc (.cells zz 36)
  have hC : Blk (((w.alloc (.cells #[.int .u8 c, .int .u8 sx, .int .u8 sy, .int .u8 wx, .int .u8 wy] 26)).alloc (.cells zz 36)).alloc (.cells zz 36)) (w.heap.size + 1 + 1) 36 zz := by
    simpa using Blk.new ((w.alloc (.cells #[.int .u8 c, .int .u8 sx, .int .u8 sy, .int .u8 wx, .int .u8 wy] 26)).alloc (.cells zz 36)) 36 zz
  have hW : Below w.heap.size w (((w.alloc (.cells #[.int .u8 c, .int .u8 sx, .int .u8 sy, .int .u8 wx, .int .u8 wy] 26)).alloc (.cells zz 36)).alloc (.cells zz 36)) := (((Below.refl _ _).alloc (Nat.le_refl _) _).alloc (by simp) _).alloc (by simp; omega) _
  obtain ⟨c0, c1, c2, c3, c4, f0, f1, f2, f3, f4⟩ := hA.five
  go_enter Try.func21, Try.ntmps21
  go_wp2_with fail
  clear c0 c1 c2 c3 c4 f0 f1 f2 f3 f4
  go_loopw [35] (fun i wr => ∃ (k : Nat) (cs : Array Value), k ≤ 160 ∧ i = .int .i64 k ∧ Hid (cs.size = 160) ∧ Hid (∀ j, j < 160 → cs[j]? = some (.int .u8 (if j < k then lineF zs c sx sy wx line own true j else 0))) ∧
    Blk wr w.heap.size 26 #[.int .u8 c, .int .u8 sx, .int .u8 sy, .int .u8 wx, .int .u8 wy] ∧ Blk wr (w.heap.size + 1) 36 zz ∧ Blk wr (w.heap.size + 1 + 1) 36 cs ∧ Below w.heap.size w wr) (fun i _ => 160 - (intOf i).toNat)
  case atStart => exact ⟨0, zz, by omega, rfl, HS, hat0, hA, hB, hC, hW⟩
  case round =>
    clear hA hB hC hW hat0
    obtain ⟨k, cs, hk, rfl, HC, HA, hA, hB, hC, hW⟩ := hrel
    have hwr := hW.size
    by_cases hlt : k < 160
    · have gA := hA.lt
      have gB := hB.lt
      have gC := hC.lt
      obtain ⟨c0, c1, c2, c3, c4, f0, f1, f2, f3, f4⟩ := hA.five
      have R := hid_ (HZ.out.below hW)
      have ck := hC.cell k
      rw [HA.out k hlt, if_neg (by omega)] at ck
      have fk := hC.frozen k
      by_cases hge : 0 ≤ (k : Int) + 7 - wx
      · have q7 : decide ((0 : Int) ≤ (k : Int) + 7 - wx) = true := by simp; omega
        go_wp2_with fail
        refine (window_any zs a len cap c sx sy wx wy ((k : Int) + 7 - wx) own hc hc' _ R.out).mono ?_
        rintro e w8 ⟨rfl, hd, hf, hzz, hb⟩
        clear hd hf hzz c0 c1 c2 c3 c4 f0 f1 f2 f3 f4 ck fk
        have hA8 := hA.below hb gA
        have hB8 := hB.below hb gB
        have hC8 := hC.below hb gC
        have hW8 := hW.trans (hb.mono hwr)
        clear hb hA hB hC hW R gA gB gC hwr
        have ck := hC8.cell k
        rw [HA.out k hlt, if_neg (by omega)] at ck
        have fk := hC8.frozen k
        have hk0 : (0 : Int) ≤ (k : Int) := by omega
        have hk1 : (k : Int) < 160 := by omega
        go_wp2_with fail
        have hF : windowI zs c ((k : Int) + 7 - wx) own = lineF zs c sx sy wx line own true k := by unfold lineF; rw [if_pos ⟨rfl, by omega⟩]
        exact ⟨⟨k + 1, cs.setIfInBounds k (.int .u8 (windowI zs c ((k : Int) + 7 - wx) own)), by omega, by go_num, by show _ = _; rw [Array.size_setIfInBounds]; exact HC.out, row_step HC.out hlt HA.out hF,
          hA8.far (p := ⟨w.heap.size + 1 + 1, k, none⟩) (by simp; omega) _, hB8.far (p := ⟨w.heap.size + 1 + 1, k, none⟩) (by simp) _, hC8.set_ k _, hW8.setCell (by simp; omega) _⟩, by simp [intOf]; omega⟩
      · have q7 : decide ((0 : Int) ≤ (k : Int) + 7 - wx) = false := by simp; omega
        go_wp2_with fail
        refine (back_any zs a len cap c sx sy wx wy (k : Int) line hc hc' _ R.out).mono ?_
        rintro e w8 ⟨rfl, hd, hf, hzz, hb⟩
        clear hd hf hzz c0 c1 c2 c3 c4 f0 f1 f2 f3 f4 ck fk
        have hA8 := hA.below hb gA
        have hB8 := hB.below hb gB
        have hC8 := hC.below hb gC
        have hW8 := hW.trans (hb.mono hwr)
        clear hb hA hB hC hW R gA gB gC hwr
        have ck := hC8.cell k
        rw [HA.out k hlt, if_neg (by omega)] at ck
        have fk := hC8.frozen k
        have hk0 : (0 : Int) ≤ (k : Int) := by omega
        have hk1 : (k : Int) < 160 := by omega
        go_wp2_with fail
        have hF : backI zs c sx sy (k : Int) line = lineF zs c sx sy wx line own true k := by unfold lineF; rw [if_neg (by rintro ⟨_, hh⟩; omega)]
        exact ⟨⟨k + 1, cs.setIfInBounds k (.int .u8 (backI zs c sx sy (k : Int) line)), by omega, by go_num, by show _ = _; rw [Array.size_setIfInBounds]; exact HC.out, row_step HC.out hlt HA.out hF,
          hA8.far (p := ⟨w.heap.size + 1 + 1, k, none⟩) (by simp; omega) _, hB8.far (p := ⟨w.heap.size + 1 + 1, k, none⟩) (by simp) _, hC8.set_ k _, hW8.setCell (by simp; omega) _⟩, by simp [intOf]; omega⟩
    · obtain rfl : k = 160 := by omega
      have hcs : cs = rowOf fun j => lineF zs c sx sy wx line own true j := eq_rowOf HC.out fun j hj => by rw [HA.out j hj, if_pos hj]
      have HO : Hid (cs.all (·.oneCell') = true) := bytes_one (F := fun j => lineF zs c sx sy wx line own true j) HC.out fun j hj => by rw [HA.out j hj, if_pos hj]
      have HCS := hid_ hcs
      clear hcs
      have hBR := hB.setRow cs
      have hWR : Below w.heap.size w (wr.setRow (w.heap.size + 1) cs) := below_setRow hW (by omega) _
      go_wp2_with (first
        | (with_reducible refine wpList_load36 (op := ⟨some 64, _, _, _, _, _⟩) rfl (.tmp 10) rfl (w.heap.size + 1 + 1) (by with_unfolding_all rfl) cs hC HC.out ?_)
        | (with_reducible refine wpList_store36 (op := ⟨none, .store 36 (.tmp 8) (.tmp 64), _, _, _, _⟩) rfl (.tmp 8) (.tmp 64) rfl (w.heap.size + 1) zz cs (by with_unfolding_all rfl) (by with_unfolding_all rfl) hB HS.out HC.out HO.out ?_))
      have hL := row_load hBR HC.out
      refine bodyPost_ret (v := .tuple #[.agg cs, .bool true]) (results_two Try.results21 rfl hL) rfl ?_
      exact .of (by rw [HCS.out]) hWR
set_option maxRecDepth 100000 in
set_option maxHeartbeats 1000000 in
theorem line_un1 (zs : List Int) (a : Option Addr) (len cap : Nat) (c sx sy wx wy line own : Int) (hon : bits .and .u8 c 1 = 1)
    (hc : 0 ≤ c) (hc' : c ≤ 255) (hw0 : 0 ≤ wx) (hw1 : wx ≤ 255) (hv0 : 0 ≤ wy) (hv1 : wy ≤ 255) (h32 : bits .and .u8 c 32 = 0) (w : World) (h : IsRow .u8 w a len zs) :
    Calls Try.prog 21 #[view c sx sy wx wy, .slice a len cap, .int .i64 line, .int .i64 own] w (Ret (.tuple #[.agg (rowOf fun j => lineF zs c sx sy wx line own false j), .bool false]) w) := by
  obtain ⟨zz, hz, hsz, hat⟩ := row_zero
  have HZ := hid_ h
  have HS := hid_ hsz
  have hat0 : Hid (∀ j, j < 160 → zz[j]? = some (.int .u8 (if j < 0 then lineF zs c sx sy wx line own false j else 0))) := fun j hj => by rw [hat j hj]; rfl
  clear hat hsz h

  have hA := (Blk.new w 26 #[.int .u8 c, .int .u8 sx, .int .u8 sy, .int .u8 wx, .int .u8 wy]).alloc (.cells zz 36) |>.alloc (.cells zz 36)
  have hB : Blk (((w.alloc (.cells #[.int .u8 c, .int .u8 sx, .int .u8 sy, .int .u8 wx, .int .u8 wy] 26)).alloc (.cells zz 36)).alloc (.cells zz 36)) (w.heap.size + 1) 36 zz := by
    simpa using (Blk.new (w.alloc (.cells #[.int .u8 c, .int .u8 sx, .int .u8 sy, .int .u8 wx, .int .u8 wy] 26)) 36 zz).alloc (.cells zz 36)
  have hC : Blk (((w.alloc (.cells #[.int .u8 c, .int .u8 sx, .int .u8 sy, .int .u8 wx, .int .u8 wy] 26)).alloc (.cells zz 36)).alloc (.cells zz 36)) (w.heap.size + 1 + 1) 36 zz := by
    simpa using Blk.new ((w.alloc (.cells #[.int .u8 c, .int .u8 sx, .int .u8 sy, .int .u8 wx, .int .u8 wy] 26)).alloc (.cells zz 36)) 36 zz
  have hW : Below w.heap.size w (((w.alloc (.cells #[.int .u8 c, .int .u8 sx, .int .u8 sy, .int .u8 wx, .int .u8 wy] 26)).alloc (.cells zz 36)).alloc (.cells zz 36)) := (((Below.refl _ _).alloc (Nat.le_refl _) _).alloc (by simp) _).alloc (by simp; omega) _
  obtain ⟨c0, c1, c2, c3, c4, f0, f1, f2, f3, f4⟩ := hA.five
  go_enter Try.func21, Try.ntmps21
  go_wp2_with fail
  clear c0 c1 c2 c3 c4 f0 f1 f2 f3 f4
  go_loopw [35] (fun i wr => ∃ (k : Nat) (cs : Array Value), k ≤ 160 ∧ i = .int .i64 k ∧ Hid (cs.size = 160) ∧ Hid (∀ j, j < 160 → cs[j]? = some (.int .u8 (if j < k then lineF zs c sx sy wx line own false j else 0))) ∧
    Blk wr w.heap.size 26 #[.int .u8 c, .int .u8 sx, .int .u8 sy, .int .u8 wx, .int .u8 wy] ∧ Blk wr (w.heap.size + 1) 36 zz ∧ Blk wr (w.heap.size + 1 + 1) 36 cs ∧ Below w.heap.size w wr) (fun i _ => 160 - (intOf i).toNat)
  case atStart => exact ⟨0, zz, by omega, rfl, HS, hat0, hA, hB, hC, hW⟩
  case round =>
    clear hA hB hC hW hat0
    obtain ⟨k, cs, hk, rfl, HC, HA, hA, hB, hC, hW⟩ := hrel
    have hwr := hW.size
    by_cases hlt : k < 160
    · have gA := hA.lt
      have gB := hB.lt
      have gC := hC.lt
      obtain ⟨c0, c1, c2, c3, c4, f0, f1, f2, f3, f4⟩ := hA.five
      have R := hid_ (HZ.out.below hW)
      have ck := hC.cell k
      rw [HA.out k hlt, if_neg (by omega)] at ck
      have fk := hC.frozen k
      go_wp2_with fail
      refine (back_any zs a len cap c sx sy wx wy (k : Int) line hc hc' _ R.out).mono ?_
      rintro e w8 ⟨rfl, hd, hf, hzz, hb⟩
      clear hd hf hzz c0 c1 c2 c3 c4 f0 f1 f2 f3 f4 ck fk
      have hA8 := hA.below hb gA
      have hB8 := hB.below hb gB
      have hC8 := hC.below hb gC
      have hW8 := hW.trans (hb.mono hwr)
      clear hb hA hB hC hW R gA gB gC hwr
      have ck := hC8.cell k
      rw [HA.out k hlt, if_neg (by omega)] at ck
      have fk := hC8.frozen k
      have hk0 : (0 : Int) ≤ (k : Int) := by omega
      have hk1 : (k : Int) < 160 := by omega
      go_wp2_with fail
      have hF : backI zs c sx sy (k : Int) line = lineF zs c sx sy wx line own false k := by unfold lineF; rw [if_neg (by simp)]
      exact ⟨⟨k + 1, cs.setIfInBounds k (.int .u8 (backI zs c sx sy (k : Int) line)), by omega, by go_num, by show _ = _; rw [Array.size_setIfInBounds]; exact HC.out, row_step HC.out hlt HA.out hF,
        hA8.far (p := ⟨w.heap.size + 1 + 1, k, none⟩) (by simp; omega) _, hB8.far (p := ⟨w.heap.size + 1 + 1, k, none⟩) (by simp) _, hC8.set_ k _, hW8.setCell (by simp; omega) _⟩, by simp [intOf]; omega⟩
    · obtain rfl : k = 160 := by omega
      have hcs : cs = rowOf fun j => lineF zs c sx sy wx line own false j := eq_rowOf HC.out fun j hj => by rw [HA.out j hj, if_pos hj]
      have HO : Hid (cs.all (·.oneCell') = true) := bytes_one (F := fun j => lineF zs c sx sy wx line own false j) HC.out fun j hj => by rw [HA.out j hj, if_pos hj]
      have HCS := hid_ hcs
      clear hcs
      have hBR := hB.setRow cs
      have hWR : Below w.heap.size w (wr.setRow (w.heap.size + 1) cs) := below_setRow hW (by omega) _
      go_wp2_with (first
        | (with_reducible refine wpList_load36 (op := ⟨some 64, _, _, _, _, _⟩) rfl (.tmp 10) rfl (w.heap.size + 1 + 1) (by with_unfolding_all rfl) cs hC HC.out ?_)
        | (with_reducible refine wpList_store36 (op := ⟨none, .store 36 (.tmp 8) (.tmp 64), _, _, _, _⟩) rfl (.tmp 8) (.tmp 64) rfl (w.heap.size + 1) zz cs (by with_unfolding_all rfl) (by with_unfolding_all rfl) hB HS.out HC.out HO.out ?_))
      have hL := row_load hBR HC.out
      refine bodyPost_ret (v := .tuple #[.agg cs, .bool false]) (results_two Try.results21 rfl hL) rfl ?_
      exact .of (by rw [HCS.out]) hWR
set_option maxRecDepth 100000 in
set_option maxHeartbeats 1000000 in
theorem line_un2 (zs : List Int) (a : Option Addr) (len cap : Nat) (c sx sy wx wy line own : Int) (hon : bits .and .u8 c 1 = 1)
    (hc : 0 ≤ c) (hc' : c ≤ 255) (hw0 : 0 ≤ wx) (hw1 : wx ≤ 255) (hv0 : 0 ≤ wy) (hv1 : wy ≤ 255) (h32 : bits .and .u8 c 32 = 32) (hy : ¬ wy ≤ line) (w : World) (h : IsRow .u8 w a len zs) :
    Calls Try.prog 21 #[view c sx sy wx wy, .slice a len cap, .int .i64 line, .int .i64 own] w (Ret (.tuple #[.agg (rowOf fun j => lineF zs c sx sy wx line own false j), .bool false]) w) := by
  obtain ⟨zz, hz, hsz, hat⟩ := row_zero
  have HZ := hid_ h
  have HS := hid_ hsz
  have hat0 : Hid (∀ j, j < 160 → zz[j]? = some (.int .u8 (if j < 0 then lineF zs c sx sy wx line own false j else 0))) := fun j hj => by rw [hat j hj]; rfl
  clear hat hsz h

  have hA := (Blk.new w 26 #[.int .u8 c, .int .u8 sx, .int .u8 sy, .int .u8 wx, .int .u8 wy]).alloc (.cells zz 36) |>.alloc (.cells zz 36)
  have hB : Blk (((w.alloc (.cells #[.int .u8 c, .int .u8 sx, .int .u8 sy, .int .u8 wx, .int .u8 wy] 26)).alloc (.cells zz 36)).alloc (.cells zz 36)) (w.heap.size + 1) 36 zz := by
    simpa using (Blk.new (w.alloc (.cells #[.int .u8 c, .int .u8 sx, .int .u8 sy, .int .u8 wx, .int .u8 wy] 26)) 36 zz).alloc (.cells zz 36)
  have hC : Blk (((w.alloc (.cells #[.int .u8 c, .int .u8 sx, .int .u8 sy, .int .u8 wx, .int .u8 wy] 26)).alloc (.cells zz 36)).alloc (.cells zz 36)) (w.heap.size + 1 + 1) 36 zz := by
    simpa using Blk.new ((w.alloc (.cells #[.int .u8 c, .int .u8 sx, .int .u8 sy, .int .u8 wx, .int .u8 wy] 26)).alloc (.cells zz 36)) 36 zz
  have hW : Below w.heap.size w (((w.alloc (.cells #[.int .u8 c, .int .u8 sx, .int .u8 sy, .int .u8 wx, .int .u8 wy] 26)).alloc (.cells zz 36)).alloc (.cells zz 36)) := (((Below.refl _ _).alloc (Nat.le_refl _) _).alloc (by simp) _).alloc (by simp; omega) _
  obtain ⟨c0, c1, c2, c3, c4, f0, f1, f2, f3, f4⟩ := hA.five
  go_enter Try.func21, Try.ntmps21
  go_wp2_with fail
  clear c0 c1 c2 c3 c4 f0 f1 f2 f3 f4
  go_loopw [35] (fun i wr => ∃ (k : Nat) (cs : Array Value), k ≤ 160 ∧ i = .int .i64 k ∧ Hid (cs.size = 160) ∧ Hid (∀ j, j < 160 → cs[j]? = some (.int .u8 (if j < k then lineF zs c sx sy wx line own false j else 0))) ∧
    Blk wr w.heap.size 26 #[.int .u8 c, .int .u8 sx, .int .u8 sy, .int .u8 wx, .int .u8 wy] ∧ Blk wr (w.heap.size + 1) 36 zz ∧ Blk wr (w.heap.size + 1 + 1) 36 cs ∧ Below w.heap.size w wr) (fun i _ => 160 - (intOf i).toNat)
  case atStart => exact ⟨0, zz, by omega, rfl, HS, hat0, hA, hB, hC, hW⟩
  case round =>
    clear hA hB hC hW hat0
    obtain ⟨k, cs, hk, rfl, HC, HA, hA, hB, hC, hW⟩ := hrel
    have hwr := hW.size
    by_cases hlt : k < 160
    · have gA := hA.lt
      have gB := hB.lt
      have gC := hC.lt
      obtain ⟨c0, c1, c2, c3, c4, f0, f1, f2, f3, f4⟩ := hA.five
      have R := hid_ (HZ.out.below hW)
      have ck := hC.cell k
      rw [HA.out k hlt, if_neg (by omega)] at ck
      have fk := hC.frozen k
      go_wp2_with fail
      refine (back_any zs a len cap c sx sy wx wy (k : Int) line hc hc' _ R.out).mono ?_
      rintro e w8 ⟨rfl, hd, hf, hzz, hb⟩
      clear hd hf hzz c0 c1 c2 c3 c4 f0 f1 f2 f3 f4 ck fk
      have hA8 := hA.below hb gA
      have hB8 := hB.below hb gB
      have hC8 := hC.below hb gC
      have hW8 := hW.trans (hb.mono hwr)
      clear hb hA hB hC hW R gA gB gC hwr
      have ck := hC8.cell k
      rw [HA.out k hlt, if_neg (by omega)] at ck
      have fk := hC8.frozen k
      have hk0 : (0 : Int) ≤ (k : Int) := by omega
      have hk1 : (k : Int) < 160 := by omega
      go_wp2_with fail
      have hF : backI zs c sx sy (k : Int) line = lineF zs c sx sy wx line own false k := by unfold lineF; rw [if_neg (by simp)]
      exact ⟨⟨k + 1, cs.setIfInBounds k (.int .u8 (backI zs c sx sy (k : Int) line)), by omega, by go_num, by show _ = _; rw [Array.size_setIfInBounds]; exact HC.out, row_step HC.out hlt HA.out hF,
        hA8.far (p := ⟨w.heap.size + 1 + 1, k, none⟩) (by simp; omega) _, hB8.far (p := ⟨w.heap.size + 1 + 1, k, none⟩) (by simp) _, hC8.set_ k _, hW8.setCell (by simp; omega) _⟩, by simp [intOf]; omega⟩
    · obtain rfl : k = 160 := by omega
      have hcs : cs = rowOf fun j => lineF zs c sx sy wx line own false j := eq_rowOf HC.out fun j hj => by rw [HA.out j hj, if_pos hj]
      have HO : Hid (cs.all (·.oneCell') = true) := bytes_one (F := fun j => lineF zs c sx sy wx line own false j) HC.out fun j hj => by rw [HA.out j hj, if_pos hj]
      have HCS := hid_ hcs
      clear hcs
      have hBR := hB.setRow cs
      have hWR : Below w.heap.size w (wr.setRow (w.heap.size + 1) cs) := below_setRow hW (by omega) _
      go_wp2_with (first
        | (with_reducible refine wpList_load36 (op := ⟨some 64, _, _, _, _, _⟩) rfl (.tmp 10) rfl (w.heap.size + 1 + 1) (by with_unfolding_all rfl) cs hC HC.out ?_)
        | (with_reducible refine wpList_store36 (op := ⟨none, .store 36 (.tmp 8) (.tmp 64), _, _, _, _⟩) rfl (.tmp 8) (.tmp 64) rfl (w.heap.size + 1) zz cs (by with_unfolding_all rfl) (by with_unfolding_all rfl) hB HS.out HC.out HO.out ?_))
      have hL := row_load hBR HC.out
      refine bodyPost_ret (v := .tuple #[.agg cs, .bool false]) (results_two Try.results21 rfl hL) rfl ?_
      exact .of (by rw [HCS.out]) hWR
set_option maxRecDepth 100000 in
set_option maxHeartbeats 1000000 in
theorem line_un3 (zs : List Int) (a : Option Addr) (len cap : Nat) (c sx sy wx wy line own : Int) (hon : bits .and .u8 c 1 = 1)
    (hc : 0 ≤ c) (hc' : c ≤ 255) (hw0 : 0 ≤ wx) (hw1 : wx ≤ 255) (hv0 : 0 ≤ wy) (hv1 : wy ≤ 255) (h32 : bits .and .u8 c 32 = 32) (hy : wy ≤ line) (hx : ¬ wx ≤ 166) (w : World) (h : IsRow .u8 w a len zs) :
    Calls Try.prog 21 #[view c sx sy wx wy, .slice a len cap, .int .i64 line, .int .i64 own] w (Ret (.tuple #[.agg (rowOf fun j => lineF zs c sx sy wx line own false j), .bool false]) w) := by
  obtain ⟨zz, hz, hsz, hat⟩ := row_zero
  have HZ := hid_ h
  have HS := hid_ hsz
  have hat0 : Hid (∀ j, j < 160 → zz[j]? = some (.int .u8 (if j < 0 then lineF zs c sx sy wx line own false j else 0))) := fun j hj => by rw [hat j hj]; rfl
  clear hat hsz h

  have hA := (Blk.new w 26 #[.int .u8 c, .int .u8 sx, .int .u8 sy, .int .u8 wx, .int .u8 wy]).alloc (.cells zz 36) |>.alloc (.cells zz 36)
  have hB : Blk (((w.alloc (.cells #[.int .u8 c, .int .u8 sx, .int .u8 sy, .int .u8 wx, .int .u8 wy] 26)).alloc (.cells zz 36)).alloc (.cells zz 36)) (w.heap.size + 1) 36 zz := by
    simpa using (Blk.new (w.alloc (.cells #[.int .u8 c, .int .u8 sx, .int .u8 sy, .int .u8 wx, .int .u8 wy] 26)) 36 zz).alloc (.cells zz 36)
  have hC : Blk (((w.alloc (.cells #[.int .u8 c, .int .u8 sx, .int .u8 sy, .int .u8 wx, .int .u8 wy] 26)).alloc (.cells zz 36)).alloc (.cells zz 36)) (w.heap.size + 1 + 1) 36 zz := by
    simpa using Blk.new ((w.alloc (.cells #[.int .u8 c, .int .u8 sx, .int .u8 sy, .int .u8 wx, .int .u8 wy] 26)).alloc (.cells zz 36)) 36 zz
  have hW : Below w.heap.size w (((w.alloc (.cells #[.int .u8 c, .int .u8 sx, .int .u8 sy, .int .u8 wx, .int .u8 wy] 26)).alloc (.cells zz 36)).alloc (.cells zz 36)) := (((Below.refl _ _).alloc (Nat.le_refl _) _).alloc (by simp) _).alloc (by simp; omega) _
  obtain ⟨c0, c1, c2, c3, c4, f0, f1, f2, f3, f4⟩ := hA.five
  go_enter Try.func21, Try.ntmps21
  go_wp2_with fail
  clear c0 c1 c2 c3 c4 f0 f1 f2 f3 f4
  go_loopw [35] (fun i wr => ∃ (k : Nat) (cs : Array Value), k ≤ 160 ∧ i = .int .i64 k ∧ Hid (cs.size = 160) ∧ Hid (∀ j, j < 160 → cs[j]? = some (.int .u8 (if j < k then lineF zs c sx sy wx line own false j else 0))) ∧
    Blk wr w.heap.size 26 #[.int .u8 c, .int .u8 sx, .int .u8 sy, .int .u8 wx, .int .u8 wy] ∧ Blk wr (w.heap.size + 1) 36 zz ∧ Blk wr (w.heap.size + 1 + 1) 36 cs ∧ Below w.heap.size w wr) (fun i _ => 160 - (intOf i).toNat)
  case atStart => exact ⟨0, zz, by omega, rfl, HS, hat0, hA, hB, hC, hW⟩
  case round =>
    clear hA hB hC hW hat0
    obtain ⟨k, cs, hk, rfl, HC, HA, hA, hB, hC, hW⟩ := hrel
    have hwr := hW.size
    by_cases hlt : k < 160
    · have gA := hA.lt
      have gB := hB.lt
      have gC := hC.lt
      obtain ⟨c0, c1, c2, c3, c4, f0, f1, f2, f3, f4⟩ := hA.five
      have R := hid_ (HZ.out.below hW)
      have ck := hC.cell k
      rw [HA.out k hlt, if_neg (by omega)] at ck
      have fk := hC.frozen k
      go_wp2_with fail
      refine (back_any zs a len cap c sx sy wx wy (k : Int) line hc hc' _ R.out).mono ?_
      rintro e w8 ⟨rfl, hd, hf, hzz, hb⟩
      clear hd hf hzz c0 c1 c2 c3 c4 f0 f1 f2 f3 f4 ck fk
      have hA8 := hA.below hb gA
      have hB8 := hB.below hb gB
      have hC8 := hC.below hb gC
      have hW8 := hW.trans (hb.mono hwr)
      clear hb hA hB hC hW R gA gB gC hwr
      have ck := hC8.cell k
      rw [HA.out k hlt, if_neg (by omega)] at ck
      have fk := hC8.frozen k
      have hk0 : (0 : Int) ≤ (k : Int) := by omega
      have hk1 : (k : Int) < 160 := by omega
      go_wp2_with fail
      have hF : backI zs c sx sy (k : Int) line = lineF zs c sx sy wx line own false k := by unfold lineF; rw [if_neg (by simp)]
      exact ⟨⟨k + 1, cs.setIfInBounds k (.int .u8 (backI zs c sx sy (k : Int) line)), by omega, by go_num, by show _ = _; rw [Array.size_setIfInBounds]; exact HC.out, row_step HC.out hlt HA.out hF,
        hA8.far (p := ⟨w.heap.size + 1 + 1, k, none⟩) (by simp; omega) _, hB8.far (p := ⟨w.heap.size + 1 + 1, k, none⟩) (by simp) _, hC8.set_ k _, hW8.setCell (by simp; omega) _⟩, by simp [intOf]; omega⟩
    · obtain rfl : k = 160 := by omega
      have hcs : cs = rowOf fun j => lineF zs c sx sy wx line own false j := eq_rowOf HC.out fun j hj => by rw [HA.out j hj, if_pos hj]
      have HO : Hid (cs.all (·.oneCell') = true) := bytes_one (F := fun j => lineF zs c sx sy wx line own false j) HC.out fun j hj => by rw [HA.out j hj, if_pos hj]
      have HCS := hid_ hcs
      clear hcs
      have hBR := hB.setRow cs
      have hWR : Below w.heap.size w (wr.setRow (w.heap.size + 1) cs) := below_setRow hW (by omega) _
      go_wp2_with (first
        | (with_reducible refine wpList_load36 (op := ⟨some 64, _, _, _, _, _⟩) rfl (.tmp 10) rfl (w.heap.size + 1 + 1) (by with_unfolding_all rfl) cs hC HC.out ?_)
        | (with_reducible refine wpList_store36 (op := ⟨none, .store 36 (.tmp 8) (.tmp 64), _, _, _, _⟩) rfl (.tmp 8) (.tmp 64) rfl (w.heap.size + 1) zz cs (by with_unfolding_all rfl) (by with_unfolding_all rfl) hB HS.out HC.out HO.out ?_))
      have hL := row_load hBR HC.out
      refine bodyPost_ret (v := .tuple #[.agg cs, .bool false]) (results_two Try.results21 rfl hL) rfl ?_
      exact .of (by rw [HCS.out]) hWR
end Go.Proofs.Ytglnikjeloafiaa
