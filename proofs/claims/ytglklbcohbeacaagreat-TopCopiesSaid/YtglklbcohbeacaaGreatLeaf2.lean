/- Contracts: a timer's cycle, a board at rest. -/
import Derived.Test.YtglklbcohbeacaaGreatLeaf
import Derived.Test.YtglklbcohbeacaaGreatMach
namespace Go.Proofs.YtglklbcohbeacaaGreat
open Go.RowKit
set_option linter.unusedSimpArgs false
set_option linter.unusedVariables false

def zbL : List Value := [
  .int .u8 0, .int .u8 0, .int .u8 0, .int .u8 0, .int .u8 0, .int .u8 0, .int .u8 0, .int .u8 0, .int .u8 0, .int .u8 0, .int .u8 0, .int .u8 0, .int .u8 0, .int .u8 0, .int .u8 0, .int .u8 0, .int .u8 0, .int .u8 0, .int .u8 0, .int .u8 0, .int .u8 0, .int .u8 0, .int .u8 0, .int .u8 0, .int .u8 0, .int .u8 0, .int .u8 0, .int .u8 0, .int .u8 0, .int .u8 0, .int .u8 0, .int .u8 0, .int .u8 0, .int .u8 0, .int .u8 0, .int .u8 0, .int .u8 0, .int .u8 0, .int .u8 0, .int .u8 0, .int .u8 0, .int .u8 0, .int .u8 0, .int .u8 0, .int .u8 0, .int .u8 0, .int .u8 0, .int .u8 0,
  .bool false, .int .i64 0, .int .i64 0, .bool false, .int .i64 0, .int .i64 0, .int .i64 0, .bool false, .int .i64 0, .int .i64 0, .int .i64 0, .bool false, .int .i64 0, .int .i64 0, .int .i64 0, .bool false, .int .i64 0, .int .i64 0, .int .i64 0, .int .i64 0, .int .i64 0, .bool false]
theorem board_info : (Tryz.prog.info? 74).map (fun i => (i.zero, i.size)) = some (some (.agg zbL.toArray), 70) := by kernel_rfl
theorem board_zero (W : World) : (zeroValue 74).run Tryz.prog W = .ok (.agg zbL.toArray) W := (zero_of_info board_info).1 W
theorem board_size : (Tryz.prog.info? 74).map (·.size) = some zbL.length := (zero_of_info board_info).2
theorem zb_one : ∀ v ∈ zbL, v.oneCell' = true := List.all_eq_true.1 (by kernel_rfl)
theorem zb_len : zbL.length = 70 := by kernel_rfl
theorem zb_48 : zbL[48]? = some (.bool false) := by kernel_rfl
theorem load_row {w : World} {g : Nat} {t : TypeId} {cs : Array Value} (hB : Blk w g t cs) (T : TypeId) (d : TypeDesc) (hu : Tryz.prog.underlying T = some d) (hd : d.isRow = true) (hi : (Tryz.prog.info? T).map (·.size) = some cs.size) :
    (loadVar T ⟨g, 0, none⟩).run Tryz.prog w = .ok (.agg cs) w := run_loadVar_row w g t T cs (0, 0) d hB hu (by cases d <;> simp_all [TypeDesc.isRow]) hi
theorem results_cell {fn : Func} {tmps : Array Value} {A T g : Nat} {w : World} {v : Value} (hr : fn.results = #[.cell A T]) (hA : tmps.getD A undef = .pointer (some ⟨g, 0, none⟩))
    (hl : (loadVar T ⟨g, 0, none⟩).run Tryz.prog w = .ok v w) : (results fn tmps).run Tryz.prog w = .ok v w := by
  have hA' : tmps[A]?.getD undef = .pointer (some ⟨g, 0, none⟩) := by rw [← Array.getD_eq_getD_getElem?]; exact hA
  unfold results
  rw [hr]
  simp [hA', asAddr, Sem.run_bind, hl]
theorem results_cell_tmp {fn : Func} {tmps : Array Value} {A B T g : Nat} {w : World} {v u : Value} (hr : fn.results = #[.cell A T, .tmp B]) (hA : tmps.getD A undef = .pointer (some ⟨g, 0, none⟩))
    (hB : tmps.getD B undef = u) (hl : (loadVar T ⟨g, 0, none⟩).run Tryz.prog w = .ok v w) : (results fn tmps).run Tryz.prog w = .ok (.tuple #[v, u]) w := by
  have hA' : tmps[A]?.getD undef = .pointer (some ⟨g, 0, none⟩) := by rw [← Array.getD_eq_getD_getElem?]; exact hA
  have hB' : tmps[B]?.getD undef = u := by rw [← Array.getD_eq_getD_getElem?]; exact hB
  unfold results
  rw [hr]
  simp [hA', hB', asAddr, Sem.run_bind, hl]
theorem results_cells {fn : Func} {tmps : Array Value} {A B T U g k : Nat} {w : World} {v u : Value} (hr : fn.results = #[.cell A T, .cell B U]) (hA : tmps.getD A undef = .pointer (some ⟨g, 0, none⟩)) (hB : tmps.getD B undef = .pointer (some ⟨k, 0, none⟩))
    (hl : (loadVar T ⟨g, 0, none⟩).run Tryz.prog w = .ok v w) (hu : (loadVar U ⟨k, 0, none⟩).run Tryz.prog w = .ok u w) : (results fn tmps).run Tryz.prog w = .ok (.tuple #[v, u]) w := by
  have hA' : tmps[A]?.getD undef = .pointer (some ⟨g, 0, none⟩) := by rw [← Array.getD_eq_getD_getElem?]; exact hA
  have hB' : tmps[B]?.getD undef = .pointer (some ⟨k, 0, none⟩) := by rw [← Array.getD_eq_getD_getElem?]; exact hB
  unfold results
  rw [hr]
  simp [hA', hB', asAddr, Sem.run_bind, hl, hu]
theorem board_tick (w : World) : Calls Tryz.prog 182 #[.agg zbL.toArray] w (Ret (.agg zbL.toArray) w) := by
  have H1 := hid_ zb_one
  have HK : Hid (0 + zbL.length ≤ zbL.toArray.size) := Nat.le_of_eq (by kernel_rfl)
  go_enter Tryz.func182, Tryz.ntmps182
  go_wp2_with (first
    | ((with_reducible refine wpList_boxA (op := ⟨some 1, _, _, _, _, _⟩) rfl 74 (.tmp 0) rfl zbL.toArray rfl ?_); intro w1 HB1 HW1 hz1)
    | ((with_reducible refine wpList_allocA (op := ⟨some 2, _, _, _, _, _⟩) rfl 74 rfl zbL.toArray board_zero ?_); intro w2 HB2 HW2 hz2; have HB3 := hid_ (HB1.out.below HW2.out HB1.out.lt); have c48 := (HB3.out.cell 48).trans (List.getElem?_toArray.trans zb_48))
    | (with_reducible refine wpList_loadM (op := ⟨some 6, _, _, _, _, _⟩) rfl 74 (.tmp 1) rfl w.heap.size 0 (by with_unfolding_all rfl) 74 zbL.toArray HB3.out zbL (by kernel_rfl) _ Tryz.underlying74 rfl board_size ?_)
    | ((with_reducible refine wpList_storeM (op := ⟨none, .store 74 (.tmp 2) (.tmp 6), _, _, _, _⟩) rfl 74 (.tmp 2) (.tmp 6) rfl w1.heap.size 0 (by with_unfolding_all rfl) 74 zbL.toArray HB2.out zbL (by with_unfolding_all rfl) board_size H1.out HK.out zbL.toArray (by kernel_rfl) ?_); intro w3 HB4 HW3))
  refine bodyPost_ret (v := .agg zbL.toArray) (results_cell Tryz.results182 rfl (load_row HB4.out 74 _ Tryz.underlying74 rfl board_size)) rfl (.of rfl ?_)
  exact (HW1.out.trans (HW2.out.mono HW1.out.size)).trans (HW3.out.below (Nat.le_trans HW1.out.size HW2.out.size) (fun k hk => by have := HW1.out.size; omega))
theorem timer_tick (c : Int) (h0 : 0 ≤ c) (h1 : c ≤ 65535) (w : World) : Calls Tryz.prog 178 #[.agg #[.int .u16 c, .int .u8 0, .int .u8 0, .int .u8 0, .bool false]] w (Ret (.tuple #[.agg #[.int .u16 ((c + 4) % 65536), .int .u8 0, .int .u8 0, .int .u8 0, .bool false], .bool false]) w) := by
  go_enter Tryz.func178, Tryz.ntmps178
  go_wp2_with fail
  refine (change_rest c h0 h1 _).mono ?_
  rintro e w1 ⟨rfl, hc, hf, hz, hb⟩
  have hB : Blk w1 (w.heap.size + 1) 62 #[.int .u16 0, .int .u8 0, .int .u8 0, .int .u8 0, .bool false] := by
    refine Blk.below ?_ hb (by simp)
    simpa using Blk.new (w.alloc (.cells #[.int .u16 c, .int .u8 0, .int .u8 0, .int .u8 0, .bool false] 62)) 62 #[.int .u16 0, .int .u8 0, .int .u8 0, .int .u8 0, .bool false]
  have hW : Below w.heap.size w w1 := (((Below.refl _ _).alloc (Nat.le_refl _) _).alloc (by simp) _).trans (hb.mono (by simp; omega))
  clear hc hf hz hb
  generalize (c + 4) % 65536 = c4 at *
  have b0 := hB.cell 0
  have b1 := hB.cell 1
  have b2 := hB.cell 2
  have b3 := hB.cell 3
  have b4 := hB.cell 4
  simp at b0 b1 b2 b3 b4
  have fb0 := hB.frozen 0
  have fb1 := hB.frozen 1
  have fb2 := hB.frozen 2
  have fb3 := hB.frozen 3
  have fb4 := hB.frozen 4
  go_wp2_with fail
  have hB3 := ((((hB.set_ 0 (.int .u16 c4)).set_ 1 (.int .u8 0)).set_ 2 (.int .u8 0)).set_ 3 (.int .u8 0)).set_ 4 (.bool false)
  have hW3 := ((((hW.setCell (p := ⟨w.heap.size + 1, 0, none⟩) (by simp) (.int .u16 c4)).setCell (p := ⟨w.heap.size + 1, 1, none⟩) (by simp) (.int .u8 0)).setCell (p := ⟨w.heap.size + 1, 2, none⟩) (by simp) (.int .u8 0)).setCell (p := ⟨w.heap.size + 1, 3, none⟩) (by simp) (.int .u8 0)).setCell (p := ⟨w.heap.size + 1, 4, none⟩) (by simp) (.bool false)
  refine bodyPost_ret (v := .tuple #[.agg #[.int .u16 c4, .int .u8 0, .int .u8 0, .int .u8 0, .bool false], .bool false]) ?_ rfl (.of rfl hW3)
  clear b0 b1 b2 b3 b4 fb0 fb1 fb2 fb3 fb4
  generalize (((((w1.setCell ⟨w.heap.size + 1, 0, none⟩ (.int .u16 c4)).setCell ⟨w.heap.size + 1, 1, none⟩ (.int .u8 0)).setCell ⟨w.heap.size + 1, 2, none⟩ (.int .u8 0)).setCell ⟨w.heap.size + 1, 3, none⟩ (.int .u8 0)).setCell ⟨w.heap.size + 1, 4, none⟩ (.bool false)) = w3 at *
  have b0 := hB3.cell 0
  have b1 := hB3.cell 1
  have b2 := hB3.cell 2
  have b3 := hB3.cell 3
  have b4 := hB3.cell 4
  simp at b0 b1 b2 b3 b4
  simp [results, Tryz.results178, go_sem, b0, b1, b2, b3, b4]
end Go.Proofs.YtglklbcohbeacaaGreat
