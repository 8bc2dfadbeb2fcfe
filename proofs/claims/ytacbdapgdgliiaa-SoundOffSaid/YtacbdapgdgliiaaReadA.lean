/- Contracts of masks and of a board's read. -/
import Derived.Test.YtacbdapgdgliiaaLaw
import Derived.Test.YtacbdapgdgliiaaLeaf
import Derived.Deep.RegionWith
import Derived.Great.BuildSlice
namespace Go.Proofs.Ytacbdapgdgliiaa
open Go.RowKit
set_option linter.unusedSimpArgs false
set_option linter.unusedVariables false

def masksL : List Int := [128, 63, 0, 255, 191, 255, 63, 0, 255, 191, 127, 255, 159, 255, 191, 255, 255, 0, 0, 191, 0, 0, 112]
theorem masks_size : (Try.prog.info? 40).map (·.size) = some 23 := by kernel_rfl
theorem masks_load {w : World} {g : Nat} {cs : Array Value} (hB : Blk w g 40 cs) (hs : cs.size = 23) : (loadVar 40 ⟨g, 0, none⟩).run Try.prog w = .ok (.agg cs) w :=
  run_loadVar_row _ _ 40 40 cs (0, 0) _ hB Try.underlying40 rfl (by rw [masks_size, hs])
theorem results_masks {fn : Func} {tmps : Array Value} {A g : Nat} {w : World} {cs : Array Value} (hr : fn.results = #[.cell A 40]) (hA : tmps.getD A undef = .pointer (some ⟨g, 0, none⟩))
    (hB : Blk w g 40 cs) (hs : cs.size = 23) : (results fn tmps).run Try.prog w = .ok (.agg cs) w := by
  have hA' : tmps[A]?.getD undef = .pointer (some ⟨g, 0, none⟩) := by rw [← Array.getD_eq_getD_getElem?]; exact hA
  unfold results
  rw [hr]
  simp [hA', asAddr, Sem.run_bind, masks_load hB hs]
def masksV : Value := .agg (masksL.map (Value.int .u8)).toArray
theorem masks_len : ((masksL.map (Value.int .u8)).toArray).size = 23 := rfl
theorem zero40 : (Try.prog.info? 40).map (fun i => (i.zero, i.size)) = some (some (.agg (Array.replicate 23 (.int .u8 0))), 23) := by kernel_rfl
theorem run_alloc40 (w : World) (old : Value) : (Instr.alloc 40 true old).run Try.prog w = .ok (.pointer (some ⟨w.heap.size, 0, none⟩)) (w.alloc (.cells (Array.replicate 23 (.int .u8 0)) 40)) := by
  simp only [Instr.alloc, Sem.run_bind, (zero_of_info zero40).1 w, Result.andThen_ok]
  cases old <;> simp [newVar, Value.cells, go_sem]
theorem wpList_alloc40 {ops : Array Oper} {rest : List Oper} {op : Oper} {a : Act} {w : World} {Q : Exit → Act → World → Prop} (hgd : op.guard = none) (ho : op.op = .alloc 40)
    (h : ∀ w', Hid (Blk w' w.heap.size 40 (Array.replicate 23 (.int .u8 0))) → Hid (Below w.heap.size w w') → wpList Try.prog ops Q rest (a.put op.dst (.pointer (some ⟨w.heap.size, 0, none⟩))) w') :
    wpList Try.prog ops Q (op :: rest) a w :=
  wpList_plain hgd fun _ hK => by
    have h' := h _ (Blk.new w 40 _) ((Below.refl _ _).alloc (Nat.le_refl _) _)
    unfold Oper.wp execOp
    simp only [ho, run_alloc40, Sem.run_bind, Result.andThen_ok]
    exact hK _ _ h'
theorem masks_one : ((masksL.map (Value.int .u8)).toArray).all (·.oneCell') = true := by simp [masksL, Value.oneCell']
theorem masks_info : (Try.prog.info? 40).map (·.size) = some ((masksL.map (Value.int .u8)).toArray).size := by kernel_rfl
theorem masks_old : (Array.replicate 23 (Value.int .u8 0)).size = ((masksL.map (Value.int .u8)).toArray).size := by rw [masks_len]; simp
theorem wpList_store40 {ops : Array Oper} {rest : List Oper} {op : Oper} {a : Act} {w : World} {Q : Exit → Act → World → Prop} (hgd : op.guard = none) (x y : Operand) (ho : op.op = .store 40 x y) (hd : op.dst = none)
    (g : Nat) (hx : a.eval x = .pointer (some ⟨g, 0, none⟩)) (hy : a.eval y = masksV) (hB : Blk w g 40 (Array.replicate 23 (.int .u8 0)))
    (h : wpList Try.prog ops Q rest (a.put none undef) (w.setRow g ((masksL.map (Value.int .u8)).toArray))) : wpList Try.prog ops Q (op :: rest) a w := by
  refine wpList_store_rowTo (o := op) hgd 40 x y ho hd g ((masksL.map (Value.int .u8)).toArray) hx hy 40 _ hB masks_info masks_old masks_one ?_
  exact h
theorem masks_any (w : World) : Calls Try.prog 22 #[] w (Ret masksV w) := by
  have hz40 : ((Try.prog.info? 40).bind (·.zero)).map (·.cells.size) = some masksL.length := by kernel_rfl
  have hs5 : (Try.prog.info? 5).map (·.size) = some 1 := by kernel_rfl
  go_enter Try.func22, Try.ntmps22
  go_wp2_with (first
    | (with_reducible refine wpList_alloc40 (op := ⟨some 0, .alloc 40, _, _, _, _⟩) rfl rfl ?_; intro w1 HB1 HW1)
    | (with_reducible refine wpList_buildFlatArrTo (o := ⟨some 1, _, _, _, _, _⟩) rfl 40 5 23 _ rfl .u8 masksL (some 1) rfl Try.underlying40 hs5 hz40 (by kernel_rfl) ?_)
    | (with_reducible refine wpList_store40 (op := ⟨none, .store 40 (.tmp 0) (.tmp 1), _, _, _, _⟩) rfl (.tmp 0) (.tmp 1) rfl rfl w.heap.size (by with_unfolding_all rfl) (by with_unfolding_all rfl) HB1.out ?_))
  exact bodyPost_ret (v := masksV) (results_masks Try.results22 rfl (HB1.out.setRow _) masks_len) rfl (.of rfl (below_setRow HW1.out (Nat.le_refl _) _))
theorem masks_at (n : Nat) (hn : n < 23) : ((masksL.map (Value.int .u8)).toArray)[n]? = some (.int .u8 (masksL.getD n 0)) := by
  have hl : n < masksL.length := by show n < 23; omega
  simp [hl]
theorem run_box29 (w : World) (b : Bd) : (Instr.box 29 (.agg (enc b))).run Try.prog w = .ok (.pointer (some ⟨w.heap.size, 0, none⟩)) (w.alloc (.cells (enc b) 29)) := by
  simp [Instr.box, newVar, Value.cells, go_sem]
theorem wpList_box29 {ops : Array Oper} {rest : List Oper} {op : Oper} {a : Act} {w : World} {Q : Exit → Act → World → Prop} (hgd : op.guard = none) (x : Operand) (ho : op.op = .box 29 x)
    (b : Bd) (hx : a.eval x = .agg (enc b))
    (h : ∀ w', Hid (Blk w' w.heap.size 29 (enc b)) → Hid (Below w.heap.size w w') → wpList Try.prog ops Q rest (a.put op.dst (.pointer (some ⟨w.heap.size, 0, none⟩))) w') :
    wpList Try.prog ops Q (op :: rest) a w :=
  wpList_plain hgd fun _ hK => by
    have h' := h _ (Blk.new w 29 (enc b)) ((Below.refl _ _).alloc (Nat.le_refl _) _)
    unfold Oper.wp execOp
    simp only [ho, hx, run_box29, Sem.run_bind, Result.andThen_ok]
    exact hK _ _ h'

end Go.Proofs.Ytacbdapgdgliiaa
