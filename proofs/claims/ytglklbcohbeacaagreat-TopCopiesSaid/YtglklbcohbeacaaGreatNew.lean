/- Contract of machine.New. -/
import Derived.Test.YtglklbcohbeacaaGreatBuilt
import Derived.Test.YtglklbcohbeacaaGreatHparse
import Derived.Test.YtglklbcohbeacaaGreatInsts
namespace Go.Proofs.YtglklbcohbeacaaGreat
open Go.RowKit
set_option linter.unusedSimpArgs false
set_option linter.unusedVariables false
theorem wp_built {o : Oper} {a : Act} {w : World} {K : Act → World → Prop} {Q : Exit → Act → World → Prop} (t : TypeId) (parts : Array (Nat × Operand)) (ho : o.op = .build t parts) (cells : Array Value)
    (hb : Tryz.prog.built t (parts.map fun (i, x) => (i, a.eval x)).toList = some cells) (h : K (a.put o.dst (.agg cells)) w) : o.wp Tryz.prog a w K Q := by
  unfold Oper.wp execOp
  simp only [ho, Sem.run_bind, run_build w t _ cells hb, Result.andThen_ok]
  exact h
theorem wpList_built {ops : Array Oper} {rest : List Oper} {op : Oper} {a : Act} {w : World} {Q : Exit → Act → World → Prop} (hgd : op.guard = none) (t : TypeId) (parts : Array (Nat × Operand)) (ho : op.op = .build t parts) (cells : Array Value)
    (hb : Tryz.prog.built t (parts.map fun (i, x) => (i, a.eval x)).toList = some cells) (h : wpList Tryz.prog ops Q rest (a.put op.dst (.agg cells)) w) : wpList Tryz.prog ops Q (op :: rest) a w :=
  wpList_plain hgd fun _ hK => wp_built t parts ho cells hb (hK _ _ h)
set_option maxRecDepth 100000 in
theorem ops_new (w : World) : Calls Tryz.prog 28 #[] w (fun e w' => e = .returned (.pointer (some ⟨w.heap.size, 0, none⟩)) ∧ Blk w' w.heap.size 139 (tlist false).toArray ∧ Below w.heap.size w w' ∧ w.heap.size < w'.heap.size) := by
  have HT := hid_ table_is
  go_enter Tryz.func28, Tryz.ntmps28
  go_wp2_with (first
    | (with_reducible refine wpList_built (op := ⟨some 1, _, _, _, _, _⟩) rfl 139 #[] rfl (tlist false).toArray (by with_unfolding_all exact HT.out) ?_)
    | ((with_reducible refine wpList_boxA (op := ⟨some 2, _, _, _, _, _⟩) rfl 139 (.tmp 1) rfl (tlist false).toArray rfl ?_); intro w1 HB1 HW1 hz1))
  go_ret
  exact ⟨rfl, HB1.out, HW1.out, hz1⟩
set_option maxRecDepth 100000 in
theorem ppu_new (Z : Array Value) (hZ : Tryz.prog.built 110 [] = some Z) (w : World) : Calls Tryz.prog 29 #[] w (fun e w' => e = .returned (.pointer (some ⟨w.heap.size, 0, none⟩)) ∧ Blk w' w.heap.size 110 Z ∧ Below w.heap.size w w' ∧ w.heap.size < w'.heap.size) := by
  have HT := hid_ hZ
  clear hZ
  go_enter Tryz.func29, Tryz.ntmps29
  go_wp2_with (first
    | (with_reducible refine wpList_built (op := ⟨some 1, _, _, _, _, _⟩) rfl 110 #[] rfl Z (by with_unfolding_all exact HT.out) ?_)
    | ((with_reducible refine wpList_boxA (op := ⟨some 2, _, _, _, _, _⟩) rfl 110 (.tmp 1) rfl Z rfl ?_); intro w1 HB1 HW1 hz1))
  go_ret
  exact ⟨rfl, HB1.out, HW1.out, hz1⟩
theorem size80 : (Tryz.prog.info? 80).map (·.size) = some 7 := by kernel_rfl
theorem zero57 (W : World) : (zeroValue 57).run Tryz.prog W = .ok (.agg #[.int .i64 0, .int .i64 0, .int .i64 0, .bool false, .bool false, .int .i64 0, .int .i64 0, .int .u8 0]) W := by kernel_rfl
theorem zero80 (W : World) : (zeroValue 80).run Tryz.prog W = .ok (.agg #[.string ⟨#[]⟩, .int .i64 0, .bool false, .bool false, .int .i64 0, .int .i64 0, .bool false]) W := by kernel_rfl
theorem bl_one : ∀ v ∈ ([.int .i64 0, .int .i64 2, .int .i64 0, .bool true, .bool false, .int .i64 1, .int .i64 0, .int .u8 255] : List Value), v.oneCell' = true := by simp [Value.oneCell']
theorem hl_one (title : ByteArray) (batt whole : Bool) : ∀ v ∈ ([.string title, .int .i64 0, .bool false, .bool batt, .int .i64 2, .int .i64 0, .bool whole] : List Value), v.oneCell' = true := by simp [Value.oneCell']
set_option maxRecDepth 100000 in
set_option maxHeartbeats 1000000 in
theorem mbc_new (title : ByteArray) (batt whole : Bool) (w : World) : Calls Tryz.prog 30 #[.agg #[.string title, .int .i64 0, .bool false, .bool batt, .int .i64 2, .int .i64 0, .bool whole]] w (Ret (.agg #[.int .i64 0, .int .i64 2, .int .i64 0, .bool true, .bool false, .int .i64 1, .int .i64 0, .int .u8 255]) w) := by
  go_enter Tryz.func30, Tryz.ntmps30
  go_wp2_with (first
    | ((with_reducible refine wpList_boxA (op := ⟨some 1, _, _, _, _, _⟩) rfl 80 (.tmp 0) rfl #[.string title, .int .i64 0, .bool false, .bool batt, .int .i64 2, .int .i64 0, .bool whole] rfl ?_); intro w1 HB1 HW1 hz1; have c1 := HB1.out.cell 1; have c4 := HB1.out.cell 4; have c5 := HB1.out.cell 5; simp at c1 c4 c5)
    | ((with_reducible refine wpList_allocA (op := ⟨some 2, _, _, _, _, _⟩) rfl 57 rfl #[.int .i64 0, .int .i64 0, .int .i64 0, .bool false, .bool false, .int .i64 0, .int .i64 0, .int .u8 0] zero57 ?_); intro w2 HB2 HW2 hz2; have HB12 := hid_ (HB1.out.below HW2.out HB1.out.lt); clear c1 c4 c5; have c1 := HB12.out.cell 1; have c4 := HB12.out.cell 4; have c5 := HB12.out.cell 5; simp at c1 c4 c5)
    | ((with_reducible refine wpList_storeM (op := ⟨none, .store 57 (.tmp 2) (.tmp 12), _, _, _, _⟩) rfl 57 (.tmp 2) (.tmp 12) rfl w1.heap.size 0 (by with_unfolding_all rfl) _ _ HB2.out ([.int .i64 0, .int .i64 2, .int .i64 0, .bool true, .bool false, .int .i64 1, .int .i64 0, .int .u8 255] : List Value) (by with_unfolding_all rfl) (by with_unfolding_all exact size57) (hid_ bl_one).out (by with_unfolding_all exact Nat.le_refl 8) ([.int .i64 0, .int .i64 2, .int .i64 0, .bool true, .bool false, .int .i64 1, .int .i64 0, .int .u8 255] : List Value).toArray (by with_unfolding_all rfl) ?_); intro w3 HB3 s3))
  refine bodyPost_ret (v := .agg #[.int .i64 0, .int .i64 2, .int .i64 0, .bool true, .bool false, .int .i64 1, .int .i64 0, .int .u8 255]) (results_cell Tryz.results30 rfl (load_row HB3.out 57 _ Tryz.underlying57 rfl (by with_unfolding_all exact size57))) rfl (.of rfl ?_)
  exact (HW1.out.trans (HW2.out.mono (by omega))).trans (s3.out.below (by omega) (fun k hk => by omega))
end Go.Proofs.YtglklbcohbeacaaGreat
