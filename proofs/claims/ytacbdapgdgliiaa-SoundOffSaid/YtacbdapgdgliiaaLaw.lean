/- A call by value lays two blocks: as one law for the walk. -/
import Derived.Test.YtacbdapgdgliiaaBase
namespace Go.Proofs.Ytacbdapgdgliiaa
open Go.RowKit
set_option linter.unusedSimpArgs false
set_option linter.unusedVariables false

theorem run_alloc29 (w : World) (old : Value) : (Instr.alloc 29 true old).run Try.prog w = .ok (.pointer (some ⟨w.heap.size, 0, none⟩)) (w.alloc (.cells (enc zeroB) 29)) := by
  simp only [Instr.alloc, Sem.run_bind, board_zero, Result.andThen_ok]
  cases old <;> simp [newVar, Value.cells, go_sem]
/-- The two blocks that a call by value lays: its own board's, and its result's. -/
theorem two_blocks (b : Bd) (w : World) : Blk ((w.alloc (.cells (enc b) 29)).alloc (.cells (enc zeroB) 29)) w.heap.size 29 (enc b) ∧
    Blk ((w.alloc (.cells (enc b) 29)).alloc (.cells (enc zeroB) 29)) (w.heap.size + 1) 29 (enc zeroB) ∧
    Below w.heap.size w ((w.alloc (.cells (enc b) 29)).alloc (.cells (enc zeroB) 29)) :=
  ⟨(Blk.new w 29 (enc b)).alloc _, by simpa using Blk.new (w.alloc (.cells (enc b) 29)) 29 (enc zeroB), ((Below.refl _ _).alloc (Nat.le_refl _) _).alloc (by simp) _⟩
theorem wpList_alloc29 {ops : Array Oper} {rest : List Oper} {op : Oper} {a : Act} {w : World} {Q : Exit → Act → World → Prop} (hgd : op.guard = none) (ho : op.op = .alloc 29)
    (b : Bd) (w0 : World) (hw : w = w0.alloc (.cells (enc b) 29))
    (h : ∀ w', Hid (Blk w' w0.heap.size 29 (enc b)) → Hid (Blk w' (w0.heap.size + 1) 29 (enc zeroB)) → Hid (Below w0.heap.size w0 w') → w0.heap.size + 1 < w'.heap.size → wpList Try.prog ops Q rest (a.put op.dst (.pointer (some ⟨w0.heap.size + 1, 0, none⟩))) w') :
    wpList Try.prog ops Q (op :: rest) a w :=
  wpList_plain hgd fun _ hK => by
    subst hw
    obtain ⟨h1, h2, h3⟩ := two_blocks b w0
    have h' := h _ h1 h2 h3 (by simp)
    unfold Oper.wp execOp
    simp only [ho, run_alloc29, Sem.run_bind, Result.andThen_ok]
    refine hK _ _ ?_
    simpa using h'
end Go.Proofs.Ytacbdapgdgliiaa
