/- A machine in memory: its cells; what of it a call keeps. -/
import Derived.Test.YtglklbcohbeacaaGreatBase
import Derived.Laws.CopyOwn
namespace Go.Proofs.YtglklbcohbeacaaGreat
open Go.RowKit
set_option linter.unusedSimpArgs false
set_option linter.unusedVariables false

/-- What changes some blocks alone, and may make memory. -/
structure Step (X : Nat → Prop) (w w' : World) : Prop where
  os : w'.os = w.os
  tape : w'.tape = w.tape
  output : w'.output = w.output
  size : w.heap.size ≤ w'.heap.size
  block : ∀ k, k < w.heap.size → ¬ X k → w'.heap[k]? = w.heap[k]?
theorem Step.refl (X : Nat → Prop) (w : World) : Step X w w := ⟨rfl, rfl, rfl, Nat.le_refl _, fun _ _ _ => rfl⟩
theorem Step.trans {X : Nat → Prop} {w w' w2 : World} (h : Step X w w') (h2 : Step X w' w2) : Step X w w2 :=
  ⟨h2.os.trans h.os, h2.tape.trans h.tape, h2.output.trans h.output, Nat.le_trans h.size h2.size, fun k hk hg => (h2.block k (Nat.lt_of_lt_of_le hk h.size) hg).trans (h.block k hk hg)⟩
/-- Behind it more blocks may change: those that are new. -/
theorem Step.trans' {X Y : Nat → Prop} {w w' w2 : World} (h : Step X w w') (h2 : Step Y w' w2) (hY : ∀ k, k < w.heap.size → Y k → X k) : Step X w w2 :=
  ⟨h2.os.trans h.os, h2.tape.trans h.tape, h2.output.trans h.output, Nat.le_trans h.size h2.size, fun k hk hg => (h2.block k (Nat.lt_of_lt_of_le hk h.size) (fun hy => hg (hY k hk hy))).trans (h.block k hk hg)⟩
theorem Step.mono {X Y : Nat → Prop} {w w' : World} (h : Step X w w') (hY : ∀ k, X k → Y k) : Step Y w w' := ⟨h.os, h.tape, h.output, h.size, fun k hk hg => h.block k hk (fun hx => hg (hY k hx))⟩
theorem Step.set (g i : Nat) (w : World) (u : Value) : Step (· = g) w (w.setCell ⟨g, i, none⟩ u) :=
  ⟨rfl, rfl, rfl, by simp, fun k hk hg => Below.heap_setCell w _ u k hg⟩
theorem Step.row (g : Nat) (w : World) (cs : Array Value) : Step (· = g) w (w.setRow g cs) :=
  ⟨rfl, rfl, rfl, by simp, fun k hk hg => setRow_other w g k cs hg⟩
theorem Step.of {B : Nat} {X : Nat → Prop} {w w' : World} (h : Below B w w') (hB : w.heap.size ≤ B) : Step X w w' := ⟨h.os, h.tape, h.output, h.size, fun k hk _ => h.block k (Nat.lt_of_lt_of_le hk hB)⟩
theorem Step.drew {X : Nat → Prop} {w w' : World} (h : Step X w w') : Step X w w'.drew := ⟨h.os, h.tape, h.output, h.size, h.block⟩
theorem Step.drewN {X : Nat → Prop} {w w' : World} (h : Step X w w') (n : Nat) : Step X w (w'.drewN n) := ⟨h.os, h.tape, h.output, h.size, h.block⟩
theorem Step.below {B : Nat} {X : Nat → Prop} {w w' : World} (h : Step X w w') (hB : B ≤ w.heap.size) (hX : ∀ k, X k → B ≤ k) : Below B w w' :=
  ⟨h.os, h.tape, h.output, h.size, fun k hk => h.block k (Nat.lt_of_lt_of_le hk hB) (fun hx => absurd (hX k hx) (by omega))⟩
theorem Blk.step {X : Nat → Prop} {w w' : World} {g : Nat} {t : TypeId} {cs : Array Value} (h : Blk w g t cs) (hs : Step X w w') (hX : ¬ X g) : Blk w' g t cs := (hs.block g h.lt hX).trans h

/-! ### The operations on memory, at worlds that are variables behind them -/
section
variable {P : Program} {op : Oper} {a : Act} {w : World} {K : Act → World → Prop} {Q : Exit → Act → World → Prop}
theorem wp_boxA (T : TypeId) (x : Operand) (ho : op.op = .box T x) (cs : Array Value) (hx : a.eval x = .agg cs)
    (h : ∀ w', Hid (Blk w' w.heap.size T cs) → Hid (Below w.heap.size w w') → w.heap.size < w'.heap.size → K (a.put op.dst (.pointer (some ⟨w.heap.size, 0, none⟩))) w') : op.wp P a w K Q := by
  have h' := h _ (Blk.new w T cs) ((Below.refl _ _).alloc (Nat.le_refl _) _) (by simp)
  have hr : (Instr.box T (.agg cs)).run P w = .ok (.pointer (some ⟨w.heap.size, 0, none⟩)) (w.alloc (.cells cs T)) := by simp [Instr.box, newVar, Value.cells, go_sem]
  unfold Oper.wp execOp
  simp only [ho, hx, hr, Sem.run_bind, Result.andThen_ok]
  exact h'
theorem wp_allocA (T : TypeId) (ho : op.op = .alloc T) (Z : Array Value) (hz : ∀ W : World, (zeroValue T).run P W = .ok (.agg Z) W)
    (h : ∀ w', Hid (Blk w' w.heap.size T Z) → Hid (Below w.heap.size w w') → w.heap.size < w'.heap.size → K (a.put op.dst (.pointer (some ⟨w.heap.size, 0, none⟩))) w') : op.wp P a w K Q := by
  have h' := h _ (Blk.new w T Z) ((Below.refl _ _).alloc (Nat.le_refl _) _) (by simp)
  have hr : ∀ old, (Instr.alloc T true old).run P w = .ok (.pointer (some ⟨w.heap.size, 0, none⟩)) (w.alloc (.cells Z T)) := fun old => by
    simp only [Instr.alloc, Sem.run_bind, hz, Result.andThen_ok]
    cases old <;> simp [newVar, Value.cells, go_sem]
  unfold Oper.wp execOp
  simp only [ho, hr, Sem.run_bind, Result.andThen_ok]
  exact h'
theorem toArray_range {cs : Array Value} {g k : Nat} {t : TypeId} {l : List Value} (hB : Blk w g t cs) (hl : (cs.toList.drop k).take l.length = l) : w.rangeAt g k l := fun j v hv => by
  rw [hB.cell (k + j)]
  have hj : j < l.length := (List.getElem?_eq_some_iff.1 hv).1
  rw [← hl, List.getElem?_take, if_pos hj, List.getElem?_drop] at hv
  simpa using hv
theorem wp_loadM (T : TypeId) (x : Operand) (ho : op.op = .load T x) (g k : Nat) (hx : a.eval x = .pointer (some ⟨g, k, none⟩)) (t : TypeId) (cs : Array Value) (hB : Blk w g t cs) (l : List Value)
    (hl : (cs.toList.drop k).take l.length = l) (d : TypeDesc) (hu : P.underlying T = some d) (hd : d.isRow = true) (hi : (P.info? T).map (·.size) = some l.length)
    (h : K (a.put op.dst (.agg l.toArray)) w) : op.wp P a w K Q :=
  wp_load_mid T x ho g k hx l d (toArray_range hB hl) hu hd hi h
theorem wp_storeM (T : TypeId) (x y : Operand) (ho : op.op = .store T x y) (g k : Nat) (hx : a.eval x = .pointer (some ⟨g, k, none⟩)) (t : TypeId) (cs : Array Value) (hB : Blk w g t cs) (l : List Value)
    (hy : a.eval y = .agg l.toArray) (hi : (P.info? T).map (·.size) = some l.length) (h1 : ∀ v ∈ l, v.oneCell' = true) (hk : k + l.length ≤ cs.size) (cs' : Array Value)
    (hs : cs.toList.take k ++ l ++ cs.toList.drop (k + l.length) = cs'.toList)
    (h : ∀ w', Hid (Blk w' g t cs') → Hid (Step (· = g) w w') → K (a.put op.dst undef) w') : op.wp P a w K Q := by
  have h' := h (w.setRow g cs') (setRow_heap w g cs cs' t (0, 0) hB) (Step.row g w cs')
  have hst := run_storeCells_at P g k t l 0 cs w hB (by simpa using hk) h1
  have he : (cs.toList.take k ++ l ++ cs.toList.drop (k + l.length)).toArray = cs' := by rw [hs]
  have hr : (storeVar T ⟨g, k, none⟩ (.agg l.toArray)).run P w = .ok () (w.setRow g cs') := by
    cases hq : P.info? T with
    | none => simp [hq] at hi
    | some i =>
      have hz : l.length = i.size := by simp [hq] at hi; omega
      simp only [Nat.add_zero] at hst
      rw [he] at hst
      simp [storeVar, sizeOf, typeInfo, hq, Value.cells, hz, hst]
  unfold Oper.wp execOp
  simp only [ho, hx, hy, Instr.storeAt, Instr.sureAddr, Sem.run_bind, Sem.run_pure, Result.andThen_ok, hr]
  exact h'
theorem wp_storeC (T : TypeId) (x y : Operand) (ho : op.op = .store T x y) (g k : Nat) (hx : a.eval x = .pointer (some ⟨g, k, none⟩)) (t : TypeId) (cs : Array Value) (hB : Blk w g t cs) (v : Value)
    (hy : a.eval y = v) (hv : v.cells = #[v]) (hi : (P.info? T).map (·.size) = some 1) (h1 : v.oneCell' = true) (hk : k < cs.size) (cs' : Array Value)
    (hs : cs.toList.set k v = cs'.toList)
    (h : ∀ w', Hid (Blk w' g t cs') → Hid (Step (· = g) w w') → K (a.put op.dst undef) w') : op.wp P a w K Q := by
  have h' := h (w.setRow g cs') (setRow_heap w g cs cs' t (0, 0) hB) (Step.row g w cs')
  have hst := run_storeCells_at P g k t [v] 0 cs w hB (by simp; omega) (by simpa using h1)
  have he : (cs.toList.take k ++ [v] ++ cs.toList.drop (k + [v].length)).toArray = cs' := by
    have : cs.toList.take k ++ [v] ++ cs.toList.drop (k + [v].length) = cs.toList.set k v := by
      rw [List.set_eq_take_append_cons_drop, if_pos (by simpa using hk)]; simp
    rw [this, hs]
  have hr : (storeVar T ⟨g, k, none⟩ v).run P w = .ok () (w.setRow g cs') := by
    cases hq : P.info? T with
    | none => simp [hq] at hi
    | some i =>
      have hz : i.size = 1 := by simpa [hq] using hi
      simp only [Nat.add_zero] at hst
      rw [he] at hst
      simp [storeVar, sizeOf, typeInfo, hq, hv, hz, hst]
  unfold Oper.wp execOp
  simp only [ho, hx, hy, Instr.storeAt, Instr.sureAddr, Sem.run_bind, Sem.run_pure, Result.andThen_ok, hr]
  exact h'
end
section
variable {P : Program} {ops : Array Oper} {rest : List Oper} {op : Oper} {a : Act} {w : World} {Q : Exit → Act → World → Prop}
theorem wpList_boxA (hgd : op.guard = none) (T : TypeId) (x : Operand) (ho : op.op = .box T x) (cs : Array Value) (hx : a.eval x = .agg cs)
    (h : ∀ w', Hid (Blk w' w.heap.size T cs) → Hid (Below w.heap.size w w') → w.heap.size < w'.heap.size → wpList P ops Q rest (a.put op.dst (.pointer (some ⟨w.heap.size, 0, none⟩))) w') : wpList P ops Q (op :: rest) a w :=
  wpList_plain hgd fun _ hK => wp_boxA T x ho cs hx fun w' h1 h2 h3 => hK _ _ (h w' h1 h2 h3)
theorem wpList_allocA (hgd : op.guard = none) (T : TypeId) (ho : op.op = .alloc T) (Z : Array Value) (hz : ∀ W : World, (zeroValue T).run P W = .ok (.agg Z) W)
    (h : ∀ w', Hid (Blk w' w.heap.size T Z) → Hid (Below w.heap.size w w') → w.heap.size < w'.heap.size → wpList P ops Q rest (a.put op.dst (.pointer (some ⟨w.heap.size, 0, none⟩))) w') : wpList P ops Q (op :: rest) a w :=
  wpList_plain hgd fun _ hK => wp_allocA T ho Z hz fun w' h1 h2 h3 => hK _ _ (h w' h1 h2 h3)
theorem wpList_loadM (hgd : op.guard = none) (T : TypeId) (x : Operand) (ho : op.op = .load T x) (g k : Nat) (hx : a.eval x = .pointer (some ⟨g, k, none⟩)) (t : TypeId) (cs : Array Value) (hB : Blk w g t cs) (l : List Value)
    (hl : (cs.toList.drop k).take l.length = l) (d : TypeDesc) (hu : P.underlying T = some d) (hd : d.isRow = true) (hi : (P.info? T).map (·.size) = some l.length)
    (h : wpList P ops Q rest (a.put op.dst (.agg l.toArray)) w) : wpList P ops Q (op :: rest) a w :=
  wpList_plain hgd fun _ hK => wp_loadM T x ho g k hx t cs hB l hl d hu hd hi (hK _ _ h)
theorem wpList_storeM (hgd : op.guard = none) (T : TypeId) (x y : Operand) (ho : op.op = .store T x y) (g k : Nat) (hx : a.eval x = .pointer (some ⟨g, k, none⟩)) (t : TypeId) (cs : Array Value) (hB : Blk w g t cs) (l : List Value)
    (hy : a.eval y = .agg l.toArray) (hi : (P.info? T).map (·.size) = some l.length) (h1 : ∀ v ∈ l, v.oneCell' = true) (hk : k + l.length ≤ cs.size) (cs' : Array Value)
    (hs : cs.toList.take k ++ l ++ cs.toList.drop (k + l.length) = cs'.toList)
    (h : ∀ w', Hid (Blk w' g t cs') → Hid (Step (· = g) w w') → wpList P ops Q rest (a.put op.dst undef) w') : wpList P ops Q (op :: rest) a w :=
  wpList_plain hgd fun _ hK => wp_storeM T x y ho g k hx t cs hB l hy hi h1 hk cs' hs fun w' h2 h3 => hK _ _ (h w' h2 h3)
theorem wpList_storeC (hgd : op.guard = none) (T : TypeId) (x y : Operand) (ho : op.op = .store T x y) (g k : Nat) (hx : a.eval x = .pointer (some ⟨g, k, none⟩)) (t : TypeId) (cs : Array Value) (hB : Blk w g t cs) (v : Value)
    (hy : a.eval y = v) (hv : v.cells = #[v]) (hi : (P.info? T).map (·.size) = some 1) (h1 : v.oneCell' = true) (hk : k < cs.size) (cs' : Array Value)
    (hs : cs.toList.set k v = cs'.toList)
    (h : ∀ w', Hid (Blk w' g t cs') → Hid (Step (· = g) w w') → wpList P ops Q rest (a.put op.dst undef) w') : wpList P ops Q (op :: rest) a w :=
  wpList_plain hgd fun _ hK => wp_storeC T x y ho g k hx t cs hB v hy hv hi h1 hk cs' hs fun w' h2 h3 => hK _ _ (h w' h2 h3)
end
end Go.Proofs.YtglklbcohbeacaaGreat
