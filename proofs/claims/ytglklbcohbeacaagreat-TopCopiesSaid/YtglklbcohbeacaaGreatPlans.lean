/- Contract of the plans: what all orders are. -/
import Derived.Test.YtglklbcohbeacaaGreatTab
import Derived.Great.BuildSlice
namespace Go.Proofs.YtglklbcohbeacaaGreat
open Go.RowKit
set_option linter.unusedSimpArgs false
set_option linter.unusedVariables false

section
variable {P : Program} {ops : Array Oper} {rest : List Oper} {o : Oper} {a : Act} {w : World} {Q : Exit → Act → World → Prop} {K : Act → World → Prop}
theorem wp_bslice (t e : TypeId) (len : Nat) (parts : Array (Nat × Operand)) (ho : o.op = .buildSlice t len parts) (cells : Array Value) (ie : TypeInfo) (z : Value)
    (hu : P.underlying t = some (.slice e)) (hie : P.info? e = some ie) (hz : ie.zero = some z) (n : Nat) (hn : ie.size = n) (hsmall : ¬ len * n > 2 ^ 24) (hpos : ¬ len * n = 0)
    (hf : Instr.fill (fun i => some (i * n, n)) ((Array.range (len * n)).map (z.cells[· % z.cells.size]!)) (parts.map fun (i, x) => (i, a.eval x)).toList = some cells)
    (h : ∀ w', Hid (Blk w' w.heap.size e cells) → Hid (Below w.heap.size w w') → w.heap.size < w'.heap.size → K (a.put o.dst (.slice (some ⟨w.heap.size, 0, none⟩) len len)) w') : o.wp P a w K Q := by
  subst hn
  exact wp_buildSlice t e len parts ho cells ie z hu hie hz hsmall hpos hf (h _ (Blk.new w e cells) ((Below.refl _ _).alloc (Nat.le_refl _) _) (by simp))
theorem wpList_bslice (hg : o.guard = none) (t e : TypeId) (len : Nat) (parts : Array (Nat × Operand)) (ho : o.op = .buildSlice t len parts) (cells : Array Value) (ie : TypeInfo) (z : Value)
    (hu : P.underlying t = some (.slice e)) (hie : P.info? e = some ie) (hz : ie.zero = some z) (n : Nat) (hn : ie.size = n) (hsmall : ¬ len * n > 2 ^ 24) (hpos : ¬ len * n = 0)
    (hf : Instr.fill (fun i => some (i * n, n)) ((Array.range (len * n)).map (z.cells[· % z.cells.size]!)) (parts.map fun (i, x) => (i, a.eval x)).toList = some cells)
    (h : ∀ w', Hid (Blk w' w.heap.size e cells) → Hid (Below w.heap.size w w') → w.heap.size < w'.heap.size → wpList P ops Q rest (a.put o.dst (.slice (some ⟨w.heap.size, 0, none⟩) len len)) w') : wpList P ops Q (o :: rest) a w :=
  wpList_plain hg fun _ hK => wp_bslice t e len parts ho cells ie z hu hie hz n hn hsmall hpos hf fun w' h1 h2 h3 => hK _ _ (h w' h1 h2 h3)
end
theorem info3 : (Tryz.prog.info? 3).map (fun i => (i.zero, i.size, i.bytes)) = some (some (.int .i64 0), 1, 8) := by kernel_rfl
theorem info187 : (Tryz.prog.info? 187).map (fun i => (i.zero, i.size, i.bytes)) = some (some (.agg #[.int .i64 0, .int .i64 0, .int .i64 0, .int .i64 0, .int .i64 0, .slice none 0 0]), 6, 64) := by kernel_rfl
/-- A plan's cells; v: its row. -/
def rowP (q : Pl × Value) : List Value := [.int .i64 q.1.at_, .int .i64 q.1.by_, .int .i64 q.1.many, .int .i64 q.1.kind, .int .i64 q.1.size, q.2]
theorem rowP_length (q : Pl × Value) : (rowP q).length = 6 := rfl
/-- A plan's row reads as it says. -/
def RowOk (w : World) (q : Pl × Value) : Prop := (q.1.x = [] ∧ q.2 = .slice none 0 0) ∨ (q.1.x ≠ [] ∧ ∃ b, q.2 = .slice (some ⟨b, 0, none⟩) q.1.x.length q.1.x.length ∧ Blk w b 3 (q.1.x.map (Value.int .i64)).toArray)
def PlansPost (w : World) (e : Ending) (w' : World) : Prop :=
  ∃ g vs, e = .returned (.slice (some ⟨g, 0, none⟩) 41 41) ∧ vs.length = 41 ∧ Blk w' g 187 ((plansL.zip vs).flatMap rowP).toArray ∧ (∀ q ∈ plansL.zip vs, RowOk w' q) ∧ Below w.heap.size w w'
def plansV (bb pb sb s1 s2 s3 s4 : Nat) : List Value := [
  .slice none 0 0, .slice none 0 0, .slice none 0 0, .slice (some ⟨s1, 0, none⟩) 1 1, .slice (some ⟨pb, 0, none⟩) 4 4, .slice (some ⟨pb, 0, none⟩) 4 4, .slice (some ⟨pb, 0, none⟩) 4 4, .slice (some ⟨pb, 0, none⟩) 4 4, .slice (some ⟨pb, 0, none⟩) 4 4, .slice (some ⟨pb, 0, none⟩) 4 4, .slice (some ⟨pb, 0, none⟩) 4 4, .slice (some ⟨bb, 0, none⟩) 8 8, .slice (some ⟨bb, 0, none⟩) 8 8, .slice (some ⟨bb, 0, none⟩) 8 8, .slice (some ⟨pb, 0, none⟩) 4 4, .slice none 0 0, .slice none 0 0, .slice none 0 0, .slice none 0 0, .slice (some ⟨pb, 0, none⟩) 4 4, .slice none 0 0, .slice none 0 0, .slice none 0 0, .slice none 0 0, .slice (some ⟨sb, 0, none⟩) 4 4, .slice (some ⟨sb, 0, none⟩) 4 4, .slice (some ⟨s2, 0, none⟩) 1 1, .slice none 0 0, .slice none 0 0, .slice none 0 0, .slice (some ⟨pb, 0, none⟩) 4 4, .slice none 0 0, .slice none 0 0, .slice none 0 0, .slice none 0 0, .slice (some ⟨s3, 0, none⟩) 1 1, .slice none 0 0, .slice none 0 0, .slice (some ⟨pb, 0, none⟩) 4 4, .slice (some ⟨s4, 0, none⟩) 1 1, .slice (some ⟨bb, 0, none⟩) 8 8]
set_option maxRecDepth 100000 in
theorem plans_rows (bb pb sb s1 s2 s3 s4 : Nat) (w : World) (h0 : Blk w bb 3 #[.int .i64 0, .int .i64 1, .int .i64 2, .int .i64 3, .int .i64 4, .int .i64 5, .int .i64 6, .int .i64 7]) (h1 : Blk w pb 3 #[.int .i64 0, .int .i64 1, .int .i64 2, .int .i64 3]) (h2 : Blk w sb 3 #[.int .i64 0, .int .i64 1, .int .i64 2, .int .i64 4]) (h3 : Blk w s1 3 #[.int .i64 4]) (h4 : Blk w s2 3 #[.int .i64 4]) (h5 : Blk w s3 3 #[.int .i64 4]) (h6 : Blk w s4 3 #[.int .i64 4]) :
    ∀ q ∈ plansL.zip (plansV bb pb sb s1 s2 s3 s4), RowOk w q := by
  iterate 41 (refine List.forall_mem_cons.2 ⟨(by first | exact .inl ⟨rfl, rfl⟩ | exact .inr ⟨(by simp [bytesL, pairsL, stackL]), _, rfl, h0⟩ | exact .inr ⟨(by simp [bytesL, pairsL, stackL]), _, rfl, h1⟩ | exact .inr ⟨(by simp [bytesL, pairsL, stackL]), _, rfl, h2⟩ | exact .inr ⟨(by simp [bytesL, pairsL, stackL]), _, rfl, h3⟩ | exact .inr ⟨(by simp [bytesL, pairsL, stackL]), _, rfl, h4⟩ | exact .inr ⟨(by simp [bytesL, pairsL, stackL]), _, rfl, h5⟩ | exact .inr ⟨(by simp [bytesL, pairsL, stackL]), _, rfl, h6⟩), ?_⟩)
  exact fun q hq => by cases hq
set_option maxRecDepth 100000 in
set_option maxHeartbeats 4000000 in
theorem plans_any (w : World) : Calls Tryz.prog 92 #[] w (PlansPost w) := by
  obtain ⟨i3, hi3, hz3, hs3, _⟩ := info_parts info3
  obtain ⟨i8, hi8, hz8, hs8, _⟩ := info_parts info187
  go_enter Tryz.func92, Tryz.ntmps92
  go_wp2_with (first
    | ((with_reducible refine wpList_bslice (o := ⟨some 4, _, _, _, _, _⟩) rfl 183 3 8 _ rfl #[.int .i64 0, .int .i64 1, .int .i64 2, .int .i64 3, .int .i64 4, .int .i64 5, .int .i64 6, .int .i64 7] i3 _ Tryz.underlying183 hi3 hz3 1 hs3 (by decide) (by decide) (by kernel_rfl) ?_); intro w1 HB1 HW1 hq1)
    | ((with_reducible refine wpList_bslice (o := ⟨some 5, _, _, _, _, _⟩) rfl 183 3 4 _ rfl #[.int .i64 0, .int .i64 1, .int .i64 2, .int .i64 3] i3 _ Tryz.underlying183 hi3 hz3 1 hs3 (by decide) (by decide) (by kernel_rfl) ?_); intro w2 HB2 HW2 hq2)
    | ((with_reducible refine wpList_bslice (o := ⟨some 6, _, _, _, _, _⟩) rfl 183 3 4 _ rfl #[.int .i64 0, .int .i64 1, .int .i64 2, .int .i64 4] i3 _ Tryz.underlying183 hi3 hz3 1 hs3 (by decide) (by decide) (by kernel_rfl) ?_); intro w3 HB3 HW3 hq3)
    | ((with_reducible refine wpList_bslice (o := ⟨some 10, _, _, _, _, _⟩) rfl 183 3 1 _ rfl #[.int .i64 4] i3 _ Tryz.underlying183 hi3 hz3 1 hs3 (by decide) (by decide) (by kernel_rfl) ?_); intro w4 HB4 HW4 hq4)
    | ((with_reducible refine wpList_bslice (o := ⟨some 48, _, _, _, _, _⟩) rfl 183 3 1 _ rfl #[.int .i64 4] i3 _ Tryz.underlying183 hi3 hz3 1 hs3 (by decide) (by decide) (by kernel_rfl) ?_); intro w5 HB5 HW5 hq5)
    | ((with_reducible refine wpList_bslice (o := ⟨some 59, _, _, _, _, _⟩) rfl 183 3 1 _ rfl #[.int .i64 4] i3 _ Tryz.underlying183 hi3 hz3 1 hs3 (by decide) (by decide) (by kernel_rfl) ?_); intro w6 HB6 HW6 hq6)
    | ((with_reducible refine wpList_bslice (o := ⟨some 65, _, _, _, _, _⟩) rfl 183 3 1 _ rfl #[.int .i64 4] i3 _ Tryz.underlying183 hi3 hz3 1 hs3 (by decide) (by decide) (by kernel_rfl) ?_); intro w7 HB7 HW7 hq7)
    | ((with_reducible refine wpList_bslice (o := ⟨some 69, _, _, _, _, _⟩) rfl 184 187 41 _ rfl ((plansL.zip [.slice none 0 0, .slice none 0 0, .slice none 0 0, .slice (some ⟨w3.heap.size, 0, none⟩) 1 1, .slice (some ⟨w1.heap.size, 0, none⟩) 4 4, .slice (some ⟨w1.heap.size, 0, none⟩) 4 4, .slice (some ⟨w1.heap.size, 0, none⟩) 4 4, .slice (some ⟨w1.heap.size, 0, none⟩) 4 4, .slice (some ⟨w1.heap.size, 0, none⟩) 4 4, .slice (some ⟨w1.heap.size, 0, none⟩) 4 4, .slice (some ⟨w1.heap.size, 0, none⟩) 4 4, .slice (some ⟨w.heap.size, 0, none⟩) 8 8, .slice (some ⟨w.heap.size, 0, none⟩) 8 8, .slice (some ⟨w.heap.size, 0, none⟩) 8 8, .slice (some ⟨w1.heap.size, 0, none⟩) 4 4, .slice none 0 0, .slice none 0 0, .slice none 0 0, .slice none 0 0, .slice (some ⟨w1.heap.size, 0, none⟩) 4 4, .slice none 0 0, .slice none 0 0, .slice none 0 0, .slice none 0 0, .slice (some ⟨w2.heap.size, 0, none⟩) 4 4, .slice (some ⟨w2.heap.size, 0, none⟩) 4 4, .slice (some ⟨w4.heap.size, 0, none⟩) 1 1, .slice none 0 0, .slice none 0 0, .slice none 0 0, .slice (some ⟨w1.heap.size, 0, none⟩) 4 4, .slice none 0 0, .slice none 0 0, .slice none 0 0, .slice none 0 0, .slice (some ⟨w5.heap.size, 0, none⟩) 1 1, .slice none 0 0, .slice none 0 0, .slice (some ⟨w1.heap.size, 0, none⟩) 4 4, .slice (some ⟨w6.heap.size, 0, none⟩) 1 1, .slice (some ⟨w.heap.size, 0, none⟩) 8 8]).flatMap rowP).toArray i8 _ Tryz.underlying184 hi8 hz8 6 hs8 (by decide) (by decide) (by kernel_rfl) ?_); intro w8 HB8 HW8 hq8))
  go_ret
  have B1_1 := HB1.out
  have B1_2 := B1_1.below HW2.out B1_1.lt
  have B1_3 := B1_2.below HW3.out B1_2.lt
  have B1_4 := B1_3.below HW4.out B1_3.lt
  have B1_5 := B1_4.below HW5.out B1_4.lt
  have B1_6 := B1_5.below HW6.out B1_5.lt
  have B1_7 := B1_6.below HW7.out B1_6.lt
  have B1_8 := B1_7.below HW8.out B1_7.lt
  have B2_2 := HB2.out
  have B2_3 := B2_2.below HW3.out B2_2.lt
  have B2_4 := B2_3.below HW4.out B2_3.lt
  have B2_5 := B2_4.below HW5.out B2_4.lt
  have B2_6 := B2_5.below HW6.out B2_5.lt
  have B2_7 := B2_6.below HW7.out B2_6.lt
  have B2_8 := B2_7.below HW8.out B2_7.lt
  have B3_3 := HB3.out
  have B3_4 := B3_3.below HW4.out B3_3.lt
  have B3_5 := B3_4.below HW5.out B3_4.lt
  have B3_6 := B3_5.below HW6.out B3_5.lt
  have B3_7 := B3_6.below HW7.out B3_6.lt
  have B3_8 := B3_7.below HW8.out B3_7.lt
  have B4_4 := HB4.out
  have B4_5 := B4_4.below HW5.out B4_4.lt
  have B4_6 := B4_5.below HW6.out B4_5.lt
  have B4_7 := B4_6.below HW7.out B4_6.lt
  have B4_8 := B4_7.below HW8.out B4_7.lt
  have B5_5 := HB5.out
  have B5_6 := B5_5.below HW6.out B5_5.lt
  have B5_7 := B5_6.below HW7.out B5_6.lt
  have B5_8 := B5_7.below HW8.out B5_7.lt
  have B6_6 := HB6.out
  have B6_7 := B6_6.below HW7.out B6_6.lt
  have B6_8 := B6_7.below HW8.out B6_7.lt
  have B7_7 := HB7.out
  have B7_8 := B7_7.below HW8.out B7_7.lt
  have D1 := HW1.out
  have D2 := D1.trans (HW2.out.mono D1.size)
  have D3 := D2.trans (HW3.out.mono D2.size)
  have D4 := D3.trans (HW4.out.mono D3.size)
  have D5 := D4.trans (HW5.out.mono D4.size)
  have D6 := D5.trans (HW6.out.mono D5.size)
  have D7 := D6.trans (HW7.out.mono D6.size)
  have D8 := D7.trans (HW8.out.mono D7.size)
  exact ⟨_, plansV w.heap.size w1.heap.size w2.heap.size w3.heap.size w4.heap.size w5.heap.size w6.heap.size, rfl, rfl, HB8.out, plans_rows _ _ _ _ _ _ _ _ B1_8 B2_8 B3_8 B4_8 B5_8 B6_8 B7_8, D8⟩
end Go.Proofs.YtglklbcohbeacaaGreat
