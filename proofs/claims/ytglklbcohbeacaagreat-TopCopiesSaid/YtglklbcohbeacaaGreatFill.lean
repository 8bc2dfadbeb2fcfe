/- Contract of a table's filling: its first loop. -/
import Derived.Test.YtglklbcohbeacaaGreatPlans
namespace Go.Proofs.YtglklbcohbeacaaGreat
open Go.RowKit
set_option linter.unusedSimpArgs false
set_option linter.unusedVariables false

def zo : OpV := ⟨0, 0, 0, 0, 0⟩
/-- So many of a row's orders are laid. -/
def upF (f : Nat → OpV) (k : Nat) : List OpV := (List.range 256).map fun i => if i < k then f i else zo
theorem upF_length (f : Nat → OpV) (k : Nat) : (upF f k).length = 256 := by simp [upF]
theorem upF_set (f : Nat → OpV) (k : Nat) (hk : k < 256) : (upF f k).set k (f k) = upF f (k + 1) := by
  unfold upF
  apply List.ext_getElem
  · simp
  · intro i h1 h2
    simp only [List.getElem_set, List.getElem_map, List.getElem_range]
    by_cases h : k = i
    · subst h; simp
    · rw [if_neg h]
      by_cases h3 : i < k
      · rw [if_pos h3, if_pos (by omega)]
      · rw [if_neg h3, if_neg (by omega)]
theorem upF_zero (f : Nat → OpV) : upF f 0 = List.replicate 256 zo := by
  unfold upF
  apply List.ext_getElem
  · rw [List.length_map, List.length_range, List.length_replicate]
  · intro i h1 h2
    rw [List.getElem_map, List.getElem_range, List.getElem_replicate, if_neg (by omega)]
theorem upF_all (f : Nat → OpV) : upF f 256 = (List.range 256).map f := by
  unfold upF
  apply List.map_congr_left
  intro i hi
  rw [if_pos (by simpa using hi)]
theorem and7s : ∀ n : Nat, n < 256 → bits .and .i64 ((n : Int) / 8) 7 = ((n / 8 % 8 : Nat) : Int) ∧ bits .and .i64 (n : Int) 7 = ((n % 8 : Nat) : Int) := by decide +kernel
theorem size46 : (Tryz.prog.info? 46).map (·.size) = some 5 := by kernel_rfl
def TabIs (w : World) (g : Nat) (d s : Int) (P B : List OpV) : Prop := Blk w g 139 (tbl d s P B).toArray ∧ P.length = 256 ∧ B.length = 256
section
variable {w w' : World} {g : Nat} {d s : Int} {P B : List OpV}
theorem TabIs.lt (h : TabIs w g d s P B) : g < w.heap.size := h.1.lt
theorem TabIs.size (h : TabIs w g d s P B) : (tbl d s P B).toArray.size = 2563 := by rw [List.size_toArray, tbl_length d s P B h.2.1 h.2.2]
theorem TabIs.step {X : Nat → Prop} (h : TabIs w g d s P B) (hs : Step X w w') (hX : ¬ X g) : TabIs w' g d s P B := ⟨h.1.step hs hX, h.2⟩
theorem TabIs.below {N : Nat} (h : TabIs w g d s P B) (hb : Below N w w') (hN : g < N) : TabIs w' g d s P B := ⟨h.1.below hb hN, h.2⟩
end
section
variable {P : Program} {ops : Array Oper} {rest : List Oper} {op : Oper} {a : Act} {w : World} {Q : Exit → Act → World → Prop} {K : Act → World → Prop} {g : Nat} {d s : Int} {Pl Bl : List OpV}
theorem wp_storePl (x y : Operand) (ho : op.op = .store 46 x y) (k : Nat) (i : Nat) (hk : k = 3 + 5 * i) (hi : i < 256) (hx : a.eval x = .pointer (some ⟨g, k, none⟩)) (H : TabIs w g d s Pl Bl) (o : OpV) (hy : a.eval y = .agg o.list.toArray)
    (h : ∀ w', Hid (TabIs w' g d s (Pl.set i o) Bl) → Hid (Step (· = g) w w') → K (a.put op.dst undef) w') : op.wp Tryz.prog a w K Q := by
  subst hk
  exact wp_storeM 46 x y ho g (3 + 5 * i) hx 139 _ H.1 o.list hy size46 o.list_one (by rw [H.size, OpV.list_length]; omega) (tbl d s (Pl.set i o) Bl).toArray (by simpa using tbl_setP d s Pl Bl H.2.1 i hi o) fun w' h1 h2 => h w' ⟨h1.out, by rw [List.length_set]; exact H.2.1, H.2.2⟩ h2
theorem wp_storeBh (x y : Operand) (ho : op.op = .store 46 x y) (k : Nat) (i : Nat) (hk : k = 1283 + 5 * i) (hi : i < 256) (hx : a.eval x = .pointer (some ⟨g, k, none⟩)) (H : TabIs w g d s Pl Bl) (o : OpV) (hy : a.eval y = .agg o.list.toArray)
    (h : ∀ w', Hid (TabIs w' g d s Pl (Bl.set i o)) → Hid (Step (· = g) w w') → K (a.put op.dst undef) w') : op.wp Tryz.prog a w K Q := by
  subst hk
  exact wp_storeM 46 x y ho g (1283 + 5 * i) hx 139 _ H.1 o.list hy size46 o.list_one (by rw [H.size, OpV.list_length]; omega) (tbl d s Pl (Bl.set i o)).toArray (by simpa using tbl_setB d s Pl Bl H.2.1 H.2.2 i hi o) fun w' h1 h2 => h w' ⟨h1.out, H.2.1, by rw [List.length_set]; exact H.2.2⟩ h2
theorem wpList_storePl (hgd : op.guard = none) (x y : Operand) (ho : op.op = .store 46 x y) (k : Nat) (i : Nat) (hk : k = 3 + 5 * i) (hi : i < 256) (hx : a.eval x = .pointer (some ⟨g, k, none⟩)) (H : TabIs w g d s Pl Bl) (o : OpV) (hy : a.eval y = .agg o.list.toArray)
    (h : ∀ w', Hid (TabIs w' g d s (Pl.set i o) Bl) → Hid (Step (· = g) w w') → wpList Tryz.prog ops Q rest (a.put op.dst undef) w') : wpList Tryz.prog ops Q (op :: rest) a w :=
  wpList_plain hgd fun _ hK => wp_storePl x y ho k i hk hi hx H o hy fun w' h2 h3 => hK _ _ (h w' h2 h3)
end
end Go.Proofs.YtglklbcohbeacaaGreat
