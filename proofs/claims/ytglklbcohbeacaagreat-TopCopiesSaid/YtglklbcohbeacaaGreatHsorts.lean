/- The sorts of cartridges, of layer 5: a map; and what is looked up in it. -/
import Derived.Test.YtglklbcohbeacaaGreatHmade
import Derived.WideMake
import Derived.MapKept
namespace Go.Proofs.YtglklbcohbeacaaGreat
open Go.RowKit
set_option linter.unusedSimpArgs false
set_option linter.unusedVariables false

/-- What a kind's byte tells: its kind, its clock, its battery. -/
def sortsL : List (Int × Int × Bool × Bool) := [(0, 0, false, false), (8, 0, false, false), (9, 0, false, true), (1, 1, false, false), (2, 1, false, false), (3, 1, false, true), (5, 2, false, false), (6, 2, false, true), (15, 3, true, true), (16, 3, true, true), (17, 3, false, false), (18, 3, false, false), (19, 3, false, true), (25, 5, false, false), (26, 5, false, false), (27, 5, false, true), (28, 5, false, false), (29, 5, false, false), (30, 5, false, true)]
def sortOf (p : Int × Int × Bool × Bool) : Value := .agg #[.int .i64 p.2.1, .bool p.2.2.1, .bool p.2.2.2]
def entries (l : List (Int × Int × Bool × Bool)) : Array MapEntry := ((l.zipIdx).map fun p => { key := .int .u8 p.1.1, val := sortOf p.1, born := p.2 }).toArray
def tab (i : Nat) : Array MapEntry := entries (sortsL.take i)
theorem entries_push (l : List (Int × Int × Bool × Bool)) (p : Int × Int × Bool × Bool) : (entries l).push { key := .int .u8 p.1, val := sortOf p, born := l.length } = entries (l ++ [p]) := by
  unfold entries
  rw [List.zipIdx_append, List.map_append]
  simp
theorem check_key (empty : Bool) (x : Int) (w : World) : (Instr.checkKey empty 10000 5 (.int .u8 x)).run Tryz.prog w = .ok () w := by
  unfold Instr.checkKey
  simp [run_underlying Tryz.underlying5]
theorem find_key (x : Int) (l : List MapEntry) (r : Option (Nat × Value)) (h : Instr.findNow (.int .u8) (.int .u8 x) l 0 = some r) (w : World) : (Instr.findKey 5 (.int .u8 x) l).run Tryz.prog w = .ok r w := by
  unfold Instr.findKey
  simp [run_underlying Tryz.underlying5, h]
theorem alloc_turn (w : World) (o o' : Obj) : { w.alloc o with heap := (w.alloc o).heap.setIfInBounds w.heap.size o' } = w.alloc o' := by
  have e : (w.alloc o).heap.setIfInBounds w.heap.size o' = (w.alloc o').heap := by
    apply Array.ext_getElem?
    intro i
    show ((w.heap.push o).setIfInBounds w.heap.size o')[i]? = (w.heap.push o')[i]?
    rw [Array.getElem?_setIfInBounds]
    by_cases h : w.heap.size = i
    · subst h; simp
    · rw [if_neg h, Array.getElem?_push, Array.getElem?_push, if_neg (fun e => h e.symm), if_neg (fun e => h e.symm)]
  rw [e]; rfl
theorem ins_run (w : World) (l : List (Int × Int × Bool × Bool)) (p : Int × Int × Bool × Bool) (n : Nat) (hn : l.length = n) (h : Instr.findNow (.int .u8) (.int .u8 p.1) (entries l).toList 0 = some none) :
    (Instr.mapUpdate 121 (.map (some w.heap.size)) (.int .u8 p.1) (sortOf p)).run Tryz.prog (w.alloc (.map (entries l) n)) = .ok () (w.alloc (.map (entries (l ++ [p])) (n + 1))) := by
  subst hn
  have hb : (w.alloc (.map (entries l) l.length)).heap[w.heap.size]? = some (.map (entries l) l.length) := heap_alloc_new w _
  simp only [Instr.mapUpdate, Sem.run_bind, run_underlying Tryz.underlying121, MapKept.run_getObj_map hb, check_key, find_key p.1 _ _ h, MapKept.run_setObj_map _ hb, Result.andThen_ok, entries_push]
  rw [alloc_turn]
theorem sorts_any (w : World) : Calls Tryz.prog 48 #[] w (fun e w' => e = .returned (.map (some w.heap.size)) ∧ w' = w.alloc (.map (tab 19) 19)) := by
  have hmk : (Instr.makeMap 121 none).run Tryz.prog w = .ok (.map (some w.heap.size)) (w.alloc (.map (tab 0) 0)) := run_makeMap_plain _ _
  have e0 : (Instr.mapUpdate 121 (.map (some w.heap.size)) (.int .u8 0) (.agg #[.int .i64 0, .bool false, .bool false])).run Tryz.prog (w.alloc (.map (tab 0) 0)) = .ok () (w.alloc (.map (tab 1) 1)) := ins_run w (sortsL.take 0) (0, 0, false, false) 0 rfl rfl
  have e1 : (Instr.mapUpdate 121 (.map (some w.heap.size)) (.int .u8 8) (.agg #[.int .i64 0, .bool false, .bool false])).run Tryz.prog (w.alloc (.map (tab 1) 1)) = .ok () (w.alloc (.map (tab 2) 2)) := ins_run w (sortsL.take 1) (8, 0, false, false) 1 rfl rfl
  have e2 : (Instr.mapUpdate 121 (.map (some w.heap.size)) (.int .u8 9) (.agg #[.int .i64 0, .bool false, .bool true])).run Tryz.prog (w.alloc (.map (tab 2) 2)) = .ok () (w.alloc (.map (tab 3) 3)) := ins_run w (sortsL.take 2) (9, 0, false, true) 2 rfl rfl
  have e3 : (Instr.mapUpdate 121 (.map (some w.heap.size)) (.int .u8 1) (.agg #[.int .i64 1, .bool false, .bool false])).run Tryz.prog (w.alloc (.map (tab 3) 3)) = .ok () (w.alloc (.map (tab 4) 4)) := ins_run w (sortsL.take 3) (1, 1, false, false) 3 rfl rfl
  have e4 : (Instr.mapUpdate 121 (.map (some w.heap.size)) (.int .u8 2) (.agg #[.int .i64 1, .bool false, .bool false])).run Tryz.prog (w.alloc (.map (tab 4) 4)) = .ok () (w.alloc (.map (tab 5) 5)) := ins_run w (sortsL.take 4) (2, 1, false, false) 4 rfl rfl
  have e5 : (Instr.mapUpdate 121 (.map (some w.heap.size)) (.int .u8 3) (.agg #[.int .i64 1, .bool false, .bool true])).run Tryz.prog (w.alloc (.map (tab 5) 5)) = .ok () (w.alloc (.map (tab 6) 6)) := ins_run w (sortsL.take 5) (3, 1, false, true) 5 rfl rfl
  have e6 : (Instr.mapUpdate 121 (.map (some w.heap.size)) (.int .u8 5) (.agg #[.int .i64 2, .bool false, .bool false])).run Tryz.prog (w.alloc (.map (tab 6) 6)) = .ok () (w.alloc (.map (tab 7) 7)) := ins_run w (sortsL.take 6) (5, 2, false, false) 6 rfl rfl
  have e7 : (Instr.mapUpdate 121 (.map (some w.heap.size)) (.int .u8 6) (.agg #[.int .i64 2, .bool false, .bool true])).run Tryz.prog (w.alloc (.map (tab 7) 7)) = .ok () (w.alloc (.map (tab 8) 8)) := ins_run w (sortsL.take 7) (6, 2, false, true) 7 rfl rfl
  have e8 : (Instr.mapUpdate 121 (.map (some w.heap.size)) (.int .u8 15) (.agg #[.int .i64 3, .bool true, .bool true])).run Tryz.prog (w.alloc (.map (tab 8) 8)) = .ok () (w.alloc (.map (tab 9) 9)) := ins_run w (sortsL.take 8) (15, 3, true, true) 8 rfl rfl
  have e9 : (Instr.mapUpdate 121 (.map (some w.heap.size)) (.int .u8 16) (.agg #[.int .i64 3, .bool true, .bool true])).run Tryz.prog (w.alloc (.map (tab 9) 9)) = .ok () (w.alloc (.map (tab 10) 10)) := ins_run w (sortsL.take 9) (16, 3, true, true) 9 rfl rfl
  have e10 : (Instr.mapUpdate 121 (.map (some w.heap.size)) (.int .u8 17) (.agg #[.int .i64 3, .bool false, .bool false])).run Tryz.prog (w.alloc (.map (tab 10) 10)) = .ok () (w.alloc (.map (tab 11) 11)) := ins_run w (sortsL.take 10) (17, 3, false, false) 10 rfl rfl
  have e11 : (Instr.mapUpdate 121 (.map (some w.heap.size)) (.int .u8 18) (.agg #[.int .i64 3, .bool false, .bool false])).run Tryz.prog (w.alloc (.map (tab 11) 11)) = .ok () (w.alloc (.map (tab 12) 12)) := ins_run w (sortsL.take 11) (18, 3, false, false) 11 rfl rfl
  have e12 : (Instr.mapUpdate 121 (.map (some w.heap.size)) (.int .u8 19) (.agg #[.int .i64 3, .bool false, .bool true])).run Tryz.prog (w.alloc (.map (tab 12) 12)) = .ok () (w.alloc (.map (tab 13) 13)) := ins_run w (sortsL.take 12) (19, 3, false, true) 12 rfl rfl
  have e13 : (Instr.mapUpdate 121 (.map (some w.heap.size)) (.int .u8 25) (.agg #[.int .i64 5, .bool false, .bool false])).run Tryz.prog (w.alloc (.map (tab 13) 13)) = .ok () (w.alloc (.map (tab 14) 14)) := ins_run w (sortsL.take 13) (25, 5, false, false) 13 rfl rfl
  have e14 : (Instr.mapUpdate 121 (.map (some w.heap.size)) (.int .u8 26) (.agg #[.int .i64 5, .bool false, .bool false])).run Tryz.prog (w.alloc (.map (tab 14) 14)) = .ok () (w.alloc (.map (tab 15) 15)) := ins_run w (sortsL.take 14) (26, 5, false, false) 14 rfl rfl
  have e15 : (Instr.mapUpdate 121 (.map (some w.heap.size)) (.int .u8 27) (.agg #[.int .i64 5, .bool false, .bool true])).run Tryz.prog (w.alloc (.map (tab 15) 15)) = .ok () (w.alloc (.map (tab 16) 16)) := ins_run w (sortsL.take 15) (27, 5, false, true) 15 rfl rfl
  have e16 : (Instr.mapUpdate 121 (.map (some w.heap.size)) (.int .u8 28) (.agg #[.int .i64 5, .bool false, .bool false])).run Tryz.prog (w.alloc (.map (tab 16) 16)) = .ok () (w.alloc (.map (tab 17) 17)) := ins_run w (sortsL.take 16) (28, 5, false, false) 16 rfl rfl
  have e17 : (Instr.mapUpdate 121 (.map (some w.heap.size)) (.int .u8 29) (.agg #[.int .i64 5, .bool false, .bool false])).run Tryz.prog (w.alloc (.map (tab 17) 17)) = .ok () (w.alloc (.map (tab 18) 18)) := ins_run w (sortsL.take 17) (29, 5, false, false) 17 rfl rfl
  have e18 : (Instr.mapUpdate 121 (.map (some w.heap.size)) (.int .u8 30) (.agg #[.int .i64 5, .bool false, .bool true])).run Tryz.prog (w.alloc (.map (tab 18) 18)) = .ok () (w.alloc (.map (tab 19) 19)) := ins_run w (sortsL.take 18) (30, 5, false, true) 18 rfl rfl
  go_enter Tryz.func48, Tryz.ntmps48
  go_wp2_with fail
  go_ret
  exact ⟨rfl, rfl⟩
/-- What is looked up. -/
def sortV (x : Int) : Value := match sortsL.find? (fun p => p.1 == x) with | some p => .tuple #[sortOf p, .bool true] | none => .tuple #[.agg #[.int .i64 0, .bool false, .bool false], .bool false]
theorem find_sort (x : Int) : ∀ (l : List (Int × Int × Bool × Bool)) (n : Nat), Instr.findNow (.int .u8) (.int .u8 x) ((l.zipIdx n).map fun p => { key := .int .u8 p.1.1, val := sortOf p.1, born := p.2 }) n =
    some (match (l.zipIdx n).find? (fun p => p.1.1 == x) with | some p => some (p.2, sortOf p.1) | none => none)
  | [], n => rfl
  | p :: l, n => by
    have ih := find_sort x l (n + 1)
    simp only [List.zipIdx_cons, List.map_cons, Instr.findNow, Instr.sameNow, if_true, List.find?_cons]
    have hc : (p.1 == x) = (x == p.1) := by rw [Bool.eq_iff_iff, beq_iff_eq, beq_iff_eq]; exact eq_comm
    rw [hc]
    cases hx : (x == p.1) with
    | true => rfl
    | false => simp only; exact ih
theorem find_zip (x : Int) : ∀ (l : List (Int × Int × Bool × Bool)) (n : Nat), ((l.zipIdx n).find? (fun p => p.1.1 == x)).map (·.1) = l.find? (fun p => p.1 == x)
  | [], _ => rfl
  | p :: l, n => by
    simp only [List.zipIdx_cons, List.find?_cons]
    cases p.1 == x with
    | true => rfl
    | false => exact find_zip x l (n + 1)
theorem zero50 (W : World) : (zeroValue 119).run Tryz.prog W = .ok (.agg #[.int .i64 0, .bool false, .bool false]) W := by
  have h : (Tryz.prog.info? 119).map (fun i => i.zero) = some (some (.agg #[.int .i64 0, .bool false, .bool false])) := by kernel_rfl
  obtain ⟨i, hi, hz⟩ := Option.map_eq_some_iff.1 h
  simp [zeroValue, typeInfo, hi, hz]
theorem look_any (x : Int) (W : World) (b : Nat) (h : W.heap[b]? = some (.map (tab 19) 19)) : (Instr.lookup 121 (.map (some b)) (.int .u8 x) true).run Tryz.prog W = .ok (sortV x) W := by
  have hf := find_sort x (sortsL.take 19) 0
  have hz := find_zip x (sortsL.take 19) 0
  have e : (tab 19).toList = ((sortsL.take 19).zipIdx 0).map fun p => { key := .int .u8 p.1.1, val := sortOf p.1, born := p.2 } := by
    unfold tab entries; rfl
  simp only [Instr.lookup, Sem.run_bind, run_underlying Tryz.underlying121, MapKept.run_getObj_map h, check_key, find_key x _ _ (e ▸ hf), Result.andThen_ok, Sem.run_pure]
  unfold sortV
  rw [show sortsL.take 19 = sortsL from rfl] at hz ⊢
  rw [← hz]
  cases (sortsL.zipIdx 0).find? (fun p => p.1.1 == x) with
  | none => simp [zero50]
  | some p => rfl
end Go.Proofs.YtglklbcohbeacaaGreat
