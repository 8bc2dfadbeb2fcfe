/- A table of orders in memory: lists of rows of so many cells each. -/
import Derived.Test.YtglklbcohbeacaaGreatOrder
namespace Go.Proofs.YtglklbcohbeacaaGreat
open Go.RowKit
set_option linter.unusedSimpArgs false
set_option linter.unusedVariables false

section
variable {α : Type} (f : α → List Value) (c : Nat) (hf : ∀ x, (f x).length = c)
include hf
theorem chunk_length : ∀ l : List α, (l.flatMap f).length = c * l.length
  | [] => by simp
  | x :: l => by rw [List.flatMap_cons, List.length_append, hf, chunk_length l, List.length_cons, Nat.mul_add]; omega
theorem chunk_drop : ∀ (l : List α) (k : Nat), (l.flatMap f).drop (c * k) = (l.drop k).flatMap f
  | l, 0 => by simp
  | [], k + 1 => by simp
  | x :: l, k + 1 => by
    rw [List.flatMap_cons, List.drop_succ_cons, ← chunk_drop l k, Nat.mul_add, Nat.mul_one, Nat.add_comm (c * k) c, ← List.drop_drop, List.drop_left' (hf x)]
theorem chunk_take : ∀ (l : List α) (k : Nat), (l.flatMap f).take (c * k) = (l.take k).flatMap f
  | l, 0 => by simp
  | [], k + 1 => by simp
  | x :: l, k + 1 => by
    rw [List.flatMap_cons, List.take_succ_cons, List.flatMap_cons, ← chunk_take l k, Nat.mul_add, Nat.mul_one, Nat.add_comm (c * k) c, ← hf x, List.take_length_add_append]
theorem chunk_at (l : List α) (k : Nat) (x : α) (hx : l[k]? = some x) : ((l.flatMap f).drop (c * k)).take c = f x := by
  have hk : k < l.length := (List.getElem?_eq_some_iff.1 hx).1
  rw [chunk_drop f c hf l k, List.drop_eq_getElem_cons hk, List.flatMap_cons, List.take_left' (hf _), (List.getElem?_eq_some_iff.1 hx).2]
theorem chunk_set (l : List α) (k : Nat) (x : α) (hk : k < l.length) : (l.flatMap f).take (c * k) ++ f x ++ (l.flatMap f).drop (c * k + c) = (l.set k x).flatMap f := by
  rw [List.set_eq_take_append_cons_drop, if_pos hk, List.flatMap_append, List.flatMap_cons, chunk_take f c hf, show c * k + c = c * (k + 1) by rw [Nat.mul_add, Nat.mul_one], chunk_drop f c hf, List.append_assoc]
end
theorem OpV.list_length (o : OpV) : o.list.length = 5 := rfl
theorem opsL_length (l : List OpV) : (opsL l).length = 5 * l.length := chunk_length OpV.list 5 OpV.list_length l
theorem OpV.list_one (o : OpV) : ∀ v ∈ o.list, v.oneCell' = true := by intro v hv; simp [OpV.list] at hv; rcases hv with rfl | rfl | rfl | rfl | rfl <;> rfl
/-- A table's cells: whether it is filled, its lock, its orders. -/
def tbl (d s : Int) (P B : List OpV) : List Value := [.int .u32 d, .int .i32 s, .int .u32 0] ++ (opsL P ++ opsL B)
theorem tbl_length (d s : Int) (P B : List OpV) (hP : P.length = 256) (hB : B.length = 256) : (tbl d s P B).length = 2563 := by simp [tbl, opsL_length, hP, hB]
theorem splice_mid (a m b l : List Value) (i n : Nat) (h : i + n ≤ m.length) : (a ++ (m ++ b)).take (a.length + i) ++ l ++ (a ++ (m ++ b)).drop (a.length + (i + n)) = a ++ ((m.take i ++ l ++ m.drop (i + n)) ++ b) := by
  rw [List.take_length_add_append, List.drop_length_add_append, List.take_append_of_le_length (by omega), List.drop_append_of_le_length h]
  simp only [List.append_assoc]
theorem tbl_setP (d s : Int) (P B : List OpV) (hP : P.length = 256) (i : Nat) (hi : i < 256) (o : OpV) :
    (tbl d s P B).take (3 + 5 * i) ++ o.list ++ (tbl d s P B).drop (3 + 5 * i + o.list.length) = tbl d s (P.set i o) B := by
  have h := splice_mid [.int .u32 d, .int .i32 s, .int .u32 0] (opsL P) (opsL B) o.list (5 * i) 5 (by rw [opsL_length, hP]; omega)
  have h2 := chunk_set OpV.list 5 OpV.list_length P i o (by omega)
  unfold opsL at h
  rw [h2] at h
  rw [OpV.list_length, Nat.add_assoc]
  exact h
theorem tbl_setB (d s : Int) (P B : List OpV) (hP : P.length = 256) (hB : B.length = 256) (i : Nat) (hi : i < 256) (o : OpV) :
    (tbl d s P B).take (1283 + 5 * i) ++ o.list ++ (tbl d s P B).drop (1283 + 5 * i + o.list.length) = tbl d s P (B.set i o) := by
  have h := splice_mid ([.int .u32 d, .int .i32 s, .int .u32 0] ++ opsL P) (opsL B) [] o.list (5 * i) 5 (by rw [opsL_length, hB]; omega)
  have h2 := chunk_set OpV.list 5 OpV.list_length B i o (by omega)
  have hl : ([.int .u32 d, .int .i32 s, .int .u32 0] ++ opsL P : List Value).length = 1283 := by simp [opsL_length, hP]
  unfold opsL at h hl
  rw [hl, h2] at h
  rw [OpV.list_length, Nat.add_assoc]
  simpa [tbl, opsL] using h
theorem tbl_getP (d s : Int) (P B : List OpV) (i : Nat) (o : OpV) (ho : P[i]? = some o) : ((tbl d s P B).drop (3 + 5 * i)).take o.list.length = o.list := by
  have hi : i < P.length := (List.getElem?_eq_some_iff.1 ho).1
  have h := chunk_at OpV.list 5 OpV.list_length P i o ho
  unfold tbl
  rw [show (3 : Nat) = ([.int .u32 d, .int .i32 s, .int .u32 0] : List Value).length from rfl, List.drop_length_add_append, List.drop_append_of_le_length (by rw [opsL_length]; omega), OpV.list_length,
    List.take_append_of_le_length (by rw [List.length_drop, opsL_length]; omega)]
  exact h
theorem tlist_false : tlist false = tbl 0 0 (List.replicate 256 ⟨0, 0, 0, 0, 0⟩) (List.replicate 256 ⟨0, 0, 0, 0, 0⟩) := by kernel_rfl
theorem tlist_true : tlist true = tbl 1 0 plainL behindL := rfl
end Go.Proofs.YtglklbcohbeacaaGreat
