/- The small words of these proofs; contracts of functions of zero values. -/
import Derived.Test.YtglklbcohbeacaaGreatChecked
import Derived.WalkKit
import Derived.WalkSpells
import Derived.WalkLawsBesides
import Derived.ChangeOld
import Derived.OwnWalk
import Derived.Deep.QuietTactic
import Derived.BigQuiet
import Derived.Deep.RegionHeld3
import Derived.Deep.MidRow
import Derived.Deep.WholeRow
import Derived.Laws.AppendOwn
namespace Go.Proofs.YtglklbcohbeacaaGreat
open Go.RowKit
set_option linter.unusedSimpArgs false
set_option linter.unusedVariables false

theorem hid_ {p : Prop} (h : p) : Hid p := h

/-- What a call that only makes memory gives: its value; and that all that was there reads as it did. -/
def Ret (v : Value) (w : World) (e : Ending) (w' : World) : Prop :=
  e = .returned v ∧ (∀ b o, b < w.heap.size → w'.cell? ⟨b, o, none⟩ = w.cell? ⟨b, o, none⟩) ∧ (∀ b o, b < w.heap.size → w'.frozen? ⟨b, o, none⟩ = w.frozen? ⟨b, o, none⟩) ∧
    w.heap.size ≤ w'.heap.size ∧ Below w.heap.size w w'
theorem Ret.of {v : Value} {w : World} {e : Ending} {w' : World} (he : e = .returned v) (hb : Below w.heap.size w w') : Ret v w e w' :=
  ⟨he, fun b o h => hb.cell (p := ⟨b, o, none⟩) h, fun b o h => hb.frozen (p := ⟨b, o, none⟩) h, hb.size, hb⟩
/-- What a call that only reckons gives. -/
def Pure (v : Value) (w : World) (e : Ending) (w' : World) : Prop := e = .returned v ∧ w = w'
theorem Pure.ret {v : Value} {w : World} : Ret v w (.returned v) w := .of rfl (Below.refl _ _)
theorem ret_bool {a b : Bool} (h : a = b) : Ending.returned (.bool a) = .returned (.bool b) := by rw [h]
theorem ret_int {k : IntKind} {a b : Int} (h : a = b) : Ending.returned (.int k a) = .returned (.int k b) := by rw [h]

/-- A block that is known whole. -/
def Blk (w : World) (g : Nat) (t : TypeId) (cs : Array Value) : Prop := w.heap[g]? = some (.cells cs t (0, 0))
section
variable {w w' : World} {g : Nat} {t : TypeId} {cs : Array Value}
theorem Blk.lt (h : Blk w g t cs) : g < w.heap.size := by
  rcases Nat.lt_or_ge g w.heap.size with hlt | hge
  · exact hlt
  · unfold Blk at h; rw [Array.getElem?_eq_none hge] at h; cases h
theorem Blk.cell (h : Blk w g t cs) (i : Nat) : w.cell? ⟨g, i, none⟩ = cs[i]? := cell_of_row w g i cs t (0, 0) h
theorem Blk.frozen (h : Blk w g t cs) (i : Nat) : w.frozen? ⟨g, i, none⟩ = false := by
  unfold Blk at h
  simp [World.frozen?, h]
theorem Blk.new (w : World) (t : TypeId) (cs : Array Value) : Blk (w.alloc (.cells cs t)) w.heap.size t cs := heap_alloc_new w _
theorem Blk.alloc (h : Blk w g t cs) (o : Obj) : Blk (w.alloc o) g t cs := (Below.heap_alloc w o g h.lt).trans h
theorem Blk.set_ (h : Blk w g t cs) (i : Nat) (u : Value) : Blk (w.setCell ⟨g, i, none⟩ u) g t (cs.setIfInBounds i u) := by
  unfold Blk at h ⊢
  simp [World.setCell, Array.getElem?_modify, h]
theorem Blk.far (h : Blk w g t cs) {p : Addr} (hp : g ≠ p.block) (u : Value) : Blk (w.setCell p u) g t cs := (Below.heap_setCell w p u g hp).trans h
theorem Blk.below {B : Nat} (h : Blk w g t cs) (hb : Below B w w') (hg : g < B) : Blk w' g t cs := (hb.block g hg).trans h
theorem Blk.drew (h : Blk w g t cs) : Blk w.drew g t cs := h
end

/-- All that lay in wo reads in W as it did: what a region of reads and of calls that only make memory keeps. -/
def Keeps (wo W : World) : Prop := Below wo.heap.size wo W
theorem Keeps.refl (wo : World) : Keeps wo wo := Below.refl _ _
theorem Keeps.drew {wo W : World} (h : Keeps wo W) : Keeps wo W.drew := Below.drew h
theorem Keeps.step {wo W W' : World} (h : Keeps wo W) (hb : Below W.heap.size W W') : Keeps wo W' := Below.trans h (hb.mono h.size)
theorem Keeps.cells {wo W : World} (h : Keeps wo W) (b o : Nat) (hb : b < wo.heap.size) : W.cell? ⟨b, o, none⟩ = wo.cell? ⟨b, o, none⟩ := Below.cell (p := ⟨b, o, none⟩) h hb

/-- A slice of integers that came in: its elements, nil let in. -/
def IsRow (k : IntKind) (w : World) (a : Option Addr) (len : Nat) (zs : List Int) : Prop :=
  zs.length = len ∧ (∀ n ∈ zs, (Lit.int k n).wf = true) ∧ (0 < len → ∃ b off, a = some ⟨b, off, none⟩ ∧ b < w.heap.size ∧ ∀ i, i < len → w.cell? ⟨b, off + i, none⟩ = some (.int k (zs.getD i 0)))


theorem below_drewN {B : Nat} {a w : World} (h : Below B a w) (n : Nat) : Below B a (w.drewN n) := ⟨h.os, h.tape, h.output, h.size, h.block⟩
theorem IsRow.below {k : IntKind} {w w' : World} {a : Option Addr} {len : Nat} {zs : List Int} (h : IsRow k w a len zs) (hb : Below w.heap.size w w') : IsRow k w' a len zs :=
  ⟨h.1, h.2.1, fun h0 => by
    obtain ⟨b, off, ha, hlt, hc⟩ := h.2.2 h0
    exact ⟨b, off, ha, Nat.lt_of_lt_of_le hlt hb.size, fun i hi => (hb.cell (p := ⟨b, off + i, none⟩) hlt).trans (hc i hi)⟩⟩
/-- What a call without a result gives that leaves all as it was. -/
def Unit_ (w : World) (e : Ending) (w' : World) : Prop := e = .returned (.tuple #[]) ∧ w = w'

/-! ### A copier, a port, a pad at rest -/
theorem busy_zero (w : World) : Calls Tryz.prog 154 #[.agg #[.int .u8 0, .int .i64 0]] w (Ret (.bool false) w) := by
  go_enter Tryz.func154, Tryz.ntmps154
  go_wp2
  go_ret
  exact .of rfl ((Below.refl _ _).alloc (Nat.le_refl _) _)
theorem copier_zero (w : World) : Calls Tryz.prog 180 #[.agg #[.int .u8 0, .int .i64 0]] w (Ret (.tuple #[.agg #[.int .u8 0, .int .i64 0], .int .u16 0, .int .i64 0, .bool false]) w) := by
  go_enter Tryz.func180, Tryz.ntmps180
  go_wp2
  refine bodyPost_ret (v := .tuple #[.agg #[.int .u8 0, .int .i64 0], .int .u16 0, .int .i64 0, .bool false]) (by simp [results, Tryz.results180, go_sem]) rfl (.of rfl ?_)
  repeat (first | exact Below.refl _ _ | (refine Below.alloc ?_ (by simp <;> omega) _))
theorem lets_zero (a : Int) (w : World) : Calls Tryz.prog 185 #[.agg #[.int .u8 0, .int .i64 0], .int .u16 a] w (Ret (.bool true) w) := by
  go_enter Tryz.func185, Tryz.ntmps185
  go_wp2
  go_ret
  exact .of rfl (((Below.refl _ _).alloc (Nat.le_refl _) _).alloc (by simp) _)
theorem port_zero (w : World) : Calls Tryz.prog 179 #[.agg #[.int .u8 0, .int .u8 0, .int .u8 0, .int .i64 0, .int .i64 0, .int .i64 0]] w (Ret (.tuple #[.agg #[.int .u8 0, .int .u8 0, .int .u8 0, .int .i64 0, .int .i64 0, .int .i64 0], .bool false]) w) := by
  go_enter Tryz.func179, Tryz.ntmps179
  go_wp2
  refine bodyPost_ret (v := .tuple #[.agg #[.int .u8 0, .int .u8 0, .int .u8 0, .int .i64 0, .int .i64 0, .int .i64 0], .bool false]) (by simp [results, Tryz.results179, go_sem]) rfl (.of rfl ?_)
  repeat (first | exact Below.refl _ _ | (refine Below.alloc ?_ (by simp <;> omega) _))
theorem held_zero (w : World) : Calls Tryz.prog 58 #[.agg #[.int .u8 0, .int .u8 0]] w (Ret (.int .u8 0) w) := by
  go_enter Tryz.func58, Tryz.ntmps58
  go_wp2
  go_ret
  exact .of rfl ((Below.refl _ _).alloc (Nat.le_refl _) _)
end Go.Proofs.YtglklbcohbeacaaGreat
