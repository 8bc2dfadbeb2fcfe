/- A board of four voices: its cells. -/
import Derived.Test.YtacbdapgdgliiaaChecked
import Derived.WalkKit
import Derived.WalkSpells
import Derived.WalkLawsBesides
import Derived.ChangeOld
import Derived.Laws.CopyOwn
import Derived.Deep.QuietTactic
import Derived.BigQuiet
import Derived.Deep.RegionHeld3
import Derived.Deep.MidRow
import Derived.Deep.WholeRow
namespace Go.Proofs.Ytacbdapgdgliiaa
open Go.RowKit
set_option linter.unusedSimpArgs false
set_option linter.unusedVariables false

theorem hid_ {p : Prop} (h : p) : Hid p := h

/-- What a call that only makes memory gives: its value; and that all that was there reads as it did. -/
def Ret (v : Value) (w : World) (e : Ending) (w' : World) : Prop :=
  e = .returned v ∧ (∀ b o, b < w.heap.size → w'.cell? ⟨b, o, none⟩ = w.cell? ⟨b, o, none⟩) ∧ (∀ b o, b < w.heap.size → w'.frozen? ⟨b, o, none⟩ = w.frozen? ⟨b, o, none⟩) ∧
    w.heap.size ≤ w'.heap.size ∧ Below w.heap.size w w'
theorem Ret.of {v : Value} {w : World} {e : Ending} {w' : World} (he : e = .returned v) (hb : Below w.heap.size w w') : Ret v w e w' :=
  ⟨he, fun b o h => hb.cell (p := ⟨b, o, none⟩) h, fun b o h => hb.frozen (p := ⟨b, o, none⟩) h, hb.size, hb⟩
/-- What a call that only reckons gives. -/
def Pure (v : Value) (w : World) (e : Ending) (w' : World) : Prop := e = .returned v ∧ w = w'
theorem Pure.ret {v : Value} {w : World} : Ret v w (.returned v) w := .of rfl (Below.refl _ _)
theorem ret_bool {a b : Bool} (h : a = b) : Ending.returned (.bool a) = .returned (.bool b) := by rw [h]
theorem ret_int {k : IntKind} {a b : Int} (h : a = b) : Ending.returned (.int k a) = .returned (.int k b) := by rw [h]

/-- A block that is known whole. -/
def Blk (w : World) (g : Nat) (t : TypeId) (cs : Array Value) : Prop := w.heap[g]? = some (.cells cs t (0, 0))
section
variable {w w' : World} {g : Nat} {t : TypeId} {cs : Array Value}
theorem Blk.lt (h : Blk w g t cs) : g < w.heap.size := by
  rcases Nat.lt_or_ge g w.heap.size with hlt | hge
  · exact hlt
  · unfold Blk at h; rw [Array.getElem?_eq_none hge] at h; cases h
theorem Blk.cell (h : Blk w g t cs) (i : Nat) : w.cell? ⟨g, i, none⟩ = cs[i]? := cell_of_row w g i cs t (0, 0) h
theorem Blk.frozen (h : Blk w g t cs) (i : Nat) : w.frozen? ⟨g, i, none⟩ = false := by
  unfold Blk at h
  simp [World.frozen?, h]
theorem Blk.new (w : World) (t : TypeId) (cs : Array Value) : Blk (w.alloc (.cells cs t)) w.heap.size t cs := heap_alloc_new w _
theorem Blk.alloc (h : Blk w g t cs) (o : Obj) : Blk (w.alloc o) g t cs := (Below.heap_alloc w o g h.lt).trans h
theorem Blk.set_ (h : Blk w g t cs) (i : Nat) (u : Value) : Blk (w.setCell ⟨g, i, none⟩ u) g t (cs.setIfInBounds i u) := by
  unfold Blk at h ⊢
  simp [World.setCell, Array.getElem?_modify, h]
theorem Blk.far (h : Blk w g t cs) {p : Addr} (hp : g ≠ p.block) (u : Value) : Blk (w.setCell p u) g t cs := (Below.heap_setCell w p u g hp).trans h
theorem Blk.below {B : Nat} (h : Blk w g t cs) (hb : Below B w w') (hg : g < B) : Blk w' g t cs := (hb.block g hg).trans h
theorem Blk.drew (h : Blk w g t cs) : Blk w.drew g t cs := h
end

/-- All that lay in wo reads in W as it did: what a region of reads and of calls that only make memory keeps. -/
def Keeps (wo W : World) : Prop := Below wo.heap.size wo W
theorem Keeps.refl (wo : World) : Keeps wo wo := Below.refl _ _
theorem Keeps.drew {wo W : World} (h : Keeps wo W) : Keeps wo W.drew := Below.drew h
theorem Keeps.step {wo W W' : World} (h : Keeps wo W) (hb : Below W.heap.size W W') : Keeps wo W' := Below.trans h (hb.mono h.size)
theorem Keeps.cells {wo W : World} (h : Keeps wo W) (b o : Nat) (hb : b < wo.heap.size) : W.cell? ⟨b, o, none⟩ = wo.cell? ⟨b, o, none⟩ := Below.cell (p := ⟨b, o, none⟩) h hb

/-- A slice of integers that came in: its elements, nil let in. -/
def IsRow (k : IntKind) (w : World) (a : Option Addr) (len : Nat) (zs : List Int) : Prop :=
  zs.length = len ∧ (∀ n ∈ zs, (Lit.int k n).wf = true) ∧ (0 < len → ∃ b off, a = some ⟨b, off, none⟩ ∧ b < w.heap.size ∧ ∀ i, i < len → w.cell? ⟨b, off + i, none⟩ = some (.int k (zs.getD i 0)))


/-- A voice. -/
structure Vc where
  on : Bool
  len : Int
  lev : Int
  wait : Int
/-- A board. -/
structure Bd where
  regs : List Int
  on : Bool
  div : Int
  step : Int
  v0 : Vc
  v1 : Vc
  v2 : Vc
  v3 : Vc
  pitch : Int
  slide : Int
  slides : Bool
def tl (b : Bd) : List Value := [.bool b.on, .int .i64 b.div, .int .i64 b.step, .bool b.v0.on, .int .i64 b.v0.len, .int .i64 b.v0.lev, .int .i64 b.v0.wait, .bool b.v1.on, .int .i64 b.v1.len, .int .i64 b.v1.lev, .int .i64 b.v1.wait, .bool b.v2.on, .int .i64 b.v2.len, .int .i64 b.v2.lev, .int .i64 b.v2.wait, .bool b.v3.on, .int .i64 b.v3.len, .int .i64 b.v3.lev, .int .i64 b.v3.wait, .int .i64 b.pitch, .int .i64 b.slide, .bool b.slides]
/-- Its cells. -/
def enc (b : Bd) : Array Value := (b.regs.map (Value.int .u8) ++ tl b).toArray
theorem enc_size (b : Bd) (hr : b.regs.length = 48) : (enc b).size = 70 := by simp [enc, tl, hr]
theorem enc_one (b : Bd) : (enc b).all (·.oneCell') = true := by
  simp [enc, tl, Value.oneCell']
theorem enc_reg (b : Bd) (i : Nat) (hi : i < b.regs.length) : (enc b)[i]? = some (.int .u8 (b.regs.getD i 0)) := by
  simp [enc, List.getElem?_append_left, hi, List.getD_eq_getElem?_getD]
theorem enc_tl (b : Bd) (hr : b.regs.length = 48) (i : Nat) : (enc b)[48 + i]? = (tl b)[i]? := by
  simp [enc, List.getElem?_append_right, hr]
theorem enc_setr (b : Bd) (i : Nat) (hi : i < b.regs.length) (x : Int) : (enc b).setIfInBounds i (.int .u8 x) = enc { b with regs := b.regs.set i x } := by
  simp [enc, List.set_append_left, hi, List.map_set, tl]
theorem enc_sett (b : Bd) (hr : b.regs.length = 48) (i : Nat) (x : Value) : (enc b).setIfInBounds (48 + i) x = (b.regs.map (Value.int .u8) ++ (tl b).set i x).toArray := by
  simp [enc, List.set_append_right, hr]

theorem Blk.a48 {w : World} {g : Nat} {t : TypeId} {b : Bd} (h : Blk w g t (enc b)) (hr : b.regs.length = 48) : w.cell? ⟨g, 48, none⟩ = some (.bool b.on) := (h.cell 48).trans (enc_tl b hr 0)
theorem Blk.a49 {w : World} {g : Nat} {t : TypeId} {b : Bd} (h : Blk w g t (enc b)) (hr : b.regs.length = 48) : w.cell? ⟨g, 49, none⟩ = some (.int .i64 b.div) := (h.cell 49).trans (enc_tl b hr 1)
theorem Blk.a50 {w : World} {g : Nat} {t : TypeId} {b : Bd} (h : Blk w g t (enc b)) (hr : b.regs.length = 48) : w.cell? ⟨g, 50, none⟩ = some (.int .i64 b.step) := (h.cell 50).trans (enc_tl b hr 2)
theorem Blk.a51 {w : World} {g : Nat} {t : TypeId} {b : Bd} (h : Blk w g t (enc b)) (hr : b.regs.length = 48) : w.cell? ⟨g, 51, none⟩ = some (.bool b.v0.on) := (h.cell 51).trans (enc_tl b hr 3)
theorem Blk.a52 {w : World} {g : Nat} {t : TypeId} {b : Bd} (h : Blk w g t (enc b)) (hr : b.regs.length = 48) : w.cell? ⟨g, 52, none⟩ = some (.int .i64 b.v0.len) := (h.cell 52).trans (enc_tl b hr 4)
theorem Blk.a53 {w : World} {g : Nat} {t : TypeId} {b : Bd} (h : Blk w g t (enc b)) (hr : b.regs.length = 48) : w.cell? ⟨g, 53, none⟩ = some (.int .i64 b.v0.lev) := (h.cell 53).trans (enc_tl b hr 5)
theorem Blk.a54 {w : World} {g : Nat} {t : TypeId} {b : Bd} (h : Blk w g t (enc b)) (hr : b.regs.length = 48) : w.cell? ⟨g, 54, none⟩ = some (.int .i64 b.v0.wait) := (h.cell 54).trans (enc_tl b hr 6)
theorem Blk.a55 {w : World} {g : Nat} {t : TypeId} {b : Bd} (h : Blk w g t (enc b)) (hr : b.regs.length = 48) : w.cell? ⟨g, 55, none⟩ = some (.bool b.v1.on) := (h.cell 55).trans (enc_tl b hr 7)
theorem Blk.a56 {w : World} {g : Nat} {t : TypeId} {b : Bd} (h : Blk w g t (enc b)) (hr : b.regs.length = 48) : w.cell? ⟨g, 56, none⟩ = some (.int .i64 b.v1.len) := (h.cell 56).trans (enc_tl b hr 8)
theorem Blk.a57 {w : World} {g : Nat} {t : TypeId} {b : Bd} (h : Blk w g t (enc b)) (hr : b.regs.length = 48) : w.cell? ⟨g, 57, none⟩ = some (.int .i64 b.v1.lev) := (h.cell 57).trans (enc_tl b hr 9)
theorem Blk.a58 {w : World} {g : Nat} {t : TypeId} {b : Bd} (h : Blk w g t (enc b)) (hr : b.regs.length = 48) : w.cell? ⟨g, 58, none⟩ = some (.int .i64 b.v1.wait) := (h.cell 58).trans (enc_tl b hr 10)
theorem Blk.a59 {w : World} {g : Nat} {t : TypeId} {b : Bd} (h : Blk w g t (enc b)) (hr : b.regs.length = 48) : w.cell? ⟨g, 59, none⟩ = some (.bool b.v2.on) := (h.cell 59).trans (enc_tl b hr 11)
theorem Blk.a60 {w : World} {g : Nat} {t : TypeId} {b : Bd} (h : Blk w g t (enc b)) (hr : b.regs.length = 48) : w.cell? ⟨g, 60, none⟩ = some (.int .i64 b.v2.len) := (h.cell 60).trans (enc_tl b hr 12)
theorem Blk.a61 {w : World} {g : Nat} {t : TypeId} {b : Bd} (h : Blk w g t (enc b)) (hr : b.regs.length = 48) : w.cell? ⟨g, 61, none⟩ = some (.int .i64 b.v2.lev) := (h.cell 61).trans (enc_tl b hr 13)
theorem Blk.a62 {w : World} {g : Nat} {t : TypeId} {b : Bd} (h : Blk w g t (enc b)) (hr : b.regs.length = 48) : w.cell? ⟨g, 62, none⟩ = some (.int .i64 b.v2.wait) := (h.cell 62).trans (enc_tl b hr 14)
theorem Blk.a63 {w : World} {g : Nat} {t : TypeId} {b : Bd} (h : Blk w g t (enc b)) (hr : b.regs.length = 48) : w.cell? ⟨g, 63, none⟩ = some (.bool b.v3.on) := (h.cell 63).trans (enc_tl b hr 15)
theorem Blk.a64 {w : World} {g : Nat} {t : TypeId} {b : Bd} (h : Blk w g t (enc b)) (hr : b.regs.length = 48) : w.cell? ⟨g, 64, none⟩ = some (.int .i64 b.v3.len) := (h.cell 64).trans (enc_tl b hr 16)
theorem Blk.a65 {w : World} {g : Nat} {t : TypeId} {b : Bd} (h : Blk w g t (enc b)) (hr : b.regs.length = 48) : w.cell? ⟨g, 65, none⟩ = some (.int .i64 b.v3.lev) := (h.cell 65).trans (enc_tl b hr 17)
theorem Blk.a66 {w : World} {g : Nat} {t : TypeId} {b : Bd} (h : Blk w g t (enc b)) (hr : b.regs.length = 48) : w.cell? ⟨g, 66, none⟩ = some (.int .i64 b.v3.wait) := (h.cell 66).trans (enc_tl b hr 18)
theorem Blk.a67 {w : World} {g : Nat} {t : TypeId} {b : Bd} (h : Blk w g t (enc b)) (hr : b.regs.length = 48) : w.cell? ⟨g, 67, none⟩ = some (.int .i64 b.pitch) := (h.cell 67).trans (enc_tl b hr 19)
theorem Blk.a68 {w : World} {g : Nat} {t : TypeId} {b : Bd} (h : Blk w g t (enc b)) (hr : b.regs.length = 48) : w.cell? ⟨g, 68, none⟩ = some (.int .i64 b.slide) := (h.cell 68).trans (enc_tl b hr 20)
theorem Blk.a69 {w : World} {g : Nat} {t : TypeId} {b : Bd} (h : Blk w g t (enc b)) (hr : b.regs.length = 48) : w.cell? ⟨g, 69, none⟩ = some (.bool b.slides) := (h.cell 69).trans (enc_tl b hr 21)
theorem enc_s48 (b : Bd) (hr : b.regs.length = 48) (x : Bool) : (enc b).setIfInBounds 48 (.bool x) = enc { b with on := x } := (enc_sett b hr 0 _).trans rfl
theorem enc_s49 (b : Bd) (hr : b.regs.length = 48) (x : Int) : (enc b).setIfInBounds 49 (.int .i64 x) = enc { b with div := x } := (enc_sett b hr 1 _).trans rfl
theorem enc_s50 (b : Bd) (hr : b.regs.length = 48) (x : Int) : (enc b).setIfInBounds 50 (.int .i64 x) = enc { b with step := x } := (enc_sett b hr 2 _).trans rfl
theorem enc_s51 (b : Bd) (hr : b.regs.length = 48) (x : Bool) : (enc b).setIfInBounds 51 (.bool x) = enc { b with v0 := { b.v0 with on := x } } := (enc_sett b hr 3 _).trans rfl
theorem enc_s52 (b : Bd) (hr : b.regs.length = 48) (x : Int) : (enc b).setIfInBounds 52 (.int .i64 x) = enc { b with v0 := { b.v0 with len := x } } := (enc_sett b hr 4 _).trans rfl
theorem enc_s53 (b : Bd) (hr : b.regs.length = 48) (x : Int) : (enc b).setIfInBounds 53 (.int .i64 x) = enc { b with v0 := { b.v0 with lev := x } } := (enc_sett b hr 5 _).trans rfl
theorem enc_s54 (b : Bd) (hr : b.regs.length = 48) (x : Int) : (enc b).setIfInBounds 54 (.int .i64 x) = enc { b with v0 := { b.v0 with wait := x } } := (enc_sett b hr 6 _).trans rfl
theorem enc_s55 (b : Bd) (hr : b.regs.length = 48) (x : Bool) : (enc b).setIfInBounds 55 (.bool x) = enc { b with v1 := { b.v1 with on := x } } := (enc_sett b hr 7 _).trans rfl
theorem enc_s56 (b : Bd) (hr : b.regs.length = 48) (x : Int) : (enc b).setIfInBounds 56 (.int .i64 x) = enc { b with v1 := { b.v1 with len := x } } := (enc_sett b hr 8 _).trans rfl
theorem enc_s57 (b : Bd) (hr : b.regs.length = 48) (x : Int) : (enc b).setIfInBounds 57 (.int .i64 x) = enc { b with v1 := { b.v1 with lev := x } } := (enc_sett b hr 9 _).trans rfl
theorem enc_s58 (b : Bd) (hr : b.regs.length = 48) (x : Int) : (enc b).setIfInBounds 58 (.int .i64 x) = enc { b with v1 := { b.v1 with wait := x } } := (enc_sett b hr 10 _).trans rfl
theorem enc_s59 (b : Bd) (hr : b.regs.length = 48) (x : Bool) : (enc b).setIfInBounds 59 (.bool x) = enc { b with v2 := { b.v2 with on := x } } := (enc_sett b hr 11 _).trans rfl
theorem enc_s60 (b : Bd) (hr : b.regs.length = 48) (x : Int) : (enc b).setIfInBounds 60 (.int .i64 x) = enc { b with v2 := { b.v2 with len := x } } := (enc_sett b hr 12 _).trans rfl
theorem enc_s61 (b : Bd) (hr : b.regs.length = 48) (x : Int) : (enc b).setIfInBounds 61 (.int .i64 x) = enc { b with v2 := { b.v2 with lev := x } } := (enc_sett b hr 13 _).trans rfl
theorem enc_s62 (b : Bd) (hr : b.regs.length = 48) (x : Int) : (enc b).setIfInBounds 62 (.int .i64 x) = enc { b with v2 := { b.v2 with wait := x } } := (enc_sett b hr 14 _).trans rfl
theorem enc_s63 (b : Bd) (hr : b.regs.length = 48) (x : Bool) : (enc b).setIfInBounds 63 (.bool x) = enc { b with v3 := { b.v3 with on := x } } := (enc_sett b hr 15 _).trans rfl
theorem enc_s64 (b : Bd) (hr : b.regs.length = 48) (x : Int) : (enc b).setIfInBounds 64 (.int .i64 x) = enc { b with v3 := { b.v3 with len := x } } := (enc_sett b hr 16 _).trans rfl
theorem enc_s65 (b : Bd) (hr : b.regs.length = 48) (x : Int) : (enc b).setIfInBounds 65 (.int .i64 x) = enc { b with v3 := { b.v3 with lev := x } } := (enc_sett b hr 17 _).trans rfl
theorem enc_s66 (b : Bd) (hr : b.regs.length = 48) (x : Int) : (enc b).setIfInBounds 66 (.int .i64 x) = enc { b with v3 := { b.v3 with wait := x } } := (enc_sett b hr 18 _).trans rfl
theorem enc_s67 (b : Bd) (hr : b.regs.length = 48) (x : Int) : (enc b).setIfInBounds 67 (.int .i64 x) = enc { b with pitch := x } := (enc_sett b hr 19 _).trans rfl
theorem enc_s68 (b : Bd) (hr : b.regs.length = 48) (x : Int) : (enc b).setIfInBounds 68 (.int .i64 x) = enc { b with slide := x } := (enc_sett b hr 20 _).trans rfl
theorem enc_s69 (b : Bd) (hr : b.regs.length = 48) (x : Bool) : (enc b).setIfInBounds 69 (.bool x) = enc { b with slides := x } := (enc_sett b hr 21 _).trans rfl
theorem Blk.s48 {w : World} {g : Nat} {t : TypeId} {b : Bd} (h : Blk w g t (enc b)) (hr : b.regs.length = 48) (x : Bool) : Blk (w.setCell ⟨g, 48, none⟩ (.bool x)) g t (enc { b with on := x }) := (h.set_ 48 _).trans (by rw [enc_s48 b hr])
theorem Blk.s49 {w : World} {g : Nat} {t : TypeId} {b : Bd} (h : Blk w g t (enc b)) (hr : b.regs.length = 48) (x : Int) : Blk (w.setCell ⟨g, 49, none⟩ (.int .i64 x)) g t (enc { b with div := x }) := (h.set_ 49 _).trans (by rw [enc_s49 b hr])
theorem Blk.s50 {w : World} {g : Nat} {t : TypeId} {b : Bd} (h : Blk w g t (enc b)) (hr : b.regs.length = 48) (x : Int) : Blk (w.setCell ⟨g, 50, none⟩ (.int .i64 x)) g t (enc { b with step := x }) := (h.set_ 50 _).trans (by rw [enc_s50 b hr])
theorem Blk.s51 {w : World} {g : Nat} {t : TypeId} {b : Bd} (h : Blk w g t (enc b)) (hr : b.regs.length = 48) (x : Bool) : Blk (w.setCell ⟨g, 51, none⟩ (.bool x)) g t (enc { b with v0 := { b.v0 with on := x } }) := (h.set_ 51 _).trans (by rw [enc_s51 b hr])
theorem Blk.s52 {w : World} {g : Nat} {t : TypeId} {b : Bd} (h : Blk w g t (enc b)) (hr : b.regs.length = 48) (x : Int) : Blk (w.setCell ⟨g, 52, none⟩ (.int .i64 x)) g t (enc { b with v0 := { b.v0 with len := x } }) := (h.set_ 52 _).trans (by rw [enc_s52 b hr])
theorem Blk.s53 {w : World} {g : Nat} {t : TypeId} {b : Bd} (h : Blk w g t (enc b)) (hr : b.regs.length = 48) (x : Int) : Blk (w.setCell ⟨g, 53, none⟩ (.int .i64 x)) g t (enc { b with v0 := { b.v0 with lev := x } }) := (h.set_ 53 _).trans (by rw [enc_s53 b hr])
theorem Blk.s54 {w : World} {g : Nat} {t : TypeId} {b : Bd} (h : Blk w g t (enc b)) (hr : b.regs.length = 48) (x : Int) : Blk (w.setCell ⟨g, 54, none⟩ (.int .i64 x)) g t (enc { b with v0 := { b.v0 with wait := x } }) := (h.set_ 54 _).trans (by rw [enc_s54 b hr])
theorem Blk.s55 {w : World} {g : Nat} {t : TypeId} {b : Bd} (h : Blk w g t (enc b)) (hr : b.regs.length = 48) (x : Bool) : Blk (w.setCell ⟨g, 55, none⟩ (.bool x)) g t (enc { b with v1 := { b.v1 with on := x } }) := (h.set_ 55 _).trans (by rw [enc_s55 b hr])
theorem Blk.s56 {w : World} {g : Nat} {t : TypeId} {b : Bd} (h : Blk w g t (enc b)) (hr : b.regs.length = 48) (x : Int) : Blk (w.setCell ⟨g, 56, none⟩ (.int .i64 x)) g t (enc { b with v1 := { b.v1 with len := x } }) := (h.set_ 56 _).trans (by rw [enc_s56 b hr])
theorem Blk.s57 {w : World} {g : Nat} {t : TypeId} {b : Bd} (h : Blk w g t (enc b)) (hr : b.regs.length = 48) (x : Int) : Blk (w.setCell ⟨g, 57, none⟩ (.int .i64 x)) g t (enc { b with v1 := { b.v1 with lev := x } }) := (h.set_ 57 _).trans (by rw [enc_s57 b hr])
theorem Blk.s58 {w : World} {g : Nat} {t : TypeId} {b : Bd} (h : Blk w g t (enc b)) (hr : b.regs.length = 48) (x : Int) : Blk (w.setCell ⟨g, 58, none⟩ (.int .i64 x)) g t (enc { b with v1 := { b.v1 with wait := x } }) := (h.set_ 58 _).trans (by rw [enc_s58 b hr])
theorem Blk.s59 {w : World} {g : Nat} {t : TypeId} {b : Bd} (h : Blk w g t (enc b)) (hr : b.regs.length = 48) (x : Bool) : Blk (w.setCell ⟨g, 59, none⟩ (.bool x)) g t (enc { b with v2 := { b.v2 with on := x } }) := (h.set_ 59 _).trans (by rw [enc_s59 b hr])
theorem Blk.s60 {w : World} {g : Nat} {t : TypeId} {b : Bd} (h : Blk w g t (enc b)) (hr : b.regs.length = 48) (x : Int) : Blk (w.setCell ⟨g, 60, none⟩ (.int .i64 x)) g t (enc { b with v2 := { b.v2 with len := x } }) := (h.set_ 60 _).trans (by rw [enc_s60 b hr])
theorem Blk.s61 {w : World} {g : Nat} {t : TypeId} {b : Bd} (h : Blk w g t (enc b)) (hr : b.regs.length = 48) (x : Int) : Blk (w.setCell ⟨g, 61, none⟩ (.int .i64 x)) g t (enc { b with v2 := { b.v2 with lev := x } }) := (h.set_ 61 _).trans (by rw [enc_s61 b hr])
theorem Blk.s62 {w : World} {g : Nat} {t : TypeId} {b : Bd} (h : Blk w g t (enc b)) (hr : b.regs.length = 48) (x : Int) : Blk (w.setCell ⟨g, 62, none⟩ (.int .i64 x)) g t (enc { b with v2 := { b.v2 with wait := x } }) := (h.set_ 62 _).trans (by rw [enc_s62 b hr])
theorem Blk.s63 {w : World} {g : Nat} {t : TypeId} {b : Bd} (h : Blk w g t (enc b)) (hr : b.regs.length = 48) (x : Bool) : Blk (w.setCell ⟨g, 63, none⟩ (.bool x)) g t (enc { b with v3 := { b.v3 with on := x } }) := (h.set_ 63 _).trans (by rw [enc_s63 b hr])
theorem Blk.s64 {w : World} {g : Nat} {t : TypeId} {b : Bd} (h : Blk w g t (enc b)) (hr : b.regs.length = 48) (x : Int) : Blk (w.setCell ⟨g, 64, none⟩ (.int .i64 x)) g t (enc { b with v3 := { b.v3 with len := x } }) := (h.set_ 64 _).trans (by rw [enc_s64 b hr])
theorem Blk.s65 {w : World} {g : Nat} {t : TypeId} {b : Bd} (h : Blk w g t (enc b)) (hr : b.regs.length = 48) (x : Int) : Blk (w.setCell ⟨g, 65, none⟩ (.int .i64 x)) g t (enc { b with v3 := { b.v3 with lev := x } }) := (h.set_ 65 _).trans (by rw [enc_s65 b hr])
theorem Blk.s66 {w : World} {g : Nat} {t : TypeId} {b : Bd} (h : Blk w g t (enc b)) (hr : b.regs.length = 48) (x : Int) : Blk (w.setCell ⟨g, 66, none⟩ (.int .i64 x)) g t (enc { b with v3 := { b.v3 with wait := x } }) := (h.set_ 66 _).trans (by rw [enc_s66 b hr])
theorem Blk.s67 {w : World} {g : Nat} {t : TypeId} {b : Bd} (h : Blk w g t (enc b)) (hr : b.regs.length = 48) (x : Int) : Blk (w.setCell ⟨g, 67, none⟩ (.int .i64 x)) g t (enc { b with pitch := x }) := (h.set_ 67 _).trans (by rw [enc_s67 b hr])
theorem Blk.s68 {w : World} {g : Nat} {t : TypeId} {b : Bd} (h : Blk w g t (enc b)) (hr : b.regs.length = 48) (x : Int) : Blk (w.setCell ⟨g, 68, none⟩ (.int .i64 x)) g t (enc { b with slide := x }) := (h.set_ 68 _).trans (by rw [enc_s68 b hr])
theorem Blk.s69 {w : World} {g : Nat} {t : TypeId} {b : Bd} (h : Blk w g t (enc b)) (hr : b.regs.length = 48) (x : Bool) : Blk (w.setCell ⟨g, 69, none⟩ (.bool x)) g t (enc { b with slides := x }) := (h.set_ 69 _).trans (by rw [enc_s69 b hr])
theorem Blk.sr {w : World} {g : Nat} {t : TypeId} {b : Bd} (h : Blk w g t (enc b)) (hr : b.regs.length = 48) (i : Nat) (hi : i < 48) (x : Int) : Blk (w.setCell ⟨g, i, none⟩ (.int .u8 x)) g t (enc { b with regs := b.regs.set i x }) := (h.set_ i _).trans (by rw [enc_setr b i (by omega)])
theorem Blk.ar {w : World} {g : Nat} {t : TypeId} {b : Bd} (h : Blk w g t (enc b)) (hr : b.regs.length = 48) (i : Nat) (hi : i < 48) : w.cell? ⟨g, i, none⟩ = some (.int .u8 (b.regs.getD i 0)) := (h.cell i).trans (enc_reg b i (by omega))

/-- What changes one block alone, and may make memory. -/
structure Only (g : Nat) (w w' : World) : Prop where
  os : w'.os = w.os
  tape : w'.tape = w.tape
  output : w'.output = w.output
  size : w.heap.size ≤ w'.heap.size
  block : ∀ k, k < w.heap.size → k ≠ g → w'.heap[k]? = w.heap[k]?
theorem Only.refl (g : Nat) (w : World) : Only g w w := ⟨rfl, rfl, rfl, Nat.le_refl _, fun _ _ _ => rfl⟩
theorem Only.trans {g : Nat} {w w' w2 : World} (h : Only g w w') (h2 : Only g w' w2) : Only g w w2 :=
  ⟨h2.os.trans h.os, h2.tape.trans h.tape, h2.output.trans h.output, Nat.le_trans h.size h2.size, fun k hk hg => (h2.block k (Nat.lt_of_lt_of_le hk h.size) hg).trans (h.block k hk hg)⟩
theorem Only.set (g i : Nat) (w : World) (u : Value) : Only g w (w.setCell ⟨g, i, none⟩ u) :=
  ⟨rfl, rfl, rfl, by simp, fun k hk hg => Below.heap_setCell w _ u k hg⟩
theorem Only.step {g i : Nat} {w w' : World} (h : Only g w w') (u : Value) : Only g w (w'.setCell ⟨g, i, none⟩ u) := h.trans (Only.set g i w' u)
theorem Only.drewN {g : Nat} {w w' : World} (h : Only g w w') (n : Nat) : Only g w (w'.drewN n) := ⟨h.os, h.tape, h.output, h.size, h.block⟩
theorem Only.below {B g : Nat} {w0 w w' : World} (h : Only g w w') (hb : Below B w0 w) (hg : B ≤ g) (hB : B ≤ w.heap.size) : Below B w0 w' :=
  hb.trans ⟨h.os, h.tape, h.output, h.size, fun k hk => h.block k (Nat.lt_of_lt_of_le hk hB) (by omega)⟩
theorem Only.blk {g k : Nat} {w w' : World} {t : TypeId} {cs : Array Value} (h : Only g w w') (hk : k ≠ g) (hB : Blk w k t cs) : Blk w' k t cs := (h.block k hB.lt hk).trans hB

theorem board_info : ∃ zz : Array Value, (Try.prog.info? 29).map (fun i => (i.zero, i.size)) = some (some (.agg zz), 70) ∧ zz = enc ⟨List.replicate 48 0, false, 0, 0, ⟨false, 0, 0, 0⟩, ⟨false, 0, 0, 0⟩, ⟨false, 0, 0, 0⟩, ⟨false, 0, 0, 0⟩, 0, 0, false⟩ := ⟨_, by kernel_rfl, rfl⟩
def zeroB : Bd := ⟨List.replicate 48 0, false, 0, 0, ⟨false, 0, 0, 0⟩, ⟨false, 0, 0, 0⟩, ⟨false, 0, 0, 0⟩, ⟨false, 0, 0, 0⟩, 0, 0, false⟩
theorem board_info' : (Try.prog.info? 29).map (fun i => (i.zero, i.size)) = some (some (.agg (enc zeroB)), 70) := by kernel_rfl
theorem board_size : (Try.prog.info? 29).map (·.size) = some 70 := (zero_of_info board_info').2
theorem board_zero (W : World) : (zeroValue 29).run Try.prog W = .ok (.agg (enc zeroB)) W := (zero_of_info board_info').1 W
theorem board_load {w : World} {g : Nat} {cs : Array Value} (hB : Blk w g 29 cs) (hs : cs.size = 70) : (loadVar 29 ⟨g, 0, none⟩).run Try.prog w = .ok (.agg cs) w :=
  run_loadVar_row _ _ 29 29 cs (0, 0) _ hB Try.underlying29 rfl (by rw [board_size, hs])
theorem board_store {w : World} {g : Nat} {cs cs' : Array Value} (hB : Blk w g 29 cs) (hs : cs.size = 70) (hs' : cs'.size = 70) (h1 : cs'.all (·.oneCell') = true) :
    (storeVar 29 ⟨g, 0, none⟩ (.agg cs')).run Try.prog w = .ok () (w.setRow g cs') :=
  run_storeVar_row _ _ 29 29 cs cs' hB (by rw [board_size, hs']) (by rw [hs, hs']) h1
theorem Blk.setRow {w : World} {g : Nat} {t : TypeId} {cs : Array Value} (h : Blk w g t cs) (cs' : Array Value) : Blk (w.setRow g cs') g t cs' := setRow_heap w g cs cs' t (0, 0) h
theorem Blk.farRow {w : World} {g k : Nat} {t : TypeId} {cs : Array Value} (h : Blk w g t cs) (hk : g ≠ k) (cs' : Array Value) : Blk (w.setRow k cs') g t cs := (setRow_other w k g cs' hk).trans h
theorem wpList_load29 {ops : Array Oper} {rest : List Oper} {op : Oper} {a : Act} {w : World} {Q : Exit → Act → World → Prop} (hgd : op.guard = none) (x : Operand) (ho : op.op = .load 29 x)
    (g : Nat) (hx : a.eval x = .pointer (some ⟨g, 0, none⟩)) (cs : Array Value) (hB : Blk w g 29 cs) (hs : cs.size = 70)
    (h : wpList Try.prog ops Q rest (a.put op.dst (.agg cs)) w) : wpList Try.prog ops Q (op :: rest) a w :=
  wpList_plain hgd fun _ hK => by
    unfold Oper.wp execOp
    simp only [ho, hx, Instr.loadAt, Instr.sureAddr, Sem.run_bind, Sem.run_pure, Result.andThen_ok, board_load hB hs]
    exact hK _ _ h
theorem wpList_store29 {ops : Array Oper} {rest : List Oper} {op : Oper} {a : Act} {w : World} {Q : Exit → Act → World → Prop} (hgd : op.guard = none) (x y : Operand) (ho : op.op = .store 29 x y)
    (g : Nat) (cs cs' : Array Value) (hx : a.eval x = .pointer (some ⟨g, 0, none⟩)) (hy : a.eval y = .agg cs') (hB : Blk w g 29 cs) (hs : cs.size = 70) (hs' : cs'.size = 70) (h1 : cs'.all (·.oneCell') = true)
    (h : wpList Try.prog ops Q rest (a.put op.dst undef) (w.setRow g cs')) : wpList Try.prog ops Q (op :: rest) a w :=
  wpList_plain hgd fun _ hK => by
    unfold Oper.wp execOp
    simp only [ho, hx, hy, Instr.storeAt, Instr.sureAddr, Sem.run_bind, Sem.run_pure, Result.andThen_ok, board_store hB hs hs' h1]
    exact hK _ _ h
theorem results_board {fn : Func} {tmps : Array Value} {A g : Nat} {w : World} {cs : Array Value} (hr : fn.results = #[.cell A 29]) (hA : tmps.getD A undef = .pointer (some ⟨g, 0, none⟩))
    (hB : Blk w g 29 cs) (hs : cs.size = 70) : (results fn tmps).run Try.prog w = .ok (.agg cs) w := by
  have hA' : tmps[A]?.getD undef = .pointer (some ⟨g, 0, none⟩) := by rw [← Array.getD_eq_getD_getElem?]; exact hA
  unfold results
  rw [hr]
  simp [hA', asAddr, Sem.run_bind, board_load hB hs]

/-- What is always so. -/
def vOk (v : Vc) (m : Int) : Prop := 0 ≤ v.len ∧ v.len ≤ m ∧ 0 ≤ v.lev ∧ v.lev ≤ 15 ∧ 0 ≤ v.wait ∧ v.wait ≤ 7
structure Bd.OkR (b : Bd) : Prop where
  regs : b.regs.length = 48
  byte : ∀ i, 0 ≤ b.regs.getD i 0 ∧ b.regs.getD i 0 ≤ 255
  pitch0 : 0 ≤ b.pitch
  pitch1 : b.pitch ≤ 2047
structure Bd.Ok (b : Bd) : Prop extends Bd.OkR b where
  div0 : 0 ≤ b.div
  div1 : b.div ≤ 2047
  step0 : 0 ≤ b.step
  step1 : b.step ≤ 7
  v0 : vOk b.v0 64
  v1 : vOk b.v1 64
  v2 : vOk b.v2 256
  v3 : vOk b.v3 64
  slide0 : 0 ≤ b.slide
  slide1 : b.slide ≤ 8
theorem upto {P : Int → Prop} (hP : ∀ n : Nat, n < 256 → P n) (a : Int) (h : 0 ≤ a) (h' : a ≤ 255) : P a := by
  obtain ⟨n, rfl⟩ := Int.eq_ofNat_of_zero_le h
  exact hP n (by omega)
end Go.Proofs.Ytacbdapgdgliiaa
