/- Contracts of the tiles' leaves, of layer 13 and of its reference. -/
import Derived.Test.YtglnikjeloafiaaChecked
import Derived.WalkKit
import Derived.WalkSpells
import Derived.WalkLawsBesides
import Derived.ChangeOld
import Derived.Deep.QuietTactic
import Derived.BigQuiet
import Derived.Deep.RegionHeld3
namespace Go.Proofs.Ytglnikjeloafiaa
open Go.RowKit
set_option linter.unusedSimpArgs false
set_option linter.unusedVariables false

theorem hid_ {p : Prop} (h : p) : Hid p := h

/-- What a call that only makes memory gives: its value; and that all that was there reads as it did. -/
def Ret (v : Value) (w : World) (e : Ending) (w' : World) : Prop :=
  e = .returned v ∧ (∀ b o, b < w.heap.size → w'.cell? ⟨b, o, none⟩ = w.cell? ⟨b, o, none⟩) ∧ (∀ b o, b < w.heap.size → w'.frozen? ⟨b, o, none⟩ = w.frozen? ⟨b, o, none⟩) ∧
    w.heap.size ≤ w'.heap.size ∧ Below w.heap.size w w'
theorem Ret.of {v : Value} {w : World} {e : Ending} {w' : World} (he : e = .returned v) (hb : Below w.heap.size w w') : Ret v w e w' :=
  ⟨he, fun b o h => hb.cell (p := ⟨b, o, none⟩) h, fun b o h => hb.frozen (p := ⟨b, o, none⟩) h, hb.size, hb⟩
/-- What a call that only reckons gives. -/
def Pure (v : Value) (w : World) (e : Ending) (w' : World) : Prop := e = .returned v ∧ w = w'
theorem Pure.ret {v : Value} {w : World} : Ret v w (.returned v) w := .of rfl (Below.refl _ _)
theorem ret_bool {a b : Bool} (h : a = b) : Ending.returned (.bool a) = .returned (.bool b) := by rw [h]
theorem ret_int {k : IntKind} {a b : Int} (h : a = b) : Ending.returned (.int k a) = .returned (.int k b) := by rw [h]

/-- A block that is known whole. -/
def Blk (w : World) (g : Nat) (t : TypeId) (cs : Array Value) : Prop := w.heap[g]? = some (.cells cs t (0, 0))
section
variable {w w' : World} {g : Nat} {t : TypeId} {cs : Array Value}
theorem Blk.lt (h : Blk w g t cs) : g < w.heap.size := by
  rcases Nat.lt_or_ge g w.heap.size with hlt | hge
  · exact hlt
  · unfold Blk at h; rw [Array.getElem?_eq_none hge] at h; cases h
theorem Blk.cell (h : Blk w g t cs) (i : Nat) : w.cell? ⟨g, i, none⟩ = cs[i]? := cell_of_row w g i cs t (0, 0) h
theorem Blk.frozen (h : Blk w g t cs) (i : Nat) : w.frozen? ⟨g, i, none⟩ = false := by
  unfold Blk at h
  simp [World.frozen?, h]
theorem Blk.new (w : World) (t : TypeId) (cs : Array Value) : Blk (w.alloc (.cells cs t)) w.heap.size t cs := heap_alloc_new w _
theorem Blk.alloc (h : Blk w g t cs) (o : Obj) : Blk (w.alloc o) g t cs := (Below.heap_alloc w o g h.lt).trans h
theorem Blk.set_ (h : Blk w g t cs) (i : Nat) (u : Value) : Blk (w.setCell ⟨g, i, none⟩ u) g t (cs.setIfInBounds i u) := by
  unfold Blk at h ⊢
  simp [World.setCell, Array.getElem?_modify, h]
theorem Blk.far (h : Blk w g t cs) {p : Addr} (hp : g ≠ p.block) (u : Value) : Blk (w.setCell p u) g t cs := (Below.heap_setCell w p u g hp).trans h
theorem Blk.below {B : Nat} (h : Blk w g t cs) (hb : Below B w w') (hg : g < B) : Blk w' g t cs := (hb.block g hg).trans h
theorem Blk.drew (h : Blk w g t cs) : Blk w.drew g t cs := h
end

/-- All that lay in wo reads in W as it did: what a region of reads and of calls that only make memory keeps. -/
def Keeps (wo W : World) : Prop := Below wo.heap.size wo W
theorem Keeps.refl (wo : World) : Keeps wo wo := Below.refl _ _
theorem Keeps.drew {wo W : World} (h : Keeps wo W) : Keeps wo W.drew := Below.drew h
theorem Keeps.step {wo W W' : World} (h : Keeps wo W) (hb : Below W.heap.size W W') : Keeps wo W' := Below.trans h (hb.mono h.size)
theorem Keeps.cells {wo W : World} (h : Keeps wo W) (b o : Nat) (hb : b < wo.heap.size) : W.cell? ⟨b, o, none⟩ = wo.cell? ⟨b, o, none⟩ := Below.cell (p := ⟨b, o, none⟩) h hb

/-- A slice of integers that came in: its elements, nil let in. -/
def IsRow (k : IntKind) (w : World) (a : Option Addr) (len : Nat) (zs : List Int) : Prop :=
  zs.length = len ∧ (∀ n ∈ zs, (Lit.int k n).wf = true) ∧ (0 < len → ∃ b off, a = some ⟨b, off, none⟩ ∧ b < w.heap.size ∧ ∀ i, i < len → w.cell? ⟨b, off + i, none⟩ = some (.int k (zs.getD i 0)))

theorem below_drewN {B : Nat} {a w : World} (h : Below B a w) (n : Nat) : Below B a (w.drewN n) := ⟨h.os, h.tape, h.output, h.size, h.block⟩
theorem upto {P : Int → Prop} (hP : ∀ n : Nat, n < 256 → P n) (a : Int) (h : 0 ≤ a) (h' : a ≤ 255) : P a := by
  obtain ⟨n, rfl⟩ := Int.eq_ofNat_of_zero_le h
  exact hP n (by omega)
theorem and1 (a : Int) (h : 0 ≤ a) (h' : a ≤ 255) : bits .and .u8 a 1 = a % 2 :=
  upto (P := fun a => bits .and .u8 a 1 = a % 2) (by decide +kernel) a h h'
theorem and3 (a : Int) (h : 0 ≤ a) (h' : a ≤ 255) : bits .and .u8 a 3 = a % 4 :=
  upto (P := fun a => bits .and .u8 a 3 = a % 4) (by decide +kernel) a h h'
theorem and16 (a : Int) (h : 0 ≤ a) (h' : a ≤ 255) : bits .and .u8 a 16 = a / 16 % 2 * 16 :=
  upto (P := fun a => bits .and .u8 a 16 = a / 16 % 2 * 16) (by decide +kernel) a h h'
theorem and7_i64 (m : Int) : bits .and .i64 m 7 = m % 8 := by
  show IntKind.i64.wrap ((BitVec.ofInt 64 m &&& BitVec.ofInt 64 7).toNat : Int) = _
  rw [BitVec.toNat_and, show (BitVec.ofInt 64 7).toNat = 7 from rfl, nat_mask3, IntKind.wrap_i64, BitVec.toNat_ofInt]
  omega

/-- A byte of memory; 0, if it isn't there. -/
def memAt (zs : List Int) (n : Int) : Int := if n < 0 ∨ (zs.length : Int) ≤ n ∨ 8192 ≤ n then 0 else zs.getD n.toNat 0
theorem memAt_bd {w : World} {a : Option Addr} {len : Nat} {zs : List Int} (h : IsRow .u8 w a len zs) (n : Int) : 0 ≤ memAt zs n ∧ memAt zs n ≤ 255 := by
  unfold memAt
  split
  · omega
  · rename_i hn
    have hm : zs.getD n.toNat 0 ∈ zs := by
      rw [List.getD_eq_getElem?_getD, List.getElem?_eq_getElem (by omega)]
      exact List.getElem_mem _
    have hwf := h.2.1 _ hm
    simpa [Lit.wf, IntKind.min, IntKind.max, IntKind.signed, IntKind.bits] using hwf
def Same (v : Value) (w : World) (e : Ending) (w' : World) : Prop := e = .returned v ∧ w' = w

theorem at_in (b off len cap n : Nat) (z : Int) (w : World) (hcell : w.cell? ⟨b, off + n, none⟩ = some (.int .u8 z)) (h1 : n < len) (h2 : n < 8192) :
    Calls Try.prog 24 #[.slice (some ⟨b, off, none⟩) len cap, .int .i64 (n : Int)] w (Same (.int .u8 z) w) := by
  have q0 : (0 : Int) ≤ (n : Int) := by omega
  have q1 : (n : Int) < (len : Int) := by omega
  obtain ⟨M, hM⟩ : ∃ M : Int, (if (8192 : Int) < (len : Int) then 8192 else (len : Int)) = M := ⟨_, rfl⟩
  have q2 : (n : Int) < M := by rw [← hM]; split <;> omega
  clear h1 h2
  go_enter Try.func24, Try.ntmps24
  go_wp2
  all_goals go_ret
  all_goals exact ⟨rfl, rfl⟩
theorem at_out (a : Option Addr) (len cap n : Nat) (w : World) (h : len ≤ n ∨ 8192 ≤ n) :
    Calls Try.prog 24 #[.slice a len cap, .int .i64 (n : Int)] w (Same (.int .u8 0) w) := by
  obtain ⟨M, hM⟩ : ∃ M : Int, (if (8192 : Int) < (len : Int) then 8192 else (len : Int)) = M := ⟨_, rfl⟩
  have q2 : M ≤ (n : Int) := by rw [← hM]; split <;> omega
  clear h
  go_enter Try.func24, Try.ntmps24
  go_wp2
  all_goals go_ret
  all_goals exact ⟨rfl, rfl⟩
theorem rat_in (b off len cap n : Nat) (z : Int) (w : World) (hcell : w.cell? ⟨b, off + n, none⟩ = some (.int .u8 z)) (h1 : n < len) (h2 : n < 8192) :
    Calls Try.prog 27 #[.slice (some ⟨b, off, none⟩) len cap, .int .i64 (n : Int)] w (Same (.int .u8 z) w) := by
  have q0 : (0 : Int) ≤ (n : Int) := by omega
  have q1 : (n : Int) < (len : Int) := by omega
  have q3 : decide ((n : Int) < 0) = false := by simp
  have q4 : decide (len ≤ n) = false := by simp; omega
  have q5 : decide ((8192 : Int) ≤ n) = false := by simp; omega
  clear h1 h2
  go_enter Try.func27, Try.ntmps27
  go_wp2
  all_goals go_ret
  all_goals exact ⟨rfl, rfl⟩
theorem rat_out (a : Option Addr) (len cap n : Nat) (w : World) (h : len ≤ n ∨ 8192 ≤ n) :
    Calls Try.prog 27 #[.slice a len cap, .int .i64 (n : Int)] w (Same (.int .u8 0) w) := by
  have q3 : decide ((n : Int) < 0) = false := by simp
  by_cases h8 : len ≤ n
  · have q4 : decide (len ≤ n) = true := by simp; omega
    clear h h8
    go_enter Try.func27, Try.ntmps27
    go_wp2
    all_goals go_ret
    all_goals exact ⟨rfl, rfl⟩
  · have q4 : decide (len ≤ n) = false := by simp; omega
    have q5 : decide ((8192 : Int) ≤ n) = true := by simp; omega
    clear h h8
    go_enter Try.func27, Try.ntmps27
    go_wp2
    all_goals go_ret
    all_goals exact ⟨rfl, rfl⟩
theorem at_any (a : Option Addr) (len cap : Nat) (zs : List Int) (n : Nat) (w : World) (h : IsRow .u8 w a len zs) :
    Calls Try.prog 24 #[.slice a len cap, .int .i64 (n : Int)] w (Same (.int .u8 (memAt zs n)) w) := by
  have hl := h.1
  by_cases hn : n < len ∧ n < 8192
  · obtain ⟨b, off, rfl, hb, hc⟩ := h.2.2 (by omega)
    have e : memAt zs n = zs.getD n 0 := by unfold memAt; rw [if_neg (by omega)]; rfl
    rw [e]
    exact at_in b off len cap n _ w (hc n hn.1) hn.1 hn.2
  · have e : memAt zs n = 0 := by unfold memAt; rw [if_pos (by omega)]
    rw [e]
    exact at_out a len cap n w (by omega)
theorem rat_any (a : Option Addr) (len cap : Nat) (zs : List Int) (n : Nat) (w : World) (h : IsRow .u8 w a len zs) :
    Calls Try.prog 27 #[.slice a len cap, .int .i64 (n : Int)] w (Same (.int .u8 (memAt zs n)) w) := by
  have hl := h.1
  by_cases hn : n < len ∧ n < 8192
  · obtain ⟨b, off, rfl, hb, hc⟩ := h.2.2 (by omega)
    have e : memAt zs n = zs.getD n 0 := by unfold memAt; rw [if_neg (by omega)]; rfl
    rw [e]
    exact rat_in b off len cap n _ w (hc n hn.1) hn.1 hn.2
  · have e : memAt zs n = 0 := by unfold memAt; rw [if_pos (by omega)]
    rw [e]
    exact rat_out a len cap n w (by omega)
end Go.Proofs.Ytglnikjeloafiaa
