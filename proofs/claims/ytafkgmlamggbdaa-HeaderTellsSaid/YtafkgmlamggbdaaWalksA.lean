/- Contracts of a header's check and sum, of layer 5 and of its reference. -/
import Derived.Test.YtafkgmlamggbdaaChecked
import Derived.WalkKit
import Derived.WalkSpells
import Derived.WalkLawsBesides
import Derived.ChangeOld
import Derived.Deep.QuietTactic
import Derived.BigQuiet
import Derived.Deep.RegionHeld3
namespace Go.Proofs.Ytafkgmlamggbdaa
open Go.RowKit
set_option linter.unusedSimpArgs false
set_option linter.unusedVariables false

theorem hid_ {p : Prop} (h : p) : Hid p := h

/-- What a call that only makes memory gives: its value; and that all that was there reads as it did. -/
def Ret (v : Value) (w : World) (e : Ending) (w' : World) : Prop :=
  e = .returned v ∧ (∀ b o, b < w.heap.size → w'.cell? ⟨b, o, none⟩ = w.cell? ⟨b, o, none⟩) ∧ (∀ b o, b < w.heap.size → w'.frozen? ⟨b, o, none⟩ = w.frozen? ⟨b, o, none⟩) ∧
    w.heap.size ≤ w'.heap.size ∧ Below w.heap.size w w'
theorem Ret.of {v : Value} {w : World} {e : Ending} {w' : World} (he : e = .returned v) (hb : Below w.heap.size w w') : Ret v w e w' :=
  ⟨he, fun b o h => hb.cell (p := ⟨b, o, none⟩) h, fun b o h => hb.frozen (p := ⟨b, o, none⟩) h, hb.size, hb⟩
/-- What a call that only reckons gives. -/
def Pure (v : Value) (w : World) (e : Ending) (w' : World) : Prop := e = .returned v ∧ w = w'
theorem Pure.ret {v : Value} {w : World} : Ret v w (.returned v) w := .of rfl (Below.refl _ _)
theorem ret_bool {a b : Bool} (h : a = b) : Ending.returned (.bool a) = .returned (.bool b) := by rw [h]
theorem ret_int {k : IntKind} {a b : Int} (h : a = b) : Ending.returned (.int k a) = .returned (.int k b) := by rw [h]

/-- A block that is known whole. -/
def Blk (w : World) (g : Nat) (t : TypeId) (cs : Array Value) : Prop := w.heap[g]? = some (.cells cs t (0, 0))
section
variable {w w' : World} {g : Nat} {t : TypeId} {cs : Array Value}
theorem Blk.lt (h : Blk w g t cs) : g < w.heap.size := by
  rcases Nat.lt_or_ge g w.heap.size with hlt | hge
  · exact hlt
  · unfold Blk at h; rw [Array.getElem?_eq_none hge] at h; cases h
theorem Blk.cell (h : Blk w g t cs) (i : Nat) : w.cell? ⟨g, i, none⟩ = cs[i]? := cell_of_row w g i cs t (0, 0) h
theorem Blk.frozen (h : Blk w g t cs) (i : Nat) : w.frozen? ⟨g, i, none⟩ = false := by
  unfold Blk at h
  simp [World.frozen?, h]
theorem Blk.new (w : World) (t : TypeId) (cs : Array Value) : Blk (w.alloc (.cells cs t)) w.heap.size t cs := heap_alloc_new w _
theorem Blk.alloc (h : Blk w g t cs) (o : Obj) : Blk (w.alloc o) g t cs := (Below.heap_alloc w o g h.lt).trans h
theorem Blk.set_ (h : Blk w g t cs) (i : Nat) (u : Value) : Blk (w.setCell ⟨g, i, none⟩ u) g t (cs.setIfInBounds i u) := by
  unfold Blk at h ⊢
  simp [World.setCell, Array.getElem?_modify, h]
theorem Blk.far (h : Blk w g t cs) {p : Addr} (hp : g ≠ p.block) (u : Value) : Blk (w.setCell p u) g t cs := (Below.heap_setCell w p u g hp).trans h
theorem Blk.below {B : Nat} (h : Blk w g t cs) (hb : Below B w w') (hg : g < B) : Blk w' g t cs := (hb.block g hg).trans h
theorem Blk.drew (h : Blk w g t cs) : Blk w.drew g t cs := h
end

/-- All that lay in wo reads in W as it did: what a region of reads and of calls that only make memory keeps. -/
def Keeps (wo W : World) : Prop := Below wo.heap.size wo W
theorem Keeps.refl (wo : World) : Keeps wo wo := Below.refl _ _
theorem Keeps.drew {wo W : World} (h : Keeps wo W) : Keeps wo W.drew := Below.drew h
theorem Keeps.step {wo W W' : World} (h : Keeps wo W) (hb : Below W.heap.size W W') : Keeps wo W' := Below.trans h (hb.mono h.size)
theorem Keeps.cells {wo W : World} (h : Keeps wo W) (b o : Nat) (hb : b < wo.heap.size) : W.cell? ⟨b, o, none⟩ = wo.cell? ⟨b, o, none⟩ := Below.cell (p := ⟨b, o, none⟩) h hb

/-- A slice of integers that came in: its elements, nil let in. -/
def IsRow (k : IntKind) (w : World) (a : Option Addr) (len : Nat) (zs : List Int) : Prop :=
  zs.length = len ∧ (∀ n ∈ zs, (Lit.int k n).wf = true) ∧ (0 < len → ∃ b off, a = some ⟨b, off, none⟩ ∧ b < w.heap.size ∧ ∀ i, i < len → w.cell? ⟨b, off + i, none⟩ = some (.int k (zs.getD i 0)))

theorem below_drewN {B : Nat} {a w : World} (h : Below B a w) (n : Nat) : Below B a (w.drewN n) := ⟨h.os, h.tape, h.output, h.size, h.block⟩
theorem IsRow.at_ {w : World} {a : Option Addr} {len : Nat} {zs : List Int} (h : IsRow .u8 w a len zs) (h0 : 0 < len) :
    ∃ b off, a = some ⟨b, off, none⟩ ∧ b < w.heap.size ∧ ∀ i, i < len → ∃ x : Int, zs.getD i 0 = x ∧ 0 ≤ x ∧ x ≤ 255 ∧ w.cell? ⟨b, off + i, none⟩ = some (.int .u8 x) := by
  obtain ⟨hl, hw, hc⟩ := h
  obtain ⟨b, off, ha, hb, hcell⟩ := hc h0
  refine ⟨b, off, ha, hb, fun i hi => ?_⟩
  have hm : zs.getD i 0 ∈ zs := by
    rw [List.getD_eq_getElem?_getD, List.getElem?_eq_getElem (by omega)]
    exact List.getElem_mem _
  have hwf := hw _ hm
  have hb2 : 0 ≤ zs.getD i 0 ∧ zs.getD i 0 ≤ 255 := by simpa [Lit.wf, IntKind.min, IntKind.max, IntKind.signed, IntKind.bits] using hwf
  exact ⟨_, rfl, hb2.1, hb2.2, hcell i hi⟩
theorem IsRow.below {k : IntKind} {w w' : World} {a : Option Addr} {len : Nat} {zs : List Int} (h : IsRow k w a len zs) (hb : Below w.heap.size w w') : IsRow k w' a len zs :=
  ⟨h.1, h.2.1, fun h0 => by
    obtain ⟨b, off, ha, hlt, hc⟩ := h.2.2 h0
    exact ⟨b, off, ha, Nat.lt_of_lt_of_le hlt hb.size, fun i hi => (hb.cell (p := ⟨b, off + i, none⟩) hlt).trans (hc i hi)⟩⟩

/-- The check of a header, so many bytes far. -/
def chk (zs : List Int) : Nat → Int
  | 0 => 0
  | k + 1 => (chk zs k - (zs.getD (308 + k) 0 + 1)) % 256
theorem chk_bd (zs : List Int) : ∀ k, 0 ≤ chk zs k ∧ chk zs k ≤ 255
  | 0 => by simp [chk]
  | k + 1 => by simp only [chk]; omega
def checkV (zs : List Int) (len : Nat) : Int := if len < 336 then 0 else chk zs 25
/-- The sum of a cartridge's bytes, so many bytes far. -/
def sm (zs : List Int) : Nat → Int
  | 0 => 0
  | k + 1 => (sm zs k + zs.getD k 0) % 65536
theorem sm_bd (zs : List Int) : ∀ k, 0 ≤ sm zs k ∧ sm zs k ≤ 65535
  | 0 => by simp [sm]
  | k + 1 => by simp only [sm]; omega
def sumV (zs : List Int) (len : Nat) : Int := if len < 336 then 0 else (sm zs len - zs.getD 334 0 - zs.getD 335 0) % 65536

theorem check_any (a : Option Addr) (len cap : Nat) (zs : List Int) (hcap : len ≤ cap) (hl : len ≤ 9000000) (w : World) (h : IsRow .u8 w a len zs) :
    Calls Try.prog 13 #[.slice a len cap] w (Pure (.int .u8 (checkV zs len)) w) := by
  by_cases h6 : len < 336
  · rw [show checkV zs len = 0 by unfold checkV; rw [if_pos h6]]
    have q : decide ((len : Int) < 336) = true := by simp; omega
    clear h6 h
    go_enter Try.func13, Try.ntmps13
    go_wp2_with fail
    go_ret
    exact ⟨rfl, rfl⟩
  · rw [show checkV zs len = chk zs 25 by unfold checkV; rw [if_neg h6]]
    have q : decide ((len : Int) < 336) = false := by simp; omega
    obtain ⟨b, off, rfl, hb, hc⟩ := h.at_ (by omega)
    have HC := hid_ hc
    have c1 : (333 : Int) ≤ (cap : Int) := by omega
    have c2 : ¬ cap = 308 := by omega
    have hlen : 336 ≤ len := by omega
    have HL := hid_ hlen
    clear hc h6 h hlen
    go_enter Try.func13, Try.ntmps13
    go_wp2_with fail
    go_loop [3, 12] (fun x i => ∃ k : Nat, k ≤ 25 ∧ i = .int .i64 k ∧ x = .int .u8 (chk zs k)) (fun _ i => 25 - (intOf i).toNat)
    case atStart => exact ⟨0, by omega, rfl, rfl⟩
    case round =>
      obtain ⟨k, hk, rfl, rfl⟩ := hrel
      by_cases hlt : k < 25
      · have hl := HL.out
        obtain ⟨z, hz, hz0, hz1, cz⟩ := HC.out (308 + k) (by omega)
        clear hl
        have i0 : (0 : Int) ≤ (k : Int) := by omega
        have i1 : (k : Int) < 25 := by omega
        have cz' : w.cell? ⟨b, off + 308 + k, none⟩ = some (.int .u8 z) := by rw [Nat.add_assoc]; exact cz
        have HS : Hid (chk zs (k + 1) = (chk zs k - (z + 1)) % 256) := by show _ = _; simp only [chk]; rw [hz]
        obtain ⟨hb0, hb1⟩ := chk_bd zs k
        generalize chk zs k = x at *
        clear cz hz
        go_wp2_with fail
        go_round
        case rel => exact ⟨k + 1, by omega, by go_num, by rw [HS.out]; exact congrArg _ (by omega)⟩
        case measure => simp [intOf]; omega
      · obtain rfl : k = 25 := by omega
        go_wp2_with fail
        go_ret
        exact ⟨rfl, rfl⟩
theorem rcheck_any (a : Option Addr) (len cap : Nat) (zs : List Int) (hl : len ≤ 9000000) (w : World) (h : IsRow .u8 w a len zs) :
    Calls Try.prog 14 #[.slice a len cap] w (Pure (.int .u8 (checkV zs len)) w) := by
  by_cases h6 : len < 336
  · rw [show checkV zs len = 0 by unfold checkV; rw [if_pos h6]]
    have q : decide ((len : Int) < 336) = true := by simp; omega
    clear h6 h
    go_enter Try.func14, Try.ntmps14
    go_wp2_with fail
    go_ret
    exact ⟨rfl, rfl⟩
  · rw [show checkV zs len = chk zs 25 by unfold checkV; rw [if_neg h6]]
    have q : decide ((len : Int) < 336) = false := by simp; omega
    obtain ⟨b, off, rfl, hb, hc⟩ := h.at_ (by omega)
    have HC := hid_ hc
    have hlen : 336 ≤ len := by omega
    have HL := hid_ hlen
    clear hc h6 h hlen
    go_enter Try.func14, Try.ntmps14
    go_wp2_with fail
    go_loop [3, 4] (fun x i => ∃ k : Nat, k ≤ 25 ∧ i = .int .i64 (308 + (k : Int)) ∧ x = .int .i64 (chk zs k)) (fun _ i => (333 - (intOf i)).toNat)
    case atStart => exact ⟨0, by omega, rfl, rfl⟩
    case round =>
      obtain ⟨k, hk, rfl, rfl⟩ := hrel
      by_cases hlt : k < 25
      · have hl := HL.out
        obtain ⟨z, hz, hz0, hz1, cz⟩ := HC.out (308 + k) (by omega)
        have i0 : (0 : Int) ≤ (k : Int) := by omega
        have i1 : (308 : Int) + (k : Int) < (len : Int) := by omega
        have i2 : (308 : Int) + (k : Int) ≤ 332 := by omega
        have HS : Hid (chk zs (k + 1) = (chk zs k - (z + 1)) % 256) := by show _ = _; simp only [chk]; rw [hz]
        obtain ⟨hb0, hb1⟩ := chk_bd zs k
        generalize chk zs k = x at *
        clear hz hl
        go_wp2_with fail
        go_round
        case rel => exact ⟨k + 1, by omega, by go_num, by rw [HS.out]; exact congrArg _ (by omega)⟩
        case measure => simp [intOf]; omega
      · obtain rfl : k = 25 := by omega
        obtain ⟨hb0, hb1⟩ := chk_bd zs 25
        go_wp2_with fail
        go_ret
        exact ⟨ret_int (by omega), rfl⟩
end Go.Proofs.Ytafkgmlamggbdaa
