/- Contracts of the copier's functions: what each call returns, and that it writes nothing that was there. No conditions but the ranges that are named. -/
import Derived.Test.YtgonapmmebjeaaaChecked
import Derived.WalkKit
import Derived.WalkSpells
import Derived.WalkLawsBesides
namespace Go.Proofs.Ytgonapmmebjeaaa
open Go.RowKit
set_option linter.unusedSimpArgs false
set_option linter.unusedVariables false

theorem hid_ {p : Prop} (h : p) : Hid p := h

/-- What a call that only makes memory gives: its value; and that all that was there reads as it did. -/
def Ret (v : Value) (w : World) (e : Ending) (w' : World) : Prop :=
  e = .returned v ∧ (∀ b o, b < w.heap.size → w'.cell? ⟨b, o, none⟩ = w.cell? ⟨b, o, none⟩) ∧ (∀ b o, b < w.heap.size → w'.frozen? ⟨b, o, none⟩ = w.frozen? ⟨b, o, none⟩) ∧
    w.heap.size ≤ w'.heap.size ∧ Below w.heap.size w w'
theorem Ret.of {v : Value} {w : World} {e : Ending} {w' : World} (he : e = .returned v) (hb : Below w.heap.size w w') : Ret v w e w' :=
  ⟨he, fun b o h => hb.cell (p := ⟨b, o, none⟩) h, fun b o h => hb.frozen (p := ⟨b, o, none⟩) h, hb.size, hb⟩

def Blk (w : World) (g : Nat) (t : TypeId) (cs : Array Value) : Prop := w.heap[g]? = some (.cells cs t (0, 0))
section
variable {w w' : World} {g : Nat} {t : TypeId} {cs : Array Value}
theorem Blk.lt (h : Blk w g t cs) : g < w.heap.size := by
  rcases Nat.lt_or_ge g w.heap.size with hlt | hge
  · exact hlt
  · unfold Blk at h; rw [Array.getElem?_eq_none hge] at h; cases h
theorem Blk.cell (h : Blk w g t cs) (i : Nat) : w.cell? ⟨g, i, none⟩ = cs[i]? := cell_of_row w g i cs t (0, 0) h
theorem Blk.frozen (h : Blk w g t cs) (i : Nat) : w.frozen? ⟨g, i, none⟩ = false := by
  unfold Blk at h
  simp [World.frozen?, h]
theorem Blk.new (w : World) (t : TypeId) (cs : Array Value) : Blk (w.alloc (.cells cs t)) w.heap.size t cs := heap_alloc_new w _
theorem Blk.alloc (h : Blk w g t cs) (o : Obj) : Blk (w.alloc o) g t cs := (Below.heap_alloc w o g h.lt).trans h
theorem Blk.set_ (h : Blk w g t cs) (i : Nat) (u : Value) : Blk (w.setCell ⟨g, i, none⟩ u) g t (cs.setIfInBounds i u) := by
  unfold Blk at h ⊢
  simp [World.setCell, Array.getElem?_modify, h]
theorem Blk.far (h : Blk w g t cs) {p : Addr} (hp : g ≠ p.block) (u : Value) : Blk (w.setCell p u) g t cs := (Below.heap_setCell w p u g hp).trans h
theorem Blk.below {B : Nat} (h : Blk w g t cs) (hb : Below B w w') (hg : g < B) : Blk w' g t cs := (hb.block g hg).trans h
end
theorem Blk.two {w : World} {g : Nat} {t : TypeId} {a b : Value} (h : Blk w g t #[a, b]) :
    w.cell? ⟨g, 0, none⟩ = some a ∧ w.cell? ⟨g, 1, none⟩ = some b ∧ w.frozen? ⟨g, 0, none⟩ = false ∧ w.frozen? ⟨g, 1, none⟩ = false :=
  ⟨h.cell 0, h.cell 1, h.frozen 0, h.frozen 1⟩
theorem Blk.set2 {w : World} {g : Nat} {t : TypeId} {a b : Value} (h : Blk w g t #[a, b]) (c d : Value) :
    Blk ((w.setCell ⟨g, 0, none⟩ c).setCell ⟨g, 1, none⟩ d) g t #[c, d] := by
  have := (h.set_ 0 c).set_ 1 d
  simpa using this

/-- All that lay in wo reads in W as it did: what a region of reads and of calls that only make memory keeps. -/
def Keeps (wo W : World) : Prop := Below wo.heap.size wo W
theorem Keeps.refl (wo : World) : Keeps wo wo := Below.refl _ _
theorem Keeps.drew {wo W : World} (h : Keeps wo W) : Keeps wo W.drew := Below.drew h
theorem Keeps.step {wo W W' : World} (h : Keeps wo W) (hb : Below W.heap.size W W') : Keeps wo W' := Below.trans h (hb.mono h.size)
theorem Keeps.cells {wo W : World} (h : Keeps wo W) (b o : Nat) (hb : b < wo.heap.size) : W.cell? ⟨b, o, none⟩ = wo.cell? ⟨b, o, none⟩ := Below.cell (p := ⟨b, o, none⟩) h hb

/-- The value of a copier. -/
abbrev cop (p l : Int) : Value := .agg #[.int .u8 p, .int .i64 l]
def fromI (p : Int) : Int := if 224 ≤ p then (p - 32) * 256 else p * 256
def tickL (l : Int) : Int := if 0 < l then l - 1 else l
def tickF (p l : Int) : Int := if 0 < l then (fromI p + (160 - l)) % 65536 else 0
def tickN (l : Int) : Int := if 0 < l then 160 - l else 0
abbrev tickV (p l : Int) : Value := .tuple #[cop p (tickL l), .int .u16 (tickF p l), .int .i64 (tickN l), .bool (decide (0 < l))]

theorem wrap16 (a b : Int) : IntKind.u16.wrap (a + IntKind.u16.wrap b) = (a + b) % 65536 := by
  simp [IntKind.wrap, IntKind.signed, IntKind.bits]

theorem busy_any (p l : Int) (w : World) :
    Calls Try.prog 11 #[cop p l] w (Ret (.bool (decide (0 < l))) w) := by
  go_enter Try.func11, Try.ntmps11
  go_wp2
  go_ret
  exact .of rfl ((Below.refl _ _).alloc (Nat.le_refl _) _)

theorem write_any (p l x : Int) (w : World) :
    Calls Try.prog 9 #[cop p l, .int .u8 x] w (Ret (cop x 160) w) := by
  go_enter Try.func9, Try.ntmps9
  go_wp2
  refine bodyPost_ret (v := cop x 160) (by simp [results, Try.results9, go_sem]) rfl (.of rfl ?_)
  exact (((Below.refl _ _).alloc (Nat.le_refl _) _).alloc (by simp) _)

theorem rwrite_any (p l x : Int) (w : World) :
    Calls Try.prog 12 #[cop p l, .int .u8 x] w (Ret (cop x 160) w) := by
  go_enter Try.func12, Try.ntmps12
  go_wp2
  refine bodyPost_ret (v := cop x 160) (by simp [results, Try.results12, go_sem]) rfl (.of rfl ?_)
  exact (((Below.refl _ _).alloc (Nat.le_refl _) _).alloc (by simp) _)

theorem tick_any (p l : Int) (w : World) (hp : 0 ≤ p) (hp2 : p ≤ 255) (hl : -1000 ≤ l) (hl2 : l ≤ 1000) :
    Calls Try.prog 10 #[cop p l] w (Ret (tickV p l) w) := by
  by_cases h0 : 0 < l
  · have hd : decide (0 < l) = true := by simpa using h0
    by_cases h1 : 224 ≤ p
    · have e1 : tickL l = l - 1 := by simp [tickL, h0]
      have e2 : tickF p l = IntKind.u16.wrap ((p - 32) * 256 + IntKind.u16.wrap (160 - l)) := by rw [wrap16]; simp [tickF, h0, fromI, h1]
      have e3 : tickN l = 160 - l := by simp [tickN, h0]
      rw [tickV, e1, e2, e3]
      clear e1 e2 e3
      go_enter Try.func10, Try.ntmps10
      go_wp2
      refine bodyPost_ret (v := .tuple #[cop p (l - 1), .int .u16 (IntKind.u16.wrap ((p - 32) * 256 + IntKind.u16.wrap (160 - l))), .int .i64 (160 - l), .bool true]) (by simp [results, Try.results10, go_sem]) rfl (.of (by simp [hd]) ?_)
      repeat (first | exact Below.refl _ _ | (refine Below.alloc ?_ (by simp <;> omega) _))
    · have h1' : p < 224 := by omega
      have e1 : tickL l = l - 1 := by simp [tickL, h0]
      have e2 : tickF p l = IntKind.u16.wrap (p * 256 + IntKind.u16.wrap (160 - l)) := by rw [wrap16]; simp [tickF, h0, fromI, h1]
      have e3 : tickN l = 160 - l := by simp [tickN, h0]
      rw [tickV, e1, e2, e3]
      clear e1 e2 e3 h1
      go_enter Try.func10, Try.ntmps10
      go_wp2
      refine bodyPost_ret (v := .tuple #[cop p (l - 1), .int .u16 (IntKind.u16.wrap (p * 256 + IntKind.u16.wrap (160 - l))), .int .i64 (160 - l), .bool true]) (by simp [results, Try.results10, go_sem]) rfl (.of (by simp [hd]) ?_)
      repeat (first | exact Below.refl _ _ | (refine Below.alloc ?_ (by simp <;> omega) _))
  · have hd : decide (0 < l) = false := by simpa using h0
    have e1 : tickL l = l := by simp [tickL, h0]
    have e2 : tickF p l = 0 := by simp [tickF, h0]
    have e3 : tickN l = 0 := by simp [tickN, h0]
    rw [tickV, e1, e2, e3]
    clear e1 e2 e3
    go_enter Try.func10, Try.ntmps10
    go_wp2
    refine bodyPost_ret (v := .tuple #[cop p l, .int .u16 0, .int .i64 0, .bool false]) (by simp [results, Try.results10, go_sem]) rfl (.of (by simp [hd]) ?_)
    repeat (first | exact Below.refl _ _ | (refine Below.alloc ?_ (by simp <;> omega) _))

theorem rtick_any (p l : Int) (w : World) (hp : 0 ≤ p) (hp2 : p ≤ 255) (hl : -1000 ≤ l) (hl2 : l ≤ 1000) :
    Calls Try.prog 13 #[cop p l] w (Ret (tickV p l) w) := by
  by_cases h0 : 0 < l
  · have hd : decide (0 < l) = true := by simpa using h0
    have e1 : tickL l = l - 1 := by simp [tickL, h0]
    have e3 : tickN l = 160 - l := by simp [tickN, h0]
    have h00 : ¬ l < 1 := by omega
    by_cases h1 : 224 ≤ p
    · have e2 : tickF p l = ((p - 32) * 256 + (160 - l) + 65536) % 65536 := by simp only [tickF, h0, fromI, h1, if_true]; omega
      rw [tickV, e1, e2, e3]
      clear e1 e2 e3
      go_enter Try.func13, Try.ntmps13
      go_wp2
      refine bodyPost_ret (v := .tuple #[cop p (l - 1), .int .u16 (((p - 32) * 256 + (160 - l) + 65536) % 65536), .int .i64 (160 - l), .bool true]) (by simp [results, Try.results13, go_sem]) rfl (.of (by simp [hd]) ?_)
      repeat (first | exact Below.refl _ _ | (refine Below.alloc ?_ (by simp <;> omega) _))
    · have h1' : p < 224 := by omega
      have e2 : tickF p l = (p * 256 + (160 - l) + 65536) % 65536 := by simp only [tickF, h0, fromI, h1, if_true, if_false]; omega
      rw [tickV, e1, e2, e3]
      clear e1 e2 e3 h1
      go_enter Try.func13, Try.ntmps13
      go_wp2
      refine bodyPost_ret (v := .tuple #[cop p (l - 1), .int .u16 ((p * 256 + (160 - l) + 65536) % 65536), .int .i64 (160 - l), .bool true]) (by simp [results, Try.results13, go_sem]) rfl (.of (by simp [hd]) ?_)
      repeat (first | exact Below.refl _ _ | (refine Below.alloc ?_ (by simp <;> omega) _))
  · have hd : decide (0 < l) = false := by simpa using h0
    have e1 : tickL l = l := by simp [tickL, h0]
    have e2 : tickF p l = 0 := by simp [tickF, h0]
    have e3 : tickN l = 0 := by simp [tickN, h0]
    have h00 : l < 1 := by omega
    rw [tickV, e1, e2, e3]
    clear e1 e2 e3
    go_enter Try.func13, Try.ntmps13
    go_wp2
    refine bodyPost_ret (v := .tuple #[cop p l, .int .u16 0, .int .i64 0, .bool false]) (by simp [results, Try.results13, go_sem]) rfl (.of (by simp [hd]) ?_)
    repeat (first | exact Below.refl _ _ | (refine Below.alloc ?_ (by simp <;> omega) _))

def letsB (l a : Int) : Bool := !decide (0 < l) || decide (65280 ≤ a)
theorem lets_any (p l a : Int) (w : World) :
    Calls Try.prog 14 #[cop p l, .int .u16 a] w (Ret (.bool (letsB l a)) w) := by
  by_cases h0 : 0 < l
  · have hd : decide (0 < l) = true := by simpa using h0
    go_enter Try.func14, Try.ntmps14
    go_wp2
    go_ret
    refine .of (by simp [letsB, hd]) ?_
    repeat (first | exact Below.refl _ _ | (refine Below.alloc ?_ (by simp <;> omega) _))
  · have hd : decide (0 < l) = false := by simpa using h0
    go_enter Try.func14, Try.ntmps14
    go_wp2
    go_ret
    refine .of (by simp [letsB, hd]) ?_
    repeat (first | exact Below.refl _ _ | (refine Below.alloc ?_ (by simp <;> omega) _))
theorem rlets_any (p l a : Int) (w : World) (ha : 0 ≤ a) (ha2 : a ≤ 65535) :
    Calls Try.prog 15 #[cop p l, .int .u16 a] w (Ret (.bool (letsB l a)) w) := by
  by_cases h0 : 0 < l
  · have hd : decide (l < 1) = false := by simp; omega
    have he : decide (0 < l) = true := by simpa using h0
    go_enter Try.func15, Try.ntmps15
    go_wp2
    go_ret
    refine .of (by simp [letsB, he]) ?_
    repeat (first | exact Below.refl _ _ | (refine Below.alloc ?_ (by simp <;> omega) _))
  · have hd : decide (l < 1) = true := by simp; omega
    have he : decide (0 < l) = false := by simpa using h0
    go_enter Try.func15, Try.ntmps15
    go_wp2
    go_ret
    refine .of (by simp [letsB, he]) ?_
    repeat (first | exact Below.refl _ _ | (refine Below.alloc ?_ (by simp <;> omega) _))

theorem awake_any (w : World) : Calls Try.prog 8 #[] w (Ret (.bool true) w) := by
  go_enter Try.func8, Try.ntmps8
  go_wp2_with fail
  refine (write_any _ _ _ _).mono ?_
  rintro e w1 ⟨rfl, hc1, hf1, hz1, hb1⟩
  go_wp2_with fail
  refine (tick_any 193 160 _ (by omega) (by omega) (by omega) (by omega)).mono ?_
  rintro e w2 ⟨rfl, hc2, hf2, hz2, hb2⟩
  go_wp2_with fail
  refine (busy_any _ _ _).mono ?_
  rintro e w3 ⟨rfl, hc3, hf3, hz3, hb3⟩
  simp at hz1 hz2 hz3
  go_wp2_with fail
  go_ret
  refine .of (by rfl) ?_
  exact (((hb1.trans (hb2.mono hz1)).alloc (by omega) _).trans (hb3.mono (by simp; omega)))

end Go.Proofs.Ytgonapmmebjeaaa
