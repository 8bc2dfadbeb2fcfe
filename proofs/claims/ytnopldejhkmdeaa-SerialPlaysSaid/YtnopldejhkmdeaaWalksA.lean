/- Contracts of the port's functions, of layer 10 and of its reference. -/
import Derived.Test.YtnopldejhkmdeaaChecked
import Derived.WalkKit
import Derived.WalkSpells
import Derived.WalkLawsBesides
import Derived.ChangeOld
namespace Go.Proofs.Ytnopldejhkmdeaa
open Go.RowKit
set_option linter.unusedSimpArgs false
set_option linter.unusedVariables false

theorem hid_ {p : Prop} (h : p) : Hid p := h

/-- What a call that only makes memory gives: its value; and that all that was there reads as it did. -/
def Ret (v : Value) (w : World) (e : Ending) (w' : World) : Prop :=
  e = .returned v ∧ (∀ b o, b < w.heap.size → w'.cell? ⟨b, o, none⟩ = w.cell? ⟨b, o, none⟩) ∧ (∀ b o, b < w.heap.size → w'.frozen? ⟨b, o, none⟩ = w.frozen? ⟨b, o, none⟩) ∧
    w.heap.size ≤ w'.heap.size ∧ Below w.heap.size w w'
theorem Ret.of {v : Value} {w : World} {e : Ending} {w' : World} (he : e = .returned v) (hb : Below w.heap.size w w') : Ret v w e w' :=
  ⟨he, fun b o h => hb.cell (p := ⟨b, o, none⟩) h, fun b o h => hb.frozen (p := ⟨b, o, none⟩) h, hb.size, hb⟩
/-- What a call that only reckons gives. -/
def Pure (v : Value) (w : World) (e : Ending) (w' : World) : Prop := e = .returned v ∧ w = w'
theorem Pure.ret {v : Value} {w : World} : Ret v w (.returned v) w := .of rfl (Below.refl _ _)
theorem ret_bool {a b : Bool} (h : a = b) : Ending.returned (.bool a) = .returned (.bool b) := by rw [h]
theorem ret_int {k : IntKind} {a b : Int} (h : a = b) : Ending.returned (.int k a) = .returned (.int k b) := by rw [h]

/-- A block that is known whole. -/
def Blk (w : World) (g : Nat) (t : TypeId) (cs : Array Value) : Prop := w.heap[g]? = some (.cells cs t (0, 0))
section
variable {w w' : World} {g : Nat} {t : TypeId} {cs : Array Value}
theorem Blk.lt (h : Blk w g t cs) : g < w.heap.size := by
  rcases Nat.lt_or_ge g w.heap.size with hlt | hge
  · exact hlt
  · unfold Blk at h; rw [Array.getElem?_eq_none hge] at h; cases h
theorem Blk.cell (h : Blk w g t cs) (i : Nat) : w.cell? ⟨g, i, none⟩ = cs[i]? := cell_of_row w g i cs t (0, 0) h
theorem Blk.frozen (h : Blk w g t cs) (i : Nat) : w.frozen? ⟨g, i, none⟩ = false := by
  unfold Blk at h
  simp [World.frozen?, h]
theorem Blk.new (w : World) (t : TypeId) (cs : Array Value) : Blk (w.alloc (.cells cs t)) w.heap.size t cs := heap_alloc_new w _
theorem Blk.new' (w : World) (t : TypeId) (cs : Array Value) {g : Nat} (h : g = w.heap.size) : Blk (w.alloc (.cells cs t)) g t cs := by subst h; exact heap_alloc_new w _
theorem Blk.alloc (h : Blk w g t cs) (o : Obj) : Blk (w.alloc o) g t cs := (Below.heap_alloc w o g h.lt).trans h
theorem Blk.set_ (h : Blk w g t cs) (i : Nat) (u : Value) : Blk (w.setCell ⟨g, i, none⟩ u) g t (cs.setIfInBounds i u) := by
  unfold Blk at h ⊢
  simp [World.setCell, Array.getElem?_modify, h]
theorem Blk.far (h : Blk w g t cs) {p : Addr} (hp : g ≠ p.block) (u : Value) : Blk (w.setCell p u) g t cs := (Below.heap_setCell w p u g hp).trans h
theorem Blk.below {B : Nat} (h : Blk w g t cs) (hb : Below B w w') (hg : g < B) : Blk w' g t cs := (hb.block g hg).trans h
theorem Blk.drew (h : Blk w g t cs) : Blk w.drew g t cs := h
end

/-- All that lay in wo reads in W as it did: what a region of reads and of calls that only make memory keeps. -/
def Keeps (wo W : World) : Prop := Below wo.heap.size wo W
theorem Keeps.refl (wo : World) : Keeps wo wo := Below.refl _ _
theorem Keeps.drew {wo W : World} (h : Keeps wo W) : Keeps wo W.drew := Below.drew h
theorem Keeps.step {wo W W' : World} (h : Keeps wo W) (hb : Below W.heap.size W W') : Keeps wo W' := Below.trans h (hb.mono h.size)
theorem Keeps.cells {wo W : World} (h : Keeps wo W) (b o : Nat) (hb : b < wo.heap.size) : W.cell? ⟨b, o, none⟩ = wo.cell? ⟨b, o, none⟩ := Below.cell (p := ⟨b, o, none⟩) h hb

/-- A slice of integers that came in: its elements, nil let in. -/
def IsRow (k : IntKind) (w : World) (a : Option Addr) (len : Nat) (zs : List Int) : Prop :=
  zs.length = len ∧ (∀ n ∈ zs, (Lit.int k n).wf = true) ∧ (0 < len → ∃ b off, a = some ⟨b, off, none⟩ ∧ b < w.heap.size ∧ ∀ i, i < len → w.cell? ⟨b, off + i, none⟩ = some (.int k (zs.getD i 0)))


/-- A port. -/
structure St where
  d : Int
  c : Int
  l : Int
  b : Int
  n : Int
  s : Int
def St.ok (p : St) : Prop := 0 ≤ p.d ∧ p.d ≤ 255 ∧ 0 ≤ p.c ∧ p.c ≤ 255 ∧ 0 ≤ p.l ∧ p.l ≤ 255 ∧ -1 ≤ p.b ∧ p.b ≤ 9 ∧ 0 ≤ p.n ∧ p.n ≤ 127 ∧ 0 ≤ p.s ∧ p.s ≤ 65535
abbrev cells (p : St) : Array Value := #[.int .u8 p.d, .int .u8 p.c, .int .u8 p.l, .int .i64 p.b, .int .i64 p.n, .int .i64 p.s]
abbrev prt (p : St) : Value := .agg (cells p)
def tickS (p : St) : St :=
  if p.b < 1 then p else if p.n + 1 < 128 then { p with n := p.n + 1 }
  else if 1 < p.b then { p with d := p.d % 128 * 2 + 1, n := 0, b := p.b - 1 } else { p with d := p.d % 128 * 2 + 1, n := 0, b := p.b - 1, c := p.c % 128 }
def tickI (p : St) : Bool := decide (p.b = 1) && decide (p.n = 127)
def begins (x : Int) : Bool := decide (x / 128 = 1) && decide (x % 2 = 1)
def writeS (p : St) (n x : Int) : St :=
  if n = 0 then { p with d := x } else if n = 1 then
    (if begins x then { d := p.d, c := 129, l := p.d, b := 8, n := 0, s := (p.s + 1) % 65536 } else { p with c := x / 128 * 128 + x % 2, b := 0 }) else p
def readS (p : St) (n : Int) : Int := if n = 0 then p.d else if n = 1 then p.c / 128 * 128 + 126 + p.c % 2 else 255

theorem Blk.six {w : World} {g : Nat} {t : TypeId} {p : St} (h : Blk w g t (cells p)) :
    w.cell? ⟨g, 0, none⟩ = some (.int .u8 p.d) ∧ w.cell? ⟨g, 1, none⟩ = some (.int .u8 p.c) ∧ w.cell? ⟨g, 2, none⟩ = some (.int .u8 p.l) ∧
    w.cell? ⟨g, 3, none⟩ = some (.int .i64 p.b) ∧ w.cell? ⟨g, 4, none⟩ = some (.int .i64 p.n) ∧ w.cell? ⟨g, 5, none⟩ = some (.int .i64 p.s) ∧
    w.frozen? ⟨g, 0, none⟩ = false ∧ w.frozen? ⟨g, 1, none⟩ = false ∧ w.frozen? ⟨g, 2, none⟩ = false ∧ w.frozen? ⟨g, 3, none⟩ = false ∧ w.frozen? ⟨g, 4, none⟩ = false ∧ w.frozen? ⟨g, 5, none⟩ = false :=
  ⟨h.cell 0, h.cell 1, h.cell 2, h.cell 3, h.cell 4, h.cell 5, h.frozen 0, h.frozen 1, h.frozen 2, h.frozen 3, h.frozen 4, h.frozen 5⟩
theorem Blk.set6 {w : World} {g : Nat} {t : TypeId} {p : St} (h : Blk w g t (cells p)) (q : St) :
    Blk ((((((w.setCell ⟨g, 0, none⟩ (.int .u8 q.d)).setCell ⟨g, 1, none⟩ (.int .u8 q.c)).setCell ⟨g, 2, none⟩ (.int .u8 q.l)).setCell ⟨g, 3, none⟩ (.int .i64 q.b)).setCell ⟨g, 4, none⟩ (.int .i64 q.n)).setCell ⟨g, 5, none⟩ (.int .i64 q.s)) g t (cells q) := by
  have := (((((h.set_ 0 (.int .u8 q.d)).set_ 1 (.int .u8 q.c)).set_ 2 (.int .u8 q.l)).set_ 3 (.int .i64 q.b)).set_ 4 (.int .i64 q.n)).set_ 5 (.int .i64 q.s)
  simpa using this

theorem upto {P : Int → Prop} (hP : ∀ n : Nat, n < 256 → P n) (a : Int) (h : 0 ≤ a) (h' : a ≤ 255) : P a := by
  obtain ⟨n, rfl⟩ := Int.eq_ofNat_of_zero_le h
  exact hP n (by omega)
theorem or1 (a : Int) (h : 0 ≤ a) (h' : a ≤ 255) : bits .or .u8 (a * 2 % 256) 1 = a % 128 * 2 + 1 :=
  upto (P := fun a => bits .or .u8 (a * 2 % 256) 1 = a % 128 * 2 + 1) (by decide +kernel) a h h'
theorem not128 (a : Int) (h : 0 ≤ a) (h' : a ≤ 255) : bits .andNot .u8 a 128 = a % 128 :=
  upto (P := fun a => bits .andNot .u8 a 128 = a % 128) (by decide +kernel) a h h'
theorem and129 (a : Int) (h : 0 ≤ a) (h' : a ≤ 255) : bits .and .u8 a 129 = a / 128 * 128 + a % 2 :=
  upto (P := fun a => bits .and .u8 a 129 = a / 128 * 128 + a % 2) (by decide +kernel) a h h'
theorem or126 (a : Int) (h : 0 ≤ a) (h' : a ≤ 255) : bits .or .u8 a 126 = a / 128 * 128 + 126 + a % 2 :=
  upto (P := fun a => bits .or .u8 a 126 = a / 128 * 128 + 126 + a % 2) (by decide +kernel) a h h'
theorem and128 (a : Int) (h : 0 ≤ a) (h' : a ≤ 255) : bits .and .u8 a 128 = a / 128 * 128 :=
  upto (P := fun a => bits .and .u8 a 128 = a / 128 * 128) (by decide +kernel) a h h'

set_option maxHeartbeats 1000000 in
theorem tick_any (p : St) (hp : p.ok) (w : World) : Calls Try.prog 9 #[prt p] w (Ret (.tuple #[prt (tickS p), .bool (tickI p)]) w) := by
  obtain ⟨d, c, l, b, n, s⟩ := p
  obtain ⟨hd0, hd1, hc0, hc1, hl0, hl1, hb0, hb1, hn0, hn1, hs0, hs1⟩ := hp
  simp only at hd0 hd1 hc0 hc1 hl0 hl1 hb0 hb1 hn0 hn1 hs0 hs1
  have e1 := or1 d hd0 hd1
  have e2 := not128 c hc0 hc1
  by_cases h1 : b < 1
  · go_enter Try.func9, Try.ntmps9
    go_wp2
    refine bodyPost_ret (v := .tuple #[prt ⟨d, c, l, b, n, s⟩, .bool false]) (by simp [results, Try.results9, go_sem]) rfl (.of (by simp [tickS, tickI, h1, show ¬ b = 1 by omega]) ?_)
    repeat (first | exact Below.refl _ _ | (refine Below.alloc ?_ (by simp <;> omega) _))
  · by_cases h2 : n + 1 < 128
    · go_enter Try.func9, Try.ntmps9
      go_wp2
      refine bodyPost_ret (v := .tuple #[prt ⟨d, c, l, b, n + 1, s⟩, .bool false]) (by simp [results, Try.results9, go_sem]) rfl (.of (by simp [tickS, tickI, show ¬ b < 1 by omega, h2, show ¬ n = 127 by omega]) ?_)
      repeat (first | exact Below.refl _ _ | (refine Below.alloc ?_ (by simp <;> omega) _))
    · obtain rfl : n = 127 := by omega
      by_cases h3 : 1 < b
      · go_enter Try.func9, Try.ntmps9
        go_wp2
        refine bodyPost_ret (v := .tuple #[prt ⟨d % 128 * 2 + 1, c, l, b - 1, 0, s⟩, .bool false]) (by simp [results, Try.results9, go_sem]) rfl (.of (by simp [tickS, tickI, show ¬ b < 1 by omega, h3, show ¬ b = 1 by omega]) ?_)
        repeat (first | exact Below.refl _ _ | (refine Below.alloc ?_ (by simp <;> omega) _))
      · obtain rfl : b = 1 := by omega
        go_enter Try.func9, Try.ntmps9
        go_wp2
        refine bodyPost_ret (v := .tuple #[prt ⟨d % 128 * 2 + 1, c % 128, l, 0, 0, s⟩, .bool true]) (by simp [results, Try.results9, go_sem]) rfl (.of (by simp [tickS, tickI]) ?_)
        repeat (first | exact Below.refl _ _ | (refine Below.alloc ?_ (by simp <;> omega) _))

set_option maxHeartbeats 1000000 in
theorem rtick_any (p : St) (hp : p.ok) (w : World) : Calls Try.prog 10 #[prt p] w (Ret (.tuple #[prt (tickS p), .bool (tickI p)]) w) := by
  obtain ⟨d, c, l, b, n, s⟩ := p
  obtain ⟨hd0, hd1, hc0, hc1, hl0, hl1, hb0, hb1, hn0, hn1, hs0, hs1⟩ := hp
  simp only at hd0 hd1 hc0 hc1 hl0 hl1 hb0 hb1 hn0 hn1 hs0 hs1
  have e1 := or1 d hd0 hd1
  have e2 := not128 c hc0 hc1
  by_cases h1 : b < 1
  · go_enter Try.func10, Try.ntmps10
    go_wp2
    refine bodyPost_ret (v := .tuple #[prt ⟨d, c, l, b, n, s⟩, .bool false]) (by simp [results, Try.results10, go_sem]) rfl (.of (by simp [tickS, tickI, h1, show ¬ b = 1 by omega]) ?_)
    repeat (first | exact Below.refl _ _ | (refine Below.alloc ?_ (by simp <;> omega) _))
  · by_cases h2 : n + 1 < 128
    · have h3 : ((n + 1) == 128) = false := by simp; omega
      have h4 : ((n + 1) != 128) = true := by simp; omega
      go_enter Try.func10, Try.ntmps10
      go_wp2
      refine bodyPost_ret (v := .tuple #[prt ⟨d, c, l, b, n + 1, s⟩, .bool false]) (by simp [results, Try.results10, go_sem]) rfl (.of (by simp [tickS, tickI, show ¬ b < 1 by omega, h2, show ¬ n = 127 by omega]) ?_)
      repeat (first | exact Below.refl _ _ | (refine Below.alloc ?_ (by simp <;> omega) _))
    · obtain rfl : n = 127 := by omega
      by_cases h3 : 1 < b
      · go_enter Try.func10, Try.ntmps10
        go_wp2
        refine bodyPost_ret (v := .tuple #[prt ⟨d % 128 * 2 + 1, c, l, b - 1, 0, s⟩, .bool false]) (by simp [results, Try.results10, go_sem]) rfl (.of (by simp [tickS, tickI, show ¬ b < 1 by omega, h3, show ¬ b = 1 by omega]) ?_)
        repeat (first | exact Below.refl _ _ | (refine Below.alloc ?_ (by simp <;> omega) _))
      · obtain rfl : b = 1 := by omega
        go_enter Try.func10, Try.ntmps10
        go_wp2
        refine bodyPost_ret (v := .tuple #[prt ⟨d % 128 * 2 + 1, c % 128, l, 0, 0, s⟩, .bool true]) (by simp [results, Try.results10, go_sem]) rfl (.of (by simp [tickS, tickI]) ?_)
        repeat (first | exact Below.refl _ _ | (refine Below.alloc ?_ (by simp <;> omega) _))

theorem begin_any (p : St) (w : World) (hs0 : 0 ≤ p.s) (hs1 : p.s ≤ 65535) : Calls Try.prog 15 #[prt p] w (Ret (prt ⟨p.d, p.c, p.d, 8, 0, (p.s + 1) % 65536⟩) w) := by
  go_enter Try.func15, Try.ntmps15
  go_wp2
  refine bodyPost_ret (v := prt ⟨p.d, p.c, p.d, 8, 0, (p.s + 1) % 65536⟩) (by simp [results, Try.results15, go_sem]) rfl (.of rfl ?_)
  repeat (first | exact Below.refl _ _ | (refine Below.alloc ?_ (by simp <;> omega) _))

set_option maxHeartbeats 1000000 in
theorem write_any (p : St) (hp : p.ok) (n x : Int) (hx : 0 ≤ x) (hx' : x ≤ 255) (w : World) : Calls Try.prog 11 #[prt p, .int .i64 n, .int .u8 x] w (Ret (prt (writeS p n x)) w) := by
  obtain ⟨d, c, l, b, k, s⟩ := p
  obtain ⟨hd0, hd1, hc0, hc1, hl0, hl1, hb0, hb1, hn0, hn1, hs0, hs1⟩ := hp
  simp only at hd0 hd1 hc0 hc1 hl0 hl1 hb0 hb1 hn0 hn1 hs0 hs1
  have e1 := and129 x hx hx'
  by_cases h0 : n = 0
  · subst h0
    go_enter Try.func11, Try.ntmps11
    go_wp2
    refine bodyPost_ret (v := prt ⟨x, c, l, b, k, s⟩) (by simp [results, Try.results11, go_sem]) rfl (.of (by simp [writeS]) ?_)
    repeat (first | exact Below.refl _ _ | (refine Below.alloc ?_ (by simp <;> omega) _))
  · have h0b : (n == 0) = false := by simpa using h0
    by_cases h1 : n = 1
    · subst h1
      by_cases hb : x / 128 = 1 ∧ x % 2 = 1
      · obtain ⟨g1, g2⟩ := hb
        have e2 : bits .and .u8 x 129 = 129 := by rw [e1, g1, g2]; rfl
        clear e1
        have hbg : begins x = true := by simp [begins, g1, g2]
        have HG := hid_ hbg
        clear hbg
        go_enter Try.func11, Try.ntmps11
        go_wp2_with fail
        refine (begin_any ⟨d, 129, l, 0, k, s⟩ _ hs0 hs1).mono ?_
        rintro e w1 ⟨rfl, hc1, hf1, hz1, hb1⟩
        have hBk : Blk w1 (w.heap.size + 1) 25 (cells ⟨0, 0, 0, 0, 0, 0⟩) := Blk.below (Blk.new' (w.alloc _) 25 _ (by simp)) hb1 (by simp)
        have hgk := hBk.lt
        obtain ⟨i0, i1, i2, i3, i4, i5, j0, j1, j2, j3, j4, j5⟩ := hBk.six
        clear hc1 hf1
        go_wp2_with fail
        have hb2 : Below w.heap.size w w1 := (((Below.refl _ _).alloc (Nat.le_refl _) _).alloc (by simp) _).trans (hb1.mono (by simp <;> omega))
        have hb3 := ((((((hb2.setCell (p := ⟨w.heap.size + 1, 0, none⟩) (by simp) (.int .u8 d)).setCell (p := ⟨w.heap.size + 1, 1, none⟩) (by simp) (.int .u8 129)).setCell (p := ⟨w.heap.size + 1, 2, none⟩) (by simp) (.int .u8 d)).setCell (p := ⟨w.heap.size + 1, 3, none⟩) (by simp) (.int .i64 8)).setCell (p := ⟨w.heap.size + 1, 4, none⟩) (by simp) (.int .i64 0)).setCell (p := ⟨w.heap.size + 1, 5, none⟩) (by simp) (.int .i64 ((s + 1) % 65536)))
        have hB2 := hBk.set6 ⟨d, 129, d, 8, 0, (s + 1) % 65536⟩
        dsimp only at hB2
        clear hBk hb1 hb2 i0 i1 i2 i3 i4 i5 j0 j1 j2 j3 j4 j5
        generalize (((((w1.setCell ⟨w.heap.size + 1, 0, none⟩ (.int .u8 d)).setCell ⟨w.heap.size + 1, 1, none⟩ (.int .u8 129)).setCell ⟨w.heap.size + 1, 2, none⟩ (.int .u8 d)).setCell ⟨w.heap.size + 1, 3, none⟩ (.int .i64 8)).setCell ⟨w.heap.size + 1, 4, none⟩ (.int .i64 0)).setCell ⟨w.heap.size + 1, 5, none⟩ (.int .i64 ((s + 1) % 65536)) = W2 at *
        obtain ⟨r0, r1, r2, r3, r4, r5, _⟩ := hB2.six
        refine bodyPost_ret (v := prt ⟨d, 129, d, 8, 0, (s + 1) % 65536⟩) (by simp [results, Try.results11, go_sem, r0, r1, r2, r3, r4, r5]) rfl (.of (by simp [writeS, HG.out]) hb3)
      · have hbg : begins x = false := by unfold begins; by_cases g1 : x / 128 = 1 <;> by_cases g2 : x % 2 = 1 <;> simp_all
        have HG := hid_ hbg
        clear hbg
        have e2 : ((x / 128 * 128 + x % 2) == 129) = false := by simp; omega
        clear hb
        go_enter Try.func11, Try.ntmps11
        go_wp2
        refine bodyPost_ret (v := prt ⟨d, x / 128 * 128 + x % 2, l, 0, k, s⟩) (by simp [results, Try.results11, go_sem]) rfl (.of (by simp [writeS, HG.out]) ?_)
        repeat (first | exact Below.refl _ _ | (refine Below.alloc ?_ (by simp <;> omega) _))
    · have h1b : (n == 1) = false := by simpa using h1
      go_enter Try.func11, Try.ntmps11
      go_wp2
      refine bodyPost_ret (v := prt ⟨d, c, l, b, k, s⟩) (by simp [results, Try.results11, go_sem]) rfl (.of (by simp [writeS, h0, h1]) ?_)
      repeat (first | exact Below.refl _ _ | (refine Below.alloc ?_ (by simp <;> omega) _))

set_option maxHeartbeats 1000000 in
theorem rwrite_any (p : St) (hp : p.ok) (n x : Int) (hx : 0 ≤ x) (hx' : x ≤ 255) (w : World) : Calls Try.prog 12 #[prt p, .int .i64 n, .int .u8 x] w (Ret (prt (writeS p n x)) w) := by
  obtain ⟨d, c, l, b, k, s⟩ := p
  obtain ⟨hd0, hd1, hc0, hc1, hl0, hl1, hb0, hb1, hn0, hn1, hs0, hs1⟩ := hp
  simp only at hd0 hd1 hc0 hc1 hl0 hl1 hb0 hb1 hn0 hn1 hs0 hs1
  have e1 := and129 x hx hx'
  by_cases h0 : n = 0
  · subst h0
    go_enter Try.func12, Try.ntmps12
    go_wp2
    refine bodyPost_ret (v := prt ⟨x, c, l, b, k, s⟩) (by simp [results, Try.results12, go_sem]) rfl (.of (by simp [writeS]) ?_)
    repeat (first | exact Below.refl _ _ | (refine Below.alloc ?_ (by simp <;> omega) _))
  · have h0b : (n == 0) = false := by simpa using h0
    by_cases h1 : n = 1
    · subst h1
      by_cases hb : x / 128 = 1 ∧ x % 2 = 1
      · obtain ⟨g1, g2⟩ := hb
        have hbg : begins x = true := by simp [begins, g1, g2]
        have HG := hid_ hbg
        clear hbg
        go_enter Try.func12, Try.ntmps12
        go_wp2
        refine bodyPost_ret (v := prt ⟨d, 129, d, 8, 0, (s + 1) % 65536⟩) (by simp [results, Try.results12, go_sem]) rfl (.of (by simp [writeS, HG.out]) ?_)
        repeat (first | exact Below.refl _ _ | (refine Below.alloc ?_ (by simp <;> omega) _))
      · have hbg : begins x = false := by unfold begins; by_cases g1 : x / 128 = 1 <;> by_cases g2 : x % 2 = 1 <;> simp_all
        have HG := hid_ hbg
        clear hbg
        by_cases g1 : x / 128 = 1
        · have g2 : ¬ x % 2 = 1 := fun h => hb ⟨g1, h⟩
          have g2' : x % 2 = 0 := by omega
          clear hb
          go_enter Try.func12, Try.ntmps12
          go_wp2
          refine bodyPost_ret (v := prt ⟨d, 128, l, 0, k, s⟩) (by simp [results, Try.results12, go_sem]) rfl (.of (by simp [writeS, HG.out] <;> omega) ?_)
          repeat (first | exact Below.refl _ _ | (refine Below.alloc ?_ (by simp <;> omega) _))
        · have g1' : x / 128 = 0 := by omega
          clear hb
          go_enter Try.func12, Try.ntmps12
          go_wp2
          refine bodyPost_ret (v := prt ⟨d, x % 2, l, 0, k, s⟩) (by simp [results, Try.results12, go_sem]) rfl (.of (by simp [writeS, HG.out] <;> omega) ?_)
          repeat (first | exact Below.refl _ _ | (refine Below.alloc ?_ (by simp <;> omega) _))
    · have h1b : (n == 1) = false := by simpa using h1
      go_enter Try.func12, Try.ntmps12
      go_wp2
      refine bodyPost_ret (v := prt ⟨d, c, l, b, k, s⟩) (by simp [results, Try.results12, go_sem]) rfl (.of (by simp [writeS, h0, h1]) ?_)
      repeat (first | exact Below.refl _ _ | (refine Below.alloc ?_ (by simp <;> omega) _))

theorem read_any (p : St) (hp : p.ok) (n : Int) (w : World) : Calls Try.prog 13 #[prt p, .int .i64 n] w (Ret (.int .u8 (readS p n)) w) := by
  obtain ⟨d, c, l, b, k, s⟩ := p
  obtain ⟨hd0, hd1, hc0, hc1, hl0, hl1, hb0, hb1, hn0, hn1, hs0, hs1⟩ := hp
  simp only at hd0 hd1 hc0 hc1 hl0 hl1 hb0 hb1 hn0 hn1 hs0 hs1
  have e1 := or126 c hc0 hc1
  by_cases h0 : n = 0
  · subst h0
    go_enter Try.func13, Try.ntmps13
    go_wp2
    go_ret
    refine .of (ret_int (by simp [readS])) ?_
    repeat (first | exact Below.refl _ _ | (refine Below.alloc ?_ (by simp <;> omega) _))
  · have h0b : (n == 0) = false := by simpa using h0
    by_cases h1 : n = 1
    · subst h1
      go_enter Try.func13, Try.ntmps13
      go_wp2
      go_ret
      refine .of (ret_int (by simp [readS])) ?_
      repeat (first | exact Below.refl _ _ | (refine Below.alloc ?_ (by simp <;> omega) _))
    · have h1b : (n == 1) = false := by simpa using h1
      go_enter Try.func13, Try.ntmps13
      go_wp2
      go_ret
      refine .of (ret_int (by simp [readS, h0, h1])) ?_
      repeat (first | exact Below.refl _ _ | (refine Below.alloc ?_ (by simp <;> omega) _))

theorem rread_any (p : St) (hp : p.ok) (n : Int) (w : World) : Calls Try.prog 14 #[prt p, .int .i64 n] w (Ret (.int .u8 (readS p n)) w) := by
  obtain ⟨d, c, l, b, k, s⟩ := p
  obtain ⟨hd0, hd1, hc0, hc1, hl0, hl1, hb0, hb1, hn0, hn1, hs0, hs1⟩ := hp
  simp only at hd0 hd1 hc0 hc1 hl0 hl1 hb0 hb1 hn0 hn1 hs0 hs1
  have e1 := or126 c hc0 hc1
  by_cases h0 : n = 0
  · subst h0
    go_enter Try.func14, Try.ntmps14
    go_wp2
    go_ret
    refine .of (ret_int (by simp [readS])) ?_
    repeat (first | exact Below.refl _ _ | (refine Below.alloc ?_ (by simp <;> omega) _))
  · have h0b : (n == 0) = false := by simpa using h0
    by_cases h1 : n = 1
    · subst h1
      go_enter Try.func14, Try.ntmps14
      go_wp2
      go_ret
      refine .of (ret_int (by simp [readS])) ?_
      repeat (first | exact Below.refl _ _ | (refine Below.alloc ?_ (by simp <;> omega) _))
    · have h1b : (n == 1) = false := by simpa using h1
      go_enter Try.func14, Try.ntmps14
      go_wp2
      go_ret
      refine .of (ret_int (by simp [readS, h0, h1])) ?_
      repeat (first | exact Below.refl _ _ | (refine Below.alloc ?_ (by simp <;> omega) _))

end Go.Proofs.Ytnopldejhkmdeaa
