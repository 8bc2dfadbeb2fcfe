/- A machine: what its block holds, what lies beside it, what a step of its processor keeps. -/
import Derived.Test.YtglklbcohbeacaaGreatWorld
namespace Go.Proofs.YtglklbcohbeacaaGreat
open Go.RowKit
set_option linter.unusedSimpArgs false
set_option linter.unusedVariables false

/-- A block of bytes that is known whole. -/
def Mem (w : World) (g : Nat) (zs : List Int) : Prop := Blk w g 5 (zs.map (Value.int .u8)).toArray ∧ ∀ z ∈ zs, 0 ≤ z ∧ z ≤ 255
section
variable {w w' : World} {g : Nat} {zs : List Int}
theorem Mem.lt (h : Mem w g zs) : g < w.heap.size := h.1.lt
theorem Mem.cell (h : Mem w g zs) (i : Nat) (hi : i < zs.length) : w.cell? ⟨g, i, none⟩ = some (.int .u8 (zs.getD i 0)) := by
  rw [h.1.cell i, List.getElem?_toArray, List.getElem?_map, List.getD_eq_getElem?_getD, List.getElem?_eq_getElem hi]; rfl
theorem Mem.frozen (h : Mem w g zs) (i : Nat) : w.frozen? ⟨g, i, none⟩ = false := h.1.frozen i
theorem Mem.bd (h : Mem w g zs) (i : Nat) : 0 ≤ zs.getD i 0 ∧ zs.getD i 0 ≤ 255 := by
  rw [List.getD_eq_getElem?_getD]
  rcases Nat.lt_or_ge i zs.length with hi | hi
  · rw [List.getElem?_eq_getElem hi]; exact h.2 _ (List.getElem_mem _)
  · rw [List.getElem?_eq_none hi]; decide
end

/-- What of a machine stays. -/
structure St where
  m : Nat
  u : Nat
  rb : Nat
  tb : Nat
  zs : List Int
  title : ByteArray
  batt : Bool
  whole : Bool
  ram : Value
/-- The bytes and words at hand. -/
structure Rg where
  a : Int
  f : Int
  b : Int
  c : Int
  d : Int
  e : Int
  h : Int
  l : Int
  sp : Int
  pc : Int
def Rg.list (R : Rg) : List Value := [.int .u8 R.a, .int .u8 R.f, .int .u8 R.b, .int .u8 R.c, .int .u8 R.d, .int .u8 R.e, .int .u8 R.h, .int .u8 R.l, .int .u16 R.sp, .int .u16 R.pc]
structure Rg.ok (R : Rg) : Prop where
  a0 : 0 ≤ R.a
  a1 : R.a ≤ 255
  f0 : 0 ≤ R.f
  f1 : R.f ≤ 255
  b0 : 0 ≤ R.b
  b1 : R.b ≤ 255
  c0 : 0 ≤ R.c
  c1 : R.c ≤ 255
  d0 : 0 ≤ R.d
  d1 : R.d ≤ 255
  e0 : 0 ≤ R.e
  e1 : R.e ≤ 255
  h0 : 0 ≤ R.h
  h1 : R.h ≤ 255
  l0 : 0 ≤ R.l
  l1 : R.l ≤ 255
  pc0 : 0 ≤ R.pc
  pc1 : R.pc ≤ 65535
/-- What of a machine changes, but the timer's count and the place of what is told of a step. -/
structure Mc where
  R : Rg
  steps : Int
  cyc : Int
  work : List Int
  n : Nat
  filled : Bool
/-- A table that is not filled yet, or that is. -/
def zeroOp : List Value := [.int .i64 0, .int .i64 0, .int .i64 0, .int .i64 0, .int .u16 0]
structure OpV where
  kind : Int
  x : Int
  y : Int
  size : Int
  n : Int
def OpV.list (o : OpV) : List Value := [.int .i64 o.kind, .int .i64 o.x, .int .i64 o.y, .int .i64 o.size, .int .u16 o.n]
def opsL (l : List OpV) : List Value := l.flatMap OpV.list
def onceL (st : Bool) : List Value := [.int .u32 (if st then 1 else 0), .int .i32 0, .int .u32 0]
/-- What is laid in a table, order by order. -/
structure Pl where
  at_ : Nat
  by_ : Nat
  many : Nat
  kind : Int
  size : Int
  x : List Int
def bytesL : List Int := [0, 1, 2, 3, 4, 5, 6, 7]
def pairsL : List Int := [0, 1, 2, 3]
def stackL : List Int := [0, 1, 2, 4]
def plansL : List Pl := [
  ⟨0, 1, 1, 1, 1, []⟩, ⟨8, 1, 1, 40, 3, []⟩, ⟨16, 1, 1, 2, 2, []⟩, ⟨24, 1, 1, 23, 2, [4]⟩, ⟨32, 8, 4, 23, 2, pairsL⟩, ⟨1, 16, 4, 9, 3, pairsL⟩, ⟨9, 16, 4, 16, 1, pairsL⟩, ⟨2, 16, 4, 33, 1, pairsL⟩, ⟨10, 16, 4, 32, 1, pairsL⟩, ⟨3, 16, 4, 14, 1, pairsL⟩, ⟨11, 16, 4, 15, 1, pairsL⟩, ⟨4, 8, 8, 12, 1, bytesL⟩, ⟨5, 8, 8, 13, 1, bytesL⟩, ⟨6, 8, 8, 8, 2, bytesL⟩, ⟨7, 8, 4, 18, 1, pairsL⟩, ⟨39, 1, 1, 19, 1, []⟩, ⟨47, 1, 1, 20, 1, []⟩, ⟨55, 1, 1, 21, 1, []⟩, ⟨63, 1, 1, 22, 1, []⟩, ⟨192, 8, 4, 26, 1, pairsL⟩, ⟨224, 1, 1, 35, 2, []⟩, ⟨232, 1, 1, 41, 2, []⟩, ⟨240, 1, 1, 34, 2, []⟩, ⟨248, 1, 1, 42, 2, []⟩, ⟨193, 16, 4, 31, 1, stackL⟩, ⟨197, 16, 4, 30, 1, stackL⟩, ⟨201, 1, 1, 26, 1, [4]⟩, ⟨217, 1, 1, 27, 1, []⟩, ⟨233, 1, 1, 29, 1, []⟩, ⟨249, 1, 1, 43, 1, []⟩, ⟨194, 8, 4, 24, 3, pairsL⟩, ⟨226, 1, 1, 37, 1, []⟩, ⟨234, 1, 1, 39, 3, []⟩, ⟨242, 1, 1, 36, 1, []⟩, ⟨250, 1, 1, 38, 3, []⟩, ⟨195, 1, 1, 24, 3, [4]⟩, ⟨243, 1, 1, 5, 1, []⟩, ⟨251, 1, 1, 6, 1, []⟩, ⟨196, 8, 4, 25, 3, pairsL⟩, ⟨205, 1, 1, 25, 3, [4]⟩, ⟨198, 8, 8, 11, 2, bytesL⟩]
/-- The first orders: moves and sums. -/
def first (i : Nat) : OpV := if i / 64 = 1 then ⟨7, (i / 8 % 8 : Nat), (i % 8 : Nat), 1, 0⟩ else if i / 64 = 2 then ⟨10, (i / 8 % 8 : Nat), (i % 8 : Nat), 1, 0⟩ else ⟨4, 0, 0, 1, 0⟩
def behind (i : Nat) : OpV := ⟨[17, 44, 45, 46].getD (i / 64) 0, (i / 8 % 8 : Nat), (i % 8 : Nat), 2, 0⟩
def lay1 (p : Pl) (l : List OpV) : Nat → List OpV
  | 0 => l
  | k + 1 => (lay1 p l k).set (p.at_ + p.by_ * k) ⟨p.kind, p.x.getD k 0, 0, p.size, 0⟩
def layP (l : List OpV) (p : Pl) : List OpV := lay1 p l p.many
def rsts (l : List OpV) : Nat → List OpV
  | 0 => l
  | k + 1 => (rsts l k).set (199 + 8 * k) ⟨28, 0, 0, 1, 8 * k⟩
def plainL : List OpV := rsts (plansL.foldl layP (((List.range 256).map first).set 118 ⟨3, 0, 0, 1, 0⟩)) 8
def behindL : List OpV := (List.range 256).map behind
def tlist (st : Bool) : List Value := if st then onceL true ++ (opsL plainL ++ opsL behindL) else onceL false ++ (List.replicate 512 zeroOp).flatten

/-- All cells of a machine but its memories and what is told of a step. -/
def hd (S : St) (M : Mc) (cnt : Int) : List Value := [
  .int .u8 M.R.a, .int .u8 M.R.f, .int .u8 M.R.b, .int .u8 M.R.c, .int .u8 M.R.d, .int .u8 M.R.e, .int .u8 M.R.h, .int .u8 M.R.l, .int .u16 M.R.sp, .int .u16 M.R.pc, .bool false, .bool false, .bool false, .bool false,
  .int .i64 0, .int .i64 2, .int .i64 0, .bool true, .bool false, .int .i64 1, .int .i64 0, .int .u8 255,
  .int .u8 0, .int .u8 0, .int .u8 0, .int .i64 0, .int .i64 0, .bool false, .bool false, .int .u8 0, .int .u8 0, .int .u8 0, .int .u8 0, .int .u8 0,
  .int .u16 cnt, .int .u8 0, .int .u8 0, .int .u8 0, .bool false,
  .int .u8 0, .int .u8 0,
  .int .u8 0, .int .u8 0, .int .u8 0, .int .i64 0, .int .i64 0, .int .i64 0,
  .int .u8 0, .int .i64 0,
  .int .u8 0, .int .u8 0, .int .u8 0, .int .u8 0, .int .u8 0, .int .u8 0, .int .u8 0, .int .u8 0, .int .u8 0, .int .u8 0, .int .u8 0, .int .u8 0, .int .u8 0, .int .u8 0, .int .u8 0, .int .u8 0, .int .u8 0, .int .u8 0, .int .u8 0, .int .u8 0, .int .u8 0, .int .u8 0, .int .u8 0, .int .u8 0, .int .u8 0, .int .u8 0, .int .u8 0, .int .u8 0, .int .u8 0, .int .u8 0, .int .u8 0, .int .u8 0, .int .u8 0, .int .u8 0, .int .u8 0, .int .u8 0, .int .u8 0, .int .u8 0, .int .u8 0, .int .u8 0, .int .u8 0, .int .u8 0, .int .u8 0, .int .u8 0, .int .u8 0, .int .u8 0, .int .u8 0, .int .u8 0,
  .bool false, .int .i64 0, .int .i64 0, .bool false, .int .i64 0, .int .i64 0, .int .i64 0, .bool false, .int .i64 0, .int .i64 0, .int .i64 0, .bool false, .int .i64 0, .int .i64 0, .int .i64 0, .bool false, .int .i64 0, .int .i64 0, .int .i64 0, .int .i64 0, .int .i64 0, .bool false,
  .int .u8 0, .int .u8 0, .int .u64 M.steps, .int .u64 M.cyc,
  .slice (some ⟨S.rb, 0, none⟩) 32768 32768, .slice none 0 0,
  .string S.title, .int .i64 0, .bool false, .bool S.batt, .int .i64 2, .int .i64 0, .bool S.whole,
  .pointer (some ⟨S.tb, 0, none⟩), .pointer (some ⟨S.u, 0, none⟩), S.ram]
def mlist (S : St) (M : Mc) (cnt : Int) (acc : Value) : List Value := hd S M cnt ++ (M.work.map (Value.int .u8) ++ (List.replicate 127 (Value.int .u8 0) ++ [acc]))
set_option maxRecDepth 100000 in
theorem hd_length (S : St) (M : Mc) (cnt : Int) : (hd S M cnt).length = 135 := rfl
theorem mlist_length (S : St) (M : Mc) (cnt : Int) (acc : Value) (h : M.work.length = 8192) : (mlist S M cnt acc).length = 8455 := by simp [mlist, hd_length, h]
theorem mlist_front (S : St) (M : Mc) (cnt : Int) (acc : Value) (k : Nat) (hk : k < 135) : (mlist S M cnt acc)[k]? = (hd S M cnt)[k]? := List.getElem?_append_left (by rw [hd_length]; exact hk)
theorem mlist_work (S : St) (M : Mc) (cnt : Int) (acc : Value) (h : M.work.length = 8192) (i : Nat) (hi : i < 8192) : (mlist S M cnt acc)[135 + i]? = some (.int .u8 (M.work.getD i 0)) := by
  unfold mlist
  rw [List.getElem?_append_right (by rw [hd_length]; omega), hd_length, Nat.add_sub_cancel_left, List.getElem?_append_left (by simp; omega), List.getElem?_map, List.getD_eq_getElem?_getD, List.getElem?_eq_getElem (by omega)]
  rfl
theorem mlist_acc (S : St) (M : Mc) (cnt : Int) (acc : Value) (h : M.work.length = 8192) : (mlist S M cnt acc)[8454]? = some acc := by
  unfold mlist
  rw [List.getElem?_append_right (by rw [hd_length]; omega), hd_length, List.getElem?_append_right (by simp [h]), List.getElem?_append_right (by simp [h])]
  simp [h]
theorem mlist_setacc (S : St) (M : Mc) (cnt : Int) (acc acc' : Value) (h : M.work.length = 8192) : (mlist S M cnt acc).set 8454 acc' = mlist S M cnt acc' := by
  unfold mlist
  rw [List.set_append_right _ _ (by rw [hd_length]; omega), hd_length, List.set_append_right _ _ (by simp [h]), List.set_append_right _ _ (by simp [h])]
  simp [h]
theorem mlist_setwork (S : St) (M : Mc) (cnt : Int) (acc : Value) (h : M.work.length = 8192) (i : Nat) (hi : i < 8192) (v : Int) : (mlist S M cnt acc).set (135 + i) (.int .u8 v) = mlist S { M with work := M.work.set i v } cnt acc := by
  unfold mlist
  rw [List.set_append_right _ _ (by rw [hd_length]; omega), hd_length, Nat.add_sub_cancel_left, List.set_append_left _ _ (by simp; omega), ← List.map_set]
  rfl

/-- A machine in a world: A is the block of what is told of a step, if there is one. -/
structure MachP (w : World) (S : St) (M : Mc) (A : Option Nat) (cnt : Int) (acc : Value) (xs : List Value) : Prop where
  blk : Blk w S.m 86 (mlist S M cnt acc).toArray
  cnt0 : 0 ≤ cnt
  cnt1 : cnt ≤ 65535
  own : w.ownsRow 0 230 3 acc M.n xs
  ab : acc.ownBlock = A
  work : M.work.length = 8192
  rom : Mem w S.rb S.zs
  romlen : S.zs.length = 32768
  unit : w.cell? ⟨S.u, 8352, none⟩ = some (.int .u8 0)
  tab : Blk w S.tb 139 (tlist M.filled).toArray
  mu : S.m ≠ S.u
  mr : S.m ≠ S.rb
  mt : S.m ≠ S.tb
  ur : S.u ≠ S.rb
  ut : S.u ≠ S.tb
  rt : S.rb ≠ S.tb
  am : A ≠ some S.m
  au : A ≠ some S.u
  ar : A ≠ some S.rb
  at_ : A ≠ some S.tb
def Mach (w : World) (S : St) (M : Mc) (A : Option Nat) : Prop := ∃ cnt acc xs, MachP w S M A cnt acc xs
/-- A block that is none of a machine's. -/
structure Free (S : St) (A : Option Nat) (k : Nat) : Prop where
  m : k ≠ S.m
  u : k ≠ S.u
  r : k ≠ S.rb
  t : k ≠ S.tb
  a : A ≠ some k
/-- What a step's parts may change: the machine, its table, what is told of the step, and blocks X. -/
structure Chg (S : St) (X : Nat → Prop) (A : Option Nat) (w w' : World) (A' : Option Nat) : Prop where
  step : Step (fun k => k = S.m ∨ k = S.tb ∨ A = some k ∨ X k) w w'
  new : A' = A ∨ ∃ k, A' = some k ∧ w.heap.size ≤ k

section
variable {w w' : World} {S : St} {M M' : Mc} {A A' : Option Nat} {cnt : Int} {acc : Value} {xs : List Value} {X : Nat → Prop}
theorem MachP.alt (h : MachP w S M A cnt acc xs) : ∀ k, A = some k → k < w.heap.size := fun k hk => (h.own.lt k (h.ab.trans hk)).2
theorem MachP.ult (h : MachP w S M A cnt acc xs) : S.u < w.heap.size := World.block_lt_of_cell? w ⟨S.u, 8352, none⟩ h.unit
/-- What leaves a machine's blocks leaves it. -/
theorem MachP.keep (h : MachP w S M A cnt acc xs) (hs : Step X w w') (hm : ¬ X S.m) (hu : ¬ X S.u) (hr : ¬ X S.rb) (ht : ¬ X S.tb) (ha : ∀ k, A = some k → ¬ X k) : MachP w' S M A cnt acc xs where
  blk := h.blk.step hs hm
  cnt0 := h.cnt0
  cnt1 := h.cnt1
  own := by
    refine ⟨h.own.1, ?_⟩
    rcases h.own.2 with hn | ⟨g, cap, cur, rfl, hb, hgg, rest⟩
    · exact .inl hn
    · refine .inr ⟨g, cap, cur, rfl, hb, ?_, rest⟩
      have hg := h.ab
      simp only [Value.ownBlock] at hg
      rw [hs.block g (Array.getElem?_eq_some_iff.1 hgg).1 (ha g hg.symm)]
      exact hgg
  ab := h.ab
  work := h.work
  rom := ⟨h.rom.1.step hs hr, h.rom.2⟩
  romlen := h.romlen
  unit := (World.cell?_of_block (hs.block S.u h.ult hu)).trans h.unit
  tab := h.tab.step hs ht
  mu := h.mu
  mr := h.mr
  mt := h.mt
  ur := h.ur
  ut := h.ut
  rt := h.rt
  am := h.am
  au := h.au
  ar := h.ar
  at_ := h.at_
theorem Mach.keep (h : Mach w S M A) (hs : Step X w w') (hm : ¬ X S.m) (hu : ¬ X S.u) (hr : ¬ X S.rb) (ht : ¬ X S.tb) (ha : ∀ k, A = some k → ¬ X k) : Mach w' S M A := by
  obtain ⟨cnt, acc, xs, h⟩ := h
  exact ⟨cnt, acc, xs, h.keep hs hm hu hr ht ha⟩
theorem Mach.below (h : Mach w S M A) {B : Nat} (hb : Below B w w') (hB : w.heap.size ≤ B) : Mach w' S M A :=
  h.keep (X := fun _ => False) (Step.of hb hB) id id id id (fun _ _ => id)
theorem MachP.below (h : MachP w S M A cnt acc xs) {B : Nat} (hb : Below B w w') (hB : w.heap.size ≤ B) : MachP w' S M A cnt acc xs :=
  h.keep (X := fun _ => False) (Step.of hb hB) id id id id (fun _ _ => id)
theorem MachP.far (h : MachP w S M A cnt acc xs) {g : Nat} (hs : Step (· = g) w w') (hg : Free S A g) : MachP w' S M A cnt acc xs :=
  h.keep hs (fun e => hg.m e.symm) (fun e => hg.u e.symm) (fun e => hg.r e.symm) (fun e => hg.t e.symm) (fun k hk e => hg.a (by rw [hk, e]))
theorem Mach.far (h : Mach w S M A) {g : Nat} (hs : Step (· = g) w w') (hg : Free S A g) : Mach w' S M A :=
  h.keep hs (fun e => hg.m e.symm) (fun e => hg.u e.symm) (fun e => hg.r e.symm) (fun e => hg.t e.symm) (fun k hk e => hg.a (by rw [hk, e]))
theorem Mach.free (h : Mach w S M A) {g : Nat} (hg : w.heap.size ≤ g) : Free S A g := by
  obtain ⟨cnt, acc, xs, h⟩ := h
  have h1 := h.blk.lt
  have h2 := h.ult
  have h3 := h.rom.lt
  have h4 := h.tab.lt
  exact ⟨by omega, by omega, by omega, by omega, fun e => by have := h.alt g e; omega⟩
theorem MachP.free (h : MachP w S M A cnt acc xs) {g : Nat} (hg : w.heap.size ≤ g) : Free S A g := Mach.free ⟨cnt, acc, xs, h⟩ hg
/-- A store into the machine's own block. -/
theorem MachP.store (h : MachP w S M A cnt acc xs) (hs : Step (· = S.m) w w') {cnt' : Int} (hb : Blk w' S.m 86 (mlist S M' cnt' acc).toArray) (h0 : 0 ≤ cnt') (h1 : cnt' ≤ 65535) (hn : M'.n = M.n) (hw : M'.work.length = 8192) (hf : M'.filled = M.filled) : MachP w' S M' A cnt' acc xs := by
  have hu : ¬ S.u = S.m := fun e => h.mu e.symm
  have hr : ¬ S.rb = S.m := fun e => h.mr e.symm
  have ht : ¬ S.tb = S.m := fun e => h.mt e.symm
  refine ⟨hb, h0, h1, ?_, h.ab, hw, ⟨h.rom.1.step hs hr, h.rom.2⟩, h.romlen, (World.cell?_of_block (hs.block S.u h.ult hu)).trans h.unit, by rw [hf]; exact h.tab.step hs ht, h.mu, h.mr, h.mt, h.ur, h.ut, h.rt, h.am, h.au, h.ar, h.at_⟩
  rw [hn]
  refine ⟨h.own.1, ?_⟩
  rcases h.own.2 with hn | ⟨g, cap, cur, rfl, hb, hgg, rest⟩
  · exact .inl hn
  · refine .inr ⟨g, cap, cur, rfl, hb, ?_, rest⟩
    have hg := h.ab
    simp only [Value.ownBlock] at hg
    rw [hs.block g (Array.getElem?_eq_some_iff.1 hgg).1 (fun e => h.am (by rw [← hg]; exact congrArg some e))]
    exact hgg
theorem MachP.cell (h : MachP w S M A cnt acc xs) (k : Nat) (hk : k < 135) : w.cell? ⟨S.m, k, none⟩ = (hd S M cnt)[k]? := (h.blk.cell k).trans (by rw [List.getElem?_toArray]; exact mlist_front S M cnt acc k hk)
theorem MachP.workCell (h : MachP w S M A cnt acc xs) (i : Nat) (hi : i < 8192) : w.cell? ⟨S.m, 135 + i, none⟩ = some (.int .u8 (M.work.getD i 0)) := (h.blk.cell _).trans (by rw [List.getElem?_toArray]; exact mlist_work S M cnt acc h.work i hi)
theorem MachP.accCell (h : MachP w S M A cnt acc xs) : w.cell? ⟨S.m, 8454, none⟩ = some acc := (h.blk.cell _).trans (by rw [List.getElem?_toArray]; exact mlist_acc S M cnt acc h.work)

theorem Chg.refl (S : St) (X : Nat → Prop) (A : Option Nat) (w : World) : Chg S X A w w A := ⟨Step.refl _ _, .inl rfl⟩
theorem Chg.trans {w2 : World} {A2 : Option Nat} (h : Chg S X A w w' A') (h2 : Chg S X A' w' w2 A2) : Chg S X A w w2 A2 := by
  refine ⟨h.step.trans' h2.step ?_, ?_⟩
  · rintro k hk (e | e | e | e)
    · exact .inl e
    · exact .inr (.inl e)
    · rcases h.new with hn | ⟨j, hj, hlt⟩
      · exact .inr (.inr (.inl (hn ▸ e)))
      · rw [hj] at e
        obtain rfl := Option.some.inj e
        omega
    · exact .inr (.inr (.inr e))
  · have hz := h.step.size
    rcases h2.new with hn | ⟨j, hj, hlt⟩
    · rw [hn]; exact h.new
    · exact .inr ⟨j, hj, by omega⟩
theorem Chg.mono {Y : Nat → Prop} (h : Chg S X A w w' A') (hY : ∀ k, k < w.heap.size → X k → Y k) : Chg S Y A w w' A' := by
  refine ⟨⟨h.step.os, h.step.tape, h.step.output, h.step.size, fun k hk hg => h.step.block k hk ?_⟩, h.new⟩
  rintro (e | e | e | e)
  · exact hg (.inl e)
  · exact hg (.inr (.inl e))
  · exact hg (.inr (.inr (.inl e)))
  · exact hg (.inr (.inr (.inr (hY k hk e))))
theorem Chg.of (hb : Below w.heap.size w w') : Chg S X A w w' A := ⟨Step.of hb (Nat.le_refl _), .inl rfl⟩
theorem Chg.ofStep {Y : Nat → Prop} (hb : Step Y w w') (hY : ∀ k, Y k → k = S.m ∨ k = S.tb ∨ A = some k ∨ X k) : Chg S X A w w' A := ⟨hb.mono hY, .inl rfl⟩
theorem Chg.drewN {n : Nat} (h : Chg S X A w w' A') : Chg S X A w (w'.drewN n) A' := ⟨h.step.drewN n, h.new⟩
/-- A block of one's own stays. -/
theorem Chg.blk (h : Chg S X A w w' A') {g : Nat} {t : TypeId} {cs : Array Value} (hB : Blk w g t cs) (hg : Free S A g) (hX : ¬ X g) : Blk w' g t cs := by
  refine hB.step h.step ?_
  rintro (e | e | e | e)
  · exact hg.m e
  · exact hg.t e
  · exact hg.a e
  · exact hX e
theorem Chg.free (h : Chg S X A w w' A') {g : Nat} (hg : Free S A g) (hlt : g < w.heap.size) : Free S A' g := by
  refine ⟨hg.m, hg.u, hg.r, hg.t, fun e => ?_⟩
  rcases h.new with hn | ⟨j, hj, hz⟩
  · exact hg.a (hn ▸ e)
  · rw [hj] at e
    obtain rfl := Option.some.inj e
    omega
/-- The walk's laws at a machine's own cells. -/
theorem MachP.size (h : MachP w S M A cnt acc xs) : (mlist S M cnt acc).toArray.size = 8455 := by rw [List.size_toArray, mlist_length S M cnt acc h.work]
end
section
variable {P : Program} {ops : Array Oper} {rest : List Oper} {op : Oper} {a : Act} {w : World} {Q : Exit → Act → World → Prop} {S : St} {M : Mc} {A : Option Nat} {cnt : Int} {acc : Value} {xs : List Value}
theorem wpList_loadMach (hgd : op.guard = none) (T : TypeId) (x : Operand) (ho : op.op = .load T x) (k : Nat) (hx : a.eval x = .pointer (some ⟨S.m, k, none⟩)) (H : MachP w S M A cnt acc xs) (l : List Value)
    (hl : ((mlist S M cnt acc).drop k).take l.length = l) (d : TypeDesc) (hu : P.underlying T = some d) (hd : d.isRow = true) (hi : (P.info? T).map (·.size) = some l.length)
    (h : wpList P ops Q rest (a.put op.dst (.agg l.toArray)) w) : wpList P ops Q (op :: rest) a w :=
  wpList_loadM hgd T x ho S.m k hx 86 _ H.blk l (by simpa using hl) d hu hd hi h
theorem wpList_storeMach (hgd : op.guard = none) (T : TypeId) (x y : Operand) (ho : op.op = .store T x y) (k : Nat) (hx : a.eval x = .pointer (some ⟨S.m, k, none⟩)) (H : MachP w S M A cnt acc xs) (l : List Value)
    (hy : a.eval y = .agg l.toArray) (hi : (P.info? T).map (·.size) = some l.length) (h1 : ∀ v ∈ l, v.oneCell' = true) (hk : k + l.length ≤ 135) (M' : Mc) (cnt' : Int)
    (hs : (mlist S M cnt acc).take k ++ l ++ (mlist S M cnt acc).drop (k + l.length) = mlist S M' cnt' acc) (h0 : 0 ≤ cnt') (hc1 : cnt' ≤ 65535) (hn : M'.n = M.n) (hw : M'.work = M.work) (hf : M'.filled = M.filled)
    (h : ∀ w', Hid (MachP w' S M' A cnt' acc xs) → Hid (Step (· = S.m) w w') → wpList P ops Q rest (a.put op.dst undef) w') : wpList P ops Q (op :: rest) a w :=
  wpList_storeM hgd T x y ho S.m k hx 86 _ H.blk l hy hi h1 (by rw [H.size]; omega) (mlist S M' cnt' acc).toArray (by simpa using hs) fun w' h2 h3 => h w' (H.store h3.out h2.out h0 hc1 hn (by rw [hw]; exact H.work) hf) h3
theorem wpList_storeMach1 (hgd : op.guard = none) (T : TypeId) (x y : Operand) (ho : op.op = .store T x y) (k : Nat) (hx : a.eval x = .pointer (some ⟨S.m, k, none⟩)) (H : MachP w S M A cnt acc xs) (v : Value)
    (hy : a.eval y = v) (hv : v.cells = #[v]) (hi : (P.info? T).map (·.size) = some 1) (h1 : v.oneCell' = true) (hk : k < 8455) (M' : Mc) (cnt' : Int)
    (hs : (mlist S M cnt acc).set k v = mlist S M' cnt' acc) (h0 : 0 ≤ cnt') (hc1 : cnt' ≤ 65535) (hn : M'.n = M.n) (hw : M'.work.length = 8192) (hf : M'.filled = M.filled)
    (h : ∀ w', Hid (MachP w' S M' A cnt' acc xs) → Hid (Step (· = S.m) w w') → wpList P ops Q rest (a.put op.dst undef) w') : wpList P ops Q (op :: rest) a w :=
  wpList_storeC hgd T x y ho S.m k hx 86 _ H.blk v hy hv hi h1 (by rw [H.size]; omega) (mlist S M' cnt' acc).toArray (by simpa using hs) fun w' h2 h3 => h w' (H.store h3.out h2.out h0 hc1 hn hw hf) h3
end
theorem Chg.ofM {S : St} {X : Nat → Prop} {A : Option Nat} {w w' : World} (h : Step (· = S.m) w w') : Chg S X A w w' A := Chg.ofStep h (fun k hk => .inl hk)
end Go.Proofs.YtglklbcohbeacaaGreat
