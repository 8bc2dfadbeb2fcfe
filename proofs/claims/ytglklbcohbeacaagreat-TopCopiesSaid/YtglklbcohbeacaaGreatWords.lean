/- Contracts of the orders that do something to words, or by which A goes somewhere, or comes from. -/
import Derived.Test.YtglklbcohbeacaaGreatDec
namespace Go.Proofs.YtglklbcohbeacaaGreat
open Go.RowKit
set_option linter.unusedSimpArgs false
set_option linter.unusedVariables false

/-- What a part gives that turns the processor, and the machine. -/
def RBus (r : Nat) (S : St) (M' : Mc) (A : Option Nat) (R' : Rg) (v : Value) (w : World) (e : Ending) (w' : World) : Prop :=
  e = .returned v ∧ ∃ A', Mach w' S M' A' ∧ Blk w' r 148 (rl S R').toArray ∧ Chg S (· = r) A w w' A'
def Mc.bus (M : Mc) : Mc := M.tick.log
set_option maxRecDepth 100000 in
set_option maxHeartbeats 2000000 in
theorem words_no_23 (S : St) (R : Rg) (r : Nat) (x y sz n : Int) (hn0 : 0 ≤ n) (hn1 : n ≤ 65535) (w : World) (h : Blk w r 148 (rl S R).toArray) :
    Calls Tryz.prog 66 #[.pointer (some ⟨r, 0, none⟩), .agg #[.int .i64 23, .int .i64 x, .int .i64 y, .int .i64 sz, .int .u16 n]] w (Ret (.bool false) w) := by
  have h := hid_ h
  go_enter Tryz.func66, Tryz.ntmps66
  go_wp2_with (first
    | ((with_reducible refine wpList_boxA (op := ⟨some 3, _, _, _, _, _⟩) rfl 46 (.tmp 1) rfl #[.int .i64 23, .int .i64 x, .int .i64 y, .int .i64 sz, .int .u16 n] rfl ?_); intro w1 HB1 HW1 hz1; have H1 := hid_ (h.out.below HW1.out h.out.lt); have g4 := HB1.out.cell 4; have g0 := HB1.out.cell 0; have g1 := HB1.out.cell 1; have g2 := HB1.out.cell 2; simp at g0 g1 g2 g4; have hr := h.out.lt))
  go_ret
  exact .of rfl HW1.out
set_option maxRecDepth 100000 in
set_option maxHeartbeats 2000000 in
theorem words_no_32 (S : St) (R : Rg) (r : Nat) (x y sz n : Int) (hn0 : 0 ≤ n) (hn1 : n ≤ 65535) (w : World) (h : Blk w r 148 (rl S R).toArray) :
    Calls Tryz.prog 66 #[.pointer (some ⟨r, 0, none⟩), .agg #[.int .i64 32, .int .i64 x, .int .i64 y, .int .i64 sz, .int .u16 n]] w (Ret (.bool false) w) := by
  have h := hid_ h
  go_enter Tryz.func66, Tryz.ntmps66
  go_wp2_with (first
    | ((with_reducible refine wpList_boxA (op := ⟨some 3, _, _, _, _, _⟩) rfl 46 (.tmp 1) rfl #[.int .i64 32, .int .i64 x, .int .i64 y, .int .i64 sz, .int .u16 n] rfl ?_); intro w1 HB1 HW1 hz1; have H1 := hid_ (h.out.below HW1.out h.out.lt); have g4 := HB1.out.cell 4; have g0 := HB1.out.cell 0; have g1 := HB1.out.cell 1; have g2 := HB1.out.cell 2; simp at g0 g1 g2 g4; have hr := h.out.lt))
  go_ret
  exact .of rfl HW1.out
set_option maxRecDepth 100000 in
set_option maxHeartbeats 2000000 in
theorem words_no_33 (S : St) (R : Rg) (r : Nat) (x y sz n : Int) (hn0 : 0 ≤ n) (hn1 : n ≤ 65535) (w : World) (h : Blk w r 148 (rl S R).toArray) :
    Calls Tryz.prog 66 #[.pointer (some ⟨r, 0, none⟩), .agg #[.int .i64 33, .int .i64 x, .int .i64 y, .int .i64 sz, .int .u16 n]] w (Ret (.bool false) w) := by
  have h := hid_ h
  go_enter Tryz.func66, Tryz.ntmps66
  go_wp2_with (first
    | ((with_reducible refine wpList_boxA (op := ⟨some 3, _, _, _, _, _⟩) rfl 46 (.tmp 1) rfl #[.int .i64 33, .int .i64 x, .int .i64 y, .int .i64 sz, .int .u16 n] rfl ?_); intro w1 HB1 HW1 hz1; have H1 := hid_ (h.out.below HW1.out h.out.lt); have g4 := HB1.out.cell 4; have g0 := HB1.out.cell 0; have g1 := HB1.out.cell 1; have g2 := HB1.out.cell 2; simp at g0 g1 g2 g4; have hr := h.out.lt))
  go_ret
  exact .of rfl HW1.out
set_option maxRecDepth 100000 in
set_option maxHeartbeats 2000000 in
theorem places_no_23 (S : St) (R : Rg) (r : Nat) (x y sz n : Int) (hn0 : 0 ≤ n) (hn1 : n ≤ 65535) (w : World) (h : Blk w r 148 (rl S R).toArray) :
    Calls Tryz.prog 67 #[.pointer (some ⟨r, 0, none⟩), .agg #[.int .i64 23, .int .i64 x, .int .i64 y, .int .i64 sz, .int .u16 n]] w (Ret (.bool false) w) := by
  have h := hid_ h
  go_enter Tryz.func67, Tryz.ntmps67
  go_wp2_with (first
    | ((with_reducible refine wpList_boxA (op := ⟨some 3, _, _, _, _, _⟩) rfl 46 (.tmp 1) rfl #[.int .i64 23, .int .i64 x, .int .i64 y, .int .i64 sz, .int .u16 n] rfl ?_); intro w1 HB1 HW1 hz1; have H1 := hid_ (h.out.below HW1.out h.out.lt); have g4 := HB1.out.cell 4; have g0 := HB1.out.cell 0; have g1 := HB1.out.cell 1; have g2 := HB1.out.cell 2; simp at g0 g1 g2 g4; have hr := h.out.lt))
  go_ret
  exact .of rfl HW1.out
set_option maxRecDepth 100000 in
set_option maxHeartbeats 2000000 in
theorem words_hl (S : St) (R : Rg) (r : Nat) (x y sz n : Int) (hn0 : 0 ≤ n) (hn1 : n ≤ 65535) (w : World) (h : Blk w r 148 (rl S R).toArray) :
    Calls Tryz.prog 66 #[.pointer (some ⟨r, 0, none⟩), .agg #[.int .i64 9, .int .i64 2, .int .i64 y, .int .i64 sz, .int .u16 n]] w (RRet r S { R with h := n / 256, l := n % 256 } (.bool true) w) := by
  have h := hid_ h
  go_enter Tryz.func66, Tryz.ntmps66
  go_wp2_with (first
    | ((with_reducible refine wpList_boxA (op := ⟨some 3, _, _, _, _, _⟩) rfl 46 (.tmp 1) rfl #[.int .i64 9, .int .i64 2, .int .i64 y, .int .i64 sz, .int .u16 n] rfl ?_); intro w1 HB1 HW1 hz1; have H1 := hid_ (h.out.below HW1.out h.out.lt); have g4 := HB1.out.cell 4; have g0 := HB1.out.cell 0; have g1 := HB1.out.cell 1; have g2 := HB1.out.cell 2; simp at g0 g1 g2 g4; have hr := h.out.lt))
  go_wp2_with (first
    | (go_at_call 82; refine (setpair_hl S R r n hn0 hn1 _ H1.out).mono ?_; rintro e w2 ⟨rfl, hb, hs⟩))
  go_ret
  exact ⟨rfl, hb, (Step.of HW1.out (Nat.le_refl _)).trans hs⟩
set_option maxRecDepth 100000 in
set_option maxHeartbeats 2000000 in
theorem words_de (S : St) (R : Rg) (r : Nat) (x y sz n : Int) (hn0 : 0 ≤ n) (hn1 : n ≤ 65535) (w : World) (h : Blk w r 148 (rl S R).toArray) :
    Calls Tryz.prog 66 #[.pointer (some ⟨r, 0, none⟩), .agg #[.int .i64 9, .int .i64 1, .int .i64 y, .int .i64 sz, .int .u16 n]] w (RRet r S { R with d := n / 256, e := n % 256 } (.bool true) w) := by
  have h := hid_ h
  go_enter Tryz.func66, Tryz.ntmps66
  go_wp2_with (first
    | ((with_reducible refine wpList_boxA (op := ⟨some 3, _, _, _, _, _⟩) rfl 46 (.tmp 1) rfl #[.int .i64 9, .int .i64 1, .int .i64 y, .int .i64 sz, .int .u16 n] rfl ?_); intro w1 HB1 HW1 hz1; have H1 := hid_ (h.out.below HW1.out h.out.lt); have g4 := HB1.out.cell 4; have g0 := HB1.out.cell 0; have g1 := HB1.out.cell 1; have g2 := HB1.out.cell 2; simp at g0 g1 g2 g4; have hr := h.out.lt))
  go_wp2_with (first
    | (go_at_call 82; refine (setpair_de S R r n hn0 hn1 _ H1.out).mono ?_; rintro e w2 ⟨rfl, hb, hs⟩))
  go_ret
  exact ⟨rfl, hb, (Step.of HW1.out (Nat.le_refl _)).trans hs⟩
end Go.Proofs.YtglklbcohbeacaaGreat
