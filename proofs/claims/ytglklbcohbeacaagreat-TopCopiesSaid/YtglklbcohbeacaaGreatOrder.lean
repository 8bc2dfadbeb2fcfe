/- Contract of an order: one of four parts does it. -/
import Derived.Test.YtglklbcohbeacaaGreatJump
namespace Go.Proofs.YtglklbcohbeacaaGreat
open Go.RowKit
set_option linter.unusedSimpArgs false
set_option linter.unusedVariables false
set_option maxRecDepth 100000 in
set_option maxHeartbeats 2000000 in
theorem order_1 (S : St) (M : Mc) (A : Option Nat) (R : Rg) (r : Nat) (K x y sz n a : Int) (hK : 7 ≤ K) (M' : Mc) (R' : Rg)   (c65 : (∀ w, Mach w S M A → Blk w r 148 (rl S R).toArray → Calls Tryz.prog 65 #[.pointer (some ⟨r, 0, none⟩), .agg #[.int .i64 K, .int .i64 x, .int .i64 y, .int .i64 sz, .int .u16 n]] w (RBus r S M' A R' (.bool true) w))) (w : World) (hM : Mach w S M A) (hF : Free S A r) (h : Blk w r 148 (rl S R).toArray) :
    Calls Tryz.prog 56 #[.pointer (some ⟨r, 0, none⟩), .agg #[.int .i64 K, .int .i64 x, .int .i64 y, .int .i64 sz, .int .u16 n], .int .u16 a] w (RBus r S M' A R' (.bool true) w) := by
  have C65 := hid_ c65
  have h := hid_ h
  have hM := hid_ hM
  have hFr := hid_ hF
  have q2 : (K == 2) = false := by simp; omega
  have q3 : (K == 3) = false := by simp; omega
  have q4 : (K == 4) = false := by simp; omega
  have q5 : (K == 5) = false := by simp; omega
  have q6 : (K == 6) = false := by simp; omega
  go_enter Tryz.func56, Tryz.ntmps56
  go_wp2_with (first
    | ((with_reducible refine wpList_boxA (op := ⟨some 4, _, _, _, _, _⟩) rfl 46 (.tmp 1) rfl #[.int .i64 K, .int .i64 x, .int .i64 y, .int .i64 sz, .int .u16 n] rfl ?_); intro w1 HB1 HW1 hz1; have H1 := hid_ (h.out.below HW1.out h.out.lt); have HM1 := hid_ (hM.out.below HW1.out (Nat.le_refl _)); have C1 : Hid (Chg S (· = r) A w w1 A) := Chg.of HW1.out; have hr := h.out.lt; have g0 := HB1.out.cell 0; have g1 := HB1.out.cell 1; have g2 := HB1.out.cell 2; have g3 := HB1.out.cell 3; have g4 := HB1.out.cell 4; simp at g0 g1 g2 g3 g4)
    | (go_at_call 65; refine (C65.out w1 HM1.out H1.out).mono ?_; rintro e w9 ⟨rfl, A9, hM9, hB9, hC9⟩))
  go_ret
  exact ⟨rfl, A9, hM9, hB9, C1.out.trans hC9⟩
set_option maxRecDepth 100000 in
set_option maxHeartbeats 2000000 in
theorem order_2 (S : St) (M : Mc) (A : Option Nat) (R : Rg) (r : Nat) (K x y sz n a : Int) (hK : 7 ≤ K) (M' : Mc) (R' : Rg)  (c65 : (∀ w, Mach w S M A → Blk w r 148 (rl S R).toArray → Calls Tryz.prog 65 #[.pointer (some ⟨r, 0, none⟩), .agg #[.int .i64 K, .int .i64 x, .int .i64 y, .int .i64 sz, .int .u16 n]] w (Ret (.bool false) w))) (c66 : (∀ w, Mach w S M A → Blk w r 148 (rl S R).toArray → Calls Tryz.prog 66 #[.pointer (some ⟨r, 0, none⟩), .agg #[.int .i64 K, .int .i64 x, .int .i64 y, .int .i64 sz, .int .u16 n]] w (RBus r S M' A R' (.bool true) w))) (w : World) (hM : Mach w S M A) (hF : Free S A r) (h : Blk w r 148 (rl S R).toArray) :
    Calls Tryz.prog 56 #[.pointer (some ⟨r, 0, none⟩), .agg #[.int .i64 K, .int .i64 x, .int .i64 y, .int .i64 sz, .int .u16 n], .int .u16 a] w (RBus r S M' A R' (.bool true) w) := by
  have C65 := hid_ c65
  have C66 := hid_ c66
  have h := hid_ h
  have hM := hid_ hM
  have hFr := hid_ hF
  have q2 : (K == 2) = false := by simp; omega
  have q3 : (K == 3) = false := by simp; omega
  have q4 : (K == 4) = false := by simp; omega
  have q5 : (K == 5) = false := by simp; omega
  have q6 : (K == 6) = false := by simp; omega
  go_enter Tryz.func56, Tryz.ntmps56
  go_wp2_with (first
    | ((with_reducible refine wpList_boxA (op := ⟨some 4, _, _, _, _, _⟩) rfl 46 (.tmp 1) rfl #[.int .i64 K, .int .i64 x, .int .i64 y, .int .i64 sz, .int .u16 n] rfl ?_); intro w1 HB1 HW1 hz1; have H1 := hid_ (h.out.below HW1.out h.out.lt); have HM1 := hid_ (hM.out.below HW1.out (Nat.le_refl _)); have C1 : Hid (Chg S (· = r) A w w1 A) := Chg.of HW1.out; have hr := h.out.lt; have g0 := HB1.out.cell 0; have g1 := HB1.out.cell 1; have g2 := HB1.out.cell 2; have g3 := HB1.out.cell 3; have g4 := HB1.out.cell 4; simp at g0 g1 g2 g3 g4)
    | (go_at_call 65; refine (C65.out w1 HM1.out H1.out).mono ?_; rintro e w2 ⟨rfl, hc, hf, hz, hb⟩; have H2 := hid_ (H1.out.below hb H1.out.lt); have HM2 := hid_ (Mach.below HM1.out hb (Nat.le_refl _)); have HB2 := hid_ (HB1.out.below hb HB1.out.lt); have C2 := hid_ (C1.out.trans (Chg.of hb)); clear hc hf hz hb g0 g1 g2 g3 g4; have g0 := HB2.out.cell 0; have g1 := HB2.out.cell 1; have g2 := HB2.out.cell 2; have g3 := HB2.out.cell 3; have g4 := HB2.out.cell 4; simp at g0 g1 g2 g3 g4)
    | (go_at_call 66; refine (C66.out w2 HM2.out H2.out).mono ?_; rintro e w9 ⟨rfl, A9, hM9, hB9, hC9⟩))
  go_ret
  exact ⟨rfl, A9, hM9, hB9, C2.out.trans hC9⟩
set_option maxRecDepth 100000 in
set_option maxHeartbeats 2000000 in
theorem order_3 (S : St) (M : Mc) (A : Option Nat) (R : Rg) (r : Nat) (K x y sz n a : Int) (hK : 7 ≤ K) (M' : Mc) (R' : Rg)  (c65 : (∀ w, Mach w S M A → Blk w r 148 (rl S R).toArray → Calls Tryz.prog 65 #[.pointer (some ⟨r, 0, none⟩), .agg #[.int .i64 K, .int .i64 x, .int .i64 y, .int .i64 sz, .int .u16 n]] w (Ret (.bool false) w))) (c66 : (∀ w, Mach w S M A → Blk w r 148 (rl S R).toArray → Calls Tryz.prog 66 #[.pointer (some ⟨r, 0, none⟩), .agg #[.int .i64 K, .int .i64 x, .int .i64 y, .int .i64 sz, .int .u16 n]] w (Ret (.bool false) w))) (c67 : (∀ w, Mach w S M A → Blk w r 148 (rl S R).toArray → Calls Tryz.prog 67 #[.pointer (some ⟨r, 0, none⟩), .agg #[.int .i64 K, .int .i64 x, .int .i64 y, .int .i64 sz, .int .u16 n]] w (RBus r S M' A R' (.bool true) w))) (w : World) (hM : Mach w S M A) (hF : Free S A r) (h : Blk w r 148 (rl S R).toArray) :
    Calls Tryz.prog 56 #[.pointer (some ⟨r, 0, none⟩), .agg #[.int .i64 K, .int .i64 x, .int .i64 y, .int .i64 sz, .int .u16 n], .int .u16 a] w (RBus r S M' A R' (.bool true) w) := by
  have C65 := hid_ c65
  have C66 := hid_ c66
  have C67 := hid_ c67
  have h := hid_ h
  have hM := hid_ hM
  have hFr := hid_ hF
  have q2 : (K == 2) = false := by simp; omega
  have q3 : (K == 3) = false := by simp; omega
  have q4 : (K == 4) = false := by simp; omega
  have q5 : (K == 5) = false := by simp; omega
  have q6 : (K == 6) = false := by simp; omega
  go_enter Tryz.func56, Tryz.ntmps56
  go_wp2_with (first
    | ((with_reducible refine wpList_boxA (op := ⟨some 4, _, _, _, _, _⟩) rfl 46 (.tmp 1) rfl #[.int .i64 K, .int .i64 x, .int .i64 y, .int .i64 sz, .int .u16 n] rfl ?_); intro w1 HB1 HW1 hz1; have H1 := hid_ (h.out.below HW1.out h.out.lt); have HM1 := hid_ (hM.out.below HW1.out (Nat.le_refl _)); have C1 : Hid (Chg S (· = r) A w w1 A) := Chg.of HW1.out; have hr := h.out.lt; have g0 := HB1.out.cell 0; have g1 := HB1.out.cell 1; have g2 := HB1.out.cell 2; have g3 := HB1.out.cell 3; have g4 := HB1.out.cell 4; simp at g0 g1 g2 g3 g4)
    | (go_at_call 65; refine (C65.out w1 HM1.out H1.out).mono ?_; rintro e w2 ⟨rfl, hc, hf, hz, hb⟩; have H2 := hid_ (H1.out.below hb H1.out.lt); have HM2 := hid_ (Mach.below HM1.out hb (Nat.le_refl _)); have HB2 := hid_ (HB1.out.below hb HB1.out.lt); have C2 := hid_ (C1.out.trans (Chg.of hb)); clear hc hf hz hb g0 g1 g2 g3 g4; have g0 := HB2.out.cell 0; have g1 := HB2.out.cell 1; have g2 := HB2.out.cell 2; have g3 := HB2.out.cell 3; have g4 := HB2.out.cell 4; simp at g0 g1 g2 g3 g4)
    | (go_at_call 66; refine (C66.out w2 HM2.out H2.out).mono ?_; rintro e w3 ⟨rfl, hc, hf, hz, hb⟩; have H3 := hid_ (H2.out.below hb H2.out.lt); have HM3 := hid_ (Mach.below HM2.out hb (Nat.le_refl _)); have HB3 := hid_ (HB2.out.below hb HB2.out.lt); have C3 := hid_ (C2.out.trans (Chg.of hb)); clear hc hf hz hb g0 g1 g2 g3 g4; have g0 := HB3.out.cell 0; have g1 := HB3.out.cell 1; have g2 := HB3.out.cell 2; have g3 := HB3.out.cell 3; have g4 := HB3.out.cell 4; simp at g0 g1 g2 g3 g4)
    | (go_at_call 67; refine (C67.out w3 HM3.out H3.out).mono ?_; rintro e w9 ⟨rfl, A9, hM9, hB9, hC9⟩))
  go_ret
  exact ⟨rfl, A9, hM9, hB9, C3.out.trans hC9⟩
set_option maxRecDepth 100000 in
set_option maxHeartbeats 2000000 in
theorem order_4 (S : St) (M : Mc) (A : Option Nat) (R : Rg) (r : Nat) (K x y sz n a : Int) (hK : 7 ≤ K) (M' : Mc) (R' : Rg) (t : Bool) (c65 : (∀ w, Mach w S M A → Blk w r 148 (rl S R).toArray → Calls Tryz.prog 65 #[.pointer (some ⟨r, 0, none⟩), .agg #[.int .i64 K, .int .i64 x, .int .i64 y, .int .i64 sz, .int .u16 n]] w (Ret (.bool false) w))) (c66 : (∀ w, Mach w S M A → Blk w r 148 (rl S R).toArray → Calls Tryz.prog 66 #[.pointer (some ⟨r, 0, none⟩), .agg #[.int .i64 K, .int .i64 x, .int .i64 y, .int .i64 sz, .int .u16 n]] w (Ret (.bool false) w))) (c67 : (∀ w, Mach w S M A → Blk w r 148 (rl S R).toArray → Calls Tryz.prog 67 #[.pointer (some ⟨r, 0, none⟩), .agg #[.int .i64 K, .int .i64 x, .int .i64 y, .int .i64 sz, .int .u16 n]] w (Ret (.bool false) w))) (c68 : (∀ w, Mach w S M A → Blk w r 148 (rl S R).toArray → Calls Tryz.prog 68 #[.pointer (some ⟨r, 0, none⟩), .agg #[.int .i64 K, .int .i64 x, .int .i64 y, .int .i64 sz, .int .u16 n]] w (RBus r S M' A R' (.bool t) w))) (w : World) (hM : Mach w S M A) (hF : Free S A r) (h : Blk w r 148 (rl S R).toArray) :
    Calls Tryz.prog 56 #[.pointer (some ⟨r, 0, none⟩), .agg #[.int .i64 K, .int .i64 x, .int .i64 y, .int .i64 sz, .int .u16 n], .int .u16 a] w (RBus r S M' A R' (.bool t) w) := by
  have C65 := hid_ c65
  have C66 := hid_ c66
  have C67 := hid_ c67
  have C68 := hid_ c68
  have h := hid_ h
  have hM := hid_ hM
  have hFr := hid_ hF
  have q2 : (K == 2) = false := by simp; omega
  have q3 : (K == 3) = false := by simp; omega
  have q4 : (K == 4) = false := by simp; omega
  have q5 : (K == 5) = false := by simp; omega
  have q6 : (K == 6) = false := by simp; omega
  go_enter Tryz.func56, Tryz.ntmps56
  go_wp2_with (first
    | ((with_reducible refine wpList_boxA (op := ⟨some 4, _, _, _, _, _⟩) rfl 46 (.tmp 1) rfl #[.int .i64 K, .int .i64 x, .int .i64 y, .int .i64 sz, .int .u16 n] rfl ?_); intro w1 HB1 HW1 hz1; have H1 := hid_ (h.out.below HW1.out h.out.lt); have HM1 := hid_ (hM.out.below HW1.out (Nat.le_refl _)); have C1 : Hid (Chg S (· = r) A w w1 A) := Chg.of HW1.out; have hr := h.out.lt; have g0 := HB1.out.cell 0; have g1 := HB1.out.cell 1; have g2 := HB1.out.cell 2; have g3 := HB1.out.cell 3; have g4 := HB1.out.cell 4; simp at g0 g1 g2 g3 g4)
    | (go_at_call 65; refine (C65.out w1 HM1.out H1.out).mono ?_; rintro e w2 ⟨rfl, hc, hf, hz, hb⟩; have H2 := hid_ (H1.out.below hb H1.out.lt); have HM2 := hid_ (Mach.below HM1.out hb (Nat.le_refl _)); have HB2 := hid_ (HB1.out.below hb HB1.out.lt); have C2 := hid_ (C1.out.trans (Chg.of hb)); clear hc hf hz hb g0 g1 g2 g3 g4; have g0 := HB2.out.cell 0; have g1 := HB2.out.cell 1; have g2 := HB2.out.cell 2; have g3 := HB2.out.cell 3; have g4 := HB2.out.cell 4; simp at g0 g1 g2 g3 g4)
    | (go_at_call 66; refine (C66.out w2 HM2.out H2.out).mono ?_; rintro e w3 ⟨rfl, hc, hf, hz, hb⟩; have H3 := hid_ (H2.out.below hb H2.out.lt); have HM3 := hid_ (Mach.below HM2.out hb (Nat.le_refl _)); have HB3 := hid_ (HB2.out.below hb HB2.out.lt); have C3 := hid_ (C2.out.trans (Chg.of hb)); clear hc hf hz hb g0 g1 g2 g3 g4; have g0 := HB3.out.cell 0; have g1 := HB3.out.cell 1; have g2 := HB3.out.cell 2; have g3 := HB3.out.cell 3; have g4 := HB3.out.cell 4; simp at g0 g1 g2 g3 g4)
    | (go_at_call 67; refine (C67.out w3 HM3.out H3.out).mono ?_; rintro e w4 ⟨rfl, hc, hf, hz, hb⟩; have H4 := hid_ (H3.out.below hb H3.out.lt); have HM4 := hid_ (Mach.below HM3.out hb (Nat.le_refl _)); have HB4 := hid_ (HB3.out.below hb HB3.out.lt); have C4 := hid_ (C3.out.trans (Chg.of hb)); clear hc hf hz hb g0 g1 g2 g3 g4; have g0 := HB4.out.cell 0; have g1 := HB4.out.cell 1; have g2 := HB4.out.cell 2; have g3 := HB4.out.cell 3; have g4 := HB4.out.cell 4; simp at g0 g1 g2 g3 g4)
    | (go_at_call 68; refine (C68.out w4 HM4.out H4.out).mono ?_; rintro e w9 ⟨rfl, A9, hM9, hB9, hC9⟩))
  go_ret
  exact ⟨rfl, A9, hM9, hB9, C4.out.trans hC9⟩
theorem RRet.bus {r : Nat} {S : St} {M : Mc} {A : Option Nat} {R' : Rg} {v : Value} {w w' : World} {e : Ending} (hM : Mach w S M A) (hF : Free S A r) (h : RRet r S R' v w e w') : RBus r S M A R' v w e w' :=
  ⟨h.1, A, hM.far h.2.2 hF, h.2.1, Chg.ofR h.2.2⟩
end Go.Proofs.YtglklbcohbeacaaGreat
