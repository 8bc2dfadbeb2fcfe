/- Contract of a table's decoding. -/
import Derived.Test.YtglklbcohbeacaaGreatOnce
namespace Go.Proofs.YtglklbcohbeacaaGreat
open Go.RowKit
set_option linter.unusedSimpArgs false
set_option linter.unusedVariables false
theorem zero46d (W : World) : (zeroValue 46).run Tryz.prog W = .ok (.agg #[.int .i64 0, .int .i64 0, .int .i64 0, .int .i64 0, .int .u16 0]) W := by kernel_rfl
theorem size29d : (Tryz.prog.info? 29).map (·.size) = some 1 := by kernel_rfl
theorem lo_hi : ∀ x y : Int, 0 ≤ x → x ≤ 255 → 0 ≤ y → y ≤ 255 → bits .or .u16 x (IntKind.u16.wrap (y * 256)) = x + 256 * y := by
  intro x y h0 h1 h2 h3
  obtain ⟨a, rfl⟩ := Int.eq_ofNat_of_zero_le h0
  obtain ⟨c, rfl⟩ := Int.eq_ofNat_of_zero_le h2
  have hw : IntKind.u16.wrap ((c : Int) * 256) = ((c * 256 : Nat) : Int) := by simp [IntKind.wrap, IntKind.signed, IntKind.bits]; omega
  have e : a ||| c * 256 = c * 256 + a := by
    have := Nat.shiftLeft_add_eq_or_of_lt (show a < 2 ^ 8 by omega) c
    rw [Nat.shiftLeft_eq] at this
    rw [Nat.or_comm]
    exact this.symm
  rw [hw, u16_or_nat a (c * 256) (by omega) (by omega), e]
  omega
section
variable {P : Program} {ops : Array Oper} {rest : List Oper} {op : Oper} {a : Act} {w : World} {Q : Exit → Act → World → Prop} {g : Nat} {d s : Int} {Pl Bl : List OpV}
theorem wpList_loadPl (hgd : op.guard = none) (x : Operand) (ho : op.op = .load 46 x) (k : Nat) (i : Nat) (hk : k = 3 + 5 * i) (hx : a.eval x = .pointer (some ⟨g, k, none⟩)) (H : TabIs w g d s Pl Bl) (o : OpV) (hi : Pl[i]? = some o)
    (h : wpList Tryz.prog ops Q rest (a.put op.dst (.agg o.list.toArray)) w) : wpList Tryz.prog ops Q (op :: rest) a w := by
  subst hk
  exact wpList_loadM hgd 46 x ho g (3 + 5 * i) hx 139 _ H.1 o.list (by simpa using tbl_getP d s Pl Bl i o hi) _ Tryz.underlying46 rfl size46 h
end
/-- What Do does for a table. -/
def Does (g : Nat) (d s : Int) (P B : List OpV) : Prop := ∀ W, TabIs W g d s P B →
    Calls Tryz.prog 70 #[.pointer (some ⟨g, 0, none⟩), .func (.func 71) #[.pointer (some ⟨g, 0, none⟩)] #[]] W (fun e w' => e = .returned (.tuple #[]) ∧ TabIs w' g 1 0 plainL behindL ∧ Step (· = g) W w')
set_option maxRecDepth 100000 in
set_option maxHeartbeats 1600000 in
theorem decode_1 (g : Nat) (d s : Int) (P B : List OpV) (hdo : Does g d s P B) (a : Nat) (b c : Int) (K x y : Int) (ha : a < 256) (hcb : a ≠ 203) (hb0 : 0 ≤ b) (hb1 : b ≤ 255) (hc0 : 0 ≤ c) (hc1 : c ≤ 255) (ho : plainL[a]? = some ⟨K, x, y, 1, 0⟩) (w : World) (h : TabIs w g d s P B) :
    Calls Tryz.prog 64 #[.pointer (some ⟨g, 0, none⟩), .int .u8 a, .int .u8 b, .int .u8 c] w (fun e w' => e = .returned (.agg (⟨K, x, y, 1, 0⟩ : OpV).list.toArray) ∧ TabIs w' g 1 0 plainL behindL ∧ Step (· = g) w w') := by
  have H := hid_ h
  have HO := hid_ ho
  have hmf : ∀ (fn : Fn) (first cap : Array Value) (w : World), (Instr.makeFunc fn first cap).run Tryz.prog w = .ok (.func fn first cap) w := fun _ _ _ _ => rfl
  have hne : ¬ w.heap.size = g := Nat.ne_of_gt h.lt
  have qcb : ((a : Int) == 203) = false := by simp; omega
  have i0 : (0 : Int) ≤ (a : Int) := by omega
  have i1 : (a : Int) < 256 := by omega
  have elo : bits .or .u16 b (c * 256) = b + 256 * c := by have h := lo_hi b c hb0 hb1 hc0 hc1; rwa [show IntKind.u16.wrap (c * 256) = c * 256 by simp [IntKind.wrap, IntKind.signed, IntKind.bits]; omega] at h
  have ew1 : IntKind.u16.wrap b = b := by simp [IntKind.wrap, IntKind.signed, IntKind.bits]; omega
  have ew2 : IntKind.u16.wrap c = c := by simp [IntKind.wrap, IntKind.signed, IntKind.bits]; omega
  clear h ho hcb
  go_enter Tryz.func64, Tryz.ntmps64
  go_wp2_with (first
    | ((with_reducible refine wpList_allocA (op := ⟨some 8, _, _, _, _, _⟩) rfl 46 rfl #[.int .i64 0, .int .i64 0, .int .i64 0, .int .i64 0, .int .u16 0] zero46d ?_); intro w1 HR1 HW1 hz1; have H1 := hid_ (H.out.below HW1.out H.out.lt); have K1 : Hid (Step (· = g) w w1) := Step.of HW1.out (Nat.le_refl _); clear H)
    | (go_at_call 70; refine (hdo _ H1.out).mono ?_; rintro e w2 ⟨rfl, h2, s2⟩; have H2 := hid_ h2; have HR2 := hid_ (HR1.out.step s2 hne); have K2 := hid_ (K1.out.trans s2); clear h2 s2 H1 K1 HR1)
    | (with_reducible refine wpList_loadPl (op := ⟨some 32, _, _, _, _, _⟩) rfl (.tmp 31) rfl _ a (by omega : 3 + a * 5 = 3 + 5 * a) (by with_unfolding_all rfl) H2.out (⟨K, x, y, 1, 0⟩ : OpV) HO.out ?_)
    | ((with_reducible refine wpList_allocA (op := ⟨some 9, _, _, _, _, _⟩) rfl 46 rfl #[.int .i64 0, .int .i64 0, .int .i64 0, .int .i64 0, .int .u16 0] zero46d ?_); intro w3 HB3 HW3 hz3; have H3 := hid_ (H2.out.below HW3.out H2.out.lt); have HR3 := hid_ (HR2.out.below HW3.out HR2.out.lt); have K3 := hid_ (K2.out.trans (Step.of HW3.out (Nat.le_refl _))); have hlt := HR2.out.lt; have hnr : ¬ w.heap.size = w2.heap.size := Nat.ne_of_lt hlt; have hng : ¬ g = w2.heap.size := Nat.ne_of_lt H2.out.lt; have hz2 := hid_ K2.out.size; clear H2 HR2 K2 hlt)
    | ((with_reducible refine wpList_storeM (op := ⟨none, .store 46 (.tmp 9) (.tmp 32), _, _, _, _⟩) rfl 46 (.tmp 9) (.tmp 32) rfl w2.heap.size 0 (by with_unfolding_all rfl) _ _ HB3.out (⟨K, x, y, 1, 0⟩ : OpV).list (by with_unfolding_all rfl) (by with_unfolding_all exact size46) (hid_ (OpV.list_one _)).out (by with_unfolding_all exact Nat.le_refl 5) (⟨K, x, y, 1, 0⟩ : OpV).list.toArray (by with_unfolding_all rfl) ?_); intro w4 HB4 s4; have H4 := hid_ (H3.out.step s4.out hng); have HR4 := hid_ (HR3.out.step s4.out hnr); have K4 := hid_ (K3.out.trans' s4.out (fun k hk e => by have := hz2.out; omega)); clear H3 HR3 K3 HB3; have g3 := HB4.out.cell 3; simp [OpV.list] at g3)
    | (with_reducible fail)
    | (with_reducible refine wpList_loadM (op := ⟨some 49, _, _, _, _, _⟩) rfl 46 (.tmp 9) rfl w2.heap.size 0 (by with_unfolding_all rfl) _ _ HB4.out (⟨K, x, y, 1, 0⟩ : OpV).list (by with_unfolding_all rfl) _ Tryz.underlying46 rfl (by with_unfolding_all exact size46) ?_)
    | ((with_reducible refine wpList_storeM (op := ⟨none, .store 46 (.tmp 8) (.tmp 49), _, _, _, _⟩) rfl 46 (.tmp 8) (.tmp 49) rfl w.heap.size 0 (by with_unfolding_all rfl) _ _ HR4.out (⟨K, x, y, 1, 0⟩ : OpV).list (by with_unfolding_all rfl) (by with_unfolding_all exact size46) (hid_ (OpV.list_one _)).out (by with_unfolding_all exact Nat.le_refl 5) (⟨K, x, y, 1, 0⟩ : OpV).list.toArray (by with_unfolding_all rfl) ?_); intro w6 HR6 s6; have H6 := hid_ (H4.out.step s6.out (fun e => hne e.symm)); have K6 := hid_ (K4.out.trans' s6.out (fun k hk e => by omega))))
  refine bodyPost_ret (v := .agg (⟨K, x, y, 1, 0⟩ : OpV).list.toArray) (results_cell Tryz.results64 rfl (load_row HR6.out 46 _ Tryz.underlying46 rfl (by with_unfolding_all exact size46))) rfl ⟨rfl, H6.out, K6.out⟩
set_option maxRecDepth 100000 in
set_option maxHeartbeats 1600000 in
theorem decode_2 (g : Nat) (d s : Int) (P B : List OpV) (hdo : Does g d s P B) (a : Nat) (b c : Int) (K x y : Int) (ha : a < 256) (hcb : a ≠ 203) (hb0 : 0 ≤ b) (hb1 : b ≤ 255) (hc0 : 0 ≤ c) (hc1 : c ≤ 255) (ho : plainL[a]? = some ⟨K, x, y, 2, 0⟩) (w : World) (h : TabIs w g d s P B) :
    Calls Tryz.prog 64 #[.pointer (some ⟨g, 0, none⟩), .int .u8 a, .int .u8 b, .int .u8 c] w (fun e w' => e = .returned (.agg (⟨K, x, y, 2, b⟩ : OpV).list.toArray) ∧ TabIs w' g 1 0 plainL behindL ∧ Step (· = g) w w') := by
  have H := hid_ h
  have HO := hid_ ho
  have hmf : ∀ (fn : Fn) (first cap : Array Value) (w : World), (Instr.makeFunc fn first cap).run Tryz.prog w = .ok (.func fn first cap) w := fun _ _ _ _ => rfl
  have hne : ¬ w.heap.size = g := Nat.ne_of_gt h.lt
  have qcb : ((a : Int) == 203) = false := by simp; omega
  have i0 : (0 : Int) ≤ (a : Int) := by omega
  have i1 : (a : Int) < 256 := by omega
  have elo : bits .or .u16 b (c * 256) = b + 256 * c := by have h := lo_hi b c hb0 hb1 hc0 hc1; rwa [show IntKind.u16.wrap (c * 256) = c * 256 by simp [IntKind.wrap, IntKind.signed, IntKind.bits]; omega] at h
  have ew1 : IntKind.u16.wrap b = b := by simp [IntKind.wrap, IntKind.signed, IntKind.bits]; omega
  have ew2 : IntKind.u16.wrap c = c := by simp [IntKind.wrap, IntKind.signed, IntKind.bits]; omega
  clear h ho hcb
  go_enter Tryz.func64, Tryz.ntmps64
  go_wp2_with (first
    | ((with_reducible refine wpList_allocA (op := ⟨some 8, _, _, _, _, _⟩) rfl 46 rfl #[.int .i64 0, .int .i64 0, .int .i64 0, .int .i64 0, .int .u16 0] zero46d ?_); intro w1 HR1 HW1 hz1; have H1 := hid_ (H.out.below HW1.out H.out.lt); have K1 : Hid (Step (· = g) w w1) := Step.of HW1.out (Nat.le_refl _); clear H)
    | (go_at_call 70; refine (hdo _ H1.out).mono ?_; rintro e w2 ⟨rfl, h2, s2⟩; have H2 := hid_ h2; have HR2 := hid_ (HR1.out.step s2 hne); have K2 := hid_ (K1.out.trans s2); clear h2 s2 H1 K1 HR1)
    | (with_reducible refine wpList_loadPl (op := ⟨some 32, _, _, _, _, _⟩) rfl (.tmp 31) rfl _ a (by omega : 3 + a * 5 = 3 + 5 * a) (by with_unfolding_all rfl) H2.out (⟨K, x, y, 2, 0⟩ : OpV) HO.out ?_)
    | ((with_reducible refine wpList_allocA (op := ⟨some 9, _, _, _, _, _⟩) rfl 46 rfl #[.int .i64 0, .int .i64 0, .int .i64 0, .int .i64 0, .int .u16 0] zero46d ?_); intro w3 HB3 HW3 hz3; have H3 := hid_ (H2.out.below HW3.out H2.out.lt); have HR3 := hid_ (HR2.out.below HW3.out HR2.out.lt); have K3 := hid_ (K2.out.trans (Step.of HW3.out (Nat.le_refl _))); have hlt := HR2.out.lt; have hnr : ¬ w.heap.size = w2.heap.size := Nat.ne_of_lt hlt; have hng : ¬ g = w2.heap.size := Nat.ne_of_lt H2.out.lt; have hz2 := hid_ K2.out.size; clear H2 HR2 K2 hlt)
    | ((with_reducible refine wpList_storeM (op := ⟨none, .store 46 (.tmp 9) (.tmp 32), _, _, _, _⟩) rfl 46 (.tmp 9) (.tmp 32) rfl w2.heap.size 0 (by with_unfolding_all rfl) _ _ HB3.out (⟨K, x, y, 2, 0⟩ : OpV).list (by with_unfolding_all rfl) (by with_unfolding_all exact size46) (hid_ (OpV.list_one _)).out (by with_unfolding_all exact Nat.le_refl 5) (⟨K, x, y, 2, 0⟩ : OpV).list.toArray (by with_unfolding_all rfl) ?_); intro w4 HB4 s4; have H4 := hid_ (H3.out.step s4.out hng); have HR4 := hid_ (HR3.out.step s4.out hnr); have K4 := hid_ (K3.out.trans' s4.out (fun k hk e => by have := hz2.out; omega)); clear H3 HR3 K3 HB3; have g3 := HB4.out.cell 3; simp [OpV.list] at g3)
    | (with_reducible fail)
    | ((with_reducible refine wpList_storeC (op := ⟨none, .store 29 (.tmp 39) (.tmp 38), _, _, _, _⟩) rfl 29 (.tmp 39) (.tmp 38) rfl w2.heap.size 4 (by with_unfolding_all rfl) _ _ HB4.out (.int .u16 (b)) (by with_unfolding_all rfl) rfl size29d rfl (by with_unfolding_all exact (by decide : 4 < 5)) (⟨K, x, y, 2, b⟩ : OpV).list.toArray (by with_unfolding_all rfl) ?_); intro w5 HB5 s5; have H5 := hid_ (H4.out.step s5.out hng); have HR5 := hid_ (HR4.out.step s5.out hnr); have K5 := hid_ (K4.out.trans' s5.out (fun k hk e => by have := hz2.out; omega)); clear H4 HR4 K4 HB4 g3)
    | (with_reducible refine wpList_loadM (op := ⟨some 49, _, _, _, _, _⟩) rfl 46 (.tmp 9) rfl w2.heap.size 0 (by with_unfolding_all rfl) _ _ HB5.out (⟨K, x, y, 2, b⟩ : OpV).list (by with_unfolding_all rfl) _ Tryz.underlying46 rfl (by with_unfolding_all exact size46) ?_)
    | ((with_reducible refine wpList_storeM (op := ⟨none, .store 46 (.tmp 8) (.tmp 49), _, _, _, _⟩) rfl 46 (.tmp 8) (.tmp 49) rfl w.heap.size 0 (by with_unfolding_all rfl) _ _ HR5.out (⟨K, x, y, 2, b⟩ : OpV).list (by with_unfolding_all rfl) (by with_unfolding_all exact size46) (hid_ (OpV.list_one _)).out (by with_unfolding_all exact Nat.le_refl 5) (⟨K, x, y, 2, b⟩ : OpV).list.toArray (by with_unfolding_all rfl) ?_); intro w6 HR6 s6; have H6 := hid_ (H5.out.step s6.out (fun e => hne e.symm)); have K6 := hid_ (K5.out.trans' s6.out (fun k hk e => by omega))))
  refine bodyPost_ret (v := .agg (⟨K, x, y, 2, b⟩ : OpV).list.toArray) (results_cell Tryz.results64 rfl (load_row HR6.out 46 _ Tryz.underlying46 rfl (by with_unfolding_all exact size46))) rfl ⟨rfl, H6.out, K6.out⟩
set_option maxRecDepth 100000 in
set_option maxHeartbeats 1600000 in
theorem decode_3 (g : Nat) (d s : Int) (P B : List OpV) (hdo : Does g d s P B) (a : Nat) (b c : Int) (K x y : Int) (ha : a < 256) (hcb : a ≠ 203) (hb0 : 0 ≤ b) (hb1 : b ≤ 255) (hc0 : 0 ≤ c) (hc1 : c ≤ 255) (ho : plainL[a]? = some ⟨K, x, y, 3, 0⟩) (w : World) (h : TabIs w g d s P B) :
    Calls Tryz.prog 64 #[.pointer (some ⟨g, 0, none⟩), .int .u8 a, .int .u8 b, .int .u8 c] w (fun e w' => e = .returned (.agg (⟨K, x, y, 3, b + 256 * c⟩ : OpV).list.toArray) ∧ TabIs w' g 1 0 plainL behindL ∧ Step (· = g) w w') := by
  have H := hid_ h
  have HO := hid_ ho
  have hmf : ∀ (fn : Fn) (first cap : Array Value) (w : World), (Instr.makeFunc fn first cap).run Tryz.prog w = .ok (.func fn first cap) w := fun _ _ _ _ => rfl
  have hne : ¬ w.heap.size = g := Nat.ne_of_gt h.lt
  have qcb : ((a : Int) == 203) = false := by simp; omega
  have i0 : (0 : Int) ≤ (a : Int) := by omega
  have i1 : (a : Int) < 256 := by omega
  have elo : bits .or .u16 b (c * 256) = b + 256 * c := by have h := lo_hi b c hb0 hb1 hc0 hc1; rwa [show IntKind.u16.wrap (c * 256) = c * 256 by simp [IntKind.wrap, IntKind.signed, IntKind.bits]; omega] at h
  have ew1 : IntKind.u16.wrap b = b := by simp [IntKind.wrap, IntKind.signed, IntKind.bits]; omega
  have ew2 : IntKind.u16.wrap c = c := by simp [IntKind.wrap, IntKind.signed, IntKind.bits]; omega
  clear h ho hcb
  go_enter Tryz.func64, Tryz.ntmps64
  go_wp2_with (first
    | ((with_reducible refine wpList_allocA (op := ⟨some 8, _, _, _, _, _⟩) rfl 46 rfl #[.int .i64 0, .int .i64 0, .int .i64 0, .int .i64 0, .int .u16 0] zero46d ?_); intro w1 HR1 HW1 hz1; have H1 := hid_ (H.out.below HW1.out H.out.lt); have K1 : Hid (Step (· = g) w w1) := Step.of HW1.out (Nat.le_refl _); clear H)
    | (go_at_call 70; refine (hdo _ H1.out).mono ?_; rintro e w2 ⟨rfl, h2, s2⟩; have H2 := hid_ h2; have HR2 := hid_ (HR1.out.step s2 hne); have K2 := hid_ (K1.out.trans s2); clear h2 s2 H1 K1 HR1)
    | (with_reducible refine wpList_loadPl (op := ⟨some 32, _, _, _, _, _⟩) rfl (.tmp 31) rfl _ a (by omega : 3 + a * 5 = 3 + 5 * a) (by with_unfolding_all rfl) H2.out (⟨K, x, y, 3, 0⟩ : OpV) HO.out ?_)
    | ((with_reducible refine wpList_allocA (op := ⟨some 9, _, _, _, _, _⟩) rfl 46 rfl #[.int .i64 0, .int .i64 0, .int .i64 0, .int .i64 0, .int .u16 0] zero46d ?_); intro w3 HB3 HW3 hz3; have H3 := hid_ (H2.out.below HW3.out H2.out.lt); have HR3 := hid_ (HR2.out.below HW3.out HR2.out.lt); have K3 := hid_ (K2.out.trans (Step.of HW3.out (Nat.le_refl _))); have hlt := HR2.out.lt; have hnr : ¬ w.heap.size = w2.heap.size := Nat.ne_of_lt hlt; have hng : ¬ g = w2.heap.size := Nat.ne_of_lt H2.out.lt; have hz2 := hid_ K2.out.size; clear H2 HR2 K2 hlt)
    | ((with_reducible refine wpList_storeM (op := ⟨none, .store 46 (.tmp 9) (.tmp 32), _, _, _, _⟩) rfl 46 (.tmp 9) (.tmp 32) rfl w2.heap.size 0 (by with_unfolding_all rfl) _ _ HB3.out (⟨K, x, y, 3, 0⟩ : OpV).list (by with_unfolding_all rfl) (by with_unfolding_all exact size46) (hid_ (OpV.list_one _)).out (by with_unfolding_all exact Nat.le_refl 5) (⟨K, x, y, 3, 0⟩ : OpV).list.toArray (by with_unfolding_all rfl) ?_); intro w4 HB4 s4; have H4 := hid_ (H3.out.step s4.out hng); have HR4 := hid_ (HR3.out.step s4.out hnr); have K4 := hid_ (K3.out.trans' s4.out (fun k hk e => by have := hz2.out; omega)); clear H3 HR3 K3 HB3; have g3 := HB4.out.cell 3; simp [OpV.list] at g3)
    | (with_reducible fail)
    | ((with_reducible refine wpList_storeC (op := ⟨none, .store 29 (.tmp 48) (.tmp 47), _, _, _, _⟩) rfl 29 (.tmp 48) (.tmp 47) rfl w2.heap.size 4 (by with_unfolding_all rfl) _ _ HB4.out (.int .u16 (b + 256 * c)) (by with_unfolding_all rfl) rfl size29d rfl (by with_unfolding_all exact (by decide : 4 < 5)) (⟨K, x, y, 3, b + 256 * c⟩ : OpV).list.toArray (by with_unfolding_all rfl) ?_); intro w5 HB5 s5; have H5 := hid_ (H4.out.step s5.out hng); have HR5 := hid_ (HR4.out.step s5.out hnr); have K5 := hid_ (K4.out.trans' s5.out (fun k hk e => by have := hz2.out; omega)); clear H4 HR4 K4 HB4 g3)
    | (with_reducible refine wpList_loadM (op := ⟨some 49, _, _, _, _, _⟩) rfl 46 (.tmp 9) rfl w2.heap.size 0 (by with_unfolding_all rfl) _ _ HB5.out (⟨K, x, y, 3, b + 256 * c⟩ : OpV).list (by with_unfolding_all rfl) _ Tryz.underlying46 rfl (by with_unfolding_all exact size46) ?_)
    | ((with_reducible refine wpList_storeM (op := ⟨none, .store 46 (.tmp 8) (.tmp 49), _, _, _, _⟩) rfl 46 (.tmp 8) (.tmp 49) rfl w.heap.size 0 (by with_unfolding_all rfl) _ _ HR5.out (⟨K, x, y, 3, b + 256 * c⟩ : OpV).list (by with_unfolding_all rfl) (by with_unfolding_all exact size46) (hid_ (OpV.list_one _)).out (by with_unfolding_all exact Nat.le_refl 5) (⟨K, x, y, 3, b + 256 * c⟩ : OpV).list.toArray (by with_unfolding_all rfl) ?_); intro w6 HR6 s6; have H6 := hid_ (H5.out.step s6.out (fun e => hne e.symm)); have K6 := hid_ (K5.out.trans' s6.out (fun k hk e => by omega))))
  refine bodyPost_ret (v := .agg (⟨K, x, y, 3, b + 256 * c⟩ : OpV).list.toArray) (results_cell Tryz.results64 rfl (load_row HR6.out 46 _ Tryz.underlying46 rfl (by with_unfolding_all exact size46))) rfl ⟨rfl, H6.out, K6.out⟩
end Go.Proofs.YtglklbcohbeacaaGreat
