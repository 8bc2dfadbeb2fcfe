/- Slices of numbers that a call makes: one built, one appended to; and the contracts of one more, one less and of a bit, of the reference of layer 1. -/
import Derived.Test.YtdcfljfgcnbjlaaRefC
import Derived.Test.YtdcfljfgcnbjlaaWalksE
import Derived.Test.YtdcfljfgcnbjlaaTail2
import Derived.OwnWalk
namespace Go.Proofs.Ytdcfljfgcnbjlaa
open Go.RowKit
set_option linter.unusedSimpArgs false
set_option linter.unusedVariables false

/-- A row of the call's own that holds these numbers; and numbers that lie somewhere. -/
def Row (w : World) (B : Nat) (v : Value) (n : Nat) (xs : List Int) : Prop := w.ownsRow B 3 1 v n (xs.map (Value.int .i64))
def At (w : World) (g o : Nat) (xs : List Int) : Prop := ∀ j, j < xs.length → w.cell? ⟨g, o + j, none⟩ = some (.int .i64 (xs.getD j 0))
theorem Row.new (w : World) (B : Nat) (hb : B ≤ w.heap.size) (x : Int) : Row (w.alloc (.cells #[.int .i64 x] 3)) B (.slice (some ⟨w.heap.size, 0, none⟩) 1 1) 1 [x] :=
  ⟨rfl, .inr ⟨w.heap.size, 1, #[.int .i64 x], rfl, hb, heap_alloc_new w _, by omega, by decide, rfl, rfl⟩⟩
theorem Row.new0 (w : World) (B : Nat) (hb : B ≤ w.heap.size) : Row (w.alloc (.cells #[] 3)) B (.slice (some ⟨w.heap.size, 0, none⟩) 0 0) 0 [] :=
  ⟨rfl, .inr ⟨w.heap.size, 0, #[], rfl, hb, heap_alloc_new w _, by omega, by decide, rfl, rfl⟩⟩
theorem Row.alloc {w : World} {B : Nat} {v : Value} {n : Nat} {xs : List Int} (h : Row w B v n xs) (o : Obj) : Row (w.alloc o) B v n xs := World.ownsRow.alloc h o
theorem Row.at_ {w : World} {B g cap n : Nat} {xs : List Int} (h : Row w B (.slice (some ⟨g, 0, none⟩) n cap) n xs) : At w g 0 xs := by
  intro j hj
  have hl : xs.length = n := by simpa using h.1
  rw [Nat.zero_add, World.ownsRow.cellAt h j (by omega), List.getElem?_map, List.getD_eq_getElem?_getD, List.getElem?_eq_getElem hj]
  rfl
theorem Row.cap {w : World} {B n : Nat} {v : Value} {xs : List Int} (h : Row w B v n xs) (hn : 0 < n) : ∃ g cap, v = .slice (some ⟨g, 0, none⟩) n cap ∧ B ≤ g ∧ g < w.heap.size ∧ n ≤ cap := by
  rcases h.2 with ⟨_, h0⟩ | ⟨g, cap, cur, hv, hB, hh, hc, _⟩
  · omega
  · exact ⟨g, cap, hv, hB, (Array.getElem?_eq_some_iff.1 hh).1, hc⟩
theorem At.new (w : World) (x : Int) : At (w.alloc (.cells #[.int .i64 x] 3)) w.heap.size 0 [x] := fun j hj => by
  obtain rfl : j = 0 := by simpa using hj
  exact cell_of_row _ _ 0 #[.int .i64 x] 3 (0, 0) (heap_alloc_new w _)
theorem At.keep {w w' : World} {g o : Nat} {xs : List Int} (h : At w g o xs) (hb : Below w.heap.size w w') (hg : g < w.heap.size) : At w' g o xs := fun j hj => (hb.cell (p := ⟨g, o + j, none⟩) hg).trans (h j hj)
theorem At.alloc {w : World} {g o : Nat} {xs : List Int} (h : At w g o xs) (hg : g < w.heap.size) (ob : Obj) : At (w.alloc ob) g o xs := h.keep ((Below.refl _ _).alloc (Nat.le_refl _) ob) hg
theorem At.grown {w w' : World} {g o : Nat} {xs : List Int} (h : At w g o xs) (hg : g < w.heap.size) {row : Option Nat} (hgr : w.grownBy w' row) (hne : row ≠ some g) : At w' g o xs := fun j hj => by
  rw [hgr.cell_far ⟨g, o + j, none⟩ hg (fun e => hne e.symm)]; exact h j hj

theorem wp_app {w : World} {o : Oper} {a : Act} {K : Act → World → Prop} {Q : Exit → Act → World → Prop} (s x : Operand)
    (ho : o.op = .call { callee := .builtin .append, args := #[s, x], argTypes := #[46, 46] }) (B : Nat) (v : Value) (n : Nat) (xs : List Int) (hs : a.eval s = v) (hown : Row w B v n xs)
    (g o' m c : Nat) (ys : List Int) (hx : a.eval x = .slice (some ⟨g, o', none⟩) m c) (hl : ys.length = m) (hat : At w g o' ys) (hm : 0 < m) (hn : n + m ≤ 100) (hB : B ≤ w.heap.size)
    (h : ∀ g' cap w', Row w' B (.slice (some ⟨g', 0, none⟩) (n + m) cap) (n + m) (xs ++ ys) → w.grownBy w' v.ownBlock → g' < w'.heap.size → K (a.put o.dst (.slice (some ⟨g', 0, none⟩) (n + m) cap)) w') : o.wp Try.prog a w K Q := by
  obtain ⟨i0, hi0, hz0, hz1, hz2⟩ := info_parts int_info
  refine wp_append_lies w s x 46 ho B 3 i0 (.int .i64 0) 1 8 Try.underlying46 hi0 hz0 hz1 hz2 rfl (by decide) v n (xs.map (Value.int .i64)) hs hown ⟨g, o', none⟩ m c (ys.map (Value.int .i64)) hx (by simp [hl]) ?_ ?_ hm
    (by unfold maxLen; omega) (by omega) hB _ rfl fun g' cap w' h1 h2 _ h4 => h g' cap w' (by unfold Row; rw [List.map_append]; exact h1) h2 h4
  · intro j u hu
    rw [List.getElem?_map] at hu
    obtain ⟨y, hy, rfl⟩ := Option.map_eq_some_iff.1 hu
    have hj := (List.getElem?_eq_some_iff.1 hy).1
    have := hat j hj
    have e : (⟨g, o', none⟩ : Addr).add j = ⟨g, o' + j, none⟩ := by unfold Addr.add; split <;> simp_all
    rw [e, this, List.getD_eq_getElem?_getD, hy]; rfl
  · intro u hu
    obtain ⟨y, _, rfl⟩ := List.mem_map.1 hu
    rfl
theorem wpList_app {w : World} {ops : Array Oper} {rest : List Oper} {o : Oper} {a : Act} {Q : Exit → Act → World → Prop} (hgd : o.guard = none) (s x : Operand)
    (ho : o.op = .call { callee := .builtin .append, args := #[s, x], argTypes := #[46, 46] }) (B : Nat) (v : Value) (n : Nat) (xs : List Int) (hs : a.eval s = v) (hown : Row w B v n xs)
    (g o' m c : Nat) (ys : List Int) (hx : a.eval x = .slice (some ⟨g, o', none⟩) m c) (hl : ys.length = m) (hat : At w g o' ys) (hm : 0 < m) (hn : n + m ≤ 100) (hB : B ≤ w.heap.size)
    (h : ∀ g' cap w', Row w' B (.slice (some ⟨g', 0, none⟩) (n + m) cap) (n + m) (xs ++ ys) → w.grownBy w' v.ownBlock → g' < w'.heap.size → wpList Try.prog ops Q rest (a.put o.dst (.slice (some ⟨g', 0, none⟩) (n + m) cap)) w') :
    wpList Try.prog ops Q (o :: rest) a w :=
  wpList_plain hgd fun _ hK => wp_app s x ho B v n xs hs hown g o' m c ys hx hl hat hm hn hB fun g' cap w' h1 h2 h3 => hK _ _ (h g' cap w' h1 h2 h3)
theorem step_app {w : World} {ops : Array Oper} {o : Oper} {a : Act} {K : Act → World → Prop} {Q : Exit → Act → World → Prop} {E : Prop} (hgd : o.guard = none) (s x : Operand)
    (ho : o.op = .call { callee := .builtin .append, args := #[s, x], argTypes := #[46, 46] }) (B : Nat) (v : Value) (n : Nat) (xs : List Int) (hs : a.eval s = v) (hown : Row w B v n xs)
    (g o' m c : Nat) (ys : List Int) (hx : a.eval x = .slice (some ⟨g, o', none⟩) m c) (hl : ys.length = m) (hat : At w g o' ys) (hm : 0 < m) (hn : n + m ≤ 100) (hB : B ≤ w.heap.size)
    (h : ∀ g' cap w', Row w' B (.slice (some ⟨g', 0, none⟩) (n + m) cap) (n + m) (xs ++ ys) → w.grownBy w' v.ownBlock → g' < w'.heap.size → K (a.put o.dst (.slice (some ⟨g', 0, none⟩) (n + m) cap)) w') :
    if Region.wanted o (yielded ops a.tmps) = true then Oper.wp Try.prog o a w K Q else E := by
  rw [if_pos (by simp [Region.wanted, hgd])]
  exact wp_app s x ho B v n xs hs hown g o' m c ys hx hl hat hm hn hB h

theorem hB_fl (z n h c : Bool) : hB (fl z n h c) = h := by cases z <;> cases n <;> cases h <;> cases c <;> decide
theorem fl_bd2 (z n h c : Bool) : 0 ≤ fl z n h c ∧ fl z n h c ≤ 255 := by cases z <;> cases n <;> cases h <;> cases c <;> decide
theorem rinc_nat (a : Nat) (f : Int) (ha : a ≤ 255) (hf : 0 ≤ f) (hf' : f ≤ 255) (w : World) :
    Calls Try.prog 26 #[.int .u8 (a : Int), .int .u8 f] w (Ret (two (((a : Int) + 1) % 256) (fl (decide (((a : Int) + 1) % 256 = 0)) false ((a : Int) % 16 == 15) (cB f))) w) := by
  have e1 : ((a : Int) + ((1 : Nat) : Int) + sel false 1) % 256 = ((a : Int) + 1) % 256 := by simp [sel]
  have e2 : decide (15 < (a : Int) % 16 + ((1 : Nat) : Int) % 16 + sel false 1) = ((a : Int) % 16 == 15) := by rw [Bool.eq_iff_iff]; simp [sel]; omega
  obtain ⟨g, hg⟩ : ∃ g, fl (decide (((a : Int) + ((1 : Nat) : Int) + sel false 1) % 256 = 0)) false (decide (15 < (a : Int) % 16 + ((1 : Nat) : Int) % 16 + sel false 1)) (decide (255 < (a : Int) + ((1 : Nat) : Int) + sel false 1)) = g := ⟨_, rfl⟩
  have hg0 : 0 ≤ g := by rw [← hg]; exact (fl_bd2 _ _ _ _).1
  have hg1 : g ≤ 255 := by rw [← hg]; exact (fl_bd2 _ _ _ _).2
  have HH : Hid (hB g = ((a : Int) % 16 == 15)) := by show _ = _; rw [← hg, hB_fl, e2]
  have HG := hid_ hg
  have E1 := hid_ e1
  have c0 : 0 ≤ ((a : Int) + 1) % 256 := by omega
  have c1 : ((a : Int) + 1) % 256 ≤ 255 := by omega
  clear hg e1 e2
  go_enter Try.func26, Try.ntmps26
  go_wp2_with fail
  refine (radd_nat a 1 false ha (by omega) _).mono ?_
  rintro e w1 ⟨rfl, hd1, hf1, hz1, hb1⟩
  rw [HG.out, E1.out]
  clear hd1 hf1
  go_wp2_with fail
  refine (rh_any g hg0 hg1 _).mono ?_
  rintro e wp ⟨rfl, rfl⟩
  rw [HH.out]
  go_wp2_with fail
  refine (rc_any f hf hf' _).mono ?_
  rintro e wp ⟨rfl, rfl⟩
  go_wp2_with fail
  refine (flags_any _ _ _ _ _).mono ?_
  rintro e wp ⟨rfl, rfl⟩
  go_wp2_with fail
  go_ret2
  exact .of (ret_two rfl (by first | rfl | (congr 1; rw [Bool.eq_iff_iff]; simp))) hb1
theorem rdec_nat (a : Nat) (f : Int) (ha : a ≤ 255) (hf : 0 ≤ f) (hf' : f ≤ 255) (w : World) :
    Calls Try.prog 28 #[.int .u8 (a : Int), .int .u8 f] w (Ret (two (((a : Int) - 1) % 256) (fl (decide (((a : Int) - 1) % 256 = 0)) true ((a : Int) % 16 == 0) (cB f))) w) := by
  have e1 : ((a : Int) - ((1 : Nat) : Int) - sel false 1) % 256 = ((a : Int) - 1) % 256 := by simp [sel]
  have e2 : decide ((a : Int) % 16 < ((1 : Nat) : Int) % 16 + sel false 1) = ((a : Int) % 16 == 0) := by rw [Bool.eq_iff_iff]; simp [sel]; omega
  obtain ⟨g, hg⟩ : ∃ g, fl (decide (((a : Int) - ((1 : Nat) : Int) - sel false 1) % 256 = 0)) true (decide ((a : Int) % 16 < ((1 : Nat) : Int) % 16 + sel false 1)) (decide ((a : Int) < ((1 : Nat) : Int) + sel false 1)) = g := ⟨_, rfl⟩
  have hg0 : 0 ≤ g := by rw [← hg]; exact (fl_bd2 _ _ _ _).1
  have hg1 : g ≤ 255 := by rw [← hg]; exact (fl_bd2 _ _ _ _).2
  have HH : Hid (hB g = ((a : Int) % 16 == 0)) := by show _ = _; rw [← hg, hB_fl, e2]
  have HG := hid_ hg
  have E1 := hid_ e1
  have c0 : 0 ≤ ((a : Int) - 1) % 256 := by omega
  have c1 : ((a : Int) - 1) % 256 ≤ 255 := by omega
  clear hg e1 e2
  go_enter Try.func28, Try.ntmps28
  go_wp2_with fail
  refine (rsub_nat a 1 false ha (by omega) _).mono ?_
  rintro e w1 ⟨rfl, hd1, hf1, hz1, hb1⟩
  rw [HG.out, E1.out]
  clear hd1 hf1
  go_wp2_with fail
  refine (rh_any g hg0 hg1 _).mono ?_
  rintro e wp ⟨rfl, rfl⟩
  rw [HH.out]
  go_wp2_with fail
  refine (rc_any f hf hf' _).mono ?_
  rintro e wp ⟨rfl, rfl⟩
  go_wp2_with fail
  refine (flags_any _ _ _ _ _).mono ?_
  rintro e wp ⟨rfl, rfl⟩
  go_wp2_with fail
  go_ret2
  exact .of (ret_two rfl (by first | rfl | (congr 1; rw [Bool.eq_iff_iff]; simp))) hb1
theorem tmod8 (n : Int) : -8 < n.tmod 8 ∧ n.tmod 8 < 8 ∧ (n.tmod 8 + 8) % 8 = n % 8 := by
  have e := @Int.tmod_eq_emod n 8
  have h1 := Int.tmod_lt_of_pos n (by decide : (0 : Int) < 8)
  have h2 := Int.lt_tmod_of_pos n (by decide : (0 : Int) < 8)
  refine ⟨by omega, h1, ?_⟩
  rw [e]; split <;> simp <;> omega
theorem rbit_any (n : Int) (a : Nat) (f : Int) (j : Nat) (hj : n % 8 = j) (hj8 : j < 8) (ha : a ≤ 255) (hf : 0 ≤ f) (hf' : f ≤ 255) (w : World) :
    Calls Try.prog 32 #[.int .i64 n, .int .u8 (a : Int), .int .u8 f] w (Pure (.int .u8 (fl (decide ((a : Int) / 2 ^ j % 2 = 0)) false true (cB f))) w) := by
  obtain ⟨h1, h2, h3⟩ := tmod8 n
  rw [hj] at h3
  have hb : bitN a j = (a : Int) / 2 ^ j % 2 := by unfold bitN; push_cast; rfl
  have HB := hid_ hb
  clear hb
  go_enter Try.func32, Try.ntmps32
  go_wp2_with fail
  refine (bit_any a j ha (by omega) _).mono ?_
  rintro e wp ⟨rfl, rfl⟩
  go_wp2_with fail
  refine (rc_any f hf hf' _).mono ?_
  rintro e wp ⟨rfl, rfl⟩
  go_wp2_with fail
  refine (flags_any _ _ _ _ _).mono ?_
  rintro e wp ⟨rfl, rfl⟩
  go_wp2_with fail
  go_ret
  refine ⟨ret_int ?_, rfl⟩
  rw [← HB.out]
  first | rfl | (congr 1; rw [Bool.eq_iff_iff]; simp)
end Go.Proofs.Ytdcfljfgcnbjlaa
