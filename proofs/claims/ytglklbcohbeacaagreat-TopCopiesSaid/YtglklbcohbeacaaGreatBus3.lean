/- Contracts of a bus: a byte that is seen, fetched, read, written; a cycle without; what is pending. -/
import Derived.Test.YtglklbcohbeacaaGreatBus2
namespace Go.Proofs.YtglklbcohbeacaaGreat
open Go.RowKit
set_option linter.unusedSimpArgs false
set_option linter.unusedVariables false

theorem hd_copier (S : St) (M : Mc) (cnt : Int) (acc : Value) : ((mlist S M cnt acc).drop 47).take 2 = [.int .u8 0, .int .i64 0] := rfl
theorem hd119 (S : St) (M : Mc) (cnt : Int) : (hd S M cnt)[119]? = some (.int .u8 0) := rfl
theorem hd120 (S : St) (M : Mc) (cnt : Int) : (hd S M cnt)[120]? = some (.int .u8 0) := rfl
section
variable {w w' w2 : World} {S : St} {M M' M2 : Mc} {A A' A2 : Option Nat} {X : Nat → Prop} {v v2 : Value}
/-- One part behind the other. -/
theorem Busy.trans {e : Ending} (hC : Chg S X A w w' A') (h : Busy S X M2 A' w' v e w2) : Busy S X M2 A w v e w2 := ⟨h.1, h.2.choose, h.2.choose_spec.1, hC.trans h.2.choose_spec.2⟩
end
theorem wpList_loadCopier {ops : Array Oper} {rest : List Oper} {op : Oper} {a : Act} {w : World} {Q : Exit → Act → World → Prop} {S : St} {M : Mc} {A : Option Nat} (hgd : op.guard = none) (x : Operand) (ho : op.op = .load 68 x) (hx : a.eval x = .pointer (some ⟨S.m, 47, none⟩)) (H : Mach w S M A)
    (h : wpList Tryz.prog ops Q rest (a.put op.dst (.agg #[.int .u8 0, .int .i64 0])) w) : wpList Tryz.prog ops Q (op :: rest) a w := by
  obtain ⟨cnt, acc, xs, H⟩ := H
  exact wpList_loadMach hgd 68 x ho 47 hx H [.int .u8 0, .int .i64 0] (hd_copier S M cnt acc) _ Tryz.underlying68 rfl size68 h
set_option maxRecDepth 100000 in
set_option maxHeartbeats 2000000 in
theorem seen_rom (S : St) (M : Mc) (A : Option Nat) (i : Nat) (hi : i < 16384) (hc0 : 0 ≤ M.cyc) (hc1 : M.cyc ≤ 1000000) (w : World) (h : Mach w S M A) :
    Calls Tryz.prog 177 #[.agg #[.pointer (some ⟨S.m, 0, none⟩)], .int .u16 i] w (Busy S (fun _ => False) M.tick A w (.int .u8 (S.zs.getD i 0))) := by
  have h := hid_ h
  go_enter Tryz.func177, Tryz.ntmps177
  go_wp2_with (first
    | ((with_reducible refine wpList_boxA (op := ⟨some 2, _, _, _, _, _⟩) rfl 102 (.tmp 0) rfl #[.pointer (some ⟨S.m, 0, none⟩)] rfl ?_); intro w1 HB1 hb hz; have H1 := hid_ (Mach.below h.out hb.out (Nat.le_refl _)); have hF1 := hid_ (Mach.free h.out (Nat.le_refl w.heap.size)); have C1 : Hid (Chg S (fun _ => False) A w w1 A) := Chg.of hb.out; have c0 := HB1.out.cell 0; simp at c0; clear hb)
    | (go_at_call 138; refine (cycle_any S M _ _ H1.out hc0 hc1).mono ?_; rintro e w2 ⟨rfl, A2, hM, hC⟩; have HB2 := hid_ (hC.blk HB1.out hF1.out (fun h => h)); have hF2 := hid_ (hC.free hF1.out HB1.out.lt); have C2 := hid_ (C1.out.trans hC); have H2 := hid_ hM; clear hC hM c0; have c0 := HB2.out.cell 0; simp at c0)
    | (with_reducible refine wpList_loadCopier (op := ⟨some 14, _, _, _, _, _⟩) rfl (.tmp 13) rfl (by with_unfolding_all rfl) H2.out ?_)
    | (go_at_call 185; refine (lets_zero _ _).mono ?_; rintro e w3 ⟨rfl, hc, hf, hz, hb⟩; clear hc hf hz; have HB3 := hid_ (HB2.out.below hb HB2.out.lt); have H3 := hid_ (Mach.below H2.out hb (Nat.le_refl _)); have C3 := hid_ (C2.out.trans (Chg.of hb)); clear hb c0; have c0 := HB3.out.cell 0; simp at c0)
    | (go_at_call 23; refine (pictured_rom _ (by omega) (by omega) _).mono ?_; rintro e wx ⟨rfl, rfl⟩)
    | (go_at_call 14; refine (peek_rom S M.tick _ i hi _ H3.out).mono ?_; rintro e w4 ⟨rfl, hc, hf, hz, hb⟩; clear hc hf hz; have H4 := hid_ (Mach.below H3.out hb (Nat.le_refl _)); have C4 := hid_ (C3.out.trans (Chg.of hb)); clear hb c0))
  go_ret
  exact ⟨rfl, A2, H4.out, C4.out⟩
theorem pending_none (S : St) (M : Mc) (A : Option Nat) (w : World) (h : Mach w S M A) :
    Calls Tryz.prog 173 #[.agg #[.pointer (some ⟨S.m, 0, none⟩)]] w (Busy S (fun _ => False) M A w (.int .u8 0)) := by
  have h := hid_ h
  have e1 : bits .and .u8 0 0 = 0 := rfl
  have e2 : bits .and .u8 0 31 = 0 := rfl
  go_enter Tryz.func173, Tryz.ntmps173
  go_wp2_with (first
    | ((with_reducible refine wpList_boxA (op := ⟨some 1, _, _, _, _, _⟩) rfl 102 (.tmp 0) rfl #[.pointer (some ⟨S.m, 0, none⟩)] rfl ?_); intro w1 HB1 hb hz; have H1 := hid_ (Mach.below h.out hb.out (Nat.le_refl _)); have hF1 := hid_ (Mach.free h.out (Nat.le_refl w.heap.size)); have C1 : Hid (Chg S (fun _ => False) A w w1 A) := Chg.of hb.out; have c0 := HB1.out.cell 0; simp at c0; clear hb))
  obtain ⟨cnt, acc, xs, H⟩ := H1.out
  have c1 := (H.cell 119 (by omega)).trans (hd119 _ _ _)
  have c2 := (H.cell 120 (by omega)).trans (hd120 _ _ _)
  clear H
  go_quiet (fail)
  go_wp2_with fail
  go_ret
  exact ⟨rfl, A, Mach.below (B := w1.heap.size) H1.out (below_drewN (Below.refl _ _) _) (Nat.le_refl _), C1.out.drewN⟩
set_option maxRecDepth 100000 in
set_option maxHeartbeats 2000000 in
theorem idle_any (S : St) (M : Mc) (A : Option Nat) (hn0 : M.n ≤ 1000) (hc0 : 0 ≤ M.cyc) (hc1 : M.cyc ≤ 1000000) (w : World) (h : Mach w S M A) :
    Calls Tryz.prog 172 #[.agg #[.pointer (some ⟨S.m, 0, none⟩)]] w (Busy S (fun _ => False) M.tick.log A w (.tuple #[])) := by
  have h := hid_ h
  go_enter Tryz.func172, Tryz.ntmps172
  go_wp2_with (first
    | ((with_reducible refine wpList_boxA (op := ⟨some 1, _, _, _, _, _⟩) rfl 102 (.tmp 0) rfl #[.pointer (some ⟨S.m, 0, none⟩)] rfl ?_); intro w1 HB1 hb hz; have H1 := hid_ (Mach.below h.out hb.out (Nat.le_refl _)); have hF1 := hid_ (Mach.free h.out (Nat.le_refl w.heap.size)); have C1 : Hid (Chg S (fun _ => False) A w w1 A) := Chg.of hb.out; have c0 := HB1.out.cell 0; simp at c0; clear hb)
    | (go_at_call 138; refine (cycle_any S M _ _ H1.out hc0 hc1).mono ?_; rintro e w2 ⟨rfl, A2, hM, hC⟩; have HB2 := hid_ (hC.blk HB1.out hF1.out (fun h => h)); have hF2 := hid_ (hC.free hF1.out HB1.out.lt); have C2 := hid_ (C1.out.trans hC); have H2 := hid_ hM; clear hC hM c0; have c0 := HB2.out.cell 0; simp at c0)
    | (go_at_call 176; refine (note_any S M.tick _ _ _ _ hn0 _ H2.out).mono ?_; rintro e w4 ⟨rfl, A4, hM, hC⟩; have C4 := hid_ (C2.out.trans hC); have H4 := hid_ hM; clear hM hC c0))
  go_end0
  exact ⟨rfl, A4, H4.out, C4.out⟩
set_option maxRecDepth 100000 in
set_option maxHeartbeats 2000000 in
theorem write_work (S : St) (M : Mc) (A : Option Nat) (j : Nat) (hj : j < 8192) (x : Int) (hn0 : M.n ≤ 1000) (hc0 : 0 ≤ M.cyc) (hc1 : M.cyc ≤ 1000000) (w : World) (h : Mach w S M A) :
    Calls Tryz.prog 175 #[.agg #[.pointer (some ⟨S.m, 0, none⟩)], .int .u16 (49152 + (j : Int)), .int .u8 x] w (Busy S (fun _ => False) (M.tick.put j x).log A w (.tuple #[])) := by
  have h := hid_ h
  go_enter Tryz.func175, Tryz.ntmps175
  go_wp2_with (first
    | ((with_reducible refine wpList_boxA (op := ⟨some 3, _, _, _, _, _⟩) rfl 102 (.tmp 0) rfl #[.pointer (some ⟨S.m, 0, none⟩)] rfl ?_); intro w1 HB1 hb hz; have H1 := hid_ (Mach.below h.out hb.out (Nat.le_refl _)); have hF1 := hid_ (Mach.free h.out (Nat.le_refl w.heap.size)); have C1 : Hid (Chg S (fun _ => False) A w w1 A) := Chg.of hb.out; have c0 := HB1.out.cell 0; simp at c0; clear hb)
    | (go_at_call 138; refine (cycle_any S M _ _ H1.out hc0 hc1).mono ?_; rintro e w2 ⟨rfl, A2, hM, hC⟩; have HB2 := hid_ (hC.blk HB1.out hF1.out (fun h => h)); have hF2 := hid_ (hC.free hF1.out HB1.out.lt); have C2 := hid_ (C1.out.trans hC); have H2 := hid_ hM; clear hC hM c0; have c0 := HB2.out.cell 0; simp at c0)
    | (with_reducible refine wpList_loadCopier (op := ⟨some 14, _, _, _, _, _⟩) rfl (.tmp 13) rfl (by with_unfolding_all rfl) H2.out ?_)
    | (go_at_call 185; refine (lets_zero _ _).mono ?_; rintro e w3 ⟨rfl, hc, hf, hz, hb⟩; clear hc hf hz; have HB3 := hid_ (HB2.out.below hb HB2.out.lt); have H3 := hid_ (Mach.below H2.out hb (Nat.le_refl _)); have C3 := hid_ (C2.out.trans (Chg.of hb)); clear hb c0; have c0 := HB3.out.cell 0; simp at c0)
    | (go_at_call 186; refine (poke_work S M.tick _ j hj x _ H3.out).mono ?_; rintro e w4 ⟨rfl, A4, hM, hC⟩; have HB4 := hid_ (hC.blk HB3.out hF2.out (fun h => h)); have C4 := hid_ (C3.out.trans hC); have H4 := hid_ hM; clear hM hC c0; have c0 := HB4.out.cell 0; simp at c0)
    | (go_at_call 176; refine (note_any S (M.tick.put j x) _ _ _ _ hn0 _ H4.out).mono ?_; rintro e w5 ⟨rfl, A5, hM, hC⟩; have C5 := hid_ (C4.out.trans hC); have H5 := hid_ hM; clear hM hC c0))
  go_end0
  exact ⟨rfl, A5, H5.out, C5.out⟩
end Go.Proofs.YtglklbcohbeacaaGreat
