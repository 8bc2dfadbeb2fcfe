/- Contract of a machine's cycle, while its unit is off. -/
import Derived.Test.YtglklbcohbeacaaGreatLeaf2
namespace Go.Proofs.YtglklbcohbeacaaGreat
open Go.RowKit
set_option linter.unusedSimpArgs false
set_option linter.unusedVariables false

/-- What a part of a step gives: its value, the machine behind it, and what it kept. -/
def Busy (S : St) (X : Nat → Prop) (M' : Mc) (A : Option Nat) (w : World) (v : Value) (e : Ending) (w' : World) : Prop :=
  e = .returned v ∧ ∃ A', Mach w' S M' A' ∧ Chg S X A w w' A'
def Mc.tick (M : Mc) : Mc := { M with cyc := M.cyc + 1 }
theorem size62 : (Tryz.prog.info? 62).map (·.size) = some 5 := by kernel_rfl
theorem size66 : (Tryz.prog.info? 66).map (·.size) = some 6 := by kernel_rfl
theorem size68 : (Tryz.prog.info? 68).map (·.size) = some 2 := by kernel_rfl
theorem size35 : (Tryz.prog.info? 35).map (·.size) = some 1 := by kernel_rfl
theorem zero68 (W : World) : (zeroValue 68).run Tryz.prog W = .ok (.agg #[.int .u8 0, .int .i64 0]) W := by kernel_rfl
def portL : List Value := [.int .u8 0, .int .u8 0, .int .u8 0, .int .i64 0, .int .i64 0, .int .i64 0]
theorem hd122 (S : St) (M : Mc) (cnt : Int) : (hd S M cnt)[122]? = some (.int .u64 M.cyc) := rfl
theorem hd121 (S : St) (M : Mc) (cnt : Int) : (hd S M cnt)[121]? = some (.int .u64 M.steps) := rfl
theorem hd127 (S : St) (M : Mc) (cnt : Int) : (hd S M cnt)[127]? = some (.bool false) := rfl
theorem hd133 (S : St) (M : Mc) (cnt : Int) : (hd S M cnt)[133]? = some (.pointer (some ⟨S.u, 0, none⟩)) := rfl
/-- A store to a block that is new since the beginning. -/
theorem Chg.own {S : St} {X : Nat → Prop} {A A' : Option Nat} {w w' w2 : World} {g : Nat} (h : Chg S X A w w' A') (h2 : Step (· = g) w' w2) (hg : w.heap.size ≤ g) : Chg S X A w w2 A' :=
  ⟨h.step.trans' h2 (fun k hk e => by omega), h.new⟩
set_option maxRecDepth 100000 in
set_option maxHeartbeats 4000000 in
theorem cycle_any (S : St) (M : Mc) (A : Option Nat) (w : World) (h : Mach w S M A) (hc0 : 0 ≤ M.cyc) (hc1 : M.cyc ≤ 1000000) :
    Calls Tryz.prog 138 #[.pointer (some ⟨S.m, 0, none⟩)] w (Busy S (fun _ => False) M.tick A w (.tuple #[])) := by
  obtain ⟨cnt, acc, xs, h⟩ := h
  have H0 := hid_ h
  clear h
  have c122 := (H0.out.cell 122 (by omega)).trans (hd122 S M cnt)
  have f122 := H0.out.blk.frozen 122
  have hc9 : 0 ≤ cnt ∧ cnt ≤ 65535 := ⟨H0.out.cnt0, H0.out.cnt1⟩
  have hcn : 0 ≤ (cnt + 4) % 65536 ∧ (cnt + 4) % 65536 ≤ 65535 := by omega
  have O62 : Hid (∀ v ∈ ([.int .u16 ((cnt + 4) % 65536), .int .u8 0, .int .u8 0, .int .u8 0, .bool false] : List Value), v.oneCell' = true) := by intro v hv; simp at hv; rcases hv with rfl | rfl | rfl <;> rfl
  have O66 : Hid (∀ v ∈ portL, v.oneCell' = true) := List.all_eq_true.1 (by kernel_rfl)
  have O68 : Hid (∀ v ∈ ([.int .u8 0, .int .i64 0] : List Value), v.oneCell' = true) := List.all_eq_true.1 (by kernel_rfl)
  have O74 : Hid (∀ v ∈ zbL, v.oneCell' = true) := zb_one
  have KB : 49 + zbL.length ≤ 135 := by rw [zb_len]; omega
  have e1 : bits .and .u8 0 1 = 0 := rfl
  have e2 : bits .and .u8 0 2 = 0 := rfl
  go_enter Tryz.func138, Tryz.ntmps138
  go_wp2_with (first
    | ((with_reducible refine wpList_storeMach1 (op := ⟨none, .store 35 (.tmp 16) (.tmp 13), _, _, _, _⟩) rfl 35 (.tmp 16) (.tmp 13) rfl 122 (by with_unfolding_all rfl) H0.out (.int .u64 (M.cyc + 1)) (by with_unfolding_all rfl) rfl size35 rfl (by omega) M.tick cnt (by with_unfolding_all rfl) hc9.1 hc9.2 (by with_unfolding_all rfl) (by with_unfolding_all exact H0.out.work) (by with_unfolding_all rfl) ?_); intro w1 H1 K1; have C1 : Hid (Chg S (fun _ => False) A w w1 A) := Chg.ofM K1.out; clear c122 f122 K1 H0)
    | (with_reducible refine wpList_loadMach (op := ⟨some 23, _, _, _, _, _⟩) rfl 62 (.tmp 22) rfl 34 (by with_unfolding_all rfl) H1.out [.int .u16 cnt, .int .u8 0, .int .u8 0, .int .u8 0, .bool false] (by with_unfolding_all rfl) _ Tryz.underlying62 rfl (by with_unfolding_all exact size62) ?_)
    | (go_at_call 178; refine (timer_tick cnt hc9.1 hc9.2 _).mono ?_; rintro e w2 ⟨rfl, hc, hf, hz, hb⟩; clear hc hf hz; have H2 := hid_ (H1.out.below hb (Nat.le_refl _)); have C2 := hid_ (C1.out.trans (Chg.of (X := fun _ => False) hb)); clear hb H1 C1)
    | ((with_reducible refine wpList_storeMach (op := ⟨none, .store 62 (.tmp 29) (.tmp 25), _, _, _, _⟩) rfl 62 (.tmp 29) (.tmp 25) rfl 34 (by with_unfolding_all rfl) H2.out [.int .u16 ((cnt + 4) % 65536), .int .u8 0, .int .u8 0, .int .u8 0, .bool false] (by with_unfolding_all rfl) (by with_unfolding_all exact size62) O62.out (by simp) M.tick ((cnt + 4) % 65536) (by with_unfolding_all rfl) hcn.1 hcn.2 (by with_unfolding_all rfl) (by with_unfolding_all rfl) (by with_unfolding_all rfl) ?_); intro w3 H3 K3; have C3 := hid_ (C2.out.trans (Chg.ofM (X := fun _ => False) K3.out)); clear H2 C2 K3)
    | (go_at_call 34; refine (ask_no _ _ _).mono ?_; rintro e wx ⟨rfl, rfl⟩)
    | (with_reducible refine wpList_loadMach (op := ⟨some 39, _, _, _, _, _⟩) rfl 66 (.tmp 38) rfl 41 (by with_unfolding_all rfl) H3.out portL (by with_unfolding_all rfl) _ Tryz.underlying66 rfl (by with_unfolding_all exact size66) ?_)
    | (go_at_call 179; refine (port_zero _).mono ?_; rintro e w4 ⟨rfl, hc, hf, hz, hb⟩; clear hc hf hz; have H4 := hid_ (H3.out.below hb (Nat.le_refl _)); have C4 := hid_ (C3.out.trans (Chg.of (X := fun _ => False) hb)); clear hb H3 C3)
    | ((with_reducible refine wpList_storeMach (op := ⟨none, .store 66 (.tmp 45) (.tmp 41), _, _, _, _⟩) rfl 66 (.tmp 45) (.tmp 41) rfl 41 (by with_unfolding_all rfl) H4.out portL (by with_unfolding_all rfl) (by with_unfolding_all exact size66) O66.out (by simp [portL]) M.tick ((cnt + 4) % 65536) (by with_unfolding_all rfl) hcn.1 hcn.2 (by with_unfolding_all rfl) (by with_unfolding_all rfl) (by with_unfolding_all rfl) ?_); intro w5 H5 K5; have C5 := hid_ (C4.out.trans (Chg.ofM (X := fun _ => False) K5.out)); clear H4 C4 K5)
    | (with_reducible refine wpList_loadMach (op := ⟨some 54, _, _, _, _, _⟩) rfl 68 (.tmp 53) rfl 47 (by with_unfolding_all rfl) H5.out [.int .u8 0, .int .i64 0] (by with_unfolding_all rfl) _ Tryz.underlying68 rfl (by with_unfolding_all exact size68) ?_)
    | (go_at_call 180; refine (copier_zero _).mono ?_; rintro e w6 ⟨rfl, hc, hf, hz, hb⟩; clear hc hf hz; have H6 := hid_ (H5.out.below hb (Nat.le_refl _)); have C6 := hid_ (C5.out.trans (Chg.of (X := fun _ => False) hb)); clear hb H5 C5)
    | ((with_reducible refine wpList_allocA (op := ⟨some 3, _, _, _, _, _⟩) rfl 68 rfl #[.int .u8 0, .int .i64 0] zero68 ?_); intro w7 HB7 hb hz7; have hF7 := hid_ (H6.out.free (Nat.le_refl _)); have H7 := hid_ (H6.out.below hb.out (Nat.le_refl _)); have hg7 := hid_ C6.out.step.size; have C7 := hid_ (C6.out.trans (Chg.of (X := fun _ => False) hb.out)); clear hb H6 C6 hz7)
    | ((with_reducible refine wpList_storeM (op := ⟨none, .store 68 (.tmp 3) (.tmp 56), _, _, _, _⟩) rfl 68 (.tmp 3) (.tmp 56) rfl w6.heap.size 0 (by with_unfolding_all rfl) _ _ HB7.out [.int .u8 0, .int .i64 0] (by with_unfolding_all rfl) (by with_unfolding_all exact size68) O68.out (by simp) #[.int .u8 0, .int .i64 0] (by with_unfolding_all rfl) ?_); intro w8 HB8 K8; have H8 := hid_ (H7.out.far K8.out hF7.out); have C8 := hid_ (C7.out.own K8.out hg7.out); clear H7 C7 K8 HB7)
    | (with_reducible refine wpList_loadM (op := ⟨some 61, _, _, _, _, _⟩) rfl 68 (.tmp 3) rfl w6.heap.size 0 (by with_unfolding_all rfl) _ _ HB8.out [.int .u8 0, .int .i64 0] (by with_unfolding_all rfl) _ Tryz.underlying68 rfl (by with_unfolding_all exact size68) ?_)
    | ((with_reducible refine wpList_storeMach (op := ⟨none, .store 68 (.tmp 64) (.tmp 61), _, _, _, _⟩) rfl 68 (.tmp 64) (.tmp 61) rfl 47 (by with_unfolding_all rfl) H8.out [.int .u8 0, .int .i64 0] (by with_unfolding_all rfl) (by with_unfolding_all exact size68) O68.out (by simp) M.tick ((cnt + 4) % 65536) (by with_unfolding_all rfl) hcn.1 hcn.2 (by with_unfolding_all rfl) (by with_unfolding_all rfl) (by with_unfolding_all rfl) ?_); intro w9 H9 K9; have C9 := hid_ (C8.out.trans (Chg.ofM (X := fun _ => False) K9.out)); clear H8 C8 K9)
    | (with_reducible refine wpList_loadMach (op := ⟨some 80, _, _, _, _, _⟩) rfl 74 (.tmp 79) rfl 49 (by with_unfolding_all rfl) H9.out zbL (by with_unfolding_all rfl) _ Tryz.underlying74 rfl (by with_unfolding_all exact board_size) ?_)
    | (go_at_call 182; refine (board_tick _).mono ?_; rintro e w10 ⟨rfl, hc, hf, hz, hb⟩; clear hc hf hz; have H10 := hid_ (H9.out.below hb (Nat.le_refl _)); have C10 := hid_ (C9.out.trans (Chg.of (X := fun _ => False) hb)); clear hb H9 C9)
    | ((with_reducible refine wpList_storeMach (op := ⟨none, .store 74 (.tmp 84) (.tmp 81), _, _, _, _⟩) rfl 74 (.tmp 84) (.tmp 81) rfl 49 (by with_unfolding_all rfl) H10.out zbL (by with_unfolding_all rfl) (by with_unfolding_all exact board_size) O74.out KB M.tick ((cnt + 4) % 65536) (by with_unfolding_all rfl) hcn.1 hcn.2 (by with_unfolding_all rfl) (by with_unfolding_all rfl) (by with_unfolding_all rfl) ?_); intro w11 H11 K11; have C11 := hid_ (C10.out.trans (Chg.ofM (X := fun _ => False) K11.out)); clear H10 C10 K11; have c133 := (H11.out.cell 133 (by omega)).trans (hd133 _ _ _); have c127 := (H11.out.cell 127 (by omega)).trans (hd127 _ _ _))
    | (go_at_call 183; refine (unit_off _ _ H11.out.unit).mono ?_; rintro e wx ⟨rfl, rfl⟩))
  go_end0
  exact ⟨rfl, A, ⟨_, _, _, H11.out⟩, C11.out⟩
end Go.Proofs.YtglklbcohbeacaaGreat
