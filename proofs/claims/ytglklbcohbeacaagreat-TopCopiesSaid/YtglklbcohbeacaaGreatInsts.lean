/- What a step does, order by order. -/
import Derived.Test.YtglklbcohbeacaaGreatMStep
namespace Go.Proofs.YtglklbcohbeacaaGreat
open Go.RowKit
set_option linter.unusedSimpArgs false
set_option linter.unusedVariables false
/-- A step of a machine: from what to what. -/
def Goes (S : St) (M M' : Mc) : Prop := ∀ (B : Nat) (A : Option Nat) (w : World), MInv B w S A → Mach w S M A →
  Calls Tryz.prog 17 #[.pointer (some ⟨S.m, 0, none⟩)] w (fun e w' => ∃ (kd pc : Int) (o : OpV) (t : Bool) (A' : Option Nat) (cnt : Int) (acc : Value) (xs : List Value), e = .returned (.tuple #[.agg (didL kd pc o t).toArray, acc]) ∧ MachP w' S M' A' cnt acc xs ∧ MInv B w' S A' ∧ Below B w w')
theorem mach_bd {w : World} {S : St} {M : Mc} {A : Option Nat} (h : Mach w S M A) (j : Nat) : 0 ≤ S.zs.getD j 0 ∧ S.zs.getD j 0 ≤ 255 := by
  obtain ⟨_, _, _, h⟩ := h
  exact h.rom.bd j
theorem Rg.ok.at_ {R : Rg} (h : R.ok) (i : Nat) (hi : i ≤ 65535) : Rg.ok { R with pc := (i : Int) } := { h with pc0 := by simp, pc1 := by simp; omega }
set_option maxHeartbeats 1000000 in
theorem go_sum_0 (hfill : Fills) (S : St) (M : Mc) (hok : M.R.ok) (i : Nat) (hpc : M.R.pc = i) (hi : i + 4 ≤ 16384) (hz : S.zs.getD i 0 = 198) (b : Int) (hzb : S.zs.getD (i + 1) 0 = b) (hc0 : 0 ≤ M.cyc) (hc1 : M.cyc ≤ 900000) (hs0 : 0 ≤ M.steps) (hs1 : M.steps ≤ 900000) :
    Goes S M { (Mc.fetches { M with n := 0 } 2) with R := { M.R with pc := ((i + 2 : Nat) : Int), a := (sumV 0 M.R.a M.R.f b).1, f := (sumV 0 M.R.a M.R.f b).2 }, steps := M.steps + 1 } := by
  intro B A w hI hM
  have hb1 := mach_bd hM (i + 1)
  have hb2 := mach_bd hM (i + 2)
  rw [hzb] at hb1
  have e8 : b % 256 = b := by omega
  have en : nOf 2 (S.zs.getD (i + 1) 0) (S.zs.getD (i + 2) 0) = b := hzb
  refine (mstep_any hfill S M A i 11 0 0 2 198 (by decide) hi hpc hz (by decide) (by decide) (by kernel_rfl) hc0 hc1 (Mc.fetches { M with n := 0 } 2) ({ M.R with pc := ((i + 2 : Nat) : Int), a := (sumV 0 M.R.a M.R.f b).1, f := (sumV 0 M.R.a M.R.f b).2 }) true hs0 hs1 ?_ B w hI hM).mono ?_
  · intro A r w hM hF h
    have hok1 : Rg.ok { M.R with pc := ((i + 2 : Nat) : Int) } := hok.at_ _ (by omega)
    rw [en]
    have hq := fun w h => bytes_sumN_0 S { M.R with pc := ((i + 2 : Nat) : Int) } r 0 2 b (by omega) (by omega) hok.a0 hok.a1 w h; simp only [e8] at hq; exact order_1 S _ A _ r 11 0 0 _ _ _ (by decide) _ _ (fun w hM h => (hq w h).mono (fun _ _ h => RRet.bus hM hF h)) w hM hF h
  · rintro e w' ⟨A', cnt, acc, xs, rfl, hP, hI', hb⟩
    exact ⟨_, _, _, _, A', cnt, acc, xs, rfl, hP, hI', hb⟩
set_option maxHeartbeats 1000000 in
theorem go_sum_1 (hfill : Fills) (S : St) (M : Mc) (hok : M.R.ok) (i : Nat) (hpc : M.R.pc = i) (hi : i + 4 ≤ 16384) (hz : S.zs.getD i 0 = 206) (b : Int) (hzb : S.zs.getD (i + 1) 0 = b) (hc0 : 0 ≤ M.cyc) (hc1 : M.cyc ≤ 900000) (hs0 : 0 ≤ M.steps) (hs1 : M.steps ≤ 900000) :
    Goes S M { (Mc.fetches { M with n := 0 } 2) with R := { M.R with pc := ((i + 2 : Nat) : Int), a := (sumV 1 M.R.a M.R.f b).1, f := (sumV 1 M.R.a M.R.f b).2 }, steps := M.steps + 1 } := by
  intro B A w hI hM
  have hb1 := mach_bd hM (i + 1)
  have hb2 := mach_bd hM (i + 2)
  rw [hzb] at hb1
  have e8 : b % 256 = b := by omega
  have en : nOf 2 (S.zs.getD (i + 1) 0) (S.zs.getD (i + 2) 0) = b := hzb
  refine (mstep_any hfill S M A i 11 1 0 2 206 (by decide) hi hpc hz (by decide) (by decide) (by kernel_rfl) hc0 hc1 (Mc.fetches { M with n := 0 } 2) ({ M.R with pc := ((i + 2 : Nat) : Int), a := (sumV 1 M.R.a M.R.f b).1, f := (sumV 1 M.R.a M.R.f b).2 }) true hs0 hs1 ?_ B w hI hM).mono ?_
  · intro A r w hM hF h
    have hok1 : Rg.ok { M.R with pc := ((i + 2 : Nat) : Int) } := hok.at_ _ (by omega)
    rw [en]
    have hq := fun w h => bytes_sumN_1 S { M.R with pc := ((i + 2 : Nat) : Int) } r 0 2 b (by omega) (by omega) hok.a0 hok.a1 w h; simp only [e8] at hq; exact order_1 S _ A _ r 11 1 0 _ _ _ (by decide) _ _ (fun w hM h => (hq w h).mono (fun _ _ h => RRet.bus hM hF h)) w hM hF h
  · rintro e w' ⟨A', cnt, acc, xs, rfl, hP, hI', hb⟩
    exact ⟨_, _, _, _, A', cnt, acc, xs, rfl, hP, hI', hb⟩
set_option maxHeartbeats 1000000 in
theorem go_sum_2 (hfill : Fills) (S : St) (M : Mc) (hok : M.R.ok) (i : Nat) (hpc : M.R.pc = i) (hi : i + 4 ≤ 16384) (hz : S.zs.getD i 0 = 214) (b : Int) (hzb : S.zs.getD (i + 1) 0 = b) (hc0 : 0 ≤ M.cyc) (hc1 : M.cyc ≤ 900000) (hs0 : 0 ≤ M.steps) (hs1 : M.steps ≤ 900000) :
    Goes S M { (Mc.fetches { M with n := 0 } 2) with R := { M.R with pc := ((i + 2 : Nat) : Int), a := (sumV 2 M.R.a M.R.f b).1, f := (sumV 2 M.R.a M.R.f b).2 }, steps := M.steps + 1 } := by
  intro B A w hI hM
  have hb1 := mach_bd hM (i + 1)
  have hb2 := mach_bd hM (i + 2)
  rw [hzb] at hb1
  have e8 : b % 256 = b := by omega
  have en : nOf 2 (S.zs.getD (i + 1) 0) (S.zs.getD (i + 2) 0) = b := hzb
  refine (mstep_any hfill S M A i 11 2 0 2 214 (by decide) hi hpc hz (by decide) (by decide) (by kernel_rfl) hc0 hc1 (Mc.fetches { M with n := 0 } 2) ({ M.R with pc := ((i + 2 : Nat) : Int), a := (sumV 2 M.R.a M.R.f b).1, f := (sumV 2 M.R.a M.R.f b).2 }) true hs0 hs1 ?_ B w hI hM).mono ?_
  · intro A r w hM hF h
    have hok1 : Rg.ok { M.R with pc := ((i + 2 : Nat) : Int) } := hok.at_ _ (by omega)
    rw [en]
    have hq := fun w h => bytes_sumN_2 S { M.R with pc := ((i + 2 : Nat) : Int) } r 0 2 b (by omega) (by omega) hok.a0 hok.a1 w h; simp only [e8] at hq; exact order_1 S _ A _ r 11 2 0 _ _ _ (by decide) _ _ (fun w hM h => (hq w h).mono (fun _ _ h => RRet.bus hM hF h)) w hM hF h
  · rintro e w' ⟨A', cnt, acc, xs, rfl, hP, hI', hb⟩
    exact ⟨_, _, _, _, A', cnt, acc, xs, rfl, hP, hI', hb⟩
set_option maxHeartbeats 1000000 in
theorem go_sum_3 (hfill : Fills) (S : St) (M : Mc) (hok : M.R.ok) (i : Nat) (hpc : M.R.pc = i) (hi : i + 4 ≤ 16384) (hz : S.zs.getD i 0 = 222) (b : Int) (hzb : S.zs.getD (i + 1) 0 = b) (hc0 : 0 ≤ M.cyc) (hc1 : M.cyc ≤ 900000) (hs0 : 0 ≤ M.steps) (hs1 : M.steps ≤ 900000) :
    Goes S M { (Mc.fetches { M with n := 0 } 2) with R := { M.R with pc := ((i + 2 : Nat) : Int), a := (sumV 3 M.R.a M.R.f b).1, f := (sumV 3 M.R.a M.R.f b).2 }, steps := M.steps + 1 } := by
  intro B A w hI hM
  have hb1 := mach_bd hM (i + 1)
  have hb2 := mach_bd hM (i + 2)
  rw [hzb] at hb1
  have e8 : b % 256 = b := by omega
  have en : nOf 2 (S.zs.getD (i + 1) 0) (S.zs.getD (i + 2) 0) = b := hzb
  refine (mstep_any hfill S M A i 11 3 0 2 222 (by decide) hi hpc hz (by decide) (by decide) (by kernel_rfl) hc0 hc1 (Mc.fetches { M with n := 0 } 2) ({ M.R with pc := ((i + 2 : Nat) : Int), a := (sumV 3 M.R.a M.R.f b).1, f := (sumV 3 M.R.a M.R.f b).2 }) true hs0 hs1 ?_ B w hI hM).mono ?_
  · intro A r w hM hF h
    have hok1 : Rg.ok { M.R with pc := ((i + 2 : Nat) : Int) } := hok.at_ _ (by omega)
    rw [en]
    have hq := fun w h => bytes_sumN_3 S { M.R with pc := ((i + 2 : Nat) : Int) } r 0 2 b (by omega) (by omega) hok.a0 hok.a1 w h; simp only [e8] at hq; exact order_1 S _ A _ r 11 3 0 _ _ _ (by decide) _ _ (fun w hM h => (hq w h).mono (fun _ _ h => RRet.bus hM hF h)) w hM hF h
  · rintro e w' ⟨A', cnt, acc, xs, rfl, hP, hI', hb⟩
    exact ⟨_, _, _, _, A', cnt, acc, xs, rfl, hP, hI', hb⟩
set_option maxHeartbeats 1000000 in
theorem go_sum_4 (hfill : Fills) (S : St) (M : Mc) (hok : M.R.ok) (i : Nat) (hpc : M.R.pc = i) (hi : i + 4 ≤ 16384) (hz : S.zs.getD i 0 = 230) (b : Int) (hzb : S.zs.getD (i + 1) 0 = b) (hc0 : 0 ≤ M.cyc) (hc1 : M.cyc ≤ 900000) (hs0 : 0 ≤ M.steps) (hs1 : M.steps ≤ 900000) :
    Goes S M { (Mc.fetches { M with n := 0 } 2) with R := { M.R with pc := ((i + 2 : Nat) : Int), a := (sumV 4 M.R.a M.R.f b).1, f := (sumV 4 M.R.a M.R.f b).2 }, steps := M.steps + 1 } := by
  intro B A w hI hM
  have hb1 := mach_bd hM (i + 1)
  have hb2 := mach_bd hM (i + 2)
  rw [hzb] at hb1
  have e8 : b % 256 = b := by omega
  have en : nOf 2 (S.zs.getD (i + 1) 0) (S.zs.getD (i + 2) 0) = b := hzb
  refine (mstep_any hfill S M A i 11 4 0 2 230 (by decide) hi hpc hz (by decide) (by decide) (by kernel_rfl) hc0 hc1 (Mc.fetches { M with n := 0 } 2) ({ M.R with pc := ((i + 2 : Nat) : Int), a := (sumV 4 M.R.a M.R.f b).1, f := (sumV 4 M.R.a M.R.f b).2 }) true hs0 hs1 ?_ B w hI hM).mono ?_
  · intro A r w hM hF h
    have hok1 : Rg.ok { M.R with pc := ((i + 2 : Nat) : Int) } := hok.at_ _ (by omega)
    rw [en]
    have hq := fun w h => bytes_sumN_4 S { M.R with pc := ((i + 2 : Nat) : Int) } r 0 2 b (by omega) (by omega) hok.a0 hok.a1 w h; simp only [e8] at hq; exact order_1 S _ A _ r 11 4 0 _ _ _ (by decide) _ _ (fun w hM h => (hq w h).mono (fun _ _ h => RRet.bus hM hF h)) w hM hF h
  · rintro e w' ⟨A', cnt, acc, xs, rfl, hP, hI', hb⟩
    exact ⟨_, _, _, _, A', cnt, acc, xs, rfl, hP, hI', hb⟩
set_option maxHeartbeats 1000000 in
theorem go_sum_5 (hfill : Fills) (S : St) (M : Mc) (hok : M.R.ok) (i : Nat) (hpc : M.R.pc = i) (hi : i + 4 ≤ 16384) (hz : S.zs.getD i 0 = 238) (b : Int) (hzb : S.zs.getD (i + 1) 0 = b) (hc0 : 0 ≤ M.cyc) (hc1 : M.cyc ≤ 900000) (hs0 : 0 ≤ M.steps) (hs1 : M.steps ≤ 900000) :
    Goes S M { (Mc.fetches { M with n := 0 } 2) with R := { M.R with pc := ((i + 2 : Nat) : Int), a := (sumV 5 M.R.a M.R.f b).1, f := (sumV 5 M.R.a M.R.f b).2 }, steps := M.steps + 1 } := by
  intro B A w hI hM
  have hb1 := mach_bd hM (i + 1)
  have hb2 := mach_bd hM (i + 2)
  rw [hzb] at hb1
  have e8 : b % 256 = b := by omega
  have en : nOf 2 (S.zs.getD (i + 1) 0) (S.zs.getD (i + 2) 0) = b := hzb
  refine (mstep_any hfill S M A i 11 5 0 2 238 (by decide) hi hpc hz (by decide) (by decide) (by kernel_rfl) hc0 hc1 (Mc.fetches { M with n := 0 } 2) ({ M.R with pc := ((i + 2 : Nat) : Int), a := (sumV 5 M.R.a M.R.f b).1, f := (sumV 5 M.R.a M.R.f b).2 }) true hs0 hs1 ?_ B w hI hM).mono ?_
  · intro A r w hM hF h
    have hok1 : Rg.ok { M.R with pc := ((i + 2 : Nat) : Int) } := hok.at_ _ (by omega)
    rw [en]
    have hq := fun w h => bytes_sumN_5 S { M.R with pc := ((i + 2 : Nat) : Int) } r 0 2 b (by omega) (by omega) hok.a0 hok.a1 w h; simp only [e8] at hq; exact order_1 S _ A _ r 11 5 0 _ _ _ (by decide) _ _ (fun w hM h => (hq w h).mono (fun _ _ h => RRet.bus hM hF h)) w hM hF h
  · rintro e w' ⟨A', cnt, acc, xs, rfl, hP, hI', hb⟩
    exact ⟨_, _, _, _, A', cnt, acc, xs, rfl, hP, hI', hb⟩
set_option maxHeartbeats 1000000 in
theorem go_sum_6 (hfill : Fills) (S : St) (M : Mc) (hok : M.R.ok) (i : Nat) (hpc : M.R.pc = i) (hi : i + 4 ≤ 16384) (hz : S.zs.getD i 0 = 246) (b : Int) (hzb : S.zs.getD (i + 1) 0 = b) (hc0 : 0 ≤ M.cyc) (hc1 : M.cyc ≤ 900000) (hs0 : 0 ≤ M.steps) (hs1 : M.steps ≤ 900000) :
    Goes S M { (Mc.fetches { M with n := 0 } 2) with R := { M.R with pc := ((i + 2 : Nat) : Int), a := (sumV 6 M.R.a M.R.f b).1, f := (sumV 6 M.R.a M.R.f b).2 }, steps := M.steps + 1 } := by
  intro B A w hI hM
  have hb1 := mach_bd hM (i + 1)
  have hb2 := mach_bd hM (i + 2)
  rw [hzb] at hb1
  have e8 : b % 256 = b := by omega
  have en : nOf 2 (S.zs.getD (i + 1) 0) (S.zs.getD (i + 2) 0) = b := hzb
  refine (mstep_any hfill S M A i 11 6 0 2 246 (by decide) hi hpc hz (by decide) (by decide) (by kernel_rfl) hc0 hc1 (Mc.fetches { M with n := 0 } 2) ({ M.R with pc := ((i + 2 : Nat) : Int), a := (sumV 6 M.R.a M.R.f b).1, f := (sumV 6 M.R.a M.R.f b).2 }) true hs0 hs1 ?_ B w hI hM).mono ?_
  · intro A r w hM hF h
    have hok1 : Rg.ok { M.R with pc := ((i + 2 : Nat) : Int) } := hok.at_ _ (by omega)
    rw [en]
    have hq := fun w h => bytes_sumN_6 S { M.R with pc := ((i + 2 : Nat) : Int) } r 0 2 b (by omega) (by omega) hok.a0 hok.a1 w h; simp only [e8] at hq; exact order_1 S _ A _ r 11 6 0 _ _ _ (by decide) _ _ (fun w hM h => (hq w h).mono (fun _ _ h => RRet.bus hM hF h)) w hM hF h
  · rintro e w' ⟨A', cnt, acc, xs, rfl, hP, hI', hb⟩
    exact ⟨_, _, _, _, A', cnt, acc, xs, rfl, hP, hI', hb⟩
set_option maxHeartbeats 1000000 in
theorem go_sum_7 (hfill : Fills) (S : St) (M : Mc) (hok : M.R.ok) (i : Nat) (hpc : M.R.pc = i) (hi : i + 4 ≤ 16384) (hz : S.zs.getD i 0 = 254) (b : Int) (hzb : S.zs.getD (i + 1) 0 = b) (hc0 : 0 ≤ M.cyc) (hc1 : M.cyc ≤ 900000) (hs0 : 0 ≤ M.steps) (hs1 : M.steps ≤ 900000) :
    Goes S M { (Mc.fetches { M with n := 0 } 2) with R := { M.R with pc := ((i + 2 : Nat) : Int), a := (sumV 7 M.R.a M.R.f b).1, f := (sumV 7 M.R.a M.R.f b).2 }, steps := M.steps + 1 } := by
  intro B A w hI hM
  have hb1 := mach_bd hM (i + 1)
  have hb2 := mach_bd hM (i + 2)
  rw [hzb] at hb1
  have e8 : b % 256 = b := by omega
  have en : nOf 2 (S.zs.getD (i + 1) 0) (S.zs.getD (i + 2) 0) = b := hzb
  refine (mstep_any hfill S M A i 11 7 0 2 254 (by decide) hi hpc hz (by decide) (by decide) (by kernel_rfl) hc0 hc1 (Mc.fetches { M with n := 0 } 2) ({ M.R with pc := ((i + 2 : Nat) : Int), a := (sumV 7 M.R.a M.R.f b).1, f := (sumV 7 M.R.a M.R.f b).2 }) true hs0 hs1 ?_ B w hI hM).mono ?_
  · intro A r w hM hF h
    have hok1 : Rg.ok { M.R with pc := ((i + 2 : Nat) : Int) } := hok.at_ _ (by omega)
    rw [en]
    have hq := fun w h => bytes_sumN_7 S { M.R with pc := ((i + 2 : Nat) : Int) } r 0 2 b (by omega) (by omega) hok.a0 hok.a1 w h; simp only [e8] at hq; exact order_1 S _ A _ r 11 7 0 _ _ _ (by decide) _ _ (fun w hM h => (hq w h).mono (fun _ _ h => RRet.bus hM hF h)) w hM hF h
  · rintro e w' ⟨A', cnt, acc, xs, rfl, hP, hI', hb⟩
    exact ⟨_, _, _, _, A', cnt, acc, xs, rfl, hP, hI', hb⟩
set_option maxHeartbeats 1000000 in
theorem go_moveb (hfill : Fills) (S : St) (M : Mc) (hok : M.R.ok) (i : Nat) (hpc : M.R.pc = i) (hi : i + 4 ≤ 16384) (hz : S.zs.getD i 0 = 6) (b : Int) (hzb : S.zs.getD (i + 1) 0 = b) (hc0 : 0 ≤ M.cyc) (hc1 : M.cyc ≤ 900000) (hs0 : 0 ≤ M.steps) (hs1 : M.steps ≤ 900000) :
    Goes S M { (Mc.fetches { M with n := 0 } 2) with R := { M.R with pc := ((i + 2 : Nat) : Int), b := b }, steps := M.steps + 1 } := by
  intro B A w hI hM
  have hb1 := mach_bd hM (i + 1)
  have hb2 := mach_bd hM (i + 2)
  rw [hzb] at hb1
  have e8 : b % 256 = b := by omega
  have en : nOf 2 (S.zs.getD (i + 1) 0) (S.zs.getD (i + 2) 0) = b := hzb
  refine (mstep_any hfill S M A i 8 0 0 2 6 (by decide) hi hpc hz (by decide) (by decide) (by kernel_rfl) hc0 hc1 (Mc.fetches { M with n := 0 } 2) ({ M.R with pc := ((i + 2 : Nat) : Int), b := b }) true hs0 hs1 ?_ B w hI hM).mono ?_
  · intro A r w hM hF h
    have hok1 : Rg.ok { M.R with pc := ((i + 2 : Nat) : Int) } := hok.at_ _ (by omega)
    rw [en]
    have hq := fun w h => bytes_moveN_b S { M.R with pc := ((i + 2 : Nat) : Int) } r 0 2 b (by omega) (by omega) w h; simp only [e8] at hq; exact order_1 S _ A _ r 8 0 0 _ _ _ (by decide) _ _ (fun w hM h => (hq w h).mono (fun _ _ h => RRet.bus hM hF h)) w hM hF h
  · rintro e w' ⟨A', cnt, acc, xs, rfl, hP, hI', hb⟩
    exact ⟨_, _, _, _, A', cnt, acc, xs, rfl, hP, hI', hb⟩
set_option maxHeartbeats 1000000 in
theorem go_movea (hfill : Fills) (S : St) (M : Mc) (hok : M.R.ok) (i : Nat) (hpc : M.R.pc = i) (hi : i + 4 ≤ 16384) (hz : S.zs.getD i 0 = 62) (b : Int) (hzb : S.zs.getD (i + 1) 0 = b) (hc0 : 0 ≤ M.cyc) (hc1 : M.cyc ≤ 900000) (hs0 : 0 ≤ M.steps) (hs1 : M.steps ≤ 900000) :
    Goes S M { (Mc.fetches { M with n := 0 } 2) with R := { M.R with pc := ((i + 2 : Nat) : Int), a := b }, steps := M.steps + 1 } := by
  intro B A w hI hM
  have hb1 := mach_bd hM (i + 1)
  have hb2 := mach_bd hM (i + 2)
  rw [hzb] at hb1
  have e8 : b % 256 = b := by omega
  have en : nOf 2 (S.zs.getD (i + 1) 0) (S.zs.getD (i + 2) 0) = b := hzb
  refine (mstep_any hfill S M A i 8 7 0 2 62 (by decide) hi hpc hz (by decide) (by decide) (by kernel_rfl) hc0 hc1 (Mc.fetches { M with n := 0 } 2) ({ M.R with pc := ((i + 2 : Nat) : Int), a := b }) true hs0 hs1 ?_ B w hI hM).mono ?_
  · intro A r w hM hF h
    have hok1 : Rg.ok { M.R with pc := ((i + 2 : Nat) : Int) } := hok.at_ _ (by omega)
    rw [en]
    have hq := fun w h => bytes_moveN_a S { M.R with pc := ((i + 2 : Nat) : Int) } r 0 2 b (by omega) (by omega) w h; simp only [e8] at hq; exact order_1 S _ A _ r 8 7 0 _ _ _ (by decide) _ _ (fun w hM h => (hq w h).mono (fun _ _ h => RRet.bus hM hF h)) w hM hF h
  · rintro e w' ⟨A', cnt, acc, xs, rfl, hP, hI', hb⟩
    exact ⟨_, _, _, _, A', cnt, acc, xs, rfl, hP, hI', hb⟩
set_option maxHeartbeats 1000000 in
theorem go_hl (hfill : Fills) (S : St) (M : Mc) (hok : M.R.ok) (i : Nat) (hpc : M.R.pc = i) (hi : i + 4 ≤ 16384) (hz : S.zs.getD i 0 = 33) (b c : Int) (hzb : S.zs.getD (i + 1) 0 = b) (hzc : S.zs.getD (i + 2) 0 = c) (hc0 : 0 ≤ M.cyc) (hc1 : M.cyc ≤ 900000) (hs0 : 0 ≤ M.steps) (hs1 : M.steps ≤ 900000) :
    Goes S M { (Mc.fetches { M with n := 0 } 3) with R := { M.R with pc := ((i + 3 : Nat) : Int), h := (b + 256 * c) / 256, l := (b + 256 * c) % 256 }, steps := M.steps + 1 } := by
  intro B A w hI hM
  have hb1 := mach_bd hM (i + 1)
  have hb2 := mach_bd hM (i + 2)
  rw [hzb] at hb1
  rw [hzc] at hb2
  have en : nOf 3 (S.zs.getD (i + 1) 0) (S.zs.getD (i + 2) 0) = b + 256 * c := by rw [hzb, hzc]; rfl
  refine (mstep_any hfill S M A i 9 2 0 3 33 (by decide) hi hpc hz (by decide) (by decide) (by kernel_rfl) hc0 hc1 (Mc.fetches { M with n := 0 } 3) ({ M.R with pc := ((i + 3 : Nat) : Int), h := (b + 256 * c) / 256, l := (b + 256 * c) % 256 }) true hs0 hs1 ?_ B w hI hM).mono ?_
  · intro A r w hM hF h
    have hok1 : Rg.ok { M.R with pc := ((i + 3 : Nat) : Int) } := hok.at_ _ (by omega)
    rw [en]
    exact order_2 S _ A _ r 9 2 0 _ _ _ (by decide) _ _ (fun w _ h => bytes_no_9 S _ r _ _ _ (b + 256 * c) (by omega) (by omega) w h) (fun w hM h => (words_hl S _ r 0 0 3 (b + 256 * c) (by omega) (by omega) w h).mono (fun _ _ h => RRet.bus hM hF h)) w hM hF h
  · rintro e w' ⟨A', cnt, acc, xs, rfl, hP, hI', hb⟩
    exact ⟨_, _, _, _, A', cnt, acc, xs, rfl, hP, hI', hb⟩
set_option maxHeartbeats 1000000 in
theorem go_de (hfill : Fills) (S : St) (M : Mc) (hok : M.R.ok) (i : Nat) (hpc : M.R.pc = i) (hi : i + 4 ≤ 16384) (hz : S.zs.getD i 0 = 17) (b c : Int) (hzb : S.zs.getD (i + 1) 0 = b) (hzc : S.zs.getD (i + 2) 0 = c) (hc0 : 0 ≤ M.cyc) (hc1 : M.cyc ≤ 900000) (hs0 : 0 ≤ M.steps) (hs1 : M.steps ≤ 900000) :
    Goes S M { (Mc.fetches { M with n := 0 } 3) with R := { M.R with pc := ((i + 3 : Nat) : Int), d := (b + 256 * c) / 256, e := (b + 256 * c) % 256 }, steps := M.steps + 1 } := by
  intro B A w hI hM
  have hb1 := mach_bd hM (i + 1)
  have hb2 := mach_bd hM (i + 2)
  rw [hzb] at hb1
  rw [hzc] at hb2
  have en : nOf 3 (S.zs.getD (i + 1) 0) (S.zs.getD (i + 2) 0) = b + 256 * c := by rw [hzb, hzc]; rfl
  refine (mstep_any hfill S M A i 9 1 0 3 17 (by decide) hi hpc hz (by decide) (by decide) (by kernel_rfl) hc0 hc1 (Mc.fetches { M with n := 0 } 3) ({ M.R with pc := ((i + 3 : Nat) : Int), d := (b + 256 * c) / 256, e := (b + 256 * c) % 256 }) true hs0 hs1 ?_ B w hI hM).mono ?_
  · intro A r w hM hF h
    have hok1 : Rg.ok { M.R with pc := ((i + 3 : Nat) : Int) } := hok.at_ _ (by omega)
    rw [en]
    exact order_2 S _ A _ r 9 1 0 _ _ _ (by decide) _ _ (fun w _ h => bytes_no_9 S _ r _ _ _ (b + 256 * c) (by omega) (by omega) w h) (fun w hM h => (words_de S _ r 0 0 3 (b + 256 * c) (by omega) (by omega) w h).mono (fun _ _ h => RRet.bus hM hF h)) w hM hF h
  · rintro e w' ⟨A', cnt, acc, xs, rfl, hP, hI', hb⟩
    exact ⟨_, _, _, _, A', cnt, acc, xs, rfl, hP, hI', hb⟩
set_option maxHeartbeats 1000000 in
theorem go_load (hfill : Fills) (S : St) (M : Mc) (hok : M.R.ok) (i : Nat) (hpc : M.R.pc = i) (hi : i + 4 ≤ 16384) (hz : S.zs.getD i 0 = 42) (j : Nat) (hj : M.R.hl = j) (hj2 : j < 16384) (hc0 : 0 ≤ M.cyc) (hc1 : M.cyc ≤ 900000) (hs0 : 0 ≤ M.steps) (hs1 : M.steps ≤ 900000) :
    Goes S M { (Mc.fetches { M with n := 0 } 1).bus with R := { M.R.hlUp with pc := ((i + 1 : Nat) : Int), a := S.zs.getD j 0 }, steps := M.steps + 1 } := by
  intro B A w hI hM
  have hb1 := mach_bd hM (i + 1)
  have hb2 := mach_bd hM (i + 2)
  have en : nOf 1 (S.zs.getD (i + 1) 0) (S.zs.getD (i + 2) 0) = 0 := rfl
  refine (mstep_any hfill S M A i 32 2 0 1 42 (by decide) hi hpc hz (by decide) (by decide) (by kernel_rfl) hc0 hc1 (Mc.fetches { M with n := 0 } 1).bus ({ M.R.hlUp with pc := ((i + 1 : Nat) : Int), a := S.zs.getD j 0 }) true hs0 hs1 ?_ B w hI hM).mono ?_
  · intro A r w hM hF h
    have hok1 : Rg.ok { M.R with pc := ((i + 1 : Nat) : Int) } := hok.at_ _ (by omega)
    rw [en]
    exact order_3 S _ A _ r 32 2 0 _ _ _ (by decide) _ _ (fun w _ h => bytes_no_32 S _ r _ _ _ 0 (by omega) (by omega) w h) (fun w _ h => words_no_32 S _ r _ _ _ 0 (by omega) (by omega) w h) (fun w hM h => places_load_hl S _ A _ hok1 r (by show 1 ≤ 1000; omega) (by show 0 ≤ M.cyc + 1; omega) (by show M.cyc + 1 ≤ 1000000; omega) 0 1 0 j hj hj2 w hM hF h) w hM hF h
  · rintro e w' ⟨A', cnt, acc, xs, rfl, hP, hI', hb⟩
    exact ⟨_, _, _, _, A', cnt, acc, xs, rfl, hP, hI', hb⟩
set_option maxHeartbeats 1000000 in
theorem go_store (hfill : Fills) (S : St) (M : Mc) (hok : M.R.ok) (i : Nat) (hpc : M.R.pc = i) (hi : i + 4 ≤ 16384) (hz : S.zs.getD i 0 = 18) (j : Nat) (hj : M.R.de = 49152 + (j : Int)) (hj2 : j < 8192) (hc0 : 0 ≤ M.cyc) (hc1 : M.cyc ≤ 900000) (hs0 : 0 ≤ M.steps) (hs1 : M.steps ≤ 900000) :
    Goes S M { (Mc.put (Mc.tick (Mc.fetches { M with n := 0 } 1)) j M.R.a).log with R := { M.R with pc := ((i + 1 : Nat) : Int) }, steps := M.steps + 1 } := by
  intro B A w hI hM
  have hb1 := mach_bd hM (i + 1)
  have hb2 := mach_bd hM (i + 2)
  have en : nOf 1 (S.zs.getD (i + 1) 0) (S.zs.getD (i + 2) 0) = 0 := rfl
  refine (mstep_any hfill S M A i 33 1 0 1 18 (by decide) hi hpc hz (by decide) (by decide) (by kernel_rfl) hc0 hc1 (Mc.put (Mc.tick (Mc.fetches { M with n := 0 } 1)) j M.R.a).log ({ M.R with pc := ((i + 1 : Nat) : Int) }) true hs0 hs1 ?_ B w hI hM).mono ?_
  · intro A r w hM hF h
    have hok1 : Rg.ok { M.R with pc := ((i + 1 : Nat) : Int) } := hok.at_ _ (by omega)
    rw [en]
    exact order_3 S _ A _ r 33 1 0 _ _ _ (by decide) _ _ (fun w _ h => bytes_no_33 S _ r _ _ _ 0 (by omega) (by omega) w h) (fun w _ h => words_no_33 S _ r _ _ _ 0 (by omega) (by omega) w h) (fun w hM h => places_store_de S _ A _ hok1 r (by show 1 ≤ 1000; omega) (by show 0 ≤ M.cyc + 1; omega) (by show M.cyc + 1 ≤ 1000000; omega) 0 1 0 j hj hj2 w hM hF h) w hM hF h
  · rintro e w' ⟨A', cnt, acc, xs, rfl, hP, hI', hb⟩
    exact ⟨_, _, _, _, A', cnt, acc, xs, rfl, hP, hI', hb⟩
set_option maxHeartbeats 1000000 in
theorem go_inc (hfill : Fills) (S : St) (M : Mc) (hok : M.R.ok) (i : Nat) (hpc : M.R.pc = i) (hi : i + 4 ≤ 16384) (hz : S.zs.getD i 0 = 19) (hc0 : 0 ≤ M.cyc) (hc1 : M.cyc ≤ 900000) (hs0 : 0 ≤ M.steps) (hs1 : M.steps ≤ 900000) :
    Goes S M { (Mc.fetches { M with n := 0 } 1).bus with R := { M.R.deUp with pc := ((i + 1 : Nat) : Int) }, steps := M.steps + 1 } := by
  intro B A w hI hM
  have hb1 := mach_bd hM (i + 1)
  have hb2 := mach_bd hM (i + 2)
  have en : nOf 1 (S.zs.getD (i + 1) 0) (S.zs.getD (i + 2) 0) = 0 := rfl
  refine (mstep_any hfill S M A i 14 1 0 1 19 (by decide) hi hpc hz (by decide) (by decide) (by kernel_rfl) hc0 hc1 (Mc.fetches { M with n := 0 } 1).bus ({ M.R.deUp with pc := ((i + 1 : Nat) : Int) }) true hs0 hs1 ?_ B w hI hM).mono ?_
  · intro A r w hM hF h
    have hok1 : Rg.ok { M.R with pc := ((i + 1 : Nat) : Int) } := hok.at_ _ (by omega)
    rw [en]
    exact order_2 S _ A _ r 14 1 0 _ _ _ (by decide) _ _ (fun w _ h => bytes_no_14 S _ r _ _ _ 0 (by omega) (by omega) w h) (fun w hM h => words_inc_de S _ A _ hok1 r (by show 1 ≤ 1000; omega) (by show 0 ≤ M.cyc + 1; omega) (by show M.cyc + 1 ≤ 1000000; omega) 0 1 0 w hM hF h) w hM hF h
  · rintro e w' ⟨A', cnt, acc, xs, rfl, hP, hI', hb⟩
    exact ⟨_, _, _, _, A', cnt, acc, xs, rfl, hP, hI', hb⟩
set_option maxHeartbeats 1000000 in
theorem go_dec (hfill : Fills) (S : St) (M : Mc) (hok : M.R.ok) (i : Nat) (hpc : M.R.pc = i) (hi : i + 4 ≤ 16384) (hz : S.zs.getD i 0 = 5) (hc0 : 0 ≤ M.cyc) (hc1 : M.cyc ≤ 900000) (hs0 : 0 ≤ M.steps) (hs1 : M.steps ≤ 900000) :
    Goes S M { (Mc.fetches { M with n := 0 } 1) with R := { M.R with pc := ((i + 1 : Nat) : Int), b := (M.R.b - 1) % 256, f := decF M.R.b M.R.f }, steps := M.steps + 1 } := by
  intro B A w hI hM
  have hb1 := mach_bd hM (i + 1)
  have hb2 := mach_bd hM (i + 2)
  have en : nOf 1 (S.zs.getD (i + 1) 0) (S.zs.getD (i + 2) 0) = 0 := rfl
  refine (mstep_any hfill S M A i 13 0 0 1 5 (by decide) hi hpc hz (by decide) (by decide) (by kernel_rfl) hc0 hc1 (Mc.fetches { M with n := 0 } 1) ({ M.R with pc := ((i + 1 : Nat) : Int), b := (M.R.b - 1) % 256, f := decF M.R.b M.R.f }) true hs0 hs1 ?_ B w hI hM).mono ?_
  · intro A r w hM hF h
    have hok1 : Rg.ok { M.R with pc := ((i + 1 : Nat) : Int) } := hok.at_ _ (by omega)
    rw [en]
    exact order_1 S _ A _ r 13 0 0 _ _ _ (by decide) _ _ (fun w hM h => (bytes_dec_b S _ hok1 r 0 1 0 (by omega) (by omega) w h).mono (fun _ _ h => RRet.bus hM hF h)) w hM hF h
  · rintro e w' ⟨A', cnt, acc, xs, rfl, hP, hI', hb⟩
    exact ⟨_, _, _, _, A', cnt, acc, xs, rfl, hP, hI', hb⟩
set_option maxHeartbeats 1000000 in
theorem go_jr (hfill : Fills) (S : St) (M : Mc) (hok : M.R.ok) (i : Nat) (hpc : M.R.pc = i) (hi : i + 4 ≤ 16384) (hz : S.zs.getD i 0 = 24) (hzb : S.zs.getD (i + 1) 0 = 78) (hc0 : 0 ≤ M.cyc) (hc1 : M.cyc ≤ 900000) (hs0 : 0 ≤ M.steps) (hs1 : M.steps ≤ 900000) :
    Goes S M { (Mc.fetches { M with n := 0 } 2).bus with R := { M.R with pc := (((i + 2 : Nat) : Int) + 78) % 65536 }, steps := M.steps + 1 } := by
  intro B A w hI hM
  have hb1 := mach_bd hM (i + 1)
  have hb2 := mach_bd hM (i + 2)
  have en : nOf 2 (S.zs.getD (i + 1) 0) (S.zs.getD (i + 2) 0) = 78 := hzb
  refine (mstep_any hfill S M A i 23 4 0 2 24 (by decide) hi hpc hz (by decide) (by decide) (by kernel_rfl) hc0 hc1 (Mc.fetches { M with n := 0 } 2).bus ({ M.R with pc := (((i + 2 : Nat) : Int) + 78) % 65536 }) true hs0 hs1 ?_ B w hI hM).mono ?_
  · intro A r w hM hF h
    have hok1 : Rg.ok { M.R with pc := ((i + 2 : Nat) : Int) } := hok.at_ _ (by omega)
    rw [en]
    exact order_4 S _ A _ r 23 4 0 _ _ _ (by decide) _ _ true (fun w _ h => bytes_no_23 S _ r _ _ _ 78 (by omega) (by omega) w h) (fun w _ h => words_no_23 S _ r _ _ _ 78 (by omega) (by omega) w h) (fun w _ h => places_no_23 S _ r _ _ _ 78 (by omega) (by omega) w h) (fun w hM h => jr_always S _ A _ hok1 r (by show 2 ≤ 1000; omega) (by show 0 ≤ M.cyc + 1 + 1; omega) (by show M.cyc + 1 + 1 ≤ 1000000; omega) 0 2 w hM hF h) w hM hF h
  · rintro e w' ⟨A', cnt, acc, xs, rfl, hP, hI', hb⟩
    exact ⟨_, _, _, _, A', cnt, acc, xs, rfl, hP, hI', hb⟩
set_option maxHeartbeats 1000000 in
theorem go_nz (hfill : Fills) (S : St) (M : Mc) (hok : M.R.ok) (i : Nat) (hpc : M.R.pc = i) (hi : i + 4 ≤ 16384) (hz : S.zs.getD i 0 = 32) (hf : (bits .and .u8 M.R.f 128 != 0) = false) (hzb : S.zs.getD (i + 1) 0 = 250) (hc0 : 0 ≤ M.cyc) (hc1 : M.cyc ≤ 900000) (hs0 : 0 ≤ M.steps) (hs1 : M.steps ≤ 900000) :
    Goes S M { (Mc.fetches { M with n := 0 } 2).bus with R := { M.R with pc := (((i + 2 : Nat) : Int) + 65530) % 65536 }, steps := M.steps + 1 } := by
  intro B A w hI hM
  have hb1 := mach_bd hM (i + 1)
  have hb2 := mach_bd hM (i + 2)
  have en : nOf 2 (S.zs.getD (i + 1) 0) (S.zs.getD (i + 2) 0) = 250 := hzb
  refine (mstep_any hfill S M A i 23 0 0 2 32 (by decide) hi hpc hz (by decide) (by decide) (by kernel_rfl) hc0 hc1 (Mc.fetches { M with n := 0 } 2).bus ({ M.R with pc := (((i + 2 : Nat) : Int) + 65530) % 65536 }) true hs0 hs1 ?_ B w hI hM).mono ?_
  · intro A r w hM hF h
    have hok1 : Rg.ok { M.R with pc := ((i + 2 : Nat) : Int) } := hok.at_ _ (by omega)
    rw [en]
    exact order_4 S _ A _ r 23 0 0 _ _ _ (by decide) _ _ true (fun w _ h => bytes_no_23 S _ r _ _ _ 250 (by omega) (by omega) w h) (fun w _ h => words_no_23 S _ r _ _ _ 250 (by omega) (by omega) w h) (fun w _ h => places_no_23 S _ r _ _ _ 250 (by omega) (by omega) w h) (fun w hM h => jr_nz S _ A _ hok1 r (by show 2 ≤ 1000; omega) (by show 0 ≤ M.cyc + 1 + 1; omega) (by show M.cyc + 1 + 1 ≤ 1000000; omega) hf 0 2 w hM hF h) w hM hF h
  · rintro e w' ⟨A', cnt, acc, xs, rfl, hP, hI', hb⟩
    exact ⟨_, _, _, _, A', cnt, acc, xs, rfl, hP, hI', hb⟩
set_option maxHeartbeats 1000000 in
theorem go_nznot (hfill : Fills) (S : St) (M : Mc) (hok : M.R.ok) (i : Nat) (hpc : M.R.pc = i) (hi : i + 4 ≤ 16384) (hz : S.zs.getD i 0 = 32) (hf : (bits .and .u8 M.R.f 128 != 0) = true) (hzb : S.zs.getD (i + 1) 0 = 250) (hc0 : 0 ≤ M.cyc) (hc1 : M.cyc ≤ 900000) (hs0 : 0 ≤ M.steps) (hs1 : M.steps ≤ 900000) :
    Goes S M { (Mc.fetches { M with n := 0 } 2) with R := { M.R with pc := ((i + 2 : Nat) : Int) }, steps := M.steps + 1 } := by
  intro B A w hI hM
  have hb1 := mach_bd hM (i + 1)
  have hb2 := mach_bd hM (i + 2)
  have en : nOf 2 (S.zs.getD (i + 1) 0) (S.zs.getD (i + 2) 0) = 250 := hzb
  refine (mstep_any hfill S M A i 23 0 0 2 32 (by decide) hi hpc hz (by decide) (by decide) (by kernel_rfl) hc0 hc1 (Mc.fetches { M with n := 0 } 2) ({ M.R with pc := ((i + 2 : Nat) : Int) }) false hs0 hs1 ?_ B w hI hM).mono ?_
  · intro A r w hM hF h
    have hok1 : Rg.ok { M.R with pc := ((i + 2 : Nat) : Int) } := hok.at_ _ (by omega)
    rw [en]
    exact order_4 S _ A _ r 23 0 0 _ _ _ (by decide) _ _ false (fun w _ h => bytes_no_23 S _ r _ _ _ 250 (by omega) (by omega) w h) (fun w _ h => words_no_23 S _ r _ _ _ 250 (by omega) (by omega) w h) (fun w _ h => places_no_23 S _ r _ _ _ 250 (by omega) (by omega) w h) (fun w hM h => jr_nz_no S _ A _ hok1 r (by show 2 ≤ 1000; omega) (by show 0 ≤ M.cyc + 1 + 1; omega) (by show M.cyc + 1 + 1 ≤ 1000000; omega) hf 0 2 250 w hM hF h) w hM hF h
  · rintro e w' ⟨A', cnt, acc, xs, rfl, hP, hI', hb⟩
    exact ⟨_, _, _, _, A', cnt, acc, xs, rfl, hP, hI', hb⟩
end Go.Proofs.YtglklbcohbeacaaGreat
