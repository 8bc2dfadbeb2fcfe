/- What a program that copies bytes comes to: the plain law. -/
import Derived.Test.YtglklbcohbeacaaGreatRunQ
import Derived.Test.YtglklbcohbeacaaGreatSumsP
namespace Go.Proofs.YtglklbcohbeacaaGreat
open Go.RowKit
set_option linter.unusedSimpArgs false
set_option linter.unusedVariables false
def copyP (lo hi n : Int) : List Int := [33, 96, 1, 17, lo, hi, 6, n, 42, 18, 19, 5, 32, 250, 24, 254]
/-- The cartridge, as the program reads it. -/
structure Cart (S : St) (lo hi n : Int) (ds : List Int) : Prop where
  p : ∀ j, j < 16 → S.zs.getD (336 + j) 0 = (copyP lo hi n).getD j 0
  d : ∀ j, j < 100 → S.zs.getD (352 + j) 0 = ds.getD j 0
  bd : ∀ j, 0 ≤ S.zs.getD j 0 ∧ S.zs.getD j 0 ≤ 255
/-- So many bytes are copied. -/
structure Lp (ds : List Int) (j0 n t : Nat) (M : Mc) : Prop where
  ok : M.R.ok
  pc : M.R.pc = if t < n then 344 else 350
  hl : M.R.hl = ((352 + t : Nat) : Int)
  de : M.R.de = 49152 + ((j0 + t : Nat) : Int)
  b : M.R.b = ((n - t : Nat) : Int)
  cyc : M.cyc = 11 + 10 * t - (if t < n then 0 else 1)
  steps : M.steps = 4 + 5 * t
  len : M.work.length = 8192
  work : ∀ i, i < 8192 → M.work.getD i 0 = if j0 ≤ i ∧ i < j0 + t then ds.getD (i - j0) 0 else 0
theorem Goes.ex {S : St} {M X : Mc} (h : Goes S M X) : ∃ M', Goes S M M' ∧ M' = X := ⟨X, h, rfl⟩
theorem fl_z128 (z n h c : Bool) : (bits .and .u8 (fl z n h c) 128 != 0) = z := by cases z <;> cases n <;> cases h <;> cases c <;> decide
theorem hl_parts (x : Int) (h0 : 0 ≤ x) (h1 : x ≤ 65535) : (0 ≤ x / 256 ∧ x / 256 ≤ 255) ∧ (0 ≤ x % 256 ∧ x % 256 ≤ 255) ∧ x / 256 * 256 + x % 256 = x := by omega
theorem go_round (hfill : Fills) (S : St) (lo hi : Int) (ds : List Int) (j0 n t : Nat) (hC : Cart S lo hi n ds) (M : Mc) (ht : t < n) (hn : n ≤ 60) (hj : j0 + 60 < 8192) (h : Lp ds j0 n t M) :
    ∃ M', Path S 5 M M' ∧ Lp ds j0 n (t + 1) M' := by
  have hpc : M.R.pc = ((344 : Nat) : Int) := by rw [h.pc, if_pos ht] <;> rfl
  have hcyc : M.cyc = 11 + 10 * t := by rw [h.cyc, if_pos ht]; omega
  have hst := h.steps
  have hrom : S.zs.getD (352 + t) 0 = ds.getD t 0 := hC.d t (by omega)
  have hbd := hC.bd (352 + t)
  obtain ⟨x0, x1⟩ := hl_parts ((M.R.hl + 1) % 65536) (by omega) (by omega)
  obtain ⟨x1, x2⟩ := x1
  -- ld a, (hl+)
  obtain ⟨M1, g1, e1⟩ := (go_load hfill S M h.ok 344 hpc (by omega) (hC.p 8 (by omega)) (352 + t) h.hl (by omega) (by omega) (by omega) (by omega) (by omega)).ex
  have ok1 : M1.R.ok := by rw [e1]; exact { h.ok with h0 := x0.1, h1 := x0.2, l0 := x1.1, l1 := x1.2, a0 := hbd.1, a1 := hbd.2, pc0 := (by decide : (0 : Int) ≤ 345), pc1 := (by decide : (345 : Int) ≤ 65535) }
  have pc1 : M1.R.pc = ((345 : Nat) : Int) := by rw [e1] <;> rfl
  have a1 : M1.R.a = S.zs.getD (352 + t) 0 := by rw [e1]
  have hl1 : M1.R.hl = ((352 + (t + 1) : Nat) : Int) := by
    have : M1.R.hl = (M.R.hl + 1) % 65536 / 256 * 256 + (M.R.hl + 1) % 65536 % 256 := by rw [e1] <;> rfl
    rw [this, x2, h.hl]; omega
  have de1 : M1.R.de = M.R.de := by rw [e1] <;> rfl
  have b1 : M1.R.b = M.R.b := by rw [e1] <;> rfl
  have cy1 : M1.cyc = M.cyc + 1 + 1 := by rw [e1] <;> rfl
  have st1 : M1.steps = M.steps + 1 := by rw [e1]
  have wk1 : M1.work = M.work := by rw [e1] <;> rfl
  clear e1
  -- ld (de), a
  obtain ⟨M2, g2, e2⟩ := (go_store hfill S M1 ok1 345 pc1 (by omega) (hC.p 9 (by omega)) (j0 + t) (by rw [de1, h.de]) (by omega) (by omega) (by omega) (by omega) (by omega)).ex
  have ok2 : M2.R.ok := by rw [e2]; exact { ok1 with pc0 := (by decide : (0 : Int) ≤ 346), pc1 := (by decide : (346 : Int) ≤ 65535) }
  have pc2 : M2.R.pc = ((346 : Nat) : Int) := by rw [e2] <;> rfl
  have hl2 : M2.R.hl = M1.R.hl := by rw [e2] <;> rfl
  have de2 : M2.R.de = M1.R.de := by rw [e2] <;> rfl
  have b2 : M2.R.b = M1.R.b := by rw [e2]
  have cy2 : M2.cyc = M1.cyc + 1 + 1 := by rw [e2] <;> rfl
  have st2 : M2.steps = M1.steps + 1 := by rw [e2]
  have wk2 : M2.work = M1.work.set (j0 + t) M1.R.a := by rw [e2] <;> rfl
  clear e2
  -- inc de
  obtain ⟨y0, y1⟩ := hl_parts ((M2.R.de + 1) % 65536) (by omega) (by omega)
  obtain ⟨y1, y2⟩ := y1
  obtain ⟨M3, g3, e3⟩ := (go_inc hfill S M2 ok2 346 pc2 (by omega) (hC.p 10 (by omega)) (by omega) (by omega) (by omega) (by omega)).ex
  have ok3 : M3.R.ok := by rw [e3]; exact { ok2 with d0 := y0.1, d1 := y0.2, e0 := y1.1, e1 := y1.2, pc0 := (by decide : (0 : Int) ≤ 347), pc1 := (by decide : (347 : Int) ≤ 65535) }
  have pc3 : M3.R.pc = ((347 : Nat) : Int) := by rw [e3] <;> rfl
  have hl3 : M3.R.hl = M2.R.hl := by rw [e3] <;> rfl
  have de3 : M3.R.de = 49152 + ((j0 + (t + 1) : Nat) : Int) := by
    have : M3.R.de = (M2.R.de + 1) % 65536 / 256 * 256 + (M2.R.de + 1) % 65536 % 256 := by rw [e3] <;> rfl
    rw [this, y2, de2, de1, h.de]; omega
  have b3 : M3.R.b = M2.R.b := by rw [e3] <;> rfl
  have cy3 : M3.cyc = M2.cyc + 1 + 1 := by rw [e3] <;> rfl
  have st3 : M3.steps = M2.steps + 1 := by rw [e3]
  have wk3 : M3.work = M2.work := by rw [e3] <;> rfl
  clear e3
  -- dec b
  obtain ⟨M4, g4, e4⟩ := (go_dec hfill S M3 ok3 347 pc3 (by omega) (hC.p 11 (by omega)) (by omega) (by omega) (by omega) (by omega)).ex
  have hb3 : M3.R.b = ((n - t : Nat) : Int) := by rw [b3, b2, b1, h.b]
  have hbf := fl_bd (decide ((M3.R.b - 1) % 256 = 0)) true (M3.R.b % 16 == 0) (cB M3.R.f)
  have ok4 : M4.R.ok := by rw [e4]; exact { ok3 with b0 := by show 0 ≤ (M3.R.b - 1) % 256; omega, b1 := by show (M3.R.b - 1) % 256 ≤ 255; omega, f0 := hbf.1, f1 := hbf.2, pc0 := (by decide : (0 : Int) ≤ 348), pc1 := (by decide : (348 : Int) ≤ 65535) }
  have pc4 : M4.R.pc = ((348 : Nat) : Int) := by rw [e4] <;> rfl
  have hl4 : M4.R.hl = M3.R.hl := by rw [e4] <;> rfl
  have de4 : M4.R.de = M3.R.de := by rw [e4] <;> rfl
  have b4 : M4.R.b = ((n - (t + 1) : Nat) : Int) := by
    have : M4.R.b = (M3.R.b - 1) % 256 := by rw [e4]
    rw [this, hb3]; omega
  have f4 : (bits .and .u8 M4.R.f 128 != 0) = decide ((M3.R.b - 1) % 256 = 0) := by
    have : M4.R.f = decF M3.R.b M3.R.f := by rw [e4]
    rw [this]; exact fl_z128 _ _ _ _
  have cy4 : M4.cyc = M3.cyc + 1 := by rw [e4] <;> rfl
  have st4 : M4.steps = M3.steps + 1 := by rw [e4]
  have wk4 : M4.work = M3.work := by rw [e4] <;> rfl
  clear e4
  have hwl : M4.work.length = 8192 := by rw [wk4, wk3, wk2, List.length_set, wk1, h.len]
  have hwk : ∀ i, i < 8192 → M4.work.getD i 0 = if j0 ≤ i ∧ i < j0 + (t + 1) then ds.getD (i - j0) 0 else 0 := by
    intro i hi
    rw [wk4, wk3, wk2, getD_set _ _ _ _ (by rw [wk1, h.len]; omega), wk1, a1, hrom]
    by_cases hij : i = j0 + t
    · rw [if_pos hij, if_pos (by omega), show i - j0 = t by omega]
    · rw [if_neg hij, h.work i hi]
      by_cases hlo : j0 ≤ i ∧ i < j0 + t
      · rw [if_pos hlo, if_pos (by omega)]
      · rw [if_neg hlo, if_neg (by omega)]
  have p4 : Path S 4 M M4 := ⟨M1, g1, M2, g2, M3, g3, M4, g4, rfl⟩
  by_cases hlast : t + 1 < n
  · have hz : (bits .and .u8 M4.R.f 128 != 0) = false := by rw [f4, hb3]; simp; omega
    obtain ⟨M5, g5, e5⟩ := (go_nz hfill S M4 ok4 348 pc4 (by omega) (hC.p 12 (by omega)) hz (hC.p 13 (by omega)) (by omega) (by omega) (by omega) (by omega)).ex
    refine ⟨M5, p4.trans (Path.one g5), ?_⟩
    exact {
      ok := by rw [e5]; exact { ok4 with pc0 := (by decide : (0 : Int) ≤ 344), pc1 := (by decide : (344 : Int) ≤ 65535) }
      pc := by rw [e5, if_pos hlast] <;> rfl
      hl := by rw [← hl1, ← hl2, ← hl3, ← hl4, e5] <;> rfl
      de := by rw [← de3, ← de4, e5] <;> rfl
      b := by rw [← b4, e5] <;> rfl
      cyc := by
        have : M5.cyc = M4.cyc + 1 + 1 + 1 := by rw [e5] <;> rfl
        rw [this, if_pos hlast]; omega
      steps := by
        have : M5.steps = M4.steps + 1 := by rw [e5]
        rw [this]; omega
      len := by rw [← hwl, e5] <;> rfl
      work := fun i hi => by rw [← hwk i hi, e5] <;> rfl }
  · have hz : (bits .and .u8 M4.R.f 128 != 0) = true := by rw [f4, hb3]; simp; omega
    obtain ⟨M5, g5, e5⟩ := (go_nznot hfill S M4 ok4 348 pc4 (by omega) (hC.p 12 (by omega)) hz (hC.p 13 (by omega)) (by omega) (by omega) (by omega) (by omega)).ex
    refine ⟨M5, p4.trans (Path.one g5), ?_⟩
    exact {
      ok := by rw [e5]; exact { ok4 with pc0 := (by decide : (0 : Int) ≤ 350), pc1 := (by decide : (350 : Int) ≤ 65535) }
      pc := by rw [e5, if_neg hlast] <;> rfl
      hl := by rw [← hl1, ← hl2, ← hl3, ← hl4, e5] <;> rfl
      de := by rw [← de3, ← de4, e5] <;> rfl
      b := by rw [← b4, e5] <;> rfl
      cyc := by
        have : M5.cyc = M4.cyc + 1 + 1 := by rw [e5] <;> rfl
        rw [this, if_neg hlast]; omega
      steps := by
        have : M5.steps = M4.steps + 1 := by rw [e5]
        rw [this]; omega
      len := by rw [← hwl, e5] <;> rfl
      work := fun i hi => by rw [← hwk i hi, e5] <;> rfl }
theorem go_rounds (hfill : Fills) (S : St) (lo hi : Int) (ds : List Int) (j0 n : Nat) (hC : Cart S lo hi n ds) (hn : n ≤ 60) (hj : j0 + 60 < 8192) (M : Mc) (h : Lp ds j0 n 0 M) : ∀ t, t ≤ n → ∃ M', Path S (5 * t) M M' ∧ Lp ds j0 n t M'
  | 0, _ => ⟨M, rfl, h⟩
  | t + 1, ht => by
    obtain ⟨M1, p1, l1⟩ := go_rounds hfill S lo hi ds j0 n hC hn hj M h t (by omega)
    obtain ⟨M2, p2, l2⟩ := go_round hfill S lo hi ds j0 n t hC M1 (by omega) hn hj l1
    exact ⟨M2, by rw [show 5 * (t + 1) = 5 * t + 5 by omega]; exact p1.trans p2, l2⟩
theorem go_begin (hfill : Fills) (S : St) (lo hi : Int) (ds : List Int) (j0 n : Nat) (hC : Cart S lo hi n ds) (hn0 : 1 ≤ n) (hn : n ≤ 60) (hj : j0 + 60 < 8192) (hlo : lo = (49152 + (j0 : Int)) % 256) (hhi : hi = (49152 + (j0 : Int)) / 256)
    (h0 : S.zs.getD 256 0 = 24) (h1 : S.zs.getD 257 0 = 78) : ∃ M, Path S 4 Mc0 M ∧ Lp ds j0 n 0 M := by
  have g1 := go_first hfill S h0 h1
  obtain ⟨M2, g2, e2⟩ := (go_hl hfill S M1 (r_ok 1 176 336 (by decide) (by decide) (by decide)) 336 rfl (by omega) (hC.p 0 (by omega)) 96 1 (hC.p 1 (by omega)) (hC.p 2 (by omega)) (by decide) (by decide) (by decide) (by decide)).ex
  have ok1 : M1.R.ok := r_ok 1 176 336 (by decide) (by decide) (by decide)
  have ok2 : M2.R.ok := by rw [e2]; exact { ok1 with h0 := by decide, h1 := by decide, l0 := by decide, l1 := by decide, pc0 := (by decide : (0 : Int) ≤ 339), pc1 := (by decide : (339 : Int) ≤ 65535) }
  have pc2 : M2.R.pc = ((339 : Nat) : Int) := by rw [e2] <;> rfl
  have hl2 : M2.R.hl = 352 := by rw [e2] <;> rfl
  have cy2 : M2.cyc = 6 := by rw [e2] <;> rfl
  have st2 : M2.steps = 2 := by rw [e2] <;> rfl
  have wk2 : M2.work = List.replicate 8192 0 := by rw [e2] <;> rfl
  clear e2
  obtain ⟨y0, y1⟩ := hl_parts (lo + 256 * hi) (by omega) (by omega)
  obtain ⟨y1, y2⟩ := y1
  obtain ⟨M3, g3, e3⟩ := (go_de hfill S M2 ok2 339 pc2 (by omega) (hC.p 3 (by omega)) lo hi (hC.p 4 (by omega)) (hC.p 5 (by omega)) (by omega) (by omega) (by omega) (by omega)).ex
  have ok3 : M3.R.ok := by rw [e3]; exact { ok2 with d0 := y0.1, d1 := y0.2, e0 := y1.1, e1 := y1.2, pc0 := (by decide : (0 : Int) ≤ 342), pc1 := (by decide : (342 : Int) ≤ 65535) }
  have pc3 : M3.R.pc = ((342 : Nat) : Int) := by rw [e3] <;> rfl
  have hl3 : M3.R.hl = M2.R.hl := by rw [e3] <;> rfl
  have de3 : M3.R.de = 49152 + (j0 : Int) := by
    have : M3.R.de = (lo + 256 * hi) / 256 * 256 + (lo + 256 * hi) % 256 := by rw [e3] <;> rfl
    rw [this, y2]; omega
  have cy3 : M3.cyc = M2.cyc + 1 + 1 + 1 := by rw [e3] <;> rfl
  have st3 : M3.steps = M2.steps + 1 := by rw [e3]
  have wk3 : M3.work = M2.work := by rw [e3] <;> rfl
  clear e3
  obtain ⟨M4, g4, e4⟩ := (go_moveb hfill S M3 ok3 342 pc3 (by omega) (hC.p 6 (by omega)) n (hC.p 7 (by omega)) (by omega) (by omega) (by omega) (by omega)).ex
  refine ⟨M4, ⟨M1, g1, M2, g2, M3, g3, M4, g4, rfl⟩, ?_⟩
  exact {
    ok := by rw [e4]; exact { ok3 with b0 := by show (0 : Int) ≤ (n : Int); omega, b1 := by show (n : Int) ≤ 255; omega, pc0 := (by decide : (0 : Int) ≤ 344), pc1 := (by decide : (344 : Int) ≤ 65535) }
    pc := by rw [e4, if_pos (by omega)] <;> rfl
    hl := by
      have : M4.R.hl = M3.R.hl := by rw [e4] <;> rfl
      rw [this, hl3, hl2] <;> rfl
    de := by
      have : M4.R.de = M3.R.de := by rw [e4] <;> rfl
      rw [this, de3] <;> rfl
    b := by rw [e4] <;> rfl
    cyc := by
      have : M4.cyc = M3.cyc + 1 + 1 := by rw [e4] <;> rfl
      rw [this, if_pos (by omega)]; omega
    steps := by
      have : M4.steps = M3.steps + 1 := by rw [e4]
      rw [this]; omega
    len := by
      have : M4.work = M3.work := by rw [e4] <;> rfl
      rw [this, wk3, wk2]; exact List.length_replicate ..
    work := fun i hi => by
      have : M4.work = M3.work := by rw [e4] <;> rfl
      rw [this, wk3, wk2, if_neg (by omega), List.getD_eq_getElem?_getD, List.getElem?_replicate, if_pos hi] <;> rfl }
theorem copies_end (hfill : Fills) (lo hi : Int) (ds : List Int) (j0 n : Nat) (hds : ds.length = n) (hn0 : 1 ≤ n) (hn : n ≤ 60) (hj : j0 + 60 < 8192) (hlo : lo = (49152 + (j0 : Int)) % 256) (hhi : hi = (49152 + (j0 : Int)) / 256) :
    Ends (copyP lo hi n ++ ds) (4 + 5 * n) (Lp ds j0 n n) := by
  intro S hb h1 h2
  have hC : Cart S lo hi n ds := ⟨fun j hj => by rw [h2 j (by omega), getD_left _ _ (by show j < 16; exact hj)], fun j hj => by
    rw [show 352 + j = 336 + (16 + j) by omega, h2 (16 + j) (by omega), getD_right _ _ (16 + j) j rfl], hb⟩
  obtain ⟨M, p, l⟩ := go_begin hfill S lo hi ds j0 n hC hn0 hn hj hlo hhi (h1 0 (by omega)) (h1 1 (by omega))
  obtain ⟨M', p', l'⟩ := go_rounds hfill S lo hi ds j0 n hC hn hj M l n (Nat.le_refl _)
  exact ⟨M', p.trans p', l'⟩
end Go.Proofs.YtglklbcohbeacaaGreat
