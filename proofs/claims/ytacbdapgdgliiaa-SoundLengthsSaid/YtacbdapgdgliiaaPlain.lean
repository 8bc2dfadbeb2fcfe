/- What ticks make of a board whose first voice does not slide: its levels, and its lengths, so many beats later. -/
import Derived.Test.YtacbdapgdgliiaaThen
namespace Go.Proofs.Ytacbdapgdgliiaa
set_option linter.unusedSimpArgs false
set_option linter.unusedVariables false

/-- What a beat makes of a voice. -/
def beatV (lev : Bool) (s rl rh : Int) (v : Vc) : Vc :=
  if s = 7 ∧ lev = true then levV rh (if s % 2 = 0 then lenV rl v else v) else if s % 2 = 0 then lenV rl v else v
theorem even_vc (b : Bd) (k : Nat) (hk : k < 4) : (evenB b).vc k = if b.step % 2 = 0 then lenV (b.reg (5 * k + 4)) (b.vc k) else b.vc k := by
  unfold evenB
  obtain rfl | rfl | rfl | rfl : k = 0 ∨ k = 1 ∨ k = 2 ∨ k = 3 := by omega
  all_goals split <;> rfl
theorem even_same (b : Bd) : (evenB b).regs = b.regs ∧ (evenB b).on = b.on ∧ (evenB b).slides = b.slides ∧ (evenB b).step = b.step ∧ (evenB b).div = b.div := by
  unfold evenB
  split <;> exact ⟨rfl, rfl, rfl, rfl, rfl⟩
theorem step_same (b : Bd) (hs : b.slides = false) : (stepB b).regs = b.regs ∧ (stepB b).on = b.on ∧ (stepB b).slides = false ∧ (stepB b).div = b.div := by
  unfold stepB
  split
  · rw [slideB, if_pos hs]; exact ⟨rfl, rfl, hs, rfl⟩
  · split
    · exact ⟨rfl, rfl, hs, rfl⟩
    · exact ⟨rfl, rfl, hs, rfl⟩
theorem step_vc (b : Bd) (hs : b.slides = false) (k : Nat) (hk : k < 4) : (stepB b).vc k = if b.step = 7 ∧ decide (k ≠ 2) = true then levV (b.reg (5 * k + 2)) (b.vc k) else b.vc k := by
  unfold stepB
  by_cases h26 : b.step = 2 ∨ b.step = 6
  · rw [if_pos h26, slideB, if_pos hs, if_neg (by omega)]
  · rw [if_neg h26]
    by_cases h7 : b.step = 7
    · rw [if_pos h7]
      obtain rfl | rfl | rfl | rfl : k = 0 ∨ k = 1 ∨ k = 2 ∨ k = 3 := by omega
      · rw [if_pos ⟨h7, rfl⟩]; rfl
      · rw [if_pos ⟨h7, rfl⟩]; rfl
      · rw [if_neg (by simp)]; rfl
      · rw [if_pos ⟨h7, rfl⟩]; rfl
    · rw [if_neg h7, if_neg (by omega)]
/-- A tick, at no slide. -/
structure After (b b' : Bd) : Prop where
  on : b'.on = true
  slides : b'.slides = false
  regs : b'.regs = b.regs
  few : b.div + 1 < 2048 → b'.div = b.div + 1 ∧ b'.step = b.step ∧ ∀ k, b'.vc k = b.vc k
  beat : ¬ b.div + 1 < 2048 → b'.div = 0 ∧ b'.step = (b.step + 1) % 8 ∧ ∀ k, k < 4 → b'.vc k = beatV (decide (k ≠ 2)) b.step (b.reg (5 * k + 4)) (b.reg (5 * k + 2)) (b.vc k)
theorem tick_after (b : Bd) (hon : b.on = true) (hs : b.slides = false) : After b (tickB b) := by
  unfold tickB
  rw [if_neg (by simp [hon])]
  by_cases hd : b.div + 1 < 2048
  · rw [if_pos hd]
    refine ⟨hon, hs, rfl, fun _ => ⟨rfl, rfl, fun k => ?_⟩, fun h => absurd hd h⟩
    match k with
    | 0 => rfl
    | 1 => rfl
    | 2 => rfl
    | _ + 3 => rfl
  · rw [if_neg hd]
    obtain ⟨e1, e2, e3, e4, e5⟩ := even_same { b with div := 0 }
    have hs' : (evenB { b with div := 0 }).slides = false := e3.trans hs
    obtain ⟨f1, f2, f3, f4⟩ := step_same _ hs'
    refine ⟨(f2.trans e2).trans hon, f3, f1.trans e1, fun h => absurd h hd, fun _ => ⟨f4.trans e5, rfl, fun k hk => ?_⟩⟩
    have h1 : (beatB b).vc k = (stepB (evenB { b with div := 0 })).vc k := by
      match k with
      | 0 => rfl
      | 1 => rfl
      | 2 => rfl
      | _ + 3 => rfl
    have h2 : ({ b with div := 0 } : Bd).vc k = b.vc k := by
      match k with
      | 0 => rfl
      | 1 => rfl
      | 2 => rfl
      | _ + 3 => rfl
    have h3 : ∀ i, (evenB { b with div := 0 }).reg i = b.reg i := fun i => by unfold Bd.reg; rw [e1]
    rw [h1, step_vc _ hs' k hk, even_vc _ k hk, h2, h3, e4]
    unfold beatV
    split <;> rfl
theorem len_keeps (r : Int) (v : Vc) : (lenV r v).lev = v.lev ∧ (lenV r v).wait = v.wait := by unfold lenV; split <;> exact ⟨rfl, rfl⟩
theorem lev_keeps (r : Int) (v : Vc) : (levV r v).len = v.len ∧ (levV r v).on = v.on := by
  unfold levV
  split
  · exact ⟨rfl, rfl⟩
  · split <;> exact ⟨rfl, rfl⟩

/-- A level, and how long it waits, so many turns later. -/
def lvN (x : Int) (n : Nat) : Int :=
  if x % 8 = 0 then x / 16 else if x / 8 % 2 = 1 then (if 15 < x / 16 + (n : Int) / (x % 8) then 15 else x / 16 + (n : Int) / (x % 8)) else (if x / 16 - (n : Int) / (x % 8) < 0 then 0 else x / 16 - (n : Int) / (x % 8))
def wtN (x : Int) (n : Nat) : Int := if x % 8 = 0 then 0 else x % 8 - (n : Int) % (x % 8)
theorem lev_turn (x : Int) (h0 : 0 ≤ x) (h1 : x ≤ 255) (n : Nat) (v : Vc) (hl : v.lev = lvN x n) (hw : v.wait = wtN x n) : (levV x v).lev = lvN x (n + 1) ∧ (levV x v).wait = wtN x (n + 1) := by
  unfold levV
  have hc : x % 8 = 0 ∨ x % 8 = 1 ∨ x % 8 = 2 ∨ x % 8 = 3 ∨ x % 8 = 4 ∨ x % 8 = 5 ∨ x % 8 = 6 ∨ x % 8 = 7 := by omega
  unfold lvN wtN at *
  rcases hc with hc | hc | hc | hc | hc | hc | hc | hc
  · simp only [hc, if_true] at *
    exact ⟨hl, hw⟩
  all_goals
    simp only [hc] at *
    by_cases hu : x / 8 % 2 = 1
    · simp only [hu, if_true] at *
      simp at hl hw ⊢
      split
      · refine ⟨?_, ?_⟩
        · simp only; rw [hl]; split <;> split <;> omega
        · simp only <;> omega
      · refine ⟨?_, ?_⟩
        · simp only; rw [hl]; split <;> split <;> omega
        · simp only <;> omega
    · simp only [hu, if_false] at *
      simp at hl hw ⊢
      split
      · refine ⟨?_, ?_⟩
        · simp only; rw [hl]; split <;> split <;> omega
        · simp only <;> omega
      · refine ⟨?_, ?_⟩
        · simp only; rw [hl]; split <;> split <;> omega
        · simp only <;> omega

theorem lev_run (b0 : Bd) (k : Nat) (hk : k < 4) (hk2 : k ≠ 2) (x : Int) (h0 : 0 ≤ x) (h1 : x ≤ 255) (hon : b0.on = true) (hs : b0.slides = false) (hr : b0.reg (5 * k + 2) = x) (hd : b0.div = 0) (hst : b0.step = 0)
    (hl : (b0.vc k).lev = x / 16) (hw : (b0.vc k).wait = x % 8) :
    ∀ t : Nat, (iterB t b0).on = true ∧ (iterB t b0).slides = false ∧ (iterB t b0).regs = b0.regs ∧ (iterB t b0).div = (t : Int) % 2048 ∧ (iterB t b0).step = (t : Int) / 2048 % 8 ∧
      ((iterB t b0).vc k).lev = lvN x (t / 16384) ∧ ((iterB t b0).vc k).wait = wtN x (t / 16384)
  | 0 => ⟨hon, hs, rfl, hd, hst, by
      rw [show iterB 0 b0 = b0 from rfl, hl]; unfold lvN; split
      · rfl
      · simp; split <;> split <;> omega, by
      rw [show iterB 0 b0 = b0 from rfl, hw]; unfold wtN; split
      · omega
      · simp⟩
  | t + 1 => by
    obtain ⟨i1, i2, i3, i4, i5, i6, i7⟩ := lev_run b0 k hk hk2 x h0 h1 hon hs hr hd hst hl hw t
    have A := tick_after (iterB t b0) i1 i2
    rw [show iterB (t + 1) b0 = tickB (iterB t b0) from rfl]
    refine ⟨A.on, A.slides, A.regs.trans i3, ?_⟩
    have hreg : (iterB t b0).reg (5 * k + 2) = x := by unfold Bd.reg at hr ⊢; rw [i3]; exact hr
    by_cases hf : (iterB t b0).div + 1 < 2048
    · obtain ⟨f1, f2, f3⟩ := A.few hf
      rw [i4] at hf
      rw [f1, f2, f3, i4, i5, i6, i7, show (t + 1) / 16384 = t / 16384 by omega]
      exact ⟨by omega, by omega, rfl, rfl⟩
    · obtain ⟨f1, f2, f3⟩ := A.beat hf
      rw [i4] at hf
      rw [f1, f2, f3 k hk, i5]
      refine ⟨by omega, by omega, ?_⟩
      rw [hreg]
      unfold beatV
      by_cases h7 : (t : Int) / 2048 % 8 = 7
      · rw [if_pos ⟨h7, by simp [hk2]⟩, show (t + 1) / 16384 = t / 16384 + 1 by omega]
        have hv : ∀ v : Vc, v.lev = ((iterB t b0).vc k).lev → v.wait = ((iterB t b0).vc k).wait → (levV x v).lev = lvN x (t / 16384 + 1) ∧ (levV x v).wait = wtN x (t / 16384 + 1) :=
          fun v e1 e2 => lev_turn x h0 h1 _ v (e1.trans i6) (e2.trans i7)
        split
        · exact hv _ (len_keeps _ _).1 (len_keeps _ _).2
        · exact hv _ rfl rfl
      · rw [if_neg (fun h => h7 h.1), show (t + 1) / 16384 = t / 16384 by omega]
        split
        · rw [(len_keeps _ _).1, (len_keeps _ _).2]; exact ⟨i6, i7⟩
        · exact ⟨i6, i7⟩

/-- A length so many turns later. -/
def lnN (L : Int) (cnt : Bool) (c : Nat) : Int := if cnt = true then (if L ≤ c then 0 else L - c) else L
def onN (L : Int) (cnt : Bool) (c : Nat) : Bool := if cnt = true then decide ((c : Int) < L) else true
theorem len_turn (L r : Int) (cnt : Bool) (hL : 1 ≤ L) (hr : (r / 64 % 2 = 1) = (cnt = true)) (h0 : 0 ≤ r) (c : Nat) (v : Vc) (hl : v.len = lnN L cnt c) (ho : v.on = onN L cnt c) :
    (lenV r v).len = lnN L cnt (c + 1) ∧ (lenV r v).on = onN L cnt (c + 1) := by
  unfold lenV
  cases cnt with
  | false =>
    have : ¬ r / 64 % 2 = 1 := by rw [hr]; simp
    rw [if_pos (.inl (by omega))]
    exact ⟨hl, ho⟩
  | true =>
    have : r / 64 % 2 = 1 := by rw [hr]
    simp only [lnN, onN, if_true] at hl ho ⊢
    by_cases hc : L ≤ (c : Int)
    · rw [if_pos hc] at hl
      rw [if_pos (.inr hl), hl, ho, if_pos (by omega)]
      refine ⟨rfl, ?_⟩
      rw [decide_eq_false (by omega), decide_eq_false (by omega)]
    · rw [if_neg hc] at hl
      rw [if_neg (by omega)]
      simp only [hl, ho]
      refine ⟨?_, ?_⟩
      · split <;> omega
      · rw [decide_eq_true (show (c : Int) < L by omega), Bool.true_and]
        by_cases h : (c : Int) + 1 < L
        · rw [decide_eq_true (by omega), decide_eq_true (by omega)]
        · rw [decide_eq_false (by omega), decide_eq_false (by omega)]
theorem len_run (b0 : Bd) (k : Nat) (hk : k < 4) (L : Int) (cnt : Bool) (hL : 1 ≤ L) (hon : b0.on = true) (hs : b0.slides = false) (h0 : 0 ≤ b0.reg (5 * k + 4)) (hr : (b0.reg (5 * k + 4) / 64 % 2 = 1) = (cnt = true)) (hd : b0.div = 0) (hst : b0.step = 0)
    (hl : (b0.vc k).len = L) (ho : (b0.vc k).on = true) :
    ∀ t : Nat, (iterB t b0).on = true ∧ (iterB t b0).slides = false ∧ (iterB t b0).regs = b0.regs ∧ (iterB t b0).div = (t : Int) % 2048 ∧ (iterB t b0).step = (t : Int) / 2048 % 8 ∧
      ((iterB t b0).vc k).len = lnN L cnt ((t / 2048 + 1) / 2) ∧ ((iterB t b0).vc k).on = onN L cnt ((t / 2048 + 1) / 2)
  | 0 => ⟨hon, hs, rfl, hd, hst, by
      rw [show iterB 0 b0 = b0 from rfl, hl]; unfold lnN; split
      · simp; omega
      · rfl, by
      rw [show iterB 0 b0 = b0 from rfl, ho]; unfold onN; split
      · simp; omega
      · rfl⟩
  | t + 1 => by
    obtain ⟨i1, i2, i3, i4, i5, i6, i7⟩ := len_run b0 k hk L cnt hL hon hs h0 hr hd hst hl ho t
    have A := tick_after (iterB t b0) i1 i2
    rw [show iterB (t + 1) b0 = tickB (iterB t b0) from rfl]
    refine ⟨A.on, A.slides, A.regs.trans i3, ?_⟩
    have hreg : (iterB t b0).reg (5 * k + 4) = b0.reg (5 * k + 4) := by unfold Bd.reg; rw [i3]
    by_cases hf : (iterB t b0).div + 1 < 2048
    · obtain ⟨f1, f2, f3⟩ := A.few hf
      rw [i4] at hf
      rw [f1, f2, f3, i4, i5, i6, i7, show (t + 1) / 2048 = t / 2048 by omega]
      exact ⟨by omega, by omega, rfl, rfl⟩
    · obtain ⟨f1, f2, f3⟩ := A.beat hf
      rw [i4] at hf
      rw [f1, f2, f3 k hk, i5]
      refine ⟨by omega, by omega, ?_⟩
      rw [hreg]
      have key : ((if (t : Int) / 2048 % 8 % 2 = 0 then lenV (b0.reg (5 * k + 4)) ((iterB t b0).vc k) else (iterB t b0).vc k)).len = lnN L cnt (((t + 1) / 2048 + 1) / 2) ∧
          ((if (t : Int) / 2048 % 8 % 2 = 0 then lenV (b0.reg (5 * k + 4)) ((iterB t b0).vc k) else (iterB t b0).vc k)).on = onN L cnt (((t + 1) / 2048 + 1) / 2) := by
        split
        · rw [show ((t + 1) / 2048 + 1) / 2 = (t / 2048 + 1) / 2 + 1 by omega]
          exact len_turn L _ cnt hL hr h0 _ _ i6 i7
        · rw [show ((t + 1) / 2048 + 1) / 2 = (t / 2048 + 1) / 2 by omega]
          exact ⟨i6, i7⟩
      unfold beatV
      split
      · rw [(lev_keeps _ _).1, (lev_keeps _ _).2]; exact key
      · exact key
end Go.Proofs.Ytacbdapgdgliiaa
