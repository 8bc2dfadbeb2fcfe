/- A voice that is on is ready, and its board is on. -/
import Derived.Test.YtacbdapgdgliiaaReads
namespace Go.Proofs.Ytacbdapgdgliiaa
set_option linter.unusedSimpArgs false
set_option linter.unusedVariables false

def Inv (b : Bd) : Prop := ∀ k, k < 4 → (b.vc k).on = true → readyB b k = true ∧ b.on = true
theorem Inv.of {b c : Bd} (h : Inv b) (hr : ∀ k, k < 4 → readyB c k = readyB b k) (ho : c.on = b.on) (hv : ∀ k, k < 4 → (c.vc k).on = true → (b.vc k).on = true) : Inv c :=
  fun k hk hc => by
    obtain ⟨h1, h2⟩ := h k hk (hv k hk hc)
    exact ⟨(hr k hk).trans h1, ho.trans h2⟩
theorem four {P : Nat → Prop} (h0 : P 0) (h1 : P 1) (h2 : P 2) (h3 : P 3) : ∀ k, k < 4 → P k := fun k hk => by
  obtain rfl | rfl | rfl | rfl : k = 0 ∨ k = 1 ∨ k = 2 ∨ k = 3 := by omega
  · exact h0
  · exact h1
  · exact h2
  · exact h3
theorem len_on (r : Int) (v : Vc) (h : (lenV r v).on = true) : v.on = true := by
  unfold lenV at h
  split at h
  · exact h
  · simp only [Bool.and_eq_true] at h; exact h.1
theorem lev_on (r : Int) (v : Vc) (h : (levV r v).on = true) : v.on = true := by rw [(show (levV r v).on = v.on by unfold levV; split; rfl; split <;> rfl)] at h; exact h
theorem ready_regs {b c : Bd} (h : c.regs = b.regs) (k : Nat) : readyB c k = readyB b k := by unfold readyB Bd.reg; rw [h]
theorem inv_lengths {b : Bd} (h : Inv b) : Inv (lengthsB b) := h.of (fun k _ => ready_regs rfl k) rfl (four (len_on _ _) (len_on _ _) (len_on _ _) (len_on _ _))
theorem inv_levels {b : Bd} (h : Inv b) : Inv (levelsB b) := h.of (fun k _ => ready_regs rfl k) rfl (four (lev_on _ _) (lev_on _ _) id (lev_on _ _))
theorem inv_check {b : Bd} (h : Inv b) : Inv (checkB b) := by
  unfold checkB
  split
  · exact h.of (fun k _ => ready_regs rfl k) rfl (four (fun hc => by cases hc) id id id)
  · exact h
theorem inv_wait {b : Bd} (h : Inv b) (s : Int) : Inv (waitB { b with slide := s }) := h.of (fun k _ => ready_regs rfl k) rfl (four id id id id)
theorem ready_set (b : Bd) (c : Bd) (n : Nat) (x : Int) (k : Nat) (hc : c.regs = b.regs.set n x) (hn : n ≠ if k = 2 then 10 else 5 * k + 2) : readyB c k = readyB b k := by
  unfold readyB Bd.reg
  by_cases hk : k = 2
  · rw [if_pos hk] at hn
    rw [if_pos hk, if_pos hk, hc, getD_set, if_neg (by omega)]
  · rw [if_neg hk] at hn
    rw [if_neg hk, if_neg hk, hc, getD_set, if_neg (by omega)]
theorem inv_slid {b : Bd} (h : Inv b) : Inv (slid b) := by
  have h1 : ∀ k, k < 4 → readyB (slid b) k = readyB b k := fun k hk => by
    have e1 : readyB { b with regs := b.regs.set 3 (nextB b % 256) } k = readyB b k := ready_set b _ 3 (nextB b % 256) k rfl (by split <;> omega)
    have e2 : readyB (slid b) k = readyB { b with regs := b.regs.set 3 (nextB b % 256) } k := ready_set { b with regs := b.regs.set 3 (nextB b % 256) } (slid b) 4 _ k rfl (by split <;> omega)
    exact e2.trans e1
  exact h.of h1 rfl (four id id id id)
theorem inv_slide {b : Bd} (h : Inv b) : Inv (slideB b) := by
  unfold slideB
  split
  · exact h
  · split
    · exact h.of (fun k _ => ready_regs rfl k) rfl (four id id id id)
    · split
      · exact inv_wait h _
      · split
        · exact inv_check (inv_wait h _)
        · exact inv_check (inv_slid (inv_wait h _))
theorem inv_tick {b : Bd} (h : Inv b) : Inv (tickB b) := by
  unfold tickB
  split
  · exact h
  · split
    · exact h.of (fun k _ => ready_regs rfl k) rfl (four id id id id)
    · have h0 : Inv { b with div := 0 } := h.of (fun k _ => ready_regs rfl k) rfl (four id id id id)
      have h1 : Inv (evenB { b with div := 0 }) := by
        unfold evenB
        split
        · exact inv_lengths h0
        · exact h0
      have h2 : Inv (stepB (evenB { b with div := 0 })) := by
        unfold stepB
        split
        · exact inv_slide h1
        · split
          · exact inv_levels h1
          · exact h1
      exact h2.of (fun k _ => ready_regs rfl k) rfl (four id id id id)
theorem inv_iter {b : Bd} (h : Inv b) : ∀ k, Inv (iterB k b)
  | 0 => h
  | k + 1 => inv_tick (inv_iter h k)
theorem inv_put {b : Bd} (h : Inv b) (n : Nat) (x : Int) (hn : ∀ k, k < 4 → n ≠ if k = 2 then 10 else 5 * k + 2) : Inv (putB b n x) :=
  h.of (fun k hk => ready_set b _ n x k rfl (hn k hk)) rfl (four id id id id)
theorem inv_begin {b : Bd} (h : Inv b) (hon : b.on = true) (v : Nat) (hv : v < 4) : Inv (beginB b v) := by
  obtain rfl | rfl | rfl | rfl : v = 0 ∨ v = 1 ∨ v = 2 ∨ v = 3 := by omega
  · have hs : Inv (begS b) := fun k hk hc => by
      have hr : readyB (begS b) k = readyB b k := ready_regs rfl k
      obtain rfl | rfl | rfl | rfl : k = 0 ∨ k = 1 ∨ k = 2 ∨ k = 3 := by omega
      · exact ⟨hr.trans hc, hon⟩
      · exact ⟨hr.trans (h 1 hk hc).1, hon⟩
      · exact ⟨hr.trans (h 2 hk hc).1, hon⟩
      · exact ⟨hr.trans (h 3 hk hc).1, hon⟩
    show Inv (if byB b = 0 then begS b else checkB (begS b))
    split
    · exact hs
    · exact inv_check hs
  all_goals
    intro k hk hc
    refine ⟨?_, hon⟩
    obtain rfl | rfl | rfl | rfl : k = 0 ∨ k = 1 ∨ k = 2 ∨ k = 3 := by omega
    all_goals first | exact hc | exact (h _ hk hc).1
theorem inv_switch {b : Bd} (h : Inv b) (on : Bool) : Inv (switchB b on) := by
  unfold switchB
  split
  · intro k hk hc
    obtain rfl | rfl | rfl | rfl : k = 0 ∨ k = 1 ∨ k = 2 ∨ k = 3 := by omega
    all_goals cases hc
  · split
    · rename_i h2
      intro k hk hc
      have : (b.vc k).on = true := by
        obtain rfl | rfl | rfl | rfl : k = 0 ∨ k = 1 ∨ k = 2 ∨ k = 3 := by omega
        all_goals exact hc
      have := (h k hk this).2
      rw [h2] at this
      cases this
    · intro k hk hc
      have hv : (b.vc k).on = true := by
        obtain rfl | rfl | rfl | rfl : k = 0 ∨ k = 1 ∨ k = 2 ∨ k = 3 := by omega
        all_goals exact hc
      exact ⟨(ready_regs rfl k).trans (h k hk hv).1, rfl⟩
theorem setV_vc (b : Bd) (v k : Nat) (hv : v < 4) (hk : k < 4) (y : Vc) : (b.setV v y).vc k = if k = v then y else b.vc k := by
  obtain rfl | rfl | rfl | rfl : v = 0 ∨ v = 1 ∨ v = 2 ∨ v = 3 := by omega
  all_goals
    obtain rfl | rfl | rfl | rfl : k = 0 ∨ k = 1 ∨ k = 2 ∨ k = 3 := by omega
    all_goals rfl
theorem setV_same (b : Bd) (v : Nat) (y : Vc) : (b.setV v y).regs = b.regs ∧ (b.setV v y).on = b.on := by
  match v with
  | 0 => exact ⟨rfl, rfl⟩
  | 1 => exact ⟨rfl, rfl⟩
  | 2 => exact ⟨rfl, rfl⟩
  | _ + 3 => exact ⟨rfl, rfl⟩
theorem put_vc (b : Bd) (n : Nat) (x : Int) (k : Nat) (hk : k < 4) : (putB b n x).vc k = b.vc k := by
  obtain rfl | rfl | rfl | rfl : k = 0 ∨ k = 1 ∨ k = 2 ∨ k = 3 := by omega
  all_goals rfl
theorem inv_low {b : Bd} (h : Inv b) (hon : b.on = true) (n : Nat) (hn : n < 20) (x : Int) : Inv (lowB b n x) := by
  have hv : n / 5 < 4 := by omega
  unfold lowB
  split
  · have hp : Inv (putB b n x) := inv_put h n x (four (by simp; omega) (by simp; omega) (by simp; omega) (by simp; omega))
    refine hp.of (fun k _ => ready_regs (setV_same _ _ _).1 k) (setV_same _ _ _).2 fun k hk hc => ?_
    rw [setV_vc _ _ k hv hk] at hc
    split at hc
    · rename_i e; rw [e]; exact hc
    · exact hc
  · split
    · have hp : Inv (putB b n x) := inv_put h n x (four (by simp; omega) (by simp; omega) (by simp; omega) (by simp; omega))
      split
      · exact inv_begin hp hon _ hv
      · exact hp
    · intro k hk hc
      rw [setV_vc _ _ k hv hk] at hc
      rw [(setV_same _ _ _).2]
      refine ⟨?_, hon⟩
      rw [ready_regs (setV_same _ _ _).1 k]
      split at hc
      · rename_i e
        simp only [Bool.and_eq_true] at hc
        rw [e]; exact hc.2
      · rename_i e
        rw [put_vc _ _ _ k hk] at hc
        rw [ready_set b (putB b n x) n x k rfl (by split <;> omega)]
        exact (h k hk hc).1
theorem inv_write {b : Bd} (h : Inv b) (n x : Int) : Inv (writeB b n x) := by
  unfold writeB
  split
  · exact h
  · split
    · exact inv_switch h _
    · split
      · exact h
      · split
        · exact inv_put h _ x (four (by simp; omega) (by simp; omega) (by simp; omega) (by simp; omega))
        · rename_i h3 h4 h5
          by_cases hon : b.on = true
          · exact inv_low h hon _ (by omega) x
          · have : b.on = false := by simpa using hon
            exact absurd ⟨this, by omega⟩ h4
theorem inv_then {b : Bd} (h : Inv b) (K N X : Int) : Inv (thenB b K N X) := by
  unfold thenB
  split
  · exact inv_write (inv_iter h _) N X
  · exact inv_iter h _
theorem inv_zero : Inv zeroB := fun k hk hc => by
  obtain rfl | rfl | rfl | rfl : k = 0 ∨ k = 1 ∨ k = 2 ∨ k = 3 := by omega
  all_goals cases hc
end Go.Proofs.Ytacbdapgdgliiaa
