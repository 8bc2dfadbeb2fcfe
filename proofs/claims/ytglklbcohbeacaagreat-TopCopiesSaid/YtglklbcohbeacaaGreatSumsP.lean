/- What a program of sums comes to: the plain law. -/
import Derived.Test.YtglklbcohbeacaaGreatRunP
namespace Go.Proofs.YtglklbcohbeacaaGreat
open Go.RowKit
set_option linter.unusedSimpArgs false
set_option linter.unusedVariables false
def kOf (ks : List Int) (j : Nat) : Nat := (ks.getD j 0 % 8).toNat
/-- A and F behind so many sums. -/
def afOf (ks ls : List Int) : Nat → Int × Int
  | 0 => (1, 176)
  | j + 1 => sumV (kOf ks j) (afOf ks ls j).1 (afOf ks ls j).2 (ls.getD j 0)
/-- The program of so many sums. -/
def pzOf (ks ls : List Int) : Nat → List Int
  | 0 => []
  | j + 1 => pzOf ks ls j ++ [((198 + 8 * kOf ks j : Nat) : Int), ls.getD j 0]
theorem pzOf_length (ks ls : List Int) : ∀ n, (pzOf ks ls n).length = 2 * n
  | 0 => rfl
  | n + 1 => by rw [pzOf, List.length_append, pzOf_length ks ls n]; rfl
theorem getD_left (l r : List Int) {i : Nat} (h : i < l.length) : (l ++ r).getD i 0 = l.getD i 0 := by
  rw [List.getD_eq_getElem?_getD, List.getElem?_append_left h, ← List.getD_eq_getElem?_getD]
theorem getD_right (l r : List Int) (i j : Nat) (h : i = l.length + j) : (l ++ r).getD i 0 = r.getD j 0 := by
  subst h
  rw [List.getD_eq_getElem?_getD, List.getElem?_append_right (by omega), Nat.add_sub_cancel_left, ← List.getD_eq_getElem?_getD]
theorem pzOf_at (ks ls : List Int) (j : Nat) : ∀ n, j < n → (pzOf ks ls n).getD (2 * j) 0 = ((198 + 8 * kOf ks j : Nat) : Int) ∧ (pzOf ks ls n).getD (2 * j + 1) 0 = ls.getD j 0
  | 0, h => by omega
  | n + 1, h => by
    rw [pzOf]
    rcases Nat.lt_or_ge j n with h1 | h1
    · have h2 := pzOf_at ks ls j n h1
      rw [getD_left _ _ (by rw [pzOf_length]; omega), getD_left _ _ (by rw [pzOf_length]; omega)]
      exact h2
    · obtain rfl : j = n := by omega
      have e := pzOf_length ks ls j
      exact ⟨getD_right _ _ (2 * j) 0 (by omega), getD_right _ _ (2 * j + 1) 1 (by omega)⟩
theorem kOf_lt (ks : List Int) (j : Nat) : kOf ks j < 8 := by unfold kOf; omega
theorem pzOf_bd (ks ls : List Int) (hl : ∀ j, 0 ≤ ls.getD j 0 ∧ ls.getD j 0 ≤ 255) : ∀ n, ∀ z ∈ pzOf ks ls n, 0 ≤ z ∧ z ≤ 255
  | 0, z, h => by cases h
  | n + 1, z, h => by
    rw [pzOf] at h
    rcases List.mem_append.1 h with h | h
    · exact pzOf_bd ks ls hl n z h
    · have := kOf_lt ks n
      simp only [List.mem_cons, List.not_mem_nil, or_false] at h
      rcases h with rfl | rfl
      · omega
      · exact hl n
theorem afOf_bd (ks ls : List Int) : ∀ n, (0 ≤ (afOf ks ls n).1 ∧ (afOf ks ls n).1 ≤ 255) ∧ 0 ≤ (afOf ks ls n).2 ∧ (afOf ks ls n).2 ≤ 255
  | 0 => by show ((0 : Int) ≤ 1 ∧ (1 : Int) ≤ 255) ∧ (0 : Int) ≤ 176 ∧ (176 : Int) ≤ 255; decide
  | n + 1 => sumV_bd _ _ _ _ (afOf_bd ks ls n).1
def sumStep (k : Nat) (b : Int) (i : Nat) (M : Mc) : Mc := { (Mc.fetches { M with n := 0 } 2) with R := { M.R with pc := ((i + 2 : Nat) : Int), a := (sumV k M.R.a M.R.f b).1, f := (sumV k M.R.a M.R.f b).2 }, steps := M.steps + 1 }
theorem go_sum (hfill : Fills) (S : St) (M : Mc) (k : Nat) (hk : k < 8) (hok : M.R.ok) (i : Nat) (hpc : M.R.pc = i) (hi : i + 4 ≤ 16384) (hz : S.zs.getD i 0 = ((198 + 8 * k : Nat) : Int)) (b : Int) (hzb : S.zs.getD (i + 1) 0 = b) (hc0 : 0 ≤ M.cyc) (hc1 : M.cyc ≤ 900000) (hs0 : 0 ≤ M.steps) (hs1 : M.steps ≤ 900000) :
    Goes S M (sumStep k b i M) := by
  rcases (by omega : k = 0 ∨ k = 1 ∨ k = 2 ∨ k = 3 ∨ k = 4 ∨ k = 5 ∨ k = 6 ∨ k = 7) with rfl | rfl | rfl | rfl | rfl | rfl | rfl | rfl
  · exact go_sum_0 hfill S M hok i hpc hi hz b hzb hc0 hc1 hs0 hs1
  · exact go_sum_1 hfill S M hok i hpc hi hz b hzb hc0 hc1 hs0 hs1
  · exact go_sum_2 hfill S M hok i hpc hi hz b hzb hc0 hc1 hs0 hs1
  · exact go_sum_3 hfill S M hok i hpc hi hz b hzb hc0 hc1 hs0 hs1
  · exact go_sum_4 hfill S M hok i hpc hi hz b hzb hc0 hc1 hs0 hs1
  · exact go_sum_5 hfill S M hok i hpc hi hz b hzb hc0 hc1 hs0 hs1
  · exact go_sum_6 hfill S M hok i hpc hi hz b hzb hc0 hc1 hs0 hs1
  · exact go_sum_7 hfill S M hok i hpc hi hz b hzb hc0 hc1 hs0 hs1
def M1 : Mc := ⟨{ R0 with pc := 336 }, 1, 3, List.replicate 8192 0, 3, true⟩
theorem go_first (hfill : Fills) (S : St) (h0 : S.zs.getD 256 0 = 24) (h1 : S.zs.getD 257 0 = 78) : Goes S Mc0 M1 :=
  go_jr hfill S Mc0 r0_ok 256 rfl (by omega) h0 h1 (by decide) (by decide) (by decide) (by decide)
def sumsM (ks ls : List Int) : Nat → Mc
  | 0 => Mc0
  | 1 => M1
  | j + 2 => sumStep (kOf ks j) (ls.getD j 0) (336 + 2 * j) (sumsM ks ls (j + 1))
theorem sumsM_is (ks ls : List Int) (hl : ∀ j, 0 ≤ ls.getD j 0 ∧ ls.getD j 0 ≤ 255) : ∀ j, j ≤ 60 → (sumsM ks ls (j + 1)).R = { R0 with a := (afOf ks ls j).1, f := (afOf ks ls j).2, pc := ((336 + 2 * j : Nat) : Int) } ∧ (sumsM ks ls (j + 1)).cyc = 3 + 2 * j ∧ (sumsM ks ls (j + 1)).steps = j + 1
  | 0, _ => ⟨rfl, rfl, rfl⟩
  | j + 1, h => by
    obtain ⟨h1, h2, h3⟩ := sumsM_is ks ls hl j (by omega)
    rw [sumsM]
    unfold sumStep
    refine ⟨?_, ?_, ?_⟩
    · show Rg.mk _ _ _ _ _ _ _ _ _ _ = _
      rw [h1]
      rfl
    · show (sumsM ks ls (j + 1)).cyc + 1 + 1 = _
      rw [h2]; push_cast; omega
    · show (sumsM ks ls (j + 1)).steps + 1 = _
      rw [h3]; push_cast; omega
theorem r_ok (a f pc : Int) (ha : 0 ≤ a ∧ a ≤ 255) (hf : 0 ≤ f ∧ f ≤ 255) (hp : 0 ≤ pc ∧ pc ≤ 65535) : Rg.ok { R0 with a := a, f := f, pc := pc } := { r0_ok with a0 := ha.1, a1 := ha.2, f0 := hf.1, f1 := hf.2, pc0 := hp.1, pc1 := hp.2 }
theorem sums_runs (hfill : Fills) (ks ls : List Int) (hl : ∀ j, 0 ≤ ls.getD j 0 ∧ ls.getD j 0 ≤ 255) (n : Nat) (hn : n ≤ 60) : Runs (pzOf ks ls n) (1 + n) (sumsM ks ls) := by
  refine ⟨rfl, fun S h1 h2 j hj => ?_⟩
  match j, hj with
  | 0, _ => exact go_first hfill S (h1 0 (by omega)) (h1 1 (by omega))
  | j + 1, hj =>
    obtain ⟨e1, e2, e3⟩ := sumsM_is ks ls hl j (by omega)
    obtain ⟨b1, b2⟩ := afOf_bd ks ls j
    obtain ⟨p1, p2⟩ := pzOf_at ks ls j n (by omega)
    refine go_sum hfill S (sumsM ks ls (j + 1)) (kOf ks j) (kOf_lt ks j) ?_ (336 + 2 * j) ?_ (by omega) ?_ (ls.getD j 0) ?_ ?_ ?_ ?_ ?_
    · rw [e1]; exact r_ok _ _ _ b1 b2 ⟨by omega, by omega⟩
    · rw [e1]
    · rw [h2 (2 * j) (by omega), p1]
    · rw [show 336 + 2 * j + 1 = 336 + (2 * j + 1) by omega, h2 (2 * j + 1) (by omega), p2]
    · rw [e2]; omega
    · rw [e2]; omega
    · rw [e3]; omega
    · rw [e3]; omega
end Go.Proofs.YtglklbcohbeacaaGreat
