/- Contracts of the reference of layer 1: numbers out of bits, sums and differences bit by bit. -/
import Derived.Test.YtdcfljfgcnbjlaaWalksC
import Derived.Deep.AppendLies
namespace Go.Proofs.Ytdcfljfgcnbjlaa
open Go.RowKit
set_option linter.unusedSimpArgs false
set_option linter.unusedVariables false

/-- The number that bits make, the lowest one first. -/
def val : List Int → Int
  | [] => 0
  | x :: r => x + 2 * val r
def Bits (zs : List Int) : Prop := ∀ z ∈ zs, z = 0 ∨ z = 1
theorem val_bd : ∀ zs : List Int, Bits zs → 0 ≤ val zs ∧ val zs < 2 ^ zs.length
  | [], _ => by simp [val]
  | x :: r, h => by
    have hx := h x (by simp)
    have hr := val_bd r (fun z hz => h z (by simp [hz]))
    have e : (2 : Int) ^ (x :: r).length = 2 * 2 ^ r.length := by rw [List.length_cons, Int.pow_succ]; omega
    rw [e]
    simp only [val]
    omega
theorem val_snoc : ∀ (zs : List Int) (x : Int), val (zs ++ [x]) = val zs + 2 ^ zs.length * x
  | [], x => by simp [val]
  | y :: r, x => by
    have e : (2 : Int) ^ (y :: r).length = 2 * 2 ^ r.length := by rw [List.length_cons, Int.pow_succ]; omega
    rw [e]
    simp only [List.cons_append, val, val_snoc r x]
    rw [Int.mul_add, Int.mul_assoc]; omega
theorem Bits.snoc {zs : List Int} (h : Bits zs) {x : Int} (hx : x = 0 ∨ x = 1) : Bits (zs ++ [x]) := fun z hz => by
  rcases List.mem_append.1 hz with h1 | h1
  · exact h z h1
  · have : z = x := by simpa using h1
    rw [this]; exact hx
theorem int_info : (Try.prog.info? 3).map (fun i => (i.zero, i.size, i.bytes)) = some (some (.int .i64 0), 1, 8) := by kernel_rfl

/-- A slice that reads as eight bits. -/
def Eight (w : World) (v : Value) (zs : List Int) : Prop :=
  zs.length = 8 ∧ Bits zs ∧ ∃ g c, v = .slice (some ⟨g, 0, none⟩) 8 c ∧ g < w.heap.size ∧ ∀ k, k < 8 → w.cell? ⟨g, k, none⟩ = some (.int .i64 (zs.getD k 0))

theorem byteOf_any (g c : Nat) (zs : List Int) (hl : zs.length = 8) (hz : Bits zs) (w : World) (hcell : ∀ k, k < 8 → w.cell? ⟨g, k, none⟩ = some (.int .i64 (zs.getD k 0))) :
    Calls Try.prog 40 #[.slice (some ⟨g, 0, none⟩) 8 c] w (Pure (.int .u8 (val zs)) w) := by
  have HC := hid_ hcell
  clear hcell
  go_enter Try.func40, Try.ntmps40
  go_wp2_with fail
  go_loop [3, 4] (fun x i => ∃ m : Nat, m ≤ 8 ∧ i = .int .i64 ((m : Int) - 1) ∧ x = .int .i64 (val (zs.drop m))) (fun _ i => (intOf i + 1).toNat)
  case atStart => exact ⟨8, by omega, rfl, by rw [List.drop_of_length_le (by omega)]; rfl⟩
  case round =>
    obtain ⟨m, hm, rfl, rfl⟩ := hrel
    have hd : Bits (zs.drop m) := fun z hzz => hz z (List.mem_of_mem_drop hzz)
    have hb := val_bd _ hd
    have hp : (2 : Int) ^ (zs.drop m).length ≤ 2 ^ 8 := by
      have : (zs.drop m).length ≤ 8 := by rw [List.length_drop]; omega
      exact_mod_cast Nat.pow_le_pow_right (by omega) this
    have hb1 := hb.1
    have hb2 : val (zs.drop m) < 256 := by omega
    clear hb hp hd
    by_cases hlt : 1 ≤ m
    · obtain ⟨k, rfl⟩ : ∃ k, m = k + 1 := ⟨m - 1, by omega⟩
      have hck := HC.out k (by omega)
      have hzk : zs.getD k 0 = 0 ∨ zs.getD k 0 = 1 := by
        rw [List.getD_eq_getElem?_getD, List.getElem?_eq_getElem (by omega)]
        exact hz _ (List.getElem_mem _)
      have hv : val (zs.drop k) = 2 * val (zs.drop (k + 1)) + zs.getD k 0 := by
        rw [List.drop_eq_getElem_cons (by omega), val, List.getD_eq_getElem?_getD, List.getElem?_eq_getElem (by omega)]
        simp; omega
      obtain ⟨z, hzz⟩ : ∃ z, zs.getD k 0 = z := ⟨_, rfl⟩
      obtain ⟨y, hy⟩ : ∃ y, val (zs.drop (k + 1)) = y := ⟨_, rfl⟩
      rw [hzz] at hck hzk hv
      rw [hy] at hb1 hb2 hv ⊢
      have hz0 : 0 ≤ z := by omega
      have hz1 : z ≤ 1 := by omega
      have HV := hid_ hv
      clear hv hzk hzz hy
      go_wp2_with fail
      refine ⟨⟨k, by omega, rfl, ?_⟩, by simp [intOf] <;> omega⟩
      rw [HV.out]
    · obtain rfl : m = 0 := by omega
      have hbv : val zs % 256 = val zs := by
        rw [List.drop_zero] at hb1 hb2
        omega
      go_wp2_with fail
      go_ret
      exact ⟨rfl, rfl⟩

theorem bitN_01 (a k : Nat) : bitN a k = 0 ∨ bitN a k = 1 := by unfold bitN; omega
theorem mod_succ (a k : Nat) : ((a % 2 ^ (k + 1) : Nat) : Int) = ((a % 2 ^ k : Nat) : Int) + ((2 ^ k : Nat) : Int) * bitN a k := by
  rw [Nat.mod_pow_succ]; unfold bitN; push_cast; rfl
theorem pow_cast (k : Nat) : (2 : Int) ^ k = ((2 ^ k : Nat) : Int) := by push_cast; rfl
theorem sum_step (a b k : Nat) (zs : List Int) (c0 cc s : Int) (hl : zs.length = k) (hc : cc = 0 ∨ cc = 1) (hs : s = bitN a k + bitN b k + cc)
    (h : val zs + ((2 ^ k : Nat) : Int) * cc = ((a % 2 ^ k : Nat) : Int) + ((b % 2 ^ k : Nat) : Int) + c0) :
    val (zs ++ [s % 2]) + ((2 ^ (k + 1) : Nat) : Int) * (s / 2) = ((a % 2 ^ (k + 1) : Nat) : Int) + ((b % 2 ^ (k + 1) : Nat) : Int) + c0 := by
  rw [mod_succ, mod_succ, val_snoc, hl, pow_cast, Nat.pow_succ]
  generalize ((a % 2 ^ k : Nat) : Int) = x at *
  generalize ((b % 2 ^ k : Nat) : Int) = y at *
  generalize 2 ^ k = p at *
  rcases bitN_01 a k with h1 | h1 <;> rcases bitN_01 b k with h2 | h2 <;> rcases hc with h3 | h3 <;> (rw [h1, h2, h3] at hs; subst hs; rw [h1, h2]; rw [h3] at h; push_cast at h ⊢; omega)

theorem radd_nat (a b : Nat) (c : Bool) (ha : a ≤ 255) (hb : b ≤ 255) (w : World) :
    Calls Try.prog 19 #[.int .u8 (a : Int), .int .u8 (b : Int), .bool c] w (Ret (two (((a : Int) + b + sel c 1) % 256) (fl (decide (((a : Int) + b + sel c 1) % 256 = 0)) false (decide (15 < (a : Int) % 16 + b % 16 + sel c 1)) (decide (255 < (a : Int) + b + sel c 1)))) w) := by
  obtain ⟨i0, hi0, hz0, hz1, hz2⟩ := info_parts int_info
  obtain ⟨q, hq, hq0, hq1⟩ := sel_ex c
  rw [hq]
  have HQ := hid_ hq
  clear hq
  obtain ⟨half, hhalf⟩ : ∃ x, decide (15 < (a : Int) % 16 + b % 16 + q) = x := ⟨_, rfl⟩
  rw [hhalf]
  have HH := hid_ hhalf
  clear hhalf
  go_enter Try.func19, Try.ntmps19
  go_wp2_with fail
  refine (rone_any _ _).mono ?_
  rintro e w1 ⟨rfl, rfl⟩
  rw [HQ.out]
  go_wp2_with fail
  go_loopw [8, 9, 10, 11] (fun cv hv l i wr => ∃ (k : Nat) (zs : List Int) (cc : Int), k ≤ 8 ∧ i = .int .i64 k ∧ cv = .int .i64 cc ∧ (cc = 0 ∨ cc = 1) ∧ zs.length = k ∧ Bits zs ∧
      wr.ownsRow w.heap.size 3 1 l k (zs.map (Value.int .i64)) ∧ Below w.heap.size w wr ∧ val zs + ((2 ^ k : Nat) : Int) * cc = ((a % 2 ^ k : Nat) : Int) + ((b % 2 ^ k : Nat) : Int) + q ∧
      hv = .bool (decide (4 ≤ k) && half)) (fun _ _ _ i _ => 8 - (intOf i).toNat)
  case atStart =>
    refine ⟨0, [], q, by omega, rfl, rfl, by omega, rfl, by simp [Bits], World.ownsRow_nil _ _ _ _, Below.refl _ _, ?_, rfl⟩
    simp [val, Nat.mod_one]
  case round =>
    obtain ⟨k, zs, cc, hk, rfl, rfl, hcc, hl, hzs, hown, hbel, hsum, rfl⟩ := hrel
    have hcc0 : 0 ≤ cc := by omega
    have hcc1 : cc ≤ 1 := by omega
    have hown' := hown
    have hw := hbel.size
    by_cases hlt : k < 8
    · go_wp2_with fail
      refine (bit_any a k ha (by omega) _).mono ?_
      rintro e w1 ⟨rfl, rfl⟩
      go_wp2_with fail
      refine (bit_any b k hb (by omega) _).mono ?_
      rintro e w1 ⟨rfl, rfl⟩
      have hstep := fun s hs => sum_step a b k zs q cc s hl hcc hs hsum
      have h01a := bitN_01 a k
      have h01b := bitN_01 b k
      generalize bitN a k = x at *
      generalize bitN b k = y at *
      have hx0 : 0 ≤ x := by omega
      have hx1 : x ≤ 1 := by omega
      have hy0 : 0 ≤ y := by omega
      have hy1 : y ≤ 1 := by omega
      have HS := hid_ hstep
      have HU := hid_ hsum
      clear hstep hsum h01a h01b hcc
      by_cases h3 : k = 3
      case' pos => have h3' : ((k : Int) == 3) = true := by simp [h3]
      case' neg => have h3' : ((k : Int) == 3) = false := by simp; omega
      all_goals
        have H3 := hid_ h3
        clear h3
        have HL := hid_ hl
        clear hl
        go_wp2_with (first
          | (at_builtin
             refine wpList_append_own _ rfl (.tmp 29) (.tmp 32) 46 rfl w.heap.size 3 i0 (.int .i64 0) 1 8 Try.underlying46 hi0 hz0 hz1 hz2 rfl (by decide) u10 k (zs.map (Value.int .i64)) rfl (hown.alloc _)
               ⟨wr.heap.size, 0, none⟩ 1 1 [.int .i64 ((x + y + cc) % 2)] rfl rfl ?c1 ?c2 ?c3 ?c4 ?c5 ?_
             case c1 => exact cell_one_new _ _ _
             case c2 => simp [Value.oneCell']
             case c3 => simp only [maxLen]; omega
             case c4 => omega
             case c5 => simp; omega
             intro v1 w1 hown1 hgrow1 _))
        have hbz : Bits (zs ++ [(x + y + cc) % 2]) := hzs.snoc (by omega)
        have hlz : (zs ++ [(x + y + cc) % 2]).length = k + 1 := by simp [HL.out]
        have hsz := HS.out _ rfl
        refine ⟨⟨k + 1, zs ++ [(x + y + cc) % 2], (x + y + cc) / 2, by omega, by go_num, rfl, by omega, hlz, hbz, by rw [List.map_append]; exact hown1,
          (hbel.alloc hw _).grown hgrow1 (by simp; omega) (fun j hj => (hown.lt j hj).1), hsz, ?_⟩, by simp [intOf]; omega⟩
      · have h3 := H3.out
        congr 2
        exact decide_eq_decide.2 (by omega)
      · have h3 := H3.out
        subst h3
        have hv := val_bd _ hbz
        rw [hlz] at hv
        rw [← HH.out]
        congr 1
        rw [Bool.eq_iff_iff]
        rw [show (2 ^ (3 + 1) : Nat) = 16 from rfl] at hsz
        rw [show (2 : Int) ^ (3 + 1) = 16 from rfl] at hv
        simp
        omega
    · obtain rfl : k = 8 := by omega
      obtain ⟨g, cap, hv, hg, hlt⟩ := hown.form (by omega)
      subst hv
      have hcell : ∀ j, j < 8 → wr.cell? ⟨g, j, none⟩ = some (.int .i64 (zs.getD j 0)) := by
        intro j hj
        rw [hown.cellAt j (by omega), List.getElem?_map, List.getD_eq_getElem?_getD, List.getElem?_eq_getElem (by omega)]
        rfl
      have hvb := val_bd _ hzs
      rw [hl] at hvb
      have e256 : val zs = ((a : Int) + b + q) % 256 ∧ (cc == 1) = decide (255 < (a : Int) + b + q) := by
        rw [show (2 ^ 8 : Nat) = 256 from rfl, Nat.mod_eq_of_lt (by omega : a < 256), Nat.mod_eq_of_lt (by omega : b < 256)] at hsum
        constructor
        · omega
        · rw [Bool.eq_iff_iff]; simp; omega
      obtain ⟨e1, e2⟩ := e256
      have E1 := hid_ e1
      have E2 := hid_ e2
      have hbo := byteOf_any g cap zs hl hzs wr hcell
      have HBO := hid_ hbo
      clear hbo hcell e1 e2 hsum hown' hvb hcc
      go_wp2_with fail
      refine HBO.out.mono ?_
      rintro e w1 ⟨rfl, rfl⟩
      go_wp2_with fail
      refine (flags_any _ _ _ _ _).mono ?_
      rintro e w1 ⟨rfl, rfl⟩
      go_wp2_with fail
      go_ret2
      exact .of (ret_two E1.out (by rw [← E1.out, ← E2.out]; rfl)) hbel
end Go.Proofs.Ytdcfljfgcnbjlaa
