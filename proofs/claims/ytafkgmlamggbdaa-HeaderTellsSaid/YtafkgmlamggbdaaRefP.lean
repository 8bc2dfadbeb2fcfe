/- The reference's parse, of layer 5. -/
import Derived.Test.YtafkgmlamggbdaaKind
import Derived.Deep.DeepCutAuto
import Derived.Deep.CutBlock
import Derived.Laws.IdiomStrings
namespace Go.Proofs.Ytafkgmlamggbdaa
open Go.RowKit
set_option linter.unusedSimpArgs false
set_option linter.unusedVariables false

/-- The check's contract for a region that draws its order. -/
theorem rcheck_q (a : Option Addr) (len cap : Nat) (zs : List Int) (hl : len ≤ 9000000) (w : World) (m : Nat) (h : IsRow .u8 w a len zs) (hlen : 336 ≤ len) :
    Calls Try.prog 14 #[.slice a len cap] (w.drewN m) (fun e w' => e = .returned (.int .u8 (chk zs 25)) ∧ ∃ m', w' = w.drewN m') :=
  (rcheck_any a len cap zs hl _ (h.below (below_drewN (Below.refl _ _) m))).mono fun e w' ⟨he, hw⟩ => ⟨by rw [he]; unfold checkV; rw [if_neg (by omega)], m, hw.symm⟩
theorem load_rhead {W : World} {g : Nat} {c0 c1 c2 c3 c4 c5 c6 : Value} (h : Blk W g 31 #[c0, c1, c2, c3, c4, c5, c6]) :
    (loadVar 31 ⟨g, 0, none⟩).run Try.prog W = .ok (.agg #[c0, c1, c2, c3, c4, c5, c6]) W := by
  obtain ⟨⟨x0, x1, x2, x3, x4, x5, x6⟩, _⟩ := h.seven
  go_simp
theorem results_rhead {fn : Func} {tmps : Array Value} {g : Nat} {w : World} {cs : Array Value} (hr : fn.results = #[.cell 2 31, .tmp 3]) (hA : tmps.getD 2 undef = .pointer (some ⟨g, 0, none⟩))
    (hl : (loadVar 31 ⟨g, 0, none⟩).run Try.prog w = .ok (.agg cs) w) : (results fn tmps).run Try.prog w = .ok (.tuple #[.agg cs, tmps.getD 3 undef]) w := by
  have hA' : tmps[2]?.getD undef = .pointer (some ⟨g, 0, none⟩) := by rw [← Array.getD_eq_getD_getElem?]; exact hA
  unfold results
  rw [hr]
  simp [hA', asAddr, Sem.run_bind, hl]

/-- So many banks. -/
@[irreducible] def pw (k : Nat) : Int := ((2 ^ (k + 1) : Nat) : Int)
theorem pw_zero : pw 0 = 2 := by unfold pw; rfl
theorem pw_def (k : Nat) : pw k = ((2 ^ (k + 1) : Nat) : Int) := by unfold pw; rfl
theorem pw_succ (k : Nat) : pw (k + 1) = pw k * 2 := by unfold pw; rw [Nat.pow_succ 2 (k + 1)]; exact Int.natCast_mul _ _
theorem pw_bd : ∀ k : Nat, k ≤ 8 → 2 ≤ pw k ∧ pw k ≤ 512 := by decide +kernel
theorem pw_size : ∀ k : Nat, k ≤ 8 → pw k * 16384 = (sizeOfB k : Int) := by decide +kernel
theorem fixB_nat (z : Int) (h0 : 0 ≤ z) (h1 : z ≤ 255) : ((fixB z).toNat : Int) = fixI z := by
  obtain ⟨a, b⟩ := fixI_bd z h0 h1
  unfold fixB
  have : (fixI z).toNat < 256 := by omega
  simp [Nat.toUInt8, UInt8.toNat_ofNat', Nat.mod_eq_of_lt this]; omega
theorem one_string (z c : Int) (h0 : 0 ≤ z) (h1 : z ≤ 255) (hc : fixI z = c) (w : World) :
    (convert 24 9 (.slice (some ⟨w.heap.size, 0, none⟩) 1 1)).run Try.prog (w.alloc (.cells #[.int .u8 c] 5)) = .ok (.string ⟨#[fixB z]⟩) (w.alloc (.cells #[.int .u8 c] 5)) := by
  have h := run_convert_bytes_back (P := Try.prog) (w.alloc (.cells #[.int .u8 c] 5)) 24 9 5 ⟨w.heap.size, 0, none⟩ 1 [fixB z] Try.underlying24 Try.underlying5 Try.underlying9 (fun j hj => by
    obtain rfl : j = 0 := by simpa using hj
    rw [show (⟨w.heap.size, 0, none⟩ : Addr).add 0 = ⟨w.heap.size, 0, none⟩ from rfl, (Blk.new w 5 #[.int .u8 c]).cell 0]
    show some (Value.int .u8 c) = some (.int .u8 ((fixB z).toNat : Int))
    rw [fixB_nat z h0 h1, hc])
  exact h
theorem sumV_bd (zs : List Int) (len : Nat) : 0 ≤ sumV zs len ∧ sumV zs len ≤ 65535 := by unfold sumV; split <;> omega
theorem title_step {W : World} {g : Nat} {PL L2 : List UInt8} {c : UInt8} {c0 c1 c2 c3 c4 c5 c6 : Value} (h : Blk W g 31 #[c0, c1, c2, c3, c4, c5, c6]) (h2 : L2 = PL ++ [c]) (x : Obj) :
    Hid (Blk ((W.setCell ⟨g, 0, none⟩ (.string (⟨PL.toArray⟩ ++ ⟨#[c]⟩))).alloc x) g 31 #[.string ⟨L2.toArray⟩, c1, c2, c3, c4, c5, c6]) := by
  have hs : ((⟨PL.toArray⟩ : ByteArray) ++ ⟨#[c]⟩) = ⟨(PL ++ [c]).toArray⟩ := by
    apply ByteArray.ext
    simp
  have h' := h.set_ 0 (.string (⟨PL.toArray⟩ ++ ⟨#[c]⟩))
  simp only [List.setIfInBounds_toArray, List.set_cons_succ, List.set_cons_zero] at h'
  rw [h2, ← hs]
  exact hid_ (h'.alloc x)
theorem ok_cases (x : Int) (h : okI x = true) : x = 0 ∨ x = 8 ∨ x = 9 ∨ x = 1 ∨ x = 2 ∨ x = 3 ∨ x = 5 ∨ x = 6 ∨ x = 15 ∨ x = 16 ∨ x = 17 ∨ x = 18 ∨ x = 19 ∨ x = 25 ∨ x = 26 ∨ x = 27 ∨ x = 28 ∨ x = 29 ∨ x = 30 := by
  apply Classical.byContradiction
  intro hn
  have := okI_none x (by omega) (by omega) (by omega) (by omega) (by omega) (by omega) (by omega) (by omega) (by omega) (by omega) (by omega) (by omega) (by omega) (by omega) (by omega) (by omega) (by omega) (by omega) (by omega)
  rw [this] at h
  cases h
theorem clock_eq (x : Int) (h : okI x = true) : clockI x = (x == 15 || x == 16) := by
  rcases ok_cases x h with rfl | rfl | rfl | rfl | rfl | rfl | rfl | rfl | rfl | rfl | rfl | rfl | rfl | rfl | rfl | rfl | rfl | rfl | rfl <;> rfl
theorem batt_eq (x : Int) (h : okI x = true) : battI x = (x == 3 || x == 6 || x == 9 || x == 15 || x == 16 || x == 19 || x == 27 || x == 30) := by
  rcases ok_cases x h with rfl | rfl | rfl | rfl | rfl | rfl | rfl | rfl | rfl | rfl | rfl | rfl | rfl | rfl | rfl | rfl | rfl | rfl | rfl <;> rfl
theorem kind_nonneg (x : Int) : 0 ≤ kindI x := by
  unfold kindI
  split
  · rename_i p h
    have hm := List.mem_of_find?_eq_some h
    have : ∀ p ∈ sortsL, 0 ≤ p.2.1 := by decide
    exact this p hm
  · exact Int.le_refl 0
set_option maxRecDepth 100000 in
set_option maxHeartbeats 2000000 in
theorem rparse_long (b off len cap : Nat) (zs : List Int) (hlen : 336 ≤ len) (hl : len ≤ 9000000) (hcap : len ≤ cap) (w : World) (h : IsRow .u8 w (some ⟨b, off, none⟩) len zs) (v : Value) (hv : parseV zs len = v) :
    Calls Try.prog 12 #[.slice (some ⟨b, off, none⟩) len cap] w (Ret v w) := by
  obtain ⟨b', off', he, hb, hc⟩ := h.at_ (by omega)
  obtain ⟨rfl, rfl⟩ : b = b' ∧ off = off' := by simpa using he
  obtain ⟨z27, h27, k27, k27', c27⟩ := hc 327 (by omega)
  obtain ⟨z28, h28, k28, k28', c28⟩ := hc 328 (by omega)
  obtain ⟨z29, h29, k29, k29', c29⟩ := hc 329 (by omega)
  obtain ⟨z33, h33, k33, k33', c33⟩ := hc 333 (by omega)
  have q336 : decide ((len : Int) < 336) = false := by simp; omega
  have s27 : (327 : Int) < (len : Int) := by omega
  have s28 : (328 : Int) < (len : Int) := by omega
  have s29 : (329 : Int) < (len : Int) := by omega
  have s33 : (333 : Int) < (len : Int) := by omega
  have HROW := hid_ h
  have HC := hid_ hc
  clear hc he h
  go_enter Try.func12, Try.ntmps12
  go_wp2_with fail
  have hA1 := Blk.new w 31 #[.string ⟨#[]⟩, .int .i64 0, .bool false, .bool false, .int .i64 0, .int .i64 0, .bool false]
  have hb1 : Below w.heap.size w (w.alloc (.cells #[.string ⟨#[]⟩, .int .i64 0, .bool false, .bool false, .int .i64 0, .int .i64 0, .bool false] 31)) := Below.alloc (Below.refl _ _) (Nat.le_refl _) _
  replace c27 := (hb1.cell (p := ⟨b, off + 327, none⟩) hb).trans c27
  replace c28 := (hb1.cell (p := ⟨b, off + 328, none⟩) hb).trans c28
  replace c29 := (hb1.cell (p := ⟨b, off + 329, none⟩) hb).trans c29
  replace c33 := (hb1.cell (p := ⟨b, off + 333, none⟩) hb).trans c33
  have HROW1 := hid_ (HROW.out.below hb1)
  generalize (w.alloc (.cells #[.string ⟨#[]⟩, .int .i64 0, .bool false, .bool false, .int .i64 0, .int .i64 0, .bool false] 31)) = w1 at *
  obtain ⟨⟨x0, x1, x2, x3, x4, x5, x6⟩, y0, y1, y2, y3, y4, y5, y6⟩ := hA1.seven
  have HA1 := hid_ hA1
  have HB1 := hid_ hb1
  clear hA1 hb1
  by_cases hne : z33 = chk zs 25
  · rw [parseV, if_neg (by omega), if_neg (by rw [h33]; simp [hne])] at hv
    subst hne
    have HV0 := hid_ hv
    clear hv
    go_quiet ((go_at_call 14; exact rcheck_q _ len cap zs hl w1 _ HROW1.out hlen))
    have HA2 : Hid (Blk (w1.drewN nq) w.heap.size 31 #[.string ⟨#[]⟩, .int .i64 0, .bool false, .bool false, .int .i64 0, .int .i64 0, .bool false]) := hid_ (HA1.out.below (below_drewN (Below.refl _ _) nq) HA1.out.lt)
    have HB2 : Hid (Below w.heap.size w (w1.drewN nq)) := hid_ (below_drewN HB1.out nq)
    have C27 : Hid ((w1.drewN nq).cell? ⟨b, off + 327, none⟩ = some (.int .u8 z27)) := c27
    clear HA1 HB1 HROW1 c27 c28 c29 c33 x0 x1 x2 x3 x4 x5 x6 y0 y1 y2 y3 y4 y5 y6
    generalize w1.drewN nq = w2 at *
    have c27 := C27.out
    go_wp2_with fail
    refine (kind_any z27 k27 k27' _).mono ?_
    rintro e w3 ⟨rfl, rfl⟩
    go_upto_region 7 with fail
    generalize chk zs 25 = c33 at *
    clear h33 k33 k33' q336
    have H27 := hid_ h27
    have H28 := hid_ h28
    have H29 := hid_ h29
    clear h27 h28 h29
    obtain ⟨K, hK⟩ : ∃ K, rkind z27 = K := ⟨_, rfl⟩
    have hHn := Blk.new w2 31 #[.string ⟨#[]⟩, .int .i64 K, .bool false, .bool false, .int .i64 0, .int .i64 0, .bool false]
    rw [hK]
    have HA4 : Hid (Blk (w2.alloc (.cells #[.string ⟨#[]⟩, .int .i64 K, .bool false, .bool false, .int .i64 0, .int .i64 0, .bool false] 31)) w.heap.size 31 #[.string ⟨#[]⟩, .int .i64 0, .bool false, .bool false, .int .i64 0, .int .i64 0, .bool false]) := HA2.out.alloc _
    have HH4 : Hid (Blk (w2.alloc (.cells #[.string ⟨#[]⟩, .int .i64 K, .bool false, .bool false, .int .i64 0, .int .i64 0, .bool false] 31)) w2.heap.size 31 #[.string ⟨#[]⟩, .int .i64 K, .bool false, .bool false, .int .i64 0, .int .i64 0, .bool false]) := hHn
    have HB4 : Hid (Below w.heap.size w (w2.alloc (.cells #[.string ⟨#[]⟩, .int .i64 K, .bool false, .bool false, .int .i64 0, .int .i64 0, .bool false] 31))) := HB2.out.alloc HB2.out.size _
    have hgg : w.heap.size < w2.heap.size := HA2.out.lt
    have CELL : Hid (∀ W, Below w.heap.size w W → ∀ i, i < len → W.cell? ⟨b, off + i, none⟩ = some (.int .u8 (zs.getD i 0)) ∧ 0 ≤ zs.getD i 0 ∧ zs.getD i 0 ≤ 255) := fun W h i hi => by
      obtain ⟨x, hx, x0, x1, cx⟩ := HC.out i hi
      rw [hx]
      exact ⟨(h.cell (p := ⟨b, off + i, none⟩) hb).trans cx, x0, x1⟩
    clear HA2 HB2 C27 c27 hHn
    generalize w2.alloc (.cells #[.string ⟨#[]⟩, .int .i64 K, .bool false, .bool false, .int .i64 0, .int .i64 0, .bool false] 31) = w4 at *
    generalize w2.heap.size = g5 at *
    by_cases hok : okI z27 = true
    · have HV1 := HV0.out
      rw [if_neg (by rw [H27.out, hok]; simp), H28.out, H29.out] at HV1
      have hKk : K = kindI z27 := by rw [← hK]; unfold rkind; rw [if_pos hok]
      have hK0 : 0 ≤ K := by rw [hKk]; exact kind_nonneg z27
      have HK := hid_ hKk
      have HOKI := hid_ hok
      clear hK hKk hok
      have p28 := (CELL.out _ HB4.out 328 (by omega)).1
      rw [H28.out] at p28
      have p29 := (CELL.out _ HB4.out 329 (by omega)).1
      rw [H29.out] at p29
      obtain ⟨⟨y0, y1, y2, y3, y4, y5, y6⟩, yf0, yf1, yf2, yf3, yf4, yf5, yf6⟩ := HH4.out.seven
      obtain ⟨⟨x0, x1, x2, x3, x4, x5, x6⟩, xf0, xf1, xf2, xf3, xf4, xf5, xf6⟩ := HA4.out.seven
      have dk : decide (K < 0) = false := by simp; omega
      by_cases h8 : 8 < z28
      · have d8 : decide (8 < z28) = true := by simp [h8]
        rw [if_pos (.inl h8)] at HV1
        have HV := hid_ HV1
        clear HV1
        go_wp2_with fail
        refine bodyPost_ret (v := noHead 7) (results_rhead Try.results12 rfl (load_rhead HA4.out.fill)) rfl (.of ?_ ?_)
        · rw [← HV.out]
        · exact fill_below HB4.out (Nat.le_refl _)
      · have d8 : decide (8 < z28) = false := by simp; omega
        by_cases h6 : 6 ≤ z29
        · have d6 : decide (5 < z29) = true := by simp; omega
          rw [if_pos (.inr h6)] at HV1
          have HV := hid_ HV1
          clear HV1
          go_wp2_with fail
          refine bodyPost_ret (v := noHead 7) (results_rhead Try.results12 rfl (load_rhead HA4.out.fill)) rfl (.of ?_ ?_)
          · rw [← HV.out]
          · exact fill_below HB4.out (Nat.le_refl _)
        · have d6 : decide (5 < z29) = false := by simp; omega
          rw [if_neg (by omega)] at HV1
          have HVS := hid_ HV1
          clear HV1
          obtain ⟨n8, hn8, hn88⟩ : ∃ n : Nat, z28 = n ∧ n ≤ 8 := ⟨z28.toNat, by omega, by omega⟩
          have HN8 := hid_ hn8
          clear hn8
          go_upto_region 12 with fail
          have HA5 : Hid (Blk (w4.setCell ⟨g5, 4, none⟩ (.int .i64 2)) w.heap.size 31 #[.string ⟨#[]⟩, .int .i64 0, .bool false, .bool false, .int .i64 0, .int .i64 0, .bool false]) := HA4.out.far (by simp; omega) _
          have HH5 : Hid (Blk (w4.setCell ⟨g5, 4, none⟩ (.int .i64 2)) g5 31 #[.string ⟨#[]⟩, .int .i64 K, .bool false, .bool false, .int .i64 (pw 0), .int .i64 0, .bool false]) := by
            have h := HH4.out.set_ 4 (.int .i64 2)
            simp only [List.setIfInBounds_toArray, List.set_cons_succ, List.set_cons_zero] at h
            rw [pw_zero]
            exact h
          have HB5 : Hid (Below w.heap.size w (w4.setCell ⟨g5, 4, none⟩ (.int .i64 2))) := HB4.out.setCell (by simp; omega) _
          clear HA4 HH4 HB4 p28 p29 y0 y1 y2 y3 y4 y5 y6 yf0 yf1 yf2 yf3 yf4 yf5 yf6 x0 x1 x2 x3 x4 x5 x6 xf0 xf1 xf2 xf3 xf4 xf5 xf6
          generalize w4.setCell ⟨g5, 4, none⟩ (.int .i64 2) = w5 at *
          go_wp2_with fail
          go_loopw [6] (fun i wr => ∃ k : Nat, k ≤ n8 ∧ i = .int .i64 k ∧ Hid (Blk wr w.heap.size 31 #[.string ⟨#[]⟩, .int .i64 0, .bool false, .bool false, .int .i64 0, .int .i64 0, .bool false]) ∧ Hid (Blk wr g5 31 #[.string ⟨#[]⟩, .int .i64 K, .bool false, .bool false, .int .i64 (pw k), .int .i64 0, .bool false]) ∧ Hid (Below w.heap.size w wr)) (fun i _ => n8 - (intOf i).toNat)
          case atStart => exact ⟨0, by omega, rfl, HA5, HH5, HB5⟩
          case round =>
            clear HA5 HH5 HB5
            obtain ⟨k, hk, rfl, HA, HH, HB⟩ := hrel
            have p28 := (CELL.out _ HB.out 328 (by omega)).1
            rw [H28.out] at p28
            obtain ⟨⟨y0, y1, y2, y3, y4, y5, y6⟩, yf0, yf1, yf2, yf3, yf4, yf5, yf6⟩ := HH.out.seven
            have hgl := HH.out.lt
            have w8 : wrap64 z28 = z28 := by simp [wrap64, IntKind.wrap, IntKind.signed, IntKind.bits]; omega
            by_cases hlt : k < n8
            · have q : decide ((k : Int) < z28) = true := by have := HN8.out; simp; omega
              have HP := hid_ (pw_succ k)
              have hbd := pw_bd k (Nat.le_of_lt (Nat.lt_of_lt_of_le hlt hn88))
              have b0 := hbd.1
              have b1 := hbd.2
              clear hbd
              generalize pw k = p at *
              have HH' : Hid (Blk (wr.setCell ⟨g5, 4, none⟩ (.int .i64 (p * 2))) g5 31 #[.string ⟨#[]⟩, .int .i64 K, .bool false, .bool false, .int .i64 (pw (k + 1)), .int .i64 0, .bool false]) := by
                have h := HH.out.set_ 4 (.int .i64 (p * 2))
                simp only [List.setIfInBounds_toArray, List.set_cons_succ, List.set_cons_zero] at h
                rw [HP.out]
                exact h
              have HA' : Hid (Blk (wr.setCell ⟨g5, 4, none⟩ (.int .i64 (p * 2))) w.heap.size 31 #[.string ⟨#[]⟩, .int .i64 0, .bool false, .bool false, .int .i64 0, .int .i64 0, .bool false]) := HA.out.far (by simp; omega) _
              have HB' : Hid (Below w.heap.size w (wr.setCell ⟨g5, 4, none⟩ (.int .i64 (p * 2)))) := HB.out.setCell (by simp; omega) _
              clear HH HA HB
              go_wp2_with fail
              go_roundw
              case rel => exact ⟨k + 1, by omega, by go_num, HA', HH', HB'⟩
              case measure => simp [intOf]; omega
            · obtain rfl : k = n8 := by omega
              have q : decide ((k : Int) < z28) = false := by have := HN8.out; simp; omega
              have HZ16 := hid_ (pw_size k hn88)
              have b0 := (pw_bd k hn88).1
              have b1 := (pw_bd k hn88).2
              by_cases hsz : len = sizeOfB k
              · have dz : ((len : Int) != pw k * 16384) = false := by rw [HZ16.out, hsz]; simp
                have HV1 := HVS.out
                rw [if_neg (by rw [HN8.out]; simp [hsz])] at HV1
                have HV := hid_ HV1
                clear HV1 HVS hsz
                have p29 := (CELL.out _ HB.out 329 (by omega)).1
                rw [H29.out] at p29
                go_upto_region 18 with fail
                go_upto_block 2 with fail
                go_cut [] (fun wx => Hid (Blk wx w.heap.size 31 #[.string ⟨#[]⟩, .int .i64 0, .bool false, .bool false, .int .i64 0, .int .i64 0, .bool false]) ∧ Hid (Blk wx g5 31 #[.string ⟨#[]⟩, .int .i64 K, .bool false, .bool false, .int .i64 (pw k), .int .i64 (ramI z29), .bool false]) ∧ Hid (Below w.heap.size w wx))
                case first =>
                  have hset : ∀ x : Int, Blk (wr.setCell ⟨g5, 5, none⟩ (.int .i64 x)) g5 31 #[.string ⟨#[]⟩, .int .i64 K, .bool false, .bool false, .int .i64 (pw k), .int .i64 x, .bool false] := fun x => by
                    have h := HH.out.set_ 5 (.int .i64 x)
                    simp only [List.setIfInBounds_toArray, List.set_cons_succ, List.set_cons_zero] at h
                    exact h
                  have HSET := hid_ hset
                  have HFAR : Hid (∀ x : Int, Blk (wr.setCell ⟨g5, 5, none⟩ (.int .i64 x)) w.heap.size 31 #[.string ⟨#[]⟩, .int .i64 0, .bool false, .bool false, .int .i64 0, .int .i64 0, .bool false]) := fun x => HA.out.far (by simp; omega) _
                  have HBEL : Hid (∀ x : Int, Below w.heap.size w (wr.setCell ⟨g5, 5, none⟩ (.int .i64 x))) := fun x => HB.out.setCell (by simp; omega) _
                  clear hset HN8
                  obtain e | e | e | e | e | e : z29 = 0 ∨ z29 = 1 ∨ z29 = 2 ∨ z29 = 3 ∨ z29 = 4 ∨ z29 = 5 := by omega
                  · subst e
                    go_wp2_with fail
                    go_meet
                    exact ⟨HA, HH, HB⟩
                  · subst e
                    go_wp2_with fail
                    go_meet
                    exact ⟨HFAR.out 2048, HSET.out 2048, HBEL.out 2048⟩
                  · subst e
                    go_wp2_with fail
                    go_meet
                    exact ⟨HFAR.out 8192, HSET.out 8192, HBEL.out 8192⟩
                  · subst e
                    go_wp2_with fail
                    go_meet
                    exact ⟨HFAR.out 32768, HSET.out 32768, HBEL.out 32768⟩
                  · subst e
                    go_wp2_with fail
                    go_meet
                    exact ⟨HFAR.out 131072, HSET.out 131072, HBEL.out 131072⟩
                  · subst e
                    go_wp2_with fail
                    go_meet
                    exact ⟨HFAR.out 65536, HSET.out 65536, HBEL.out 65536⟩
                case rest =>
                  clear HA HH HB y0 y1 y2 y3 y4 y5 y6 yf0 yf1 yf2 yf3 yf4 yf5 yf6 p28 p29 hgl
                  obtain ⟨HA, HH, HB⟩ := hcut
                  obtain ⟨R, hR⟩ : ∃ R : Int, (if K = 2 then 512 else ramI z29) = R := ⟨_, rfl⟩
                  have HR := hid_ hR
                  have hgl := HH.out.lt
                  obtain ⟨⟨y0, y1, y2, y3, y4, y5, y6⟩, yf0, yf1, yf2, yf3, yf4, yf5, yf6⟩ := HH.out.seven
                  go_upto_if 81 with fail
                  go_cut [] (fun wx => Hid (Blk wx w.heap.size 31 #[.string ⟨#[]⟩, .int .i64 0, .bool false, .bool false, .int .i64 0, .int .i64 0, .bool false]) ∧ Hid (Blk wx g5 31 #[.string ⟨#[]⟩, .int .i64 K, .bool false, .bool false, .int .i64 (pw k), .int .i64 R, .bool false]) ∧ Hid (Below w.heap.size w wx))
                  case first =>
                    by_cases hK2 : K = 2
                    · have hRR : R = 512 := by rw [← hR, if_pos hK2]
                      have d2 : (K == 2) = true := by simp [hK2]
                      have HX : Blk (wc.setCell ⟨g5, 5, none⟩ (.int .i64 512)) g5 31 #[.string ⟨#[]⟩, .int .i64 K, .bool false, .bool false, .int .i64 (pw k), .int .i64 R, .bool false] := by
                        have h := HH.out.set_ 5 (.int .i64 512)
                        simp only [List.setIfInBounds_toArray, List.set_cons_succ, List.set_cons_zero] at h
                        rw [hRR]
                        exact h
                      have HX1 := hid_ HX
                      have HX2 : Hid (Blk (wc.setCell ⟨g5, 5, none⟩ (.int .i64 512)) w.heap.size 31 #[.string ⟨#[]⟩, .int .i64 0, .bool false, .bool false, .int .i64 0, .int .i64 0, .bool false]) := HA.out.far (by simp; omega) _
                      have HX3 : Hid (Below w.heap.size w (wc.setCell ⟨g5, 5, none⟩ (.int .i64 512))) := HB.out.setCell (by simp; omega) _
                      clear HX hR hRR hK2
                      go_wp2_with fail
                      go_meet
                      exact ⟨HX2, HX1, HX3⟩
                    · have hRR : ramI z29 = R := by rw [← hR, if_neg hK2]
                      have d2 : (K == 2) = false := by simp [hK2]
                      rw [hRR] at HH
                      clear hR hRR hK2
                      go_wp2_with fail
                      go_meet
                      exact ⟨HA, HH, HB⟩
                  case rest =>
                    clear HA HH HB hR
                    clear y0 y1 y2 y3 y4 y5 y6 yf0 yf1 yf2 yf3 yf4 yf5 yf6
                    clear hgl
                    obtain ⟨HA, HH, HB⟩ := hcut
                    obtain ⟨C, hC⟩ : ∃ C : Bool, clockI z27 = C := ⟨_, rfl⟩
                    have HC1 := hid_ hC
                    obtain ⟨B, hB⟩ : ∃ B : Bool, battI z27 = B := ⟨_, rfl⟩
                    have HBt := hid_ hB
                    have hgl := HH.out.lt
                    obtain ⟨⟨y0, y1, y2, y3, y4, y5, y6⟩, yf0, yf1, yf2, yf3, yf4, yf5, yf6⟩ := HH.out.seven
                    go_upto_region 31 with fail
                    go_cut [] (fun wx => Hid (Blk wx w.heap.size 31 #[.string ⟨#[]⟩, .int .i64 0, .bool false, .bool false, .int .i64 0, .int .i64 0, .bool false]) ∧ Hid (Blk wx g5 31 #[.string ⟨#[]⟩, .int .i64 K, .bool C, .bool false, .int .i64 (pw k), .int .i64 R, .bool false]) ∧ Hid (Below w.heap.size w wx))
                    case first =>
                      have hok1 := HOKI.out
                      have hce := clock_eq z27 hok1
                      clear hok1 hB
                      cases q0 : (z27 == 15) with
                      | true =>
                        have hv : C = true := by rw [← hC, hce]; simp [q0]
                        have HX1 : Hid (Blk (wc.setCell ⟨g5, 2, none⟩ (.bool true)) g5 31 #[.string ⟨#[]⟩, .int .i64 K, .bool C, .bool false, .int .i64 (pw k), .int .i64 R, .bool false]) := by
                          have h := HH.out.set_ 2 (.bool true)
                          simp only [List.setIfInBounds_toArray, List.set_cons_succ, List.set_cons_zero] at h
                          rw [hv]
                          exact h
                        have HX2 : Hid (Blk (wc.setCell ⟨g5, 2, none⟩ (.bool true)) w.heap.size 31 #[.string ⟨#[]⟩, .int .i64 0, .bool false, .bool false, .int .i64 0, .int .i64 0, .bool false]) := HA.out.far (by simp; omega) _
                        have HX3 : Hid (Below w.heap.size w (wc.setCell ⟨g5, 2, none⟩ (.bool true))) := HB.out.setCell (by simp; omega) _
                        clear hv hC
                        go_wp2_with fail
                        go_meet
                        exact ⟨HX2, HX1, HX3⟩
                      | false =>
                        cases q1 : (z27 == 16) with
                        | true =>
                          have hv : C = true := by rw [← hC, hce]; simp [q0, q1]
                          have HX1 : Hid (Blk (wc.setCell ⟨g5, 2, none⟩ (.bool true)) g5 31 #[.string ⟨#[]⟩, .int .i64 K, .bool C, .bool false, .int .i64 (pw k), .int .i64 R, .bool false]) := by
                            have h := HH.out.set_ 2 (.bool true)
                            simp only [List.setIfInBounds_toArray, List.set_cons_succ, List.set_cons_zero] at h
                            rw [hv]
                            exact h
                          have HX2 : Hid (Blk (wc.setCell ⟨g5, 2, none⟩ (.bool true)) w.heap.size 31 #[.string ⟨#[]⟩, .int .i64 0, .bool false, .bool false, .int .i64 0, .int .i64 0, .bool false]) := HA.out.far (by simp; omega) _
                          have HX3 : Hid (Below w.heap.size w (wc.setCell ⟨g5, 2, none⟩ (.bool true))) := HB.out.setCell (by simp; omega) _
                          clear hv hC
                          go_wp2_with fail
                          go_meet
                          exact ⟨HX2, HX1, HX3⟩
                        | false =>
                          have hv : C = false := by rw [← hC, hce]; simp [q0, q1]
                          have HX1 : Hid (Blk (wc.setCell ⟨g5, 2, none⟩ (.bool false)) g5 31 #[.string ⟨#[]⟩, .int .i64 K, .bool C, .bool false, .int .i64 (pw k), .int .i64 R, .bool false]) := by
                            have h := HH.out.set_ 2 (.bool false)
                            simp only [List.setIfInBounds_toArray, List.set_cons_succ, List.set_cons_zero] at h
                            rw [hv]
                            exact h
                          have HX2 : Hid (Blk (wc.setCell ⟨g5, 2, none⟩ (.bool false)) w.heap.size 31 #[.string ⟨#[]⟩, .int .i64 0, .bool false, .bool false, .int .i64 0, .int .i64 0, .bool false]) := HA.out.far (by simp; omega) _
                          have HX3 : Hid (Below w.heap.size w (wc.setCell ⟨g5, 2, none⟩ (.bool false))) := HB.out.setCell (by simp; omega) _
                          clear hv hC
                          go_wp2_with fail
                          go_meet
                          exact ⟨HX2, HX1, HX3⟩
                    case rest =>
                      clear HA HH HB hC
                      clear y0 y1 y2 y3 y4 y5 y6 yf0 yf1 yf2 yf3 yf4 yf5 yf6
                      clear hgl
                      obtain ⟨HA, HH, HB⟩ := hcut
                      have hgl := HH.out.lt
                      obtain ⟨⟨y0, y1, y2, y3, y4, y5, y6⟩, yf0, yf1, yf2, yf3, yf4, yf5, yf6⟩ := HH.out.seven
                      go_upto_region 32 with fail
                      go_cut [] (fun wx => Hid (Blk wx w.heap.size 31 #[.string ⟨#[]⟩, .int .i64 0, .bool false, .bool false, .int .i64 0, .int .i64 0, .bool false]) ∧ Hid (Blk wx g5 31 #[.string ⟨#[]⟩, .int .i64 K, .bool C, .bool B, .int .i64 (pw k), .int .i64 R, .bool false]) ∧ Hid (Below w.heap.size w wx))
                      case first =>
                        have hok1 := HOKI.out
                        have hbe := batt_eq z27 hok1
                        clear hok1
                        cases q0 : (z27 == 3) with
                        | true =>
                          have hv : B = true := by rw [← hB, hbe]; simp [q0]
                          have HX1 : Hid (Blk (wc.setCell ⟨g5, 3, none⟩ (.bool true)) g5 31 #[.string ⟨#[]⟩, .int .i64 K, .bool C, .bool B, .int .i64 (pw k), .int .i64 R, .bool false]) := by
                            have h := HH.out.set_ 3 (.bool true)
                            simp only [List.setIfInBounds_toArray, List.set_cons_succ, List.set_cons_zero] at h
                            rw [hv]
                            exact h
                          have HX2 : Hid (Blk (wc.setCell ⟨g5, 3, none⟩ (.bool true)) w.heap.size 31 #[.string ⟨#[]⟩, .int .i64 0, .bool false, .bool false, .int .i64 0, .int .i64 0, .bool false]) := HA.out.far (by simp; omega) _
                          have HX3 : Hid (Below w.heap.size w (wc.setCell ⟨g5, 3, none⟩ (.bool true))) := HB.out.setCell (by simp; omega) _
                          clear hv hB
                          go_wp2_with fail
                          go_meet
                          exact ⟨HX2, HX1, HX3⟩
                        | false =>
                          cases q1 : (z27 == 6) with
                          | true =>
                            have hv : B = true := by rw [← hB, hbe]; simp [q0, q1]
                            have HX1 : Hid (Blk (wc.setCell ⟨g5, 3, none⟩ (.bool true)) g5 31 #[.string ⟨#[]⟩, .int .i64 K, .bool C, .bool B, .int .i64 (pw k), .int .i64 R, .bool false]) := by
                              have h := HH.out.set_ 3 (.bool true)
                              simp only [List.setIfInBounds_toArray, List.set_cons_succ, List.set_cons_zero] at h
                              rw [hv]
                              exact h
                            have HX2 : Hid (Blk (wc.setCell ⟨g5, 3, none⟩ (.bool true)) w.heap.size 31 #[.string ⟨#[]⟩, .int .i64 0, .bool false, .bool false, .int .i64 0, .int .i64 0, .bool false]) := HA.out.far (by simp; omega) _
                            have HX3 : Hid (Below w.heap.size w (wc.setCell ⟨g5, 3, none⟩ (.bool true))) := HB.out.setCell (by simp; omega) _
                            clear hv hB
                            go_wp2_with fail
                            go_meet
                            exact ⟨HX2, HX1, HX3⟩
                          | false =>
                            cases q2 : (z27 == 9) with
                            | true =>
                              have hv : B = true := by rw [← hB, hbe]; simp [q0, q1, q2]
                              have HX1 : Hid (Blk (wc.setCell ⟨g5, 3, none⟩ (.bool true)) g5 31 #[.string ⟨#[]⟩, .int .i64 K, .bool C, .bool B, .int .i64 (pw k), .int .i64 R, .bool false]) := by
                                have h := HH.out.set_ 3 (.bool true)
                                simp only [List.setIfInBounds_toArray, List.set_cons_succ, List.set_cons_zero] at h
                                rw [hv]
                                exact h
                              have HX2 : Hid (Blk (wc.setCell ⟨g5, 3, none⟩ (.bool true)) w.heap.size 31 #[.string ⟨#[]⟩, .int .i64 0, .bool false, .bool false, .int .i64 0, .int .i64 0, .bool false]) := HA.out.far (by simp; omega) _
                              have HX3 : Hid (Below w.heap.size w (wc.setCell ⟨g5, 3, none⟩ (.bool true))) := HB.out.setCell (by simp; omega) _
                              clear hv hB
                              go_wp2_with fail
                              go_meet
                              exact ⟨HX2, HX1, HX3⟩
                            | false =>
                              cases q3 : (z27 == 15) with
                              | true =>
                                have hv : B = true := by rw [← hB, hbe]; simp [q0, q1, q2, q3]
                                have HX1 : Hid (Blk (wc.setCell ⟨g5, 3, none⟩ (.bool true)) g5 31 #[.string ⟨#[]⟩, .int .i64 K, .bool C, .bool B, .int .i64 (pw k), .int .i64 R, .bool false]) := by
                                  have h := HH.out.set_ 3 (.bool true)
                                  simp only [List.setIfInBounds_toArray, List.set_cons_succ, List.set_cons_zero] at h
                                  rw [hv]
                                  exact h
                                have HX2 : Hid (Blk (wc.setCell ⟨g5, 3, none⟩ (.bool true)) w.heap.size 31 #[.string ⟨#[]⟩, .int .i64 0, .bool false, .bool false, .int .i64 0, .int .i64 0, .bool false]) := HA.out.far (by simp; omega) _
                                have HX3 : Hid (Below w.heap.size w (wc.setCell ⟨g5, 3, none⟩ (.bool true))) := HB.out.setCell (by simp; omega) _
                                clear hv hB
                                go_wp2_with fail
                                go_meet
                                exact ⟨HX2, HX1, HX3⟩
                              | false =>
                                cases q4 : (z27 == 16) with
                                | true =>
                                  have hv : B = true := by rw [← hB, hbe]; simp [q0, q1, q2, q3, q4]
                                  have HX1 : Hid (Blk (wc.setCell ⟨g5, 3, none⟩ (.bool true)) g5 31 #[.string ⟨#[]⟩, .int .i64 K, .bool C, .bool B, .int .i64 (pw k), .int .i64 R, .bool false]) := by
                                    have h := HH.out.set_ 3 (.bool true)
                                    simp only [List.setIfInBounds_toArray, List.set_cons_succ, List.set_cons_zero] at h
                                    rw [hv]
                                    exact h
                                  have HX2 : Hid (Blk (wc.setCell ⟨g5, 3, none⟩ (.bool true)) w.heap.size 31 #[.string ⟨#[]⟩, .int .i64 0, .bool false, .bool false, .int .i64 0, .int .i64 0, .bool false]) := HA.out.far (by simp; omega) _
                                  have HX3 : Hid (Below w.heap.size w (wc.setCell ⟨g5, 3, none⟩ (.bool true))) := HB.out.setCell (by simp; omega) _
                                  clear hv hB
                                  go_wp2_with fail
                                  go_meet
                                  exact ⟨HX2, HX1, HX3⟩
                                | false =>
                                  cases q5 : (z27 == 19) with
                                  | true =>
                                    have hv : B = true := by rw [← hB, hbe]; simp [q0, q1, q2, q3, q4, q5]
                                    have HX1 : Hid (Blk (wc.setCell ⟨g5, 3, none⟩ (.bool true)) g5 31 #[.string ⟨#[]⟩, .int .i64 K, .bool C, .bool B, .int .i64 (pw k), .int .i64 R, .bool false]) := by
                                      have h := HH.out.set_ 3 (.bool true)
                                      simp only [List.setIfInBounds_toArray, List.set_cons_succ, List.set_cons_zero] at h
                                      rw [hv]
                                      exact h
                                    have HX2 : Hid (Blk (wc.setCell ⟨g5, 3, none⟩ (.bool true)) w.heap.size 31 #[.string ⟨#[]⟩, .int .i64 0, .bool false, .bool false, .int .i64 0, .int .i64 0, .bool false]) := HA.out.far (by simp; omega) _
                                    have HX3 : Hid (Below w.heap.size w (wc.setCell ⟨g5, 3, none⟩ (.bool true))) := HB.out.setCell (by simp; omega) _
                                    clear hv hB
                                    go_wp2_with fail
                                    go_meet
                                    exact ⟨HX2, HX1, HX3⟩
                                  | false =>
                                    cases q6 : (z27 == 27) with
                                    | true =>
                                      have hv : B = true := by rw [← hB, hbe]; simp [q0, q1, q2, q3, q4, q5, q6]
                                      have HX1 : Hid (Blk (wc.setCell ⟨g5, 3, none⟩ (.bool true)) g5 31 #[.string ⟨#[]⟩, .int .i64 K, .bool C, .bool B, .int .i64 (pw k), .int .i64 R, .bool false]) := by
                                        have h := HH.out.set_ 3 (.bool true)
                                        simp only [List.setIfInBounds_toArray, List.set_cons_succ, List.set_cons_zero] at h
                                        rw [hv]
                                        exact h
                                      have HX2 : Hid (Blk (wc.setCell ⟨g5, 3, none⟩ (.bool true)) w.heap.size 31 #[.string ⟨#[]⟩, .int .i64 0, .bool false, .bool false, .int .i64 0, .int .i64 0, .bool false]) := HA.out.far (by simp; omega) _
                                      have HX3 : Hid (Below w.heap.size w (wc.setCell ⟨g5, 3, none⟩ (.bool true))) := HB.out.setCell (by simp; omega) _
                                      clear hv hB
                                      go_wp2_with fail
                                      go_meet
                                      exact ⟨HX2, HX1, HX3⟩
                                    | false =>
                                      cases q7 : (z27 == 30) with
                                      | true =>
                                        have hv : B = true := by rw [← hB, hbe]; simp [q0, q1, q2, q3, q4, q5, q6, q7]
                                        have HX1 : Hid (Blk (wc.setCell ⟨g5, 3, none⟩ (.bool true)) g5 31 #[.string ⟨#[]⟩, .int .i64 K, .bool C, .bool B, .int .i64 (pw k), .int .i64 R, .bool false]) := by
                                          have h := HH.out.set_ 3 (.bool true)
                                          simp only [List.setIfInBounds_toArray, List.set_cons_succ, List.set_cons_zero] at h
                                          rw [hv]
                                          exact h
                                        have HX2 : Hid (Blk (wc.setCell ⟨g5, 3, none⟩ (.bool true)) w.heap.size 31 #[.string ⟨#[]⟩, .int .i64 0, .bool false, .bool false, .int .i64 0, .int .i64 0, .bool false]) := HA.out.far (by simp; omega) _
                                        have HX3 : Hid (Below w.heap.size w (wc.setCell ⟨g5, 3, none⟩ (.bool true))) := HB.out.setCell (by simp; omega) _
                                        clear hv hB
                                        go_wp2_with fail
                                        go_meet
                                        exact ⟨HX2, HX1, HX3⟩
                                      | false =>
                                        have hv : B = false := by rw [← hB, hbe]; simp [q0, q1, q2, q3, q4, q5, q6, q7]
                                        have HX1 : Hid (Blk (wc.setCell ⟨g5, 3, none⟩ (.bool false)) g5 31 #[.string ⟨#[]⟩, .int .i64 K, .bool C, .bool B, .int .i64 (pw k), .int .i64 R, .bool false]) := by
                                          have h := HH.out.set_ 3 (.bool false)
                                          simp only [List.setIfInBounds_toArray, List.set_cons_succ, List.set_cons_zero] at h
                                          rw [hv]
                                          exact h
                                        have HX2 : Hid (Blk (wc.setCell ⟨g5, 3, none⟩ (.bool false)) w.heap.size 31 #[.string ⟨#[]⟩, .int .i64 0, .bool false, .bool false, .int .i64 0, .int .i64 0, .bool false]) := HA.out.far (by simp; omega) _
                                        have HX3 : Hid (Below w.heap.size w (wc.setCell ⟨g5, 3, none⟩ (.bool false))) := HB.out.setCell (by simp; omega) _
                                        clear hv hB
                                        go_wp2_with fail
                                        go_meet
                                        exact ⟨HX2, HX1, HX3⟩
                      case rest =>
                        clear HA HH HB hB
                        clear y0 y1 y2 y3 y4 y5 y6 yf0 yf1 yf2 yf3 yf4 yf5 yf6
                        clear hgl
                        obtain ⟨HA, HH, HB⟩ := hcut
                        have hT : ∀ j, j < 15 → ((zs.drop 308).take 15).getD j 0 = zs.getD (308 + j) 0 := fun j hj => by
                          simp [List.getD_eq_getElem?_getD, List.getElem?_take, hj, List.getElem?_drop]
                        have HTT := hid_ hT
                        have hTl : ((zs.drop 308).take 15).length = 15 := by have := HROW.out.1; simp; omega
                        have HTL := hid_ hTl
                        clear hT hTl
                        have HH0 : Hid (Blk wc g5 31 #[.string ⟨(pre ((zs.drop 308).take 15) 0).toArray⟩, .int .i64 K, .bool C, .bool B, .int .i64 (pw k), .int .i64 R, .bool false]) := HH
                        clear HH
                        go_wp2_with fail
                        go_loopw [7] (fun i wr => ∃ m : Nat, m ≤ 15 ∧ i = .int .i64 (308 + (m : Int)) ∧ Hid (∀ j, j < m → ((zs.drop 308).take 15).getD j 0 ≠ 0) ∧ Hid (Blk wr w.heap.size 31 #[.string ⟨#[]⟩, .int .i64 0, .bool false, .bool false, .int .i64 0, .int .i64 0, .bool false]) ∧ Hid (Blk wr g5 31 #[.string ⟨(pre ((zs.drop 308).take 15) m).toArray⟩, .int .i64 K, .bool C, .bool B, .int .i64 (pw k), .int .i64 R, .bool false]) ∧ Hid (Below w.heap.size w wr)) (fun i _ => (323 - (intOf i)).toNat)
                        case atStart => exact ⟨0, by omega, rfl, fun j hj => by omega, HA, HH0, HB⟩
                        case round =>
                          clear HA HH0 HB
                          obtain ⟨m, hm, rfl, HN, HA, HH, HB⟩ := hrel
                          obtain ⟨⟨y0, y1, y2, y3, y4, y5, y6⟩, yf0, yf1, yf2, yf3, yf4, yf5, yf6⟩ := HH.out.seven
                          have hgl := HH.out.lt
                          by_cases hlt : m < 15
                          · obtain ⟨pz, pz0, pz1⟩ := CELL.out _ HB.out (308 + m) (by omega)
                            have HZ := hid_ (HTT.out m hlt)
                            rw [← HZ.out] at pz pz0 pz1
                            generalize hzz : ((zs.drop 308).take 15).getD m 0 = z at *
                            have HZZ := hid_ hzz
                            clear hzz HZ
                            have hpl : (pre ((zs.drop 308).take 15) m).length = m := by unfold pre; rw [List.length_map, List.length_take, HTL.out]; omega
                            have hpn : m ≤ 15 := hm
                            have q1 : decide (308 + (m : Int) ≤ 322) = true := by simp; omega
                            have j0 : (0 : Int) ≤ 308 + (m : Int) := by omega
                            have j1 : 308 + (m : Int) < (len : Int) := by omega
                            obtain ⟨PL, hPL⟩ : ∃ PL : List UInt8, pre ((zs.drop 308).take 15) m = PL := ⟨_, rfl⟩
                            have HPL := hid_ hPL
                            rw [hPL] at hpl y0
                            have hbig : ¬ (9223372036854775807 : Int) < (PL.length : Int) + 1 := by omega
                            clear hPL
                            by_cases hz0 : z = 0
                            · have q2 : (z != 0) = false := by simp [hz0]
                              go_wp2_with fail
                              have HTI := hid_ (show titleL ((zs.drop 308).take 15) = PL from by rw [← HPL.out]; exact title_stop _ m (by rw [HTL.out]; omega) HN.out (fun _ => by rw [HZZ.out, hz0]))
                              clear q1 q2 j0 j1 hbig pz pz0 pz1 hz0 hpl hlt
                              rw [HPL.out] at HH
                              have hcell := CELL.out _ HB.out
                              obtain ⟨c34, k34, k34'⟩ := hcell 334 (by omega)
                              obtain ⟨c35, k35, k35'⟩ := hcell 335 (by omega)
                              clear hcell
                              generalize h34 : zs.getD 334 0 = z34 at c34 k34 k34'
                              generalize h35 : zs.getD 335 0 = z35 at c35 k35 k35'
                              have H34 := hid_ h34
                              have H35 := hid_ h35
                              clear h34 h35
                              have s34 : (334 : Int) < (len : Int) := by omega
                              have s35 : (335 : Int) < (len : Int) := by omega
                              have HRX := hid_ (HROW.out.below HB.out)
                              have hbr : b < wr.heap.size := Nat.lt_of_lt_of_le hb HB.out.size
                              have hk0 : Keeps wr wr.drew := Below.drew (Below.refl _ _)
                              refine wp_region_tail (S := (fun W => (∀ b o, b < wr.heap.size → W.cell? ⟨b, o, none⟩ = wr.cell? ⟨b, o, none⟩) ∧ Keeps wr W)) (tail := (fun i => i == 15)) (by kernel_rfl) ?hS716 (fun hHeld => ?rest716)
                              case hS716 => (exact keepsS hk0)
                              refine wpAnyT_take (i := 0) (v := ?v717) rfl (by kernel_rfl) (by kernel_rfl) (by kernel_rfl) (by kernel_rfl) (by kernel_rfl) (fun _ _ _ h => h) (Or.inl ⟨by rfl, ?hy717⟩) (by assumption) ?rest717
                              case hy717 => (intro w hSw; (try simp only [List.getElem_toArray, List.getElem_cons_succ, List.getElem_cons_zero]); (try dsimp only at hSw); go_simp; all_goals (with_reducible rfl))
                              (try simp only [Act.put, List.getElem_toArray, List.getElem_cons_succ, List.getElem_cons_zero, List.setIfInBounds_toArray, List.set_cons_zero, List.set_cons_succ])
                              refine wpAnyT_take (i := 1) (v := ?v718) rfl (by kernel_rfl) (by kernel_rfl) (by kernel_rfl) (by kernel_rfl) (by kernel_rfl) (fun _ _ _ h => h) (Or.inl ⟨by rfl, ?hy718⟩) (by assumption) ?rest718
                              case hy718 => (intro w hSw; (try simp only [List.getElem_toArray, List.getElem_cons_succ, List.getElem_cons_zero]); (try dsimp only at hSw); go_simp; all_goals (with_reducible rfl))
                              (try simp only [Act.put, List.getElem_toArray, List.getElem_cons_succ, List.getElem_cons_zero, List.setIfInBounds_toArray, List.set_cons_zero, List.set_cons_succ])
                              refine wpAnyT_take (i := 2) (v := ?v719) rfl (by kernel_rfl) (by kernel_rfl) (by kernel_rfl) (by kernel_rfl) (by kernel_rfl) (fun _ _ _ h => h) (Or.inl ⟨by rfl, ?hy719⟩) (by assumption) ?rest719
                              case hy719 => (intro w hSw; (try simp only [List.getElem_toArray, List.getElem_cons_succ, List.getElem_cons_zero]); (try dsimp only at hSw); go_simp; all_goals (with_reducible rfl))
                              (try simp only [Act.put, List.getElem_toArray, List.getElem_cons_succ, List.getElem_cons_zero, List.setIfInBounds_toArray, List.set_cons_zero, List.set_cons_succ])
                              refine wpAnyT_take (i := 3) (v := ?v720) rfl (by kernel_rfl) (by kernel_rfl) (by kernel_rfl) (by kernel_rfl) (by kernel_rfl) (fun _ _ _ h => h) (Or.inl ⟨by rfl, ?hy720⟩) (by assumption) ?rest720
                              case hy720 => (intro w hSw; (try simp only [List.getElem_toArray, List.getElem_cons_succ, List.getElem_cons_zero]); (try dsimp only at hSw); go_simp; all_goals (with_reducible rfl))
                              (try simp only [Act.put, List.getElem_toArray, List.getElem_cons_succ, List.getElem_cons_zero, List.setIfInBounds_toArray, List.set_cons_zero, List.set_cons_succ])
                              refine wpAnyT_take (i := 4) (v := ?v721) rfl (by kernel_rfl) (by kernel_rfl) (by kernel_rfl) (by kernel_rfl) (by kernel_rfl) (fun _ _ _ h => h) (Or.inl ⟨by rfl, ?hy721⟩) (by assumption) ?rest721
                              case hy721 => (intro w hSw; (try simp only [List.getElem_toArray, List.getElem_cons_succ, List.getElem_cons_zero]); (try dsimp only at hSw); go_simp; all_goals (with_reducible rfl))
                              (try simp only [Act.put, List.getElem_toArray, List.getElem_cons_succ, List.getElem_cons_zero, List.setIfInBounds_toArray, List.set_cons_zero, List.set_cons_succ])
                              refine wpAnyT_take (i := 5) (v := ?v722) rfl (by kernel_rfl) (by kernel_rfl) (by kernel_rfl) (by kernel_rfl) (by kernel_rfl) (fun _ _ _ h => h) (Or.inl ⟨by rfl, ?hy722⟩) (by assumption) ?rest722
                              case hy722 => (intro w hSw; (try simp only [List.getElem_toArray, List.getElem_cons_succ, List.getElem_cons_zero]); (try dsimp only at hSw); go_simp; all_goals (with_reducible rfl))
                              (try simp only [Act.put, List.getElem_toArray, List.getElem_cons_succ, List.getElem_cons_zero, List.setIfInBounds_toArray, List.set_cons_zero, List.set_cons_succ])
                              refine wpAnyT_take (i := 6) (v := ?v723) rfl (by kernel_rfl) (by kernel_rfl) (by kernel_rfl) (by kernel_rfl) (by kernel_rfl) (fun _ _ _ h => h) (Or.inl ⟨by rfl, ?hy723⟩) (by assumption) ?rest723
                              case hy723 => (intro w hSw; (try simp only [List.getElem_toArray, List.getElem_cons_succ, List.getElem_cons_zero]); (try dsimp only at hSw); go_simp; all_goals (with_reducible rfl))
                              (try simp only [Act.put, List.getElem_toArray, List.getElem_cons_succ, List.getElem_cons_zero, List.setIfInBounds_toArray, List.set_cons_zero, List.set_cons_succ])
                              refine wpAnyT_take (i := 7) (v := ?v724) rfl (by kernel_rfl) (by kernel_rfl) (by kernel_rfl) (by kernel_rfl) (by kernel_rfl) (fun _ _ _ h => h) (Or.inl ⟨by rfl, ?hy724⟩) (by assumption) ?rest724
                              case hy724 => (intro w hSw; (try simp only [List.getElem_toArray, List.getElem_cons_succ, List.getElem_cons_zero]); (try dsimp only at hSw); go_simp; all_goals (with_reducible rfl))
                              (try simp only [Act.put, List.getElem_toArray, List.getElem_cons_succ, List.getElem_cons_zero, List.setIfInBounds_toArray, List.set_cons_zero, List.set_cons_succ])
                              refine wpAnyT_take (i := 8) (v := ?v725) rfl (by kernel_rfl) (by kernel_rfl) (by kernel_rfl) (by kernel_rfl) (by kernel_rfl) (fun _ _ _ h => h) (Or.inl ⟨by rfl, ?hy725⟩) (by assumption) ?rest725
                              case hy725 => (intro w hSw; (try simp only [List.getElem_toArray, List.getElem_cons_succ, List.getElem_cons_zero]); (try dsimp only at hSw); go_simp; all_goals (with_reducible rfl))
                              (try simp only [Act.put, List.getElem_toArray, List.getElem_cons_succ, List.getElem_cons_zero, List.setIfInBounds_toArray, List.set_cons_zero, List.set_cons_succ])
                              refine wpAnyT_take (i := 9) (v := ?v726) rfl (by kernel_rfl) (by kernel_rfl) (by kernel_rfl) (by kernel_rfl) (by kernel_rfl) (fun _ _ _ h => h) (Or.inl ⟨by rfl, ?hy726⟩) (by assumption) ?rest726
                              case hy726 => (intro w hSw; (try simp only [List.getElem_toArray, List.getElem_cons_succ, List.getElem_cons_zero]); (try dsimp only at hSw); go_simp; all_goals (with_reducible rfl))
                              (try simp only [Act.put, List.getElem_toArray, List.getElem_cons_succ, List.getElem_cons_zero, List.setIfInBounds_toArray, List.set_cons_zero, List.set_cons_succ])
                              refine wpAnyT_take (i := 10) (v := ?v727) rfl (by kernel_rfl) (by kernel_rfl) (by kernel_rfl) (by kernel_rfl) (by kernel_rfl) (fun _ _ _ h => h) (Or.inl ⟨by rfl, ?hy727⟩) (by assumption) ?rest727
                              case hy727 => (intro w hSw; (try simp only [List.getElem_toArray, List.getElem_cons_succ, List.getElem_cons_zero]); (try dsimp only at hSw); go_simp; all_goals (with_reducible rfl))
                              (try simp only [Act.put, List.getElem_toArray, List.getElem_cons_succ, List.getElem_cons_zero, List.setIfInBounds_toArray, List.set_cons_zero, List.set_cons_succ])
                              refine wpAnyT_one (i := 11) rfl (by kernel_rfl) (fun KK hKK => ?_)
                              (try simp only [List.getElem_toArray, List.getElem_cons_succ, List.getElem_cons_zero])
                              go_simp
                              (refine (rsum_any _ len cap zs hl _ (HRX.out.below hk0)).mono ?_; rintro e w8 ⟨rfl, rfl⟩)
                              (try go_wp2_with fail)
                              refine hKK.out _ _ ?hS728 ?rest728
                              case hS728 => exact keepsS hk0
                              clear hKK KK
                              (try simp only [Act.put, List.getElem_toArray, List.getElem_cons_succ, List.getElem_cons_zero, List.setIfInBounds_toArray, List.set_cons_zero, List.set_cons_succ])
                              refine wpAnyT_take (i := 12) (v := ?v729) rfl (by kernel_rfl) (by kernel_rfl) (by kernel_rfl) (by kernel_rfl) (by kernel_rfl) (fun _ _ _ h => h) (Or.inl ⟨by rfl, ?hy729⟩) (keepsS hk0) ?rest729
                              case hy729 => (intro w hSw; (try simp only [List.getElem_toArray, List.getElem_cons_succ, List.getElem_cons_zero]); (try dsimp only at hSw); go_simp; all_goals (with_reducible rfl))
                              (try simp only [Act.put, List.getElem_toArray, List.getElem_cons_succ, List.getElem_cons_zero, List.setIfInBounds_toArray, List.set_cons_zero, List.set_cons_succ])
                              refine wpAnyT_take (i := 13) (v := ?v730) rfl (by kernel_rfl) (by kernel_rfl) (by kernel_rfl) (by kernel_rfl) (by kernel_rfl) (fun _ _ _ h => h) (Or.inl ⟨by rfl, ?hy730⟩) (keepsS hk0) ?rest730
                              case hy730 => (intro w hSw; (try simp only [List.getElem_toArray, List.getElem_cons_succ, List.getElem_cons_zero]); (try dsimp only at hSw); go_simp; all_goals (with_reducible rfl))
                              (try simp only [Act.put, List.getElem_toArray, List.getElem_cons_succ, List.getElem_cons_zero, List.setIfInBounds_toArray, List.set_cons_zero, List.set_cons_succ])
                              refine wpAnyT_take (i := 14) (v := ?v731) rfl (by kernel_rfl) (by kernel_rfl) (by kernel_rfl) (by kernel_rfl) (by kernel_rfl) (fun _ _ _ h => h) (Or.inl ⟨by rfl, ?hy731⟩) (keepsS hk0) ?rest731
                              case hy731 => (intro w hSw; (try simp only [List.getElem_toArray, List.getElem_cons_succ, List.getElem_cons_zero]); (try dsimp only at hSw); go_simp; all_goals (with_reducible rfl))
                              (try simp only [Act.put, List.getElem_toArray, List.getElem_cons_succ, List.getElem_cons_zero, List.setIfInBounds_toArray, List.set_cons_zero, List.set_cons_succ])
                              refine wpAnyT_last (i := 15) rfl (by kernel_rfl) rfl (fun KK hKK => ?_)
                              (try simp only [List.getElem_toArray, List.getElem_cons_succ, List.getElem_cons_zero])
                              go_simp
                              rw [show IntKind.i64.wrap z34 = z34 from (by simp [IntKind.wrap, IntKind.signed, IntKind.bits]; omega), show IntKind.i64.wrap (z34 * 256) = z34 * 256 from (by simp [IntKind.wrap, IntKind.signed, IntKind.bits]; omega), show IntKind.i64.wrap z35 = z35 from (by simp [IntKind.wrap, IntKind.signed, IntKind.bits]; omega), show IntKind.i64.wrap (z34 * 256 + z35) = z34 * 256 + z35 from (by simp [IntKind.wrap, IntKind.signed, IntKind.bits]; omega), show IntKind.i64.wrap (sumV zs len) = sumV zs len from (by have hsv := sumV_bd zs len; simp [IntKind.wrap, IntKind.signed, IntKind.bits]; omega)]
                              refine hKK.out _ _ ?_
                              clear hKK KK
                              (try simp only [Act.put, List.getElem_toArray, List.getElem_cons_succ, List.getElem_cons_zero, List.setIfInBounds_toArray, List.set_cons_zero, List.set_cons_succ])
                              refine wpAnyT_done (by kernel_rfl) ?_ _
                              have HHY : Hid (Blk ((wr.setCell ⟨g5, 6, none⟩ (.bool (z34 * 256 + z35 == sumV zs len))).drew) g5 31 #[.string ⟨PL.toArray⟩, .int .i64 K, .bool C, .bool B, .int .i64 (pw k), .int .i64 R, .bool (z34 * 256 + z35 == sumV zs len)]) := by
                                have h := HH.out.set_ 6 (.bool (z34 * 256 + z35 == sumV zs len))
                                simp only [List.setIfInBounds_toArray, List.set_cons_succ, List.set_cons_zero] at h
                                exact h
                              have HAY : Hid (Blk ((wr.setCell ⟨g5, 6, none⟩ (.bool (z34 * 256 + z35 == sumV zs len))).drew) w.heap.size 31 #[.string ⟨#[]⟩, .int .i64 0, .bool false, .bool false, .int .i64 0, .int .i64 0, .bool false]) := HA.out.far (by simp; omega) _
                              have HBY : Hid (Below w.heap.size w ((wr.setCell ⟨g5, 6, none⟩ (.bool (z34 * 256 + z35 == sumV zs len))).drew)) := Below.drew (HB.out.setCell (by simp; omega) _)
                              clear HA HH HB c34 c35 hk0 HRX hbr hHeld y0 y1 y2 y3 y4 y5 y6 yf0 yf1 yf2 yf3 yf4 yf5 yf6
                              generalize ((wr.setCell ⟨g5, 6, none⟩ (.bool (z34 * 256 + z35 == sumV zs len))).drew) = wY at *
                              obtain ⟨⟨y0, y1, y2, y3, y4, y5, y6⟩, yf0, yf1, yf2, yf3, yf4, yf5, yf6⟩ := HHY.out.seven
                              obtain ⟨⟨x0, x1, x2, x3, x4, x5, x6⟩, xf0, xf1, xf2, xf3, xf4, xf5, xf6⟩ := HAY.out.seven
                              go_wp2_with fail
                              refine bodyPost_ret (results_rhead Try.results12 rfl (load_rhead HAY.out.fill)) rfl (.of ?_ ?_)
                              · rw [← HV.out, headV, H27.out, H28.out, H29.out, H34.out, H35.out, HTI.out, ← HK.out, HC1.out, HBt.out, HR.out, pw_def, HN8.out, Int.toNat_natCast]; rfl
                              · exact fill_below HBY.out (Nat.le_refl _)
                            · have q2 : (z != 0) = true := by simp [hz0]
                              by_cases h32 : z < 32
                              · have q3 : decide (z < 32) = true := by simp [h32]
                                have hcv := one_string z 63 pz0 pz1 (by unfold fixI; rw [if_pos (.inl h32)]) wr
                                go_wp2_with fail
                                go_roundw
                                case rel =>
                                  have hnx : pre ((zs.drop 308).take 15) (m + 1) = PL ++ [fixB z] := by rw [pre_succ _ _ (by rw [HTL.out]; exact hlt), HPL.out, HZZ.out]
                                  refine ⟨m + 1, by omega, by go_num, ?_, ?_, ?_, ?_⟩
                                  · intro j hj
                                    by_cases hjm : j = m
                                    · subst hjm; rw [HZZ.out]; exact hz0
                                    · exact HN.out j (by omega)
                                  · exact hid_ (Blk.alloc (HA.out.far (by simp; omega) _) _)
                                  · exact title_step HH.out hnx _
                                  · exact hid_ (Below.alloc (HB.out.setCell (by simp; omega) _) (by simpa using HB.out.size) _)
                                case measure => simp [intOf]; omega
                              · have q3 : decide (z < 32) = false := by simp; omega
                                by_cases h126 : 126 < z
                                · have q4 : decide (126 < z) = true := by simp [h126]
                                  have hcv := one_string z 63 pz0 pz1 (by unfold fixI; rw [if_pos (.inr h126)]) wr
                                  go_wp2_with fail
                                  go_roundw
                                  case rel =>
                                    have hnx : pre ((zs.drop 308).take 15) (m + 1) = PL ++ [fixB z] := by rw [pre_succ _ _ (by rw [HTL.out]; exact hlt), HPL.out, HZZ.out]
                                    refine ⟨m + 1, by omega, by go_num, ?_, ?_, ?_, ?_⟩
                                    · intro j hj
                                      by_cases hjm : j = m
                                      · subst hjm; rw [HZZ.out]; exact hz0
                                      · exact HN.out j (by omega)
                                    · exact hid_ (Blk.alloc (HA.out.far (by simp; omega) _) _)
                                    · exact title_step HH.out hnx _
                                    · exact hid_ (Below.alloc (HB.out.setCell (by simp; omega) _) (by simpa using HB.out.size) _)
                                  case measure => simp [intOf]; omega
                                · have q4 : decide (126 < z) = false := by simp; omega
                                  have hcv := one_string z z pz0 pz1 (by unfold fixI; rw [if_neg (by omega)]) wr
                                  go_wp2_with fail
                                  go_roundw
                                  case rel =>
                                    have hnx : pre ((zs.drop 308).take 15) (m + 1) = PL ++ [fixB z] := by rw [pre_succ _ _ (by rw [HTL.out]; exact hlt), HPL.out, HZZ.out]
                                    refine ⟨m + 1, by omega, by go_num, ?_, ?_, ?_, ?_⟩
                                    · intro j hj
                                      by_cases hjm : j = m
                                      · subst hjm; rw [HZZ.out]; exact hz0
                                      · exact HN.out j (by omega)
                                    · exact hid_ (Blk.alloc (HA.out.far (by simp; omega) _) _)
                                    · exact title_step HH.out hnx _
                                    · exact hid_ (Below.alloc (HB.out.setCell (by simp; omega) _) (by simpa using HB.out.size) _)
                                  case measure => simp [intOf]; omega
                          · obtain rfl : m = 15 := by omega
                            obtain ⟨PL, hPL⟩ : ∃ PL : List UInt8, pre ((zs.drop 308).take 15) 15 = PL := ⟨_, rfl⟩
                            rw [hPL] at y0 HH
                            have HTI := hid_ (show titleL ((zs.drop 308).take 15) = PL from by rw [← hPL]; exact title_stop _ 15 (by rw [HTL.out]; omega) HN.out (fun h => by rw [HTL.out] at h; omega))
                            clear hPL
                            have q1 : decide (308 + ((15 : Nat) : Int) ≤ 322) = false := by decide
                            go_wp2_with fail
                            have hcell := CELL.out _ HB.out
                            obtain ⟨c34, k34, k34'⟩ := hcell 334 (by omega)
                            obtain ⟨c35, k35, k35'⟩ := hcell 335 (by omega)
                            clear hcell
                            generalize h34 : zs.getD 334 0 = z34 at c34 k34 k34'
                            generalize h35 : zs.getD 335 0 = z35 at c35 k35 k35'
                            have H34 := hid_ h34
                            have H35 := hid_ h35
                            clear h34 h35
                            have s34 : (334 : Int) < (len : Int) := by omega
                            have s35 : (335 : Int) < (len : Int) := by omega
                            have HRX := hid_ (HROW.out.below HB.out)
                            have hbr : b < wr.heap.size := Nat.lt_of_lt_of_le hb HB.out.size
                            have hk0 : Keeps wr wr.drew := Below.drew (Below.refl _ _)
                            refine wp_region_tail (S := (fun W => (∀ b o, b < wr.heap.size → W.cell? ⟨b, o, none⟩ = wr.cell? ⟨b, o, none⟩) ∧ Keeps wr W)) (tail := (fun i => i == 15)) (by kernel_rfl) ?hS816 (fun hHeld => ?rest816)
                            case hS816 => (exact keepsS hk0)
                            refine wpAnyT_take (i := 0) (v := ?v817) rfl (by kernel_rfl) (by kernel_rfl) (by kernel_rfl) (by kernel_rfl) (by kernel_rfl) (fun _ _ _ h => h) (Or.inl ⟨by rfl, ?hy817⟩) (by assumption) ?rest817
                            case hy817 => (intro w hSw; (try simp only [List.getElem_toArray, List.getElem_cons_succ, List.getElem_cons_zero]); (try dsimp only at hSw); go_simp; all_goals (with_reducible rfl))
                            (try simp only [Act.put, List.getElem_toArray, List.getElem_cons_succ, List.getElem_cons_zero, List.setIfInBounds_toArray, List.set_cons_zero, List.set_cons_succ])
                            refine wpAnyT_take (i := 1) (v := ?v818) rfl (by kernel_rfl) (by kernel_rfl) (by kernel_rfl) (by kernel_rfl) (by kernel_rfl) (fun _ _ _ h => h) (Or.inl ⟨by rfl, ?hy818⟩) (by assumption) ?rest818
                            case hy818 => (intro w hSw; (try simp only [List.getElem_toArray, List.getElem_cons_succ, List.getElem_cons_zero]); (try dsimp only at hSw); go_simp; all_goals (with_reducible rfl))
                            (try simp only [Act.put, List.getElem_toArray, List.getElem_cons_succ, List.getElem_cons_zero, List.setIfInBounds_toArray, List.set_cons_zero, List.set_cons_succ])
                            refine wpAnyT_take (i := 2) (v := ?v819) rfl (by kernel_rfl) (by kernel_rfl) (by kernel_rfl) (by kernel_rfl) (by kernel_rfl) (fun _ _ _ h => h) (Or.inl ⟨by rfl, ?hy819⟩) (by assumption) ?rest819
                            case hy819 => (intro w hSw; (try simp only [List.getElem_toArray, List.getElem_cons_succ, List.getElem_cons_zero]); (try dsimp only at hSw); go_simp; all_goals (with_reducible rfl))
                            (try simp only [Act.put, List.getElem_toArray, List.getElem_cons_succ, List.getElem_cons_zero, List.setIfInBounds_toArray, List.set_cons_zero, List.set_cons_succ])
                            refine wpAnyT_take (i := 3) (v := ?v820) rfl (by kernel_rfl) (by kernel_rfl) (by kernel_rfl) (by kernel_rfl) (by kernel_rfl) (fun _ _ _ h => h) (Or.inl ⟨by rfl, ?hy820⟩) (by assumption) ?rest820
                            case hy820 => (intro w hSw; (try simp only [List.getElem_toArray, List.getElem_cons_succ, List.getElem_cons_zero]); (try dsimp only at hSw); go_simp; all_goals (with_reducible rfl))
                            (try simp only [Act.put, List.getElem_toArray, List.getElem_cons_succ, List.getElem_cons_zero, List.setIfInBounds_toArray, List.set_cons_zero, List.set_cons_succ])
                            refine wpAnyT_take (i := 4) (v := ?v821) rfl (by kernel_rfl) (by kernel_rfl) (by kernel_rfl) (by kernel_rfl) (by kernel_rfl) (fun _ _ _ h => h) (Or.inl ⟨by rfl, ?hy821⟩) (by assumption) ?rest821
                            case hy821 => (intro w hSw; (try simp only [List.getElem_toArray, List.getElem_cons_succ, List.getElem_cons_zero]); (try dsimp only at hSw); go_simp; all_goals (with_reducible rfl))
                            (try simp only [Act.put, List.getElem_toArray, List.getElem_cons_succ, List.getElem_cons_zero, List.setIfInBounds_toArray, List.set_cons_zero, List.set_cons_succ])
                            refine wpAnyT_take (i := 5) (v := ?v822) rfl (by kernel_rfl) (by kernel_rfl) (by kernel_rfl) (by kernel_rfl) (by kernel_rfl) (fun _ _ _ h => h) (Or.inl ⟨by rfl, ?hy822⟩) (by assumption) ?rest822
                            case hy822 => (intro w hSw; (try simp only [List.getElem_toArray, List.getElem_cons_succ, List.getElem_cons_zero]); (try dsimp only at hSw); go_simp; all_goals (with_reducible rfl))
                            (try simp only [Act.put, List.getElem_toArray, List.getElem_cons_succ, List.getElem_cons_zero, List.setIfInBounds_toArray, List.set_cons_zero, List.set_cons_succ])
                            refine wpAnyT_take (i := 6) (v := ?v823) rfl (by kernel_rfl) (by kernel_rfl) (by kernel_rfl) (by kernel_rfl) (by kernel_rfl) (fun _ _ _ h => h) (Or.inl ⟨by rfl, ?hy823⟩) (by assumption) ?rest823
                            case hy823 => (intro w hSw; (try simp only [List.getElem_toArray, List.getElem_cons_succ, List.getElem_cons_zero]); (try dsimp only at hSw); go_simp; all_goals (with_reducible rfl))
                            (try simp only [Act.put, List.getElem_toArray, List.getElem_cons_succ, List.getElem_cons_zero, List.setIfInBounds_toArray, List.set_cons_zero, List.set_cons_succ])
                            refine wpAnyT_take (i := 7) (v := ?v824) rfl (by kernel_rfl) (by kernel_rfl) (by kernel_rfl) (by kernel_rfl) (by kernel_rfl) (fun _ _ _ h => h) (Or.inl ⟨by rfl, ?hy824⟩) (by assumption) ?rest824
                            case hy824 => (intro w hSw; (try simp only [List.getElem_toArray, List.getElem_cons_succ, List.getElem_cons_zero]); (try dsimp only at hSw); go_simp; all_goals (with_reducible rfl))
                            (try simp only [Act.put, List.getElem_toArray, List.getElem_cons_succ, List.getElem_cons_zero, List.setIfInBounds_toArray, List.set_cons_zero, List.set_cons_succ])
                            refine wpAnyT_take (i := 8) (v := ?v825) rfl (by kernel_rfl) (by kernel_rfl) (by kernel_rfl) (by kernel_rfl) (by kernel_rfl) (fun _ _ _ h => h) (Or.inl ⟨by rfl, ?hy825⟩) (by assumption) ?rest825
                            case hy825 => (intro w hSw; (try simp only [List.getElem_toArray, List.getElem_cons_succ, List.getElem_cons_zero]); (try dsimp only at hSw); go_simp; all_goals (with_reducible rfl))
                            (try simp only [Act.put, List.getElem_toArray, List.getElem_cons_succ, List.getElem_cons_zero, List.setIfInBounds_toArray, List.set_cons_zero, List.set_cons_succ])
                            refine wpAnyT_take (i := 9) (v := ?v826) rfl (by kernel_rfl) (by kernel_rfl) (by kernel_rfl) (by kernel_rfl) (by kernel_rfl) (fun _ _ _ h => h) (Or.inl ⟨by rfl, ?hy826⟩) (by assumption) ?rest826
                            case hy826 => (intro w hSw; (try simp only [List.getElem_toArray, List.getElem_cons_succ, List.getElem_cons_zero]); (try dsimp only at hSw); go_simp; all_goals (with_reducible rfl))
                            (try simp only [Act.put, List.getElem_toArray, List.getElem_cons_succ, List.getElem_cons_zero, List.setIfInBounds_toArray, List.set_cons_zero, List.set_cons_succ])
                            refine wpAnyT_take (i := 10) (v := ?v827) rfl (by kernel_rfl) (by kernel_rfl) (by kernel_rfl) (by kernel_rfl) (by kernel_rfl) (fun _ _ _ h => h) (Or.inl ⟨by rfl, ?hy827⟩) (by assumption) ?rest827
                            case hy827 => (intro w hSw; (try simp only [List.getElem_toArray, List.getElem_cons_succ, List.getElem_cons_zero]); (try dsimp only at hSw); go_simp; all_goals (with_reducible rfl))
                            (try simp only [Act.put, List.getElem_toArray, List.getElem_cons_succ, List.getElem_cons_zero, List.setIfInBounds_toArray, List.set_cons_zero, List.set_cons_succ])
                            refine wpAnyT_one (i := 11) rfl (by kernel_rfl) (fun KK hKK => ?_)
                            (try simp only [List.getElem_toArray, List.getElem_cons_succ, List.getElem_cons_zero])
                            go_simp
                            (refine (rsum_any _ len cap zs hl _ (HRX.out.below hk0)).mono ?_; rintro e w8 ⟨rfl, rfl⟩)
                            (try go_wp2_with fail)
                            refine hKK.out _ _ ?hS828 ?rest828
                            case hS828 => exact keepsS hk0
                            clear hKK KK
                            (try simp only [Act.put, List.getElem_toArray, List.getElem_cons_succ, List.getElem_cons_zero, List.setIfInBounds_toArray, List.set_cons_zero, List.set_cons_succ])
                            refine wpAnyT_take (i := 12) (v := ?v829) rfl (by kernel_rfl) (by kernel_rfl) (by kernel_rfl) (by kernel_rfl) (by kernel_rfl) (fun _ _ _ h => h) (Or.inl ⟨by rfl, ?hy829⟩) (keepsS hk0) ?rest829
                            case hy829 => (intro w hSw; (try simp only [List.getElem_toArray, List.getElem_cons_succ, List.getElem_cons_zero]); (try dsimp only at hSw); go_simp; all_goals (with_reducible rfl))
                            (try simp only [Act.put, List.getElem_toArray, List.getElem_cons_succ, List.getElem_cons_zero, List.setIfInBounds_toArray, List.set_cons_zero, List.set_cons_succ])
                            refine wpAnyT_take (i := 13) (v := ?v830) rfl (by kernel_rfl) (by kernel_rfl) (by kernel_rfl) (by kernel_rfl) (by kernel_rfl) (fun _ _ _ h => h) (Or.inl ⟨by rfl, ?hy830⟩) (keepsS hk0) ?rest830
                            case hy830 => (intro w hSw; (try simp only [List.getElem_toArray, List.getElem_cons_succ, List.getElem_cons_zero]); (try dsimp only at hSw); go_simp; all_goals (with_reducible rfl))
                            (try simp only [Act.put, List.getElem_toArray, List.getElem_cons_succ, List.getElem_cons_zero, List.setIfInBounds_toArray, List.set_cons_zero, List.set_cons_succ])
                            refine wpAnyT_take (i := 14) (v := ?v831) rfl (by kernel_rfl) (by kernel_rfl) (by kernel_rfl) (by kernel_rfl) (by kernel_rfl) (fun _ _ _ h => h) (Or.inl ⟨by rfl, ?hy831⟩) (keepsS hk0) ?rest831
                            case hy831 => (intro w hSw; (try simp only [List.getElem_toArray, List.getElem_cons_succ, List.getElem_cons_zero]); (try dsimp only at hSw); go_simp; all_goals (with_reducible rfl))
                            (try simp only [Act.put, List.getElem_toArray, List.getElem_cons_succ, List.getElem_cons_zero, List.setIfInBounds_toArray, List.set_cons_zero, List.set_cons_succ])
                            refine wpAnyT_last (i := 15) rfl (by kernel_rfl) rfl (fun KK hKK => ?_)
                            (try simp only [List.getElem_toArray, List.getElem_cons_succ, List.getElem_cons_zero])
                            go_simp
                            rw [show IntKind.i64.wrap z34 = z34 from (by simp [IntKind.wrap, IntKind.signed, IntKind.bits]; omega), show IntKind.i64.wrap (z34 * 256) = z34 * 256 from (by simp [IntKind.wrap, IntKind.signed, IntKind.bits]; omega), show IntKind.i64.wrap z35 = z35 from (by simp [IntKind.wrap, IntKind.signed, IntKind.bits]; omega), show IntKind.i64.wrap (z34 * 256 + z35) = z34 * 256 + z35 from (by simp [IntKind.wrap, IntKind.signed, IntKind.bits]; omega), show IntKind.i64.wrap (sumV zs len) = sumV zs len from (by have hsv := sumV_bd zs len; simp [IntKind.wrap, IntKind.signed, IntKind.bits]; omega)]
                            refine hKK.out _ _ ?_
                            clear hKK KK
                            (try simp only [Act.put, List.getElem_toArray, List.getElem_cons_succ, List.getElem_cons_zero, List.setIfInBounds_toArray, List.set_cons_zero, List.set_cons_succ])
                            refine wpAnyT_done (by kernel_rfl) ?_ _
                            have HHY : Hid (Blk ((wr.setCell ⟨g5, 6, none⟩ (.bool (z34 * 256 + z35 == sumV zs len))).drew) g5 31 #[.string ⟨PL.toArray⟩, .int .i64 K, .bool C, .bool B, .int .i64 (pw k), .int .i64 R, .bool (z34 * 256 + z35 == sumV zs len)]) := by
                              have h := HH.out.set_ 6 (.bool (z34 * 256 + z35 == sumV zs len))
                              simp only [List.setIfInBounds_toArray, List.set_cons_succ, List.set_cons_zero] at h
                              exact h
                            have HAY : Hid (Blk ((wr.setCell ⟨g5, 6, none⟩ (.bool (z34 * 256 + z35 == sumV zs len))).drew) w.heap.size 31 #[.string ⟨#[]⟩, .int .i64 0, .bool false, .bool false, .int .i64 0, .int .i64 0, .bool false]) := HA.out.far (by simp; omega) _
                            have HBY : Hid (Below w.heap.size w ((wr.setCell ⟨g5, 6, none⟩ (.bool (z34 * 256 + z35 == sumV zs len))).drew)) := Below.drew (HB.out.setCell (by simp; omega) _)
                            clear HA HH HB c34 c35 hk0 HRX hbr hHeld y0 y1 y2 y3 y4 y5 y6 yf0 yf1 yf2 yf3 yf4 yf5 yf6
                            generalize ((wr.setCell ⟨g5, 6, none⟩ (.bool (z34 * 256 + z35 == sumV zs len))).drew) = wY at *
                            obtain ⟨⟨y0, y1, y2, y3, y4, y5, y6⟩, yf0, yf1, yf2, yf3, yf4, yf5, yf6⟩ := HHY.out.seven
                            obtain ⟨⟨x0, x1, x2, x3, x4, x5, x6⟩, xf0, xf1, xf2, xf3, xf4, xf5, xf6⟩ := HAY.out.seven
                            go_wp2_with fail
                            refine bodyPost_ret (results_rhead Try.results12 rfl (load_rhead HAY.out.fill)) rfl (.of ?_ ?_)
                            · rw [← HV.out, headV, H27.out, H28.out, H29.out, H34.out, H35.out, HTI.out, ← HK.out, HC1.out, HBt.out, HR.out, pw_def, HN8.out, Int.toNat_natCast]; rfl
                            · exact fill_below HBY.out (Nat.le_refl _)
              · have dz : ((len : Int) != pw k * 16384) = true := by rw [HZ16.out]; simp; omega
                have HV1 := HVS.out
                rw [if_pos (by rw [HN8.out]; simpa using hsz)] at HV1
                have HV := hid_ HV1
                clear HV1 HVS
                obtain ⟨⟨x0, x1, x2, x3, x4, x5, x6⟩, xf0, xf1, xf2, xf3, xf4, xf5, xf6⟩ := HA.out.seven
                go_wp2_with fail
                refine bodyPost_ret (v := noHead 6) (results_rhead Try.results12 rfl (load_rhead HA.out.fill)) rfl (.of ?_ ?_)
                · rw [← HV.out]
                · exact fill_below HB.out (Nat.le_refl _)
    · have HV1 := HV0.out
      have hokf : okI z27 = false := by simpa using hok
      rw [if_pos (by rw [H27.out]; exact hokf)] at HV1
      have HV := hid_ HV1
      have hK1 : K = -1 := by rw [← hK]; unfold rkind; rw [if_neg hok]
      subst hK1
      clear HV1 hok hokf hK
      obtain ⟨⟨y0, y1, y2, y3, y4, y5, y6⟩, yf0, yf1, yf2, yf3, yf4, yf5, yf6⟩ := HH4.out.seven
      obtain ⟨⟨x0, x1, x2, x3, x4, x5, x6⟩, xf0, xf1, xf2, xf3, xf4, xf5, xf6⟩ := HA4.out.seven
      go_wp2_with fail
      refine bodyPost_ret (v := noHead 5) (results_rhead Try.results12 rfl (load_rhead HA4.out.fill)) rfl (.of ?_ ?_)
      · rw [← HV.out]
      · exact fill_below HB4.out (Nat.le_refl _)
  · rw [parseV, if_neg (by omega), if_pos (by rw [h33]; exact hne)] at hv
    have HV := hid_ hv
    clear hv
    go_quiet ((go_at_call 14; exact rcheck_q _ len cap zs hl w1 _ HROW1.out hlen))
    go_wp2_with fail
    have HA2 : Blk (w1.drewN nq) w.heap.size 31 #[.string ⟨#[]⟩, .int .i64 0, .bool false, .bool false, .int .i64 0, .int .i64 0, .bool false] := HA1.out.below (below_drewN (Below.refl _ _) nq) HA1.out.lt
    refine bodyPost_ret (v := noHead 4) (results_rhead Try.results12 rfl (load_rhead HA2.fill)) rfl (.of ?_ ?_)
    · rw [← HV.out]
    · exact fill_below (below_drewN HB1.out nq) (Nat.le_refl _)
end Go.Proofs.Ytafkgmlamggbdaa
