/- A cartridge that is made, of the reference of layer 5. -/
import Derived.Test.YtglklbcohbeacaaGreatHwalksb
import Derived.OwnWalk
import Derived.Deep.OwnRows
namespace Go.Proofs.YtglklbcohbeacaaGreat
open Go.RowKit
set_option linter.unusedSimpArgs false
set_option linter.unusedVariables false

section
variable {w w' : World} {g : Nat} {zs : List Int}
theorem Mem.set_ (h : Mem w g zs) (i : Nat) (v : Int) (h0 : 0 ≤ v) (h1 : v ≤ 255) : Mem (w.setCell ⟨g, i, none⟩ (.int .u8 v)) g (zs.set i v) := by
  refine ⟨?_, fun z hz => ?_⟩
  · have := h.1.set_ i (.int .u8 v)
    rw [List.setIfInBounds_toArray, ← List.map_set] at this
    exact this
  · rcases List.mem_or_eq_of_mem_set hz with h2 | h2
    · exact h.2 z h2
    · subst h2; exact ⟨h0, h1⟩
theorem Mem.below {B : Nat} (h : Mem w g zs) (hb : Below B w w') (hg : g < B) : Mem w' g zs := ⟨h.1.below hb hg, h.2⟩
theorem Mem.alloc (h : Mem w g zs) (o : Obj) : Mem (w.alloc o) g zs := ⟨h.1.alloc o, h.2⟩
theorem Mem.far (h : Mem w g zs) {p : Addr} (hp : g ≠ p.block) (u : Value) : Mem (w.setCell p u) g zs := ⟨h.1.far hp u, h.2⟩
theorem Mem.row (h : Mem w g zs) : IsRow .u8 w (some ⟨g, 0, none⟩) zs.length zs := by
  refine ⟨rfl, fun n hn => ?_, fun _ => ⟨g, 0, rfl, h.lt, fun i hi => by rw [Nat.zero_add]; exact h.cell i hi⟩⟩
  have := h.2 n hn
  simp [Lit.wf, IntKind.min, IntKind.max, IntKind.signed, IntKind.bits]; omega
theorem Mem.new (w : World) (n : Nat) : Mem (w.alloc (.cells (madeCells #[.int .u8 0] n) 5)) w.heap.size (List.replicate n 0) := by
  refine ⟨?_, fun z hz => ?_⟩
  · have := Blk.new w 5 (madeCells #[.int .u8 0] n)
    have e : madeCells #[.int .u8 0] n = ((List.replicate n (0 : Int)).map (Value.int .u8)).toArray := by
      apply Array.toList_inj.1
      rw [toList_madeCells_one]; simp
    rw [← e]; exact this
  · rw [List.eq_of_mem_replicate hz]; decide
end
theorem byte_info : (Tryz.prog.info? 5).map (fun i => (i.zero, i.size, i.bytes)) = some (some (.int .u8 0), 1, 1) := by kernel_rfl
theorem getD_set (zs : List Int) (i j : Nat) (v : Int) (hi : i < zs.length) : (zs.set i v).getD j 0 = if j = i then v else zs.getD j 0 := by
  rw [List.getD_eq_getElem?_getD, List.getD_eq_getElem?_getD, List.getElem?_set]
  by_cases h : i = j
  · subst h; simp [hi]
  · rw [if_neg h, if_neg (fun e => h e.symm)]

/-- What a program lays, so many bytes far. -/
def progAt (pz : List Int) (m i : Nat) : Int := if 256 ≤ i ∧ i < 260 ∧ i - 256 < m then pz.getD (i - 256) 0 else if 336 ≤ i ∧ i - 332 < m then pz.getD (i - 332) 0 else 0
def placeOf (m : Nat) : Nat := if m < 4 then 256 + m else 332 + m
theorem progAt_step (pz : List Int) (m i : Nat) : progAt pz (m + 1) i = if i = placeOf m then pz.getD m 0 else progAt pz m i := by
  unfold progAt placeOf
  by_cases hm : m < 4
  · rw [if_pos hm]
    by_cases hi : i = 256 + m
    · subst hi
      rw [if_pos (by omega), if_pos rfl, Nat.add_sub_cancel_left]
    · rw [if_neg hi]
      by_cases h1 : 256 ≤ i ∧ i < 260 ∧ i - 256 < m
      · rw [if_pos (by omega), if_pos h1]
      · rw [if_neg (by omega), if_neg h1]
        by_cases h2 : 336 ≤ i ∧ i - 332 < m
        · omega
        · rw [if_neg (by omega), if_neg h2]
  · rw [if_neg hm]
    by_cases hi : i = 332 + m
    · subst hi
      rw [if_neg (by omega), if_pos (by omega), if_pos rfl, Nat.add_sub_cancel_left]
    · rw [if_neg hi]
      by_cases h1 : 256 ≤ i ∧ i < 260 ∧ i - 256 < m
      · rw [if_pos (by omega), if_pos h1]
      · rw [if_neg (by omega), if_neg h1]
        by_cases h2 : 336 ≤ i ∧ i - 332 < m
        · rw [if_pos (by omega), if_pos h2]
        · rw [if_neg (by omega), if_neg h2]
def madeAt (kind b ram : Int) (pz : List Int) (m : Nat) (i : Nat) : Int := if i = 329 then ram else if i = 328 then b else if i = 327 then kind else progAt pz m i
/-- How many bytes. -/
def sizeOfB (b : Nat) : Nat := 32768 * 2 ^ b

theorem sizeOfB_succ (b : Nat) : sizeOfB (b + 1) = 2 * sizeOfB b := by unfold sizeOfB; rw [Nat.pow_succ]; omega
theorem sizeOfB_bd : ∀ b : Nat, b ≤ 8 → 32768 ≤ sizeOfB b ∧ sizeOfB b ≤ 8388608 := fun b hb => by
  have h1 : 2 ^ b ≤ 2 ^ 8 := Nat.pow_le_pow_right (by omega) hb
  have h2 : 1 ≤ 2 ^ b := Nat.one_le_two_pow
  unfold sizeOfB; omega

theorem place_step {zs pz : List Int} {s m p : Nat} {z : Int} (hl : zs.length = s) (hF : ∀ i, i < s → zs.getD i 0 = progAt pz m i) (hp : placeOf m = p) (hz : pz.getD m 0 = z) (hps : p < s) :
    ∀ i, i < s → (zs.set p z).getD i 0 = progAt pz (m + 1) i := fun i hi => by
  rw [getD_set zs p i z (by omega), progAt_step, hp, hz]
  by_cases h : i = p
  · rw [if_pos h, if_pos h]
  · rw [if_neg h, if_neg h, hF i hi]
theorem chk_congr {zs zs' : List Int} : ∀ k, (∀ j, j < k → zs.getD (308 + j) 0 = zs'.getD (308 + j) 0) → chk zs k = chk zs' k
  | 0, _ => rfl
  | k + 1, h => by simp only [chk]; rw [chk_congr k (fun j hj => h j (by omega)), h k (by omega)]

set_option maxRecDepth 20000 in
set_option maxHeartbeats 1000000 in
theorem made_any (kind banks ram : Int) (b : Nat) (pa : Option Addr) (plen pcap : Nat) (pz : List Int) (hb : banks % 9 = b) (hb0 : 0 ≤ banks) (hb1 : banks ≤ 255) (hk0 : 0 ≤ kind) (hk1 : kind ≤ 255) (hr0 : 0 ≤ ram) (hr1 : ram ≤ 255)
    (hpl : plen ≤ 3000) (w : World) (hp : IsRow .u8 w pa plen pz) :
    Calls Tryz.prog 16 #[.int .u8 kind, .int .u8 banks, .int .u8 ram, .slice pa plen pcap] w (fun e w' => e = .returned (.slice (some ⟨w.heap.size, 0, none⟩) (sizeOfB b) (sizeOfB b)) ∧ Below w.heap.size w w' ∧
      ∃ zs, Mem w' w.heap.size zs ∧ zs.length = sizeOfB b ∧ (∀ i, i < sizeOfB b → i ≠ 333 → zs.getD i 0 = madeAt kind b ram pz plen i) ∧ zs.getD 333 0 = chk zs 25) := by
  obtain ⟨i0, hi0, hz0, hz1, hz2⟩ := info_parts byte_info
  have hb8 : b ≤ 8 := by omega
  have HP := hid_ hp
  clear hp
  go_enter Tryz.func16, Tryz.ntmps16
  go_wp2_with fail
  go_loop [9, 10] (fun n i => ∃ k : Nat, k ≤ b ∧ i = .int .i64 k ∧ n = .int .i64 (sizeOfB k : Nat)) (fun _ i => b - (intOf i).toNat)
  case atStart => exact ⟨0, by omega, rfl, rfl⟩
  case round =>
    obtain ⟨k, hk, rfl, rfl⟩ := hrel
    obtain ⟨s0, s1⟩ := sizeOfB_bd k (by omega)
    have HS := hid_ (sizeOfB_succ k)
    by_cases hlt : k < b
    · generalize sizeOfB k = s at *
      go_wp2_with fail
      go_round
      case rel => exact ⟨k + 1, by omega, by go_num, by rw [HS.out]; exact congrArg _ (by push_cast; omega)⟩
      case measure => simp [intOf]; omega
    · obtain rfl : k = b := by omega
      generalize hse : sizeOfB k = s at *
      have HSE := hid_ hse
      clear HS hse
      go_wp2_with (at_make; refine wpList_make_row _ rfl _ _ 22 rfl 5 i0 (.int .u8 0) Tryz.underlying22 hi0 hz0 hz1 rfl .i64 .i64 s rfl rfl (by rw [hz2]; omega) (by omega) ?_)
      have hM := Mem.new w s
      have hW : Below w.heap.size w (w.alloc (.cells (madeCells #[.int .u8 0] s) 5)) := (Below.refl _ _).alloc (Nat.le_refl _) _
      have hl : (List.replicate s (0 : Int)).length = s := by simp
      have hF : ∀ i, i < s → (List.replicate s (0 : Int)).getD i 0 = progAt pz 0 i := fun i hi => by
        unfold progAt; rw [if_neg (by omega), if_neg (by omega), List.getD_eq_getElem?_getD, List.getElem?_replicate, if_pos hi]; rfl
      generalize (w.alloc (.cells (madeCells #[.int .u8 0] s) 5)) = w1 at *
      generalize List.replicate s (0 : Int) = zs at *
      have HF := hid_ hF
      clear hF
      go_wp2_with fail
      go_loopw [12] (fun i wr => ∃ (m : Nat) (zs : List Int), m ≤ plen ∧ i = .int .i64 m ∧ Mem wr w.heap.size zs ∧ Hid (zs.length = s) ∧ Hid (∀ i, i < s → zs.getD i 0 = progAt pz m i) ∧ Below w.heap.size w wr) (fun i _ => plen - (intOf i).toNat)
      case atStart => exact ⟨0, zs, by omega, rfl, hM, hl, HF, hW⟩
      case round =>
        clear hM hl HF hW
        clear zs
        obtain ⟨m, zs, hm, rfl, hM, HL, HF, hW⟩ := hrel
        by_cases hlt2 : m < plen
        · obtain ⟨pb, poff, rfl, hpb, hpc⟩ := HP.out.at_ (by omega)
          obtain ⟨z, hz, hzb0, hzb1, cz⟩ := hpc m hlt2
          have cz' := (hW.cell (p := ⟨pb, poff + m, none⟩) hpb).trans cz
          have hmi : (m : Int) < (plen : Int) := by omega
          have hm0 : (0 : Int) ≤ (m : Int) := by omega
          have hm15 : (m : Int) < 15000 := by omega
          have hl := HL.out
          have HZ := hid_ hz
          clear hpc cz hz
          by_cases h4 : m < 4
          · have hplace : placeOf m = 256 + m := by unfold placeOf; rw [if_pos h4]
            have ck := hM.cell (256 + m) (by omega)
            have fk := hM.frozen (256 + m)
            have q4 : decide ((260 : Int) ≤ 256 + (m : Int)) = false := by simp; omega
            have q5 : (256 : Int) + (m : Int) < (s : Int) := by omega
            have HPL := hid_ hplace
            clear hplace hl h4
            go_wp2_with fail
            have hl := HL.out
            exact ⟨⟨m + 1, zs.set (256 + m) z, by omega, by go_num, hM.set_ _ z hzb0 hzb1, by show _ = _; rw [List.length_set]; exact hl, place_step hl HF.out HPL.out HZ.out (by omega), hW.setCell (by simp) _⟩, by simp [intOf]; omega⟩
          · have hplace : placeOf m = 256 + m + 76 := by unfold placeOf; rw [if_neg h4]; omega
            have ck := hM.cell (256 + m + 76) (by omega)
            have fk := hM.frozen (256 + m + 76)
            have q4 : decide ((260 : Int) ≤ 256 + (m : Int)) = true := by simp; omega
            have q5 : (256 : Int) + (m : Int) + 76 < (s : Int) := by omega
            have HPL := hid_ hplace
            clear hplace hl h4
            go_wp2_with fail
            have hl := HL.out
            exact ⟨⟨m + 1, zs.set (256 + m + 76) z, by omega, by go_num, hM.set_ _ z hzb0 hzb1, by show _ = _; rw [List.length_set]; exact hl, place_step hl HF.out HPL.out HZ.out (by omega), hW.setCell (by simp) _⟩, by simp [intOf]; omega⟩
        · obtain rfl : m = plen := by omega
          have hl := HL.out
          have c7 := hM.cell 327 (by omega)
          have c8 := hM.cell 328 (by omega)
          have c9 := hM.cell 329 (by omega)
          have f7 := hM.frozen 327
          have f8 := hM.frozen 328
          have f9 := hM.frozen 329
          have s7 : (327 : Int) < (s : Int) := by omega
          have s8 : (328 : Int) < (s : Int) := by omega
          have s9 : (329 : Int) < (s : Int) := by omega
          have s3 : (333 : Int) < (s : Int) := by omega
          have bb0 : (0 : Int) ≤ (k : Int) := by omega
          have bb1 : (k : Int) ≤ 255 := by omega
          have hM3 := ((hM.set_ 327 kind hk0 hk1).set_ 328 k bb0 bb1).set_ 329 ram hr0 hr1
          have hW3 : Below w.heap.size w (((wr.setCell ⟨w.heap.size, 327, none⟩ (.int .u8 kind)).setCell ⟨w.heap.size, 328, none⟩ (.int .u8 k)).setCell ⟨w.heap.size, 329, none⟩ (.int .u8 ram)) := ((hW.setCell (by simp) _).setCell (by simp) _).setCell (by simp) _
          obtain ⟨z3, hz3⟩ : ∃ z3, ((zs.set 327 kind).set 328 (k : Int)).set 329 ram = z3 := ⟨_, rfl⟩
          have hl3 : z3.length = s := by rw [← hz3]; simp [hl]
          have hF3 : ∀ i, i < s → z3.getD i 0 = madeAt kind k ram pz m i := fun i hi => by
            rw [← hz3, getD_set _ _ _ _ (by simp; omega), getD_set _ _ _ _ (by simp; omega), getD_set _ _ _ _ (by omega), HF.out i hi]
            rfl
          rw [hz3] at hM3
          have HF3 := hid_ hF3
          have HL3 := hid_ hl3
          clear hz3 hF3 hl3 hl HF
          go_wp2_with fail
          generalize (((wr.setCell ⟨w.heap.size, 327, none⟩ (.int .u8 kind)).setCell ⟨w.heap.size, 328, none⟩ (.int .u8 k)).setCell ⟨w.heap.size, 329, none⟩ (.int .u8 ram)) = w5 at *
          clear c7 c8 c9 f7 f8 f9 hM hW
          have hrow := hM3.row
          rw [HL3.out] at hrow
          refine (rcheck_any _ s s z3 (by omega) _ hrow).mono ?_
          rintro e wp ⟨rfl, rfl⟩
          have ec : checkV z3 s = chk z3 25 := by unfold checkV; rw [if_neg (by omega)]
          rw [ec]
          obtain ⟨k0, k1⟩ := chk_bd z3 25
          obtain ⟨cc, hcc⟩ : ∃ cc, chk z3 25 = cc := ⟨_, rfl⟩
          rw [hcc]
          rw [hcc] at k0 k1
          have c3 := hM3.cell 333 (by rw [HL3.out]; omega)
          have f3 := hM3.frozen 333
          have HCC := hid_ hcc
          clear ec hcc hrow
          go_wp2_with fail
          go_ret
          rw [HSE.out]
          refine ⟨rfl, hW3.setCell (by simp) _, z3.set 333 cc, hM3.set_ 333 cc k0 k1, by rw [List.length_set]; exact HL3.out, fun i hi hne => ?_, ?_⟩
          · rw [getD_set _ _ _ _ (by rw [HL3.out]; omega), if_neg hne, HF3.out i hi]
          · rw [getD_set _ _ _ _ (by rw [HL3.out]; omega), if_pos rfl, ← HCC.out]
            refine chk_congr 25 fun j hj => ?_
            rw [getD_set _ _ _ _ (by rw [HL3.out]; omega), if_neg (by omega)]
end Go.Proofs.YtglklbcohbeacaaGreat
