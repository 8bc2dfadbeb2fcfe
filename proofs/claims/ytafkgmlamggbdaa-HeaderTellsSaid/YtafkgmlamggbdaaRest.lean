/- A cartridge that is whole, of layer 5. -/
import Derived.Test.YtafkgmlamggbdaaSums
import Derived.Test.YtafkgmlamggbdaaIn
namespace Go.Proofs.Ytafkgmlamggbdaa
open Go.RowKit
set_option linter.unusedSimpArgs false
set_option linter.unusedVariables false

theorem IsRow.at16 {w : World} {a : Option Addr} {len : Nat} {zs : List Int} (h : IsRow .u16 w a len zs) (h0 : 0 < len) :
    ∃ b off, a = some ⟨b, off, none⟩ ∧ b < w.heap.size ∧ ∀ i, i < len → ∃ x : Int, zs.getD i 0 = x ∧ 0 ≤ x ∧ x ≤ 65535 ∧ w.cell? ⟨b, off + i, none⟩ = some (.int .u16 x) := by
  obtain ⟨hl, hw, hc⟩ := h
  obtain ⟨b, off, ha, hb, hcell⟩ := hc h0
  refine ⟨b, off, ha, hb, fun i hi => ?_⟩
  have hm : zs.getD i 0 ∈ zs := by
    rw [List.getD_eq_getElem?_getD, List.getElem?_eq_getElem (by omega)]
    exact List.getElem_mem _
  have hwf := hw _ hm
  have hb2 : 0 ≤ zs.getD i 0 ∧ zs.getD i 0 ≤ 65535 := by simpa [Lit.wf, IntKind.min, IntKind.max, IntKind.signed, IntKind.bits] using hwf
  exact ⟨_, rfl, hb2.1, hb2.2, hcell i hi⟩
theorem xor_bd (x y : Int) (h0 : 0 ≤ x) (h1 : x ≤ 255) (h2 : 0 ≤ y) (h3 : y ≤ 255) : 0 ≤ bits .xor .u8 x y ∧ bits .xor .u8 x y ≤ 255 := by
  obtain ⟨a, rfl⟩ := Int.eq_ofNat_of_zero_le h0
  obtain ⟨c, rfl⟩ := Int.eq_ofNat_of_zero_le h2
  rw [u8_xor_nat a c (by omega) (by omega)]
  have := Nat.xor_lt_two_pow (n := 8) (show a < 2 ^ 8 by omega) (show c < 2 ^ 8 by omega)
  omega

def tup (T : ByteArray) (k n r : Int) (c b wh : Bool) (e : Int) : Value := .tuple #[.agg #[.string T, .int .i64 k, .bool c, .bool b, .int .i64 n, .int .i64 r, .bool wh], .int .i64 e]
theorem title_same {zs zs' : List Int} {s : Nat} (h : ∀ i, 308 ≤ i → i ≤ 335 → zs'.getD i 0 = zs.getD i 0) (hl : zs.length = s) (hl' : zs'.length = s) : (zs'.drop 308).take 15 = (zs.drop 308).take 15 := by
  apply List.ext_getElem?
  intro i
  rw [List.getElem?_take, List.getElem?_take]
  by_cases hi : i < 15
  · rw [if_pos hi, if_pos hi, List.getElem?_drop, List.getElem?_drop]
    have e := h (308 + i) (by omega) (by omega)
    rw [List.getD_eq_getElem?_getD, List.getD_eq_getElem?_getD] at e
    by_cases hs : 308 + i < s
    · rw [List.getElem?_eq_getElem (by omega), List.getElem?_eq_getElem (by omega)] at e ⊢
      simpa using e
    · rw [List.getElem?_eq_none (by omega), List.getElem?_eq_none (by omega)]
  · rw [if_neg hi, if_neg hi]
theorem parse_both {zs zs' : List Int} {s : Nat} (h : ∀ i, 308 ≤ i → i ≤ 335 → zs'.getD i 0 = zs.getD i 0) (hl : zs.length = s) (hl' : zs'.length = s) :
    ∃ (T : ByteArray) (k n r : Int) (c b wh wh' : Bool) (e : Int), parseV zs s = tup T k n r c b wh e ∧ parseV zs' s = tup T k n r c b wh' e := by
  have hc : chk zs' 25 = chk zs 25 := chk_congr 25 fun j hj => h _ (by omega) (by omega)
  unfold parseV
  rw [h 333 (by omega) (by omega), h 327 (by omega) (by omega), h 328 (by omega) (by omega), h 329 (by omega) (by omega), hc]
  by_cases h1 : s < 336
  · rw [if_pos h1, if_pos h1]; exact ⟨_, _, _, _, _, _, _, _, _, rfl, rfl⟩
  · rw [if_neg h1, if_neg h1]
    by_cases h2 : zs.getD 333 0 ≠ chk zs 25
    · rw [if_pos h2, if_pos h2]; exact ⟨_, _, _, _, _, _, _, _, _, rfl, rfl⟩
    · rw [if_neg h2, if_neg h2]
      by_cases h3 : okI (zs.getD 327 0) = false
      · rw [if_pos h3, if_pos h3]; exact ⟨_, _, _, _, _, _, _, _, _, rfl, rfl⟩
      · rw [if_neg h3, if_neg h3]
        by_cases h4 : 8 < zs.getD 328 0 ∨ 6 ≤ zs.getD 329 0
        · rw [if_pos h4, if_pos h4]; exact ⟨_, _, _, _, _, _, _, _, _, rfl, rfl⟩
        · rw [if_neg h4, if_neg h4]
          by_cases h5 : s ≠ sizeOfB (zs.getD 328 0).toNat
          · rw [if_pos h5, if_pos h5]; exact ⟨_, _, _, _, _, _, _, _, _, rfl, rfl⟩
          · rw [if_neg h5, if_neg h5, headV, headV, title_same h hl hl', h 327 (by omega) (by omega), h 328 (by omega) (by omega), h 329 (by omega) (by omega)]; exact ⟨_, _, _, _, _, _, _, _, _, rfl, rfl⟩
theorem parse_same {zs zs' : List Int} {s : Nat} (h : ∀ i, 308 ≤ i → i ≤ 335 → zs'.getD i 0 = zs.getD i 0) (hl : zs.length = s) (hl' : zs'.length = s) {T : ByteArray} {k n r : Int} {c b wh : Bool} {e : Int}
    (hp : parseV zs s = tup T k n r c b wh e) : ∃ wh', parseV zs' s = tup T k n r c b wh' e := by
  obtain ⟨T', k', n', r', c', b', w1, w2, e', h1, h2⟩ := parse_both h hl hl'
  rw [h1] at hp
  simp [tup] at hp
  obtain ⟨⟨rfl, rfl, rfl, rfl, rfl, rfl, rfl⟩, rfl⟩ := hp
  exact ⟨w2, h2⟩

set_option maxRecDepth 100000 in
set_option maxHeartbeats 2000000 in
theorem rest_any (kind banks ram : Int) (pa : Option Addr) (plen pcap : Nat) (pz : List Int) (x : Int) (hk0 : 0 ≤ kind) (hk1 : kind ≤ 255) (hb0 : 0 ≤ banks) (hb1 : banks ≤ 255) (hr0 : 0 ≤ ram) (hr1 : ram ≤ 255)
    (hx0 : 0 ≤ x) (hx1 : x ≤ 255) (w : World) (hp : IsRow .u16 w pa plen pz) :
    Calls Try.prog 6 #[.int .u8 kind, .int .u8 banks, .int .u8 ram, .slice pa plen pcap, .int .u8 x] w (Ret (.bool true) w) := by
  go_enter Try.func6, Try.ntmps6
  go_wp2_with fail
  refine (awake_any w).mono ?_
  rintro e w1 ⟨rfl, hc1, hf1, hz1, hbw1⟩
  clear hc1 hf1
  by_cases h60 : 60 < plen
  · have q : decide ((60 : Int) < (plen : Int)) = true := by simp; omega
    go_wp2_with fail
    refine (awake_any w1).mono ?_
    rintro e w2 ⟨rfl, hc2, hf2, hz2, hbw2⟩
    go_wp2_with fail
    go_ret
    exact .of rfl (hbw1.trans (Below.mono hbw2 hz1))
  · have q : decide ((60 : Int) < (plen : Int)) = false := by simp; omega
    have HP := hid_ hp
    clear hp
    go_wp2_with fail
    obtain ⟨b, hb, hb2⟩ : ∃ b : Nat, banks % 3 = b ∧ b ≤ 2 := ⟨(banks % 3).toNat, by omega, by omega⟩
    rw [hb]
    refine (made_any kind b ram b none 0 0 [] (by omega) (by omega) (by omega) hk0 hk1 hr0 hr1 (by omega) w1 (row_nil _ _)).mono ?_
    rintro e w2 ⟨rfl, hbw2, zs, hM, hl, hF, h33⟩
    clear hF h33
    obtain ⟨s0, s1⟩ := sizeOfB_bd b (by omega)
    generalize sizeOfB b = s at *
    have hrow := hM.row
    rw [hl] at hrow
    go_wp2_with fail
    refine (parse_any _ s s zs (by omega) (Nat.le_refl _) w2 hrow).mono ?_
    rintro e w4 ⟨rfl, hc4, hf4, hz4, hbw4⟩
    clear hc4 hf4
    have HPZ : Hid (∃ p, parseV zs s = p) := ⟨_, rfl⟩
    obtain ⟨T, q1, q2, q3, q4, q5, q6, hpv⟩ := parse_parts zs s
    rw [hpv]
    obtain ⟨er, her⟩ : ∃ er, errV zs s = er := ⟨_, rfl⟩
    rw [her] at hpv ⊢
    have HPV := hid_ hpv
    clear hpv her hrow
    go_wp2_with fail
    have hB5 := Blk.new w4 27 #[.string T, .int .i64 q1, .bool q4, .bool q5, .int .i64 q2, .int .i64 q3, .bool q6]
    have hbw5 : Below w2.heap.size w2 (w4.alloc (.cells #[.string T, .int .i64 q1, .bool q4, .bool q5, .int .i64 q2, .int .i64 q3, .bool q6] 27)) := Below.alloc hbw4 hz4 _
    have hM5 := hM.below hbw5 hM.lt
    have hW5 := (hbw1.trans (Below.mono hbw2 hz1)).trans (Below.mono hbw5 (by have := hbw1.size; have := hbw2.size; omega))
    have g24 : w2.heap.size ≤ w4.heap.size := hz4
    have g12 : w1.heap.size < w2.heap.size := hM.lt
    clear hM hbw4 hz4 hbw5 hbw2 hbw1 HPZ
    generalize (w4.alloc (.cells #[.string T, .int .i64 q1, .bool q4, .bool q5, .int .i64 q2, .int .i64 q3, .bool q6] 27)) = w5 at *
    generalize w4.heap.size = gh at *
    generalize hg : w1.heap.size = g at *
    replace hg := hid_ hg
    have HB5 := hid_ hB5
    have HM5 := hid_ hM5
    have HW5 := hid_ hW5
    clear hB5 hM5 hW5
    go_loopw [38] (fun i wr => ∃ (m : Nat) (zs' : List Int), m ≤ plen ∧ i = .int .i64 m ∧ Mem wr g zs' ∧ Hid (zs'.length = s) ∧ Hid (∀ i, 308 ≤ i → i ≤ 335 → zs'.getD i 0 = zs.getD i 0) ∧ Blk wr gh 27 #[.string T, .int .i64 q1, .bool q4, .bool q5, .int .i64 q2, .int .i64 q3, .bool q6] ∧ Below w.heap.size w wr) (fun i _ => plen - (intOf i).toNat)
    case atStart => exact ⟨0, zs, by omega, rfl, HM5.out, hid_ hl, hid_ (fun _ _ _ => rfl), HB5.out, HW5.out⟩
    case round =>
      obtain ⟨m, zs', hm, rfl, hM, HL, HS, hB, hW⟩ := hrel
      by_cases hlt : m < plen
      · obtain ⟨pb, poff, rfl, hpb, hpc⟩ := HP.out.at16 (by omega)
        obtain ⟨z, hz, hzb0, hzb1, cz⟩ := hpc m hlt
        have cz' := (hW.cell (p := ⟨pb, poff + m, none⟩) hpb).trans cz
        have hmi : (m : Int) < (plen : Int) := by omega
        have hm0 : (0 : Int) ≤ (m : Int) := by omega
        obtain ⟨k, hk⟩ : ∃ k : Nat, z % (s : Int) = k := ⟨(z % (s : Int)).toNat, by have := Int.emod_nonneg z (show (s : Int) ≠ 0 by omega); omega⟩
        have hks : k < s := by have := Int.emod_lt_of_pos z (show (0 : Int) < (s : Int) by omega); omega
        have hks' : (k : Int) < (s : Int) := by omega
        have hk0 : (0 : Int) ≤ (k : Int) := by omega
        have hs0 : ((s : Int) == 0) = false := by simp; omega
        have ck := hM.cell k (by have := HL.out; omega)
        have fk := hM.frozen k
        have hv := hM.bd k
        obtain ⟨y, hy⟩ : ∃ y, zs'.getD k 0 = y := ⟨_, rfl⟩
        rw [hy] at ck hv
        have HM := hid_ hM
        have HB := hid_ hB
        have HW := hid_ hW
        have HV := hid_ hv
        clear hM hB hW hpc cz hz hv hy
        by_cases hin : k < 308
        · have q1' : decide ((k : Int) < 308) = true := by simp; omega
          go_wp2_with fail
          have HX := xor_bd y x HV.out.1 HV.out.2 hx0 hx1
          have hwg : w.heap.size ≤ g := hz1
          exact ⟨⟨m + 1, _, by omega, by go_num, HM.out.set_ k _ HX.1 HX.2, hid_ (by rw [List.length_set]; exact HL.out), hid_ (fun i h1 h2 => by rw [getD_set zs' k i _ (by have := HL.out; omega), if_neg (by omega)]; exact HS.out i h1 h2), HB.out.far (by simp; omega) _, Below.setCell HW.out hwg _⟩, by simp [intOf]; omega⟩
        · have q1' : decide ((k : Int) < 308) = false := by simp; omega
          by_cases hin2 : 335 < k
          · have q2' : decide ((335 : Int) < (k : Int)) = true := by simp; omega
            go_wp2_with fail
            have HX := xor_bd y x HV.out.1 HV.out.2 hx0 hx1
            have hwg : w.heap.size ≤ g := hz1
            exact ⟨⟨m + 1, _, by omega, by go_num, HM.out.set_ k _ HX.1 HX.2, hid_ (by rw [List.length_set]; exact HL.out), hid_ (fun i h1 h2 => by rw [getD_set zs' k i _ (by have := HL.out; omega), if_neg (by omega)]; exact HS.out i h1 h2), HB.out.far (by simp; omega) _, Below.setCell HW.out hwg _⟩, by simp [intOf]; omega⟩
          · have q2' : decide ((335 : Int) < (k : Int)) = false := by simp; omega
            go_wp2_with fail
            exact ⟨⟨m + 1, zs', by omega, by go_num, HM.out, HL, HS, HB.out, HW.out⟩, by simp [intOf]; omega⟩
      · obtain rfl : m = plen := by omega
        clear HB5 HM5 HW5
        go_wp2_with fail
        have hrow := hM.row
        rw [HL.out] at hrow
        refine (parse_any _ s s zs' (by omega) (Nat.le_refl _) wr hrow).mono ?_
        rintro e w7 ⟨rfl, hc7, hf7, hz7, hbw7⟩
        clear hc7 hf7 hrow
        obtain ⟨wh', hpv'⟩ := parse_same HS.out hl HL.out HPV.out
        rw [hpv', tup]
        have hgl := hB.lt
        have hB7 := hB.below hbw7 hgl
        have hgl7 := hB7.lt
        have hgn7 : ¬ gh = w7.heap.size := by omega
        have hW7 := hW.trans (Below.mono hbw7 hW.size)
        clear hpv' hM hB hbw7 hW
        obtain ⟨⟨x0, x1, x2, x3, x4, x5, x6⟩, y0, y1, y2, y3, y4, y5, y6⟩ := hB7.seven
        have HB7 := hid_ hB7
        have HW7 := hid_ hW7
        clear hB7 hW7
        go_wp2_with fail
        go_ret
        exact .of rfl (Below.alloc HW7.out HW7.out.size _)

namespace headerRest
theorem walk (w : World) (kind banks ram : Int) (pa : Option Addr) (plen pcap : Nat) (pz : List Int) (x : Int) (hk0 : 0 ≤ kind) (hk1 : kind ≤ 255) (hb0 : 0 ≤ banks) (hb1 : banks ≤ 255) (hr0 : 0 ≤ ram) (hr1 : ram ≤ 255)
    (hp : IsRow .u16 w pa plen pz) (hx0 : 0 ≤ x) (hx1 : x ≤ 255) :
    Calls Try.prog 6 #[.int .u8 kind, .int .u8 banks, .int .u8 ram, .slice pa plen pcap, .int .u8 x] w (Ret (.bool true) w) :=
  rest_any kind banks ram pa plen pcap pz x hk0 hk1 hb0 hb1 hr0 hr1 hx0 hx1 w hp
end headerRest
end Go.Proofs.Ytafkgmlamggbdaa
