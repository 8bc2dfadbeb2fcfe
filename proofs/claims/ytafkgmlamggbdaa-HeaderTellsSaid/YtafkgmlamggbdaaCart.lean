/- A cartridge of which some bytes are others, of layer 5. -/
import Derived.Test.YtafkgmlamggbdaaAwake
import Derived.Test.YtafkgmlamggbdaaIn
import Derived.Deep.Slices
import Derived.OpenShut
import Derived.Lib.AppendZerosOnto
import Derived.StillTailTactics
import Derived.Outline
import Derived.IntWalk
namespace Go.Proofs.Ytafkgmlamggbdaa
open Go.RowKit Go.ChangeShapes Go.WideShapes Go.Deep
set_option linter.unusedSimpArgs false
set_option linter.unusedVariables false

/-- A slice of pairs of bytes that came in. -/
def IsPairs (w : World) (a : Option Addr) (len : Nat) (_ : Unit) : Prop :=
  0 < len → ∃ b off, a = some ⟨b, off, none⟩ ∧ b < w.heap.size ∧ ∀ i, i < len → ∃ X Y : Int, 0 ≤ X ∧ X ≤ 255 ∧ 0 ≤ Y ∧ Y ≤ 255 ∧
    w.cell? ⟨b, off + i * 2, none⟩ = some (.int .u8 X) ∧ w.cell? ⟨b, off + i * 2 + 1, none⟩ = some (.int .u8 Y)
section
variable {H : Type} {enc : TypeId × Value → H}
theorem isPairs_of {w : World} {fuel : Nat} {a : Option Addr} {len cap : Nat} {x : DataW H × List MemPlace} {spare : Nat → Bool} {held : Bool} {p : List MemPlace}
    (hf : DataW.trod enc Try.prog w 0 spare held fuel 22 (Value.cells (.slice a len cap)).toList = some x) (_ : ∀ y ∈ p, y.block < w.heap.size) : ∃ zs, IsPairs w a len zs := by
  refine ⟨(), fun h0 => ?_⟩
  rcases open_slice Try.underlying22 hf with ⟨hcs, _⟩ | ⟨ad, l, c, m, n, D, Pl, hcs, _, hl, hm, hmm, hx, hel⟩
  · simp [Value.cells] at hcs
    omega
  · simp [Value.cells] at hcs
    obtain ⟨rfl, rfl, rfl⟩ := hcs
    have hlm : len ≤ m := by rw [hmm]; split <;> omega
    have ce : Try.prog.cellsOf 47 = 2 := by kernel_rfl
    obtain ⟨b, off, spot⟩ := ad
    have each : ∀ i, i < len → ∃ X Y : Int, 0 ≤ X ∧ X ≤ 255 ∧ 0 ≤ Y ∧ Y ≤ 255 ∧
        w.cell? ((Addr.mk b off spot).add (i * 2)) = some (.int .u8 X) ∧ w.cell? ((Addr.mk b off spot).add (i * 2 + 1)) = some (.int .u8 Y) := by
      intro i hi
      obtain ⟨cs', h1, h2⟩ := hel i (by omega)
      rw [ce] at h1
      obtain ⟨_, hlen, hcell⟩ := World.cells?_some h1
      obtain ⟨xs, k, hk, hxy, _, hxl, hg⟩ := DataW.trod_array Try.underlying47 h2
      match xs, hxl, cs', hlen with
      | [y0, y1], _, [v0, v1], _ =>
        have g0 := hg 0 (by omega)
        have g1 := hg 1 (by omega)
        have c5 : Try.prog.cellsOf 5 = 1 := by kernel_rfl
        simp [c5] at g0 g1
        obtain ⟨X, e0, _, wX⟩ := DataW.trod_int Try.underlying5 g0
        obtain ⟨Y, e1, _, wY⟩ := DataW.trod_int Try.underlying5 g1
        obtain rfl : v0 = .int .u8 X := by simpa using e0
        obtain rfl : v1 = .int .u8 Y := by simpa using e1
        have bX : 0 ≤ X ∧ X ≤ 255 := by simpa [Lit.wf, IntKind.min, IntKind.max, IntKind.signed, IntKind.bits] using wX
        have bY : 0 ≤ Y ∧ Y ≤ 255 := by simpa [Lit.wf, IntKind.min, IntKind.max, IntKind.signed, IntKind.bits] using wY
        have q0 := hcell 0 (by omega)
        have q1 := hcell 1 (by omega)
        rw [Go.Deep.add_add] at q0 q1
        exact ⟨X, Y, bX.1, bX.2, bY.1, bY.2, by simpa using q0, by simpa using q1⟩
    obtain ⟨_, _, _, _, _, _, h1, _⟩ := each 0 h0
    have hspot : spot = none := by simpa [Addr.add] using World.cell?_spot h1
    subst hspot
    have hadd : ∀ j, (Addr.mk b off none).add j = ⟨b, off + j, none⟩ := fun j => by
      unfold Addr.add
      by_cases h : j = 0 <;> simp [h]
    refine ⟨b, off, rfl, ?_, fun i hi => ?_⟩
    · have := World.block_lt_of_cell? w _ h1
      simpa [Addr.add] using this
    · obtain ⟨X, Y, x0, x1, y0, y1, q0, q1⟩ := each i hi
      rw [hadd] at q0 q1
      exact ⟨X, Y, x0, x1, y0, y1, q0, by rw [Nat.add_assoc]; exact q1⟩
end

/-- What comes of it: some bytes in new memory. -/
def CartP (w : World) (e : Ending) (w' : World) : Prop :=
  ∃ a len cap zs, e = .returned (.slice a len cap) ∧ IsRow .u8 w' a len zs ∧ len ≤ cap ∧ len ≤ 9000000 ∧ Below w.heap.size w w'

theorem row_take {w : World} {g n s : Nat} {zs : List Int} (h : Mem w g zs) (hl : zs.length = s) (hn : n ≤ s) : IsRow .u8 w (some ⟨g, 0, none⟩) n (zs.take n) := by
  obtain ⟨h1, h2, h3⟩ := h.row
  refine ⟨by rw [List.length_take]; omega, fun z hz => h2 z (List.mem_of_mem_take hz), fun h0 => ?_⟩
  obtain ⟨b, off, ha, hb, hc⟩ := h3 (by omega)
  refine ⟨b, off, ha, hb, fun i hi => ?_⟩
  rw [hc i (by omega), List.getD_eq_getElem?_getD, List.getD_eq_getElem?_getD, List.getElem?_take, if_pos hi]

theorem zeroCells_get (n i : Nat) (h : i < n) : (Builtin.zeroCells #[.int .u8 0] n)[i]? = some (.int .u8 0) := by
  unfold Builtin.zeroCells
  have e : n * (#[Value.int .u8 0] : Array Value).size = n := by simp
  rw [e, Array.getElem?_map, Array.getElem?_range, if_pos h]
  have e1 : i % (#[Value.int .u8 0] : Array Value).size = 0 := by simp; omega
  simp only [Option.map_some, e1]
  rfl
theorem zeroCells_size (n : Nat) : (Builtin.zeroCells #[.int .u8 0] n).size = n := by
  unfold Builtin.zeroCells
  simp
theorem grow_any (w : World) (g s n : Nat) (zs : List Int) (hM : Mem w g zs) (hl : zs.length = s) (h0 : 0 < n) (hn : n ≤ 100) (hs0 : 32768 ≤ s) (hs : s ≤ 262144) :
    ∃ (cp : Nat) (w' : World), (Builtin.append_ #[24, 3] 24 #[.slice (some ⟨g, 0, none⟩) s s, .int .i64 (n : Int)]).run Try.prog w = .ok (.slice (some ⟨w.heap.size, 0, none⟩) (s + n) cp) w' ∧
      IsRow .u8 w' (some ⟨w.heap.size, 0, none⟩) (s + n) (zs ++ List.replicate n 0) ∧ s + n ≤ cp ∧ Below w.heap.size w w' := by
  obtain ⟨i0, hi0, hz0, hz1, hz2⟩ := info_parts byte_info
  have hold : (Builtin.firstCells i0.size s (.slice (some ⟨g, 0, none⟩) s s)).run Try.prog w.drew = .ok (zs.map (Value.int .u8)).toArray w.drew := by
    refine run_firstCells_some _ _ _ _ _ _ _ (by rw [hz1, List.length_map, hl, Nat.mul_one]) fun j v hj => ?_
    have hj2 : j < zs.length := by
      rcases Nat.lt_or_ge j zs.length with h | h
      · exact h
      · rw [List.getElem?_eq_none (by simpa using h)] at hj; cases hj
    have h := hM.cell j hj2
    rw [List.getElem?_map, List.getElem?_eq_getElem hj2] at hj
    rw [List.getD_eq_getElem?_getD, List.getElem?_eq_getElem hj2] at h
    have e : (Addr.mk g 0 none).add j = ⟨g, j, none⟩ := by unfold Addr.add; by_cases h : j = 0 <;> simp [h]
    rw [e]
    simp at hj h
    rw [← hj]
    exact h
  have hnc : Builtin.nextslicecap (s + n) s ≤ 1000000 := by
    unfold Builtin.nextslicecap
    rw [if_neg (by omega), if_neg (by omega)]
    unfold Builtin.growBy
    rw [if_neg (by omega)]
    unfold Builtin.growBy
    rw [if_pos (by omega)]
    omega
  have h := Lib.run_append_grow_zeros (P := Try.prog) w 24 3 24 5 i0 (.int .u8 0) .i64 .i64 Try.underlying24 Try.underlying3 hi0 hz0 (some ⟨g, 0, none⟩) s s (zs.map (Value.int .u8)) hold n h0 (by omega) (by omega) (by omega) (by rw [hz2]; omega) (by rw [hz2]; omega)
  refine ⟨_, _, h, ?_, grownCap_ge _ _ _ _, Below.alloc (Below.drew (Below.refl _ _)) (Nat.le_refl _) _⟩
  have hB := Blk.new w.drew 5 ((zs.map (Value.int .u8)).toArray ++ Builtin.zeroCells (Value.int .u8 0).cells n ++ Builtin.zeroCells (Value.int .u8 0).cells (grownCap w (s + n) s 5 - (s + n)))
  refine ⟨by simp [hl], fun z hz => ?_, fun _ => ⟨w.heap.size, 0, rfl, by simp, fun i hi => ?_⟩⟩
  · rcases List.mem_append.1 hz with hz | hz
    · exact (hM.row).2.1 z hz
    · rw [List.eq_of_mem_replicate hz]; decide
  · have hc := hB.cell i
    rw [Nat.zero_add]
    refine hc.trans ?_
    have e : (Value.int .u8 0).cells = #[.int .u8 0] := rfl
    rw [e]
    rw [Array.getElem?_append_left (by simp [zeroCells_size, hl]; omega)]
    rw [List.getD_eq_getElem?_getD]
    by_cases hi2 : i < s
    · rw [Array.getElem?_append_left (by simp [hl]; omega), List.getElem?_toArray, List.getElem?_map, List.getElem?_append_left (by omega), List.getElem?_eq_getElem (by omega)]
      rfl
    · rw [Array.getElem?_append_right (by simp [hl]; omega), List.getElem?_append_right (by omega)]
      have e2 : (List.map (Value.int .u8) zs).toArray.size = s := by simp [hl]
      rw [e2, zeroCells_get _ _ (by omega), List.getElem?_replicate, if_pos (by omega)]
      rfl

set_option maxRecDepth 100000 in
set_option maxHeartbeats 2000000 in
theorem cart_any (kind banks ram : Int) (pa : Option Addr) (plen pcap : Nat) (chck : Bool) (cut : Int) (hk0 : 0 ≤ kind) (hk1 : kind ≤ 255) (hb0 : 0 ≤ banks) (hb1 : banks ≤ 255) (hr0 : 0 ≤ ram) (hr1 : ram ≤ 255)
    (hpl : plen ≤ 30) (w : World) (hp : IsPairs w pa plen ()) :
    Calls Try.prog 10 #[.int .u8 kind, .int .u8 banks, .int .u8 ram, .slice pa plen pcap, .bool chck, .int .i64 cut] w (CartP w) := by
  have HP := hid_ hp
  clear hp
  go_enter Try.func10, Try.ntmps10
  go_wp2_with fail
  obtain ⟨b, hb, hb2⟩ : ∃ b : Nat, banks % 4 = b ∧ b ≤ 3 := ⟨(banks % 4).toNat, by omega, by omega⟩
  rw [hb]
  refine (made_any kind b ram b none 0 0 [] (by omega) (by omega) (by omega) hk0 hk1 hr0 hr1 (by omega) w (row_nil _ _)).mono ?_
  rintro e w2 ⟨rfl, hbw2, zs, hM, hl, hF, h33⟩
  clear hF h33
  obtain ⟨s0, s1⟩ : 32768 ≤ sizeOfB b ∧ sizeOfB b ≤ 262144 := by
    have : b = 0 ∨ b = 1 ∨ b = 2 ∨ b = 3 := by omega
    rcases this with rfl | rfl | rfl | rfl <;> decide
  generalize sizeOfB b = s at *
  have HM := hid_ hM
  have HW := hid_ hbw2
  have HL := hid_ hl
  clear hM hbw2 hl
  generalize hg : w.heap.size = g at *
  have HG := hid_ hg
  clear hg
  go_wp2_with fail
  go_loopw [22] (fun i wr => ∃ (m : Nat) (zs : List Int), m ≤ plen ∧ i = .int .i64 m ∧ Mem wr g zs ∧ Hid (zs.length = s) ∧ Below g w wr) (fun i _ => plen - (intOf i).toNat)
  case atStart => exact ⟨0, zs, by omega, rfl, HM.out, HL, HW.out⟩
  case round =>
    clear HM HW HL
    clear zs
    obtain ⟨m, zs, hm, rfl, hM, HL, hW⟩ := hrel
    by_cases hlt : m < plen
    · obtain ⟨pb, poff, rfl, hpb, hpc⟩ := HP.out (by omega)
      obtain ⟨X, Y, x0, x1, y0, y1, cx, cy⟩ := hpc m hlt
      have hpg : pb < g := by rw [← HG.out]; exact hpb
      have cx' := (hW.cell (p := ⟨pb, poff + m * 2, none⟩) hpg).trans cx
      have cy' := (hW.cell (p := ⟨pb, poff + m * 2 + 1, none⟩) hpg).trans cy
      have hmi : (m : Int) < (plen : Int) := by omega
      have hm0 : (0 : Int) ≤ (m : Int) := by omega
      obtain ⟨k, hk, hk28⟩ : ∃ k : Nat, X % 28 = k ∧ k < 28 := ⟨(X % 28).toNat, by omega, by omega⟩
      have hks : (308 : Int) + (k : Int) < (s : Int) := by omega
      have ck := hM.cell (308 + k) (by have := HL.out; omega)
      have fk := hM.frozen (308 + k)
      have HMM := hid_ hM
      have HWW := hid_ hW
      clear hM hW hpc cx cy
      go_wp2_with fail
      have HT : IntKind.i64.wrap (308 + (IntKind.i64.wrap X).tmod 28) = 308 + (k : Int) := by
        rw [IntWalk.i64_in X (by omega), Int.tmod_eq_emod_of_nonneg x0, hk, IntWalk.i64_in _ (by omega)]
      have HN : ((308 : Int) + (k : Int)).toNat = 308 + k := by omega
      have HZ : (0 : Int) ≤ 308 + (k : Int) := by omega
      go_still_tail 15, (by kernel_rfl)
      clear HT HN HZ
      change wpList _ _ _ _ _ wr.drew
      have ck' : wr.drew.cell? ⟨g, 308 + k, none⟩ = some (.int .u8 (zs.getD (308 + k) 0)) := ck
      have fk' : wr.drew.frozen? ⟨g, 308 + k, none⟩ = false := fk
      have HM1 : Hid (Mem wr.drew g zs) := HMM.out
      have HW1 : Hid (Below g w wr.drew) := Below.drew HWW.out
      clear ck fk HMM HWW cx' cy'
      generalize wr.drew = w3 at *
      go_wp2_with fail
      exact ⟨⟨m + 1, zs.set (308 + k) Y, by omega, by go_num, HM1.out.set_ _ Y y0 y1, by show _ = _; rw [List.length_set]; exact HL.out, HW1.out.setCell (by simp) _⟩, by simp [intOf]; omega⟩
    · obtain rfl : m = plen := by omega
      have hend : ∀ (w4 : World) (zs : List Int), Mem w4 g zs → zs.length = s → Below g w w4 → True := fun _ _ _ _ _ => trivial
      clear hend
      rcases (by omega : (cut < 0 ∧ -100 < cut) ∨ (cut < 0 ∧ cut ≤ -100) ∨ 0 ≤ cut) with ⟨h1, h2⟩ | ⟨h1, h2⟩ | h1
      · obtain ⟨n, hn⟩ : ∃ n : Nat, -cut = (n : Int) := ⟨(-cut).toNat, by omega⟩
        have hgrow := fun (w4 : World) (zs : List Int) (hM : Mem w4 g zs) (hl : zs.length = s) => grow_any w4 g s n zs hM hl (by omega) (by omega) s0 s1
        have HGR := hid_ hgrow
        clear hgrow
        cases chck
        · obtain ⟨cp, w5, hr, hrow, hcp, hbw⟩ := HGR.out wr zs hM HL.out
          have HR := hid_ hrow
          have HB := hid_ (hW.trans (hbw.mono (by rw [← HG.out]; exact hW.size)))
          clear hrow hbw hM hW
          go_wp2_with (at_builtin; refine Lib.wpList_append_run _ rfl _ _ _ _ rfl _ _ rfl rfl _ _ hr ?_)
          go_ret
          exact ⟨_, _, _, _, rfl, HR.out, hcp, by omega, by rw [HG.out]; exact HB.out⟩
        · have hrow := hM.row
          rw [HL.out] at hrow
          have ec : checkV zs s = chk zs 25 := by unfold checkV; rw [if_neg (by omega)]
          obtain ⟨k0, k1⟩ := chk_bd zs 25
          obtain ⟨cc, hcc⟩ : ∃ cc, chk zs 25 = cc := ⟨_, rfl⟩
          rw [hcc] at k0 k1 ec
          have c3 := hM.cell 333 (by rw [HL.out]; omega)
          have f3 := hM.frozen 333
          have s3 : (333 : Int) < (s : Int) := by omega
          have hM2 := hM.set_ 333 cc k0 k1
          have hW2 : Below g w (wr.setCell ⟨g, 333, none⟩ (.int .u8 cc)) := hW.setCell (by simp) _
          have hl2 : (zs.set 333 cc).length = s := by rw [List.length_set]; exact HL.out
          have HM2 := hid_ hM2
          have HW2 := hid_ hW2
          have HL2 := hid_ hl2
          have HROW := hid_ hrow
          have EC := hid_ ec
          clear hM hW hM2 hW2 hl2 hrow ec hcc
          go_wp2_with fail
          refine (rcheck_any _ s s zs (by omega) _ HROW.out).mono ?_
          rintro e wp ⟨rfl, rfl⟩
          rw [EC.out]
          have hM2 := HM2.out
          have hW2 := HW2.out
          have hl2 := HL2.out
          clear HM2 HW2 HL2 HROW EC
          generalize zs.set 333 cc = zs2 at *
          obtain ⟨cp, w5, hr, hrow, hcp, hbw⟩ := HGR.out (wr.setCell ⟨g, 333, none⟩ (.int .u8 cc)) zs2 hM2 hl2
          have hsz : (wr.setCell ⟨g, 333, none⟩ (.int .u8 cc)).heap.size = wr.heap.size := by simp
          rw [hsz] at hr hrow
          clear hsz
          have HR := hid_ hrow
          have HB := hid_ (hW2.trans (hbw.mono (by have := hW2.size; have := HG.out; omega)))
          clear hrow hbw hM2 hW2
          go_wp2_with (at_builtin; refine Lib.wpList_append_run _ rfl _ _ _ _ rfl _ _ rfl rfl _ _ hr ?_)
          go_ret
          exact ⟨_, _, _, _, rfl, HR.out, hcp, by omega, by rw [HG.out]; exact HB.out⟩
      · cases chck
        · go_wp2_with fail
          go_ret
          exact ⟨_, _, _, _, rfl, row_take hM HL.out (by omega), by omega, by omega, by rw [HG.out]; exact hW⟩
        · have hrow := hM.row
          rw [HL.out] at hrow
          have ec : checkV zs s = chk zs 25 := by unfold checkV; rw [if_neg (by omega)]
          obtain ⟨k0, k1⟩ := chk_bd zs 25
          obtain ⟨cc, hcc⟩ : ∃ cc, chk zs 25 = cc := ⟨_, rfl⟩
          rw [hcc] at k0 k1 ec
          have c3 := hM.cell 333 (by rw [HL.out]; omega)
          have f3 := hM.frozen 333
          have s3 : (333 : Int) < (s : Int) := by omega
          have hM2 := hM.set_ 333 cc k0 k1
          have hW2 : Below g w (wr.setCell ⟨g, 333, none⟩ (.int .u8 cc)) := hW.setCell (by simp) _
          have hl2 : (zs.set 333 cc).length = s := by rw [List.length_set]; exact HL.out
          have HM2 := hid_ hM2
          have HW2 := hid_ hW2
          have HL2 := hid_ hl2
          have HROW := hid_ hrow
          have EC := hid_ ec
          clear hM hW hM2 hW2 hl2 hrow ec hcc
          go_wp2_with fail
          refine (rcheck_any _ s s zs (by omega) _ HROW.out).mono ?_
          rintro e wp ⟨rfl, rfl⟩
          rw [EC.out]
          have hM2 := HM2.out
          have hW2 := HW2.out
          have hl2 := HL2.out
          clear HM2 HW2 HL2 HROW EC
          generalize zs.set 333 cc = zs2 at *
          go_wp2_with fail
          go_ret
          exact ⟨_, _, _, _, rfl, row_take hM2 hl2 (by omega), by omega, by omega, by rw [HG.out]; exact hW2⟩
      · cases chck
        · go_wp2_with fail
          go_ret
          exact ⟨_, _, _, _, rfl, row_take hM HL.out (by omega), by omega, by omega, by rw [HG.out]; exact hW⟩
        · have hrow := hM.row
          rw [HL.out] at hrow
          have ec : checkV zs s = chk zs 25 := by unfold checkV; rw [if_neg (by omega)]
          obtain ⟨k0, k1⟩ := chk_bd zs 25
          obtain ⟨cc, hcc⟩ : ∃ cc, chk zs 25 = cc := ⟨_, rfl⟩
          rw [hcc] at k0 k1 ec
          have c3 := hM.cell 333 (by rw [HL.out]; omega)
          have f3 := hM.frozen 333
          have s3 : (333 : Int) < (s : Int) := by omega
          have hM2 := hM.set_ 333 cc k0 k1
          have hW2 : Below g w (wr.setCell ⟨g, 333, none⟩ (.int .u8 cc)) := hW.setCell (by simp) _
          have hl2 : (zs.set 333 cc).length = s := by rw [List.length_set]; exact HL.out
          have HM2 := hid_ hM2
          have HW2 := hid_ hW2
          have HL2 := hid_ hl2
          have HROW := hid_ hrow
          have EC := hid_ ec
          clear hM hW hM2 hW2 hl2 hrow ec hcc
          go_wp2_with fail
          refine (rcheck_any _ s s zs (by omega) _ HROW.out).mono ?_
          rintro e wp ⟨rfl, rfl⟩
          rw [EC.out]
          have hM2 := HM2.out
          have hW2 := HW2.out
          have hl2 := HL2.out
          clear HM2 HW2 HL2 HROW EC
          generalize zs.set 333 cc = zs2 at *
          go_wp2_with fail
          go_ret
          exact ⟨_, _, _, _, rfl, row_take hM2 hl2 (by omega), by omega, by omega, by rw [HG.out]; exact hW2⟩
end Go.Proofs.Ytafkgmlamggbdaa
