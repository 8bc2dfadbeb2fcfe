/- A cartridge's header, of layer 5. -/
import Derived.Test.YtglklbcohbeacaaGreatHname
import Derived.Test.YtglklbcohbeacaaGreatTail2
namespace Go.Proofs.YtglklbcohbeacaaGreat
open Go.RowKit
set_option linter.unusedSimpArgs false
set_option linter.unusedVariables false

theorem cut_two {P : Program} {c : Code} {Q : Exit → Act → World → Prop} {a : Act} {w : World} (f : Act → Nat → Nat → Act) (S : Nat → Nat → World → Prop)
    (h1 : c.wp P (fun e a' w' => e = .normal ∧ ∃ ga gb, a' = f a ga gb ∧ S ga gb w') a w) (h2 : ∀ ga gb w', S ga gb w' → Q .normal (f a ga gb) w') : c.wp P Q a w :=
  Code.wp_mono (fun e a' w' ⟨he, ga, gb, ha, hs⟩ => by subst he; subst ha; exact h2 ga gb w' hs) h1
theorem keepsS {wr W : World} (h : Keeps wr W) : (∀ b o, b < wr.heap.size → W.cell? ⟨b, o, none⟩ = wr.cell? ⟨b, o, none⟩) ∧ Keeps wr W := ⟨fun _ _ h' => Keeps.cells h _ _ h', h⟩
/-- What is looked up: its parts. -/
def kindI (x : Int) : Int := match sortsL.find? (fun p => p.1 == x) with | some p => p.2.1 | none => 0
def clockI (x : Int) : Bool := match sortsL.find? (fun p => p.1 == x) with | some p => p.2.2.1 | none => false
def battI (x : Int) : Bool := match sortsL.find? (fun p => p.1 == x) with | some p => p.2.2.2 | none => false
def okI (x : Int) : Bool := (sortsL.find? (fun p => p.1 == x)).isSome
theorem sortV_eq (x : Int) : sortV x = .tuple #[.agg #[.int .i64 (kindI x), .bool (clockI x), .bool (battI x)], .bool (okI x)] := by
  unfold sortV kindI clockI battI okI
  cases sortsL.find? (fun p => p.1 == x) with
  | none => rfl
  | some p => rfl

theorem Blk.seven {W : World} {g : Nat} {t : TypeId} {c0 c1 c2 c3 c4 c5 c6 : Value} (h : Blk W g t #[c0, c1, c2, c3, c4, c5, c6]) :
    (W.cell? ⟨g, 0, none⟩ = some c0 ∧ W.cell? ⟨g, 1, none⟩ = some c1 ∧ W.cell? ⟨g, 2, none⟩ = some c2 ∧ W.cell? ⟨g, 3, none⟩ = some c3 ∧ W.cell? ⟨g, 4, none⟩ = some c4 ∧ W.cell? ⟨g, 5, none⟩ = some c5 ∧ W.cell? ⟨g, 6, none⟩ = some c6) ∧
    (W.frozen? ⟨g, 0, none⟩ = false ∧ W.frozen? ⟨g, 1, none⟩ = false ∧ W.frozen? ⟨g, 2, none⟩ = false ∧ W.frozen? ⟨g, 3, none⟩ = false ∧ W.frozen? ⟨g, 4, none⟩ = false ∧ W.frozen? ⟨g, 5, none⟩ = false ∧ W.frozen? ⟨g, 6, none⟩ = false) := by
  simp [h.cell, h.frozen]
/-- What a parse made for itself. -/
def Own (w : World) (ga : Nat) (z27 : Int) (W : World) : Prop :=
  Below w.heap.size w W ∧ w.heap.size + 1 < ga ∧ Blk W w.heap.size 80 #[.string ⟨#[]⟩, .int .i64 0, .bool false, .bool false, .int .i64 0, .int .i64 0, .bool false] ∧ Blk W (w.heap.size + 1) 117 #[.int .i64 0, .int .i64 2048, .int .i64 8192, .int .i64 32768, .int .i64 131072, .int .i64 65536] ∧ Blk W ga 119 #[.int .i64 (kindI z27), .bool (clockI z27), .bool (battI z27)]
theorem Own.step {w : World} {ga : Nat} {z27 : Int} {W W' : World} (h : Own w ga z27 W) (hb : Below W.heap.size W W') : Own w ga z27 W' :=
  ⟨h.1.trans (hb.mono h.1.size), h.2.1, h.2.2.1.below hb h.2.2.1.lt, h.2.2.2.1.below hb h.2.2.2.1.lt, h.2.2.2.2.below hb h.2.2.2.2.lt⟩
/-- The check's contract for a region that draws its order. -/
theorem check_q (a : Option Addr) (len cap : Nat) (zs : List Int) (hcap : len ≤ cap) (hl : len ≤ 9000000) (w : World) (m : Nat) (h : IsRow .u8 w a len zs) (hlen : 336 ≤ len) :
    Calls Tryz.prog 49 #[.slice a len cap] (w.drewN m) (fun e w' => e = .returned (.int .u8 (chk zs 25)) ∧ ∃ m', w' = w.drewN m') :=
  (check_any a len cap zs hcap hl _ (h.below (below_drewN (Below.refl _ _) m))).mono fun e w' ⟨he, hw⟩ => ⟨by rw [he]; unfold checkV; rw [if_neg (by omega)], m, hw.symm⟩
def noHead (e : Int) : Value := .tuple #[.agg #[.string ⟨#[]⟩, .int .i64 0, .bool false, .bool false, .int .i64 0, .int .i64 0, .bool false], .int .i64 e]
def ramI (x : Int) : Int := if x = 1 then 2048 else if x = 2 then 8192 else if x = 3 then 32768 else if x = 4 then 131072 else if x = 5 then 65536 else 0
def headV (zs : List Int) (len : Nat) : Value :=
  .tuple #[.agg #[.string ⟨(titleL ((zs.drop 308).take 15)).toArray⟩, .int .i64 (kindI (zs.getD 327 0)), .bool (clockI (zs.getD 327 0)), .bool (battI (zs.getD 327 0)), .int .i64 ((2 ^ ((zs.getD 328 0).toNat + 1) : Nat) : Int),
    .int .i64 (if kindI (zs.getD 327 0) = 2 then 512 else ramI (zs.getD 329 0)), .bool (zs.getD 334 0 * 256 + zs.getD 335 0 == sumVH zs len)], .int .i64 0]
/-- What a parse answers. -/
def parseV (zs : List Int) (len : Nat) : Value :=
  if len < 336 then noHead 2 else if zs.getD 333 0 ≠ chk zs 25 then noHead 4 else if okI (zs.getD 327 0) = false then noHead 5
  else if 8 < zs.getD 328 0 ∨ 6 ≤ zs.getD 329 0 then noHead 7 else if len ≠ sizeOfB (zs.getD 328 0).toNat then noHead 6 else headV zs len

theorem wrap_size : ∀ n : Nat, n ≤ 8 → wrap64 (32768 * 2 ^ n) = (sizeOfB n : Int) := by decide +kernel
theorem wrap_banks : ∀ n : Nat, n ≤ 8 → wrap64 (2 * 2 ^ n) = ((2 ^ (n + 1) : Nat) : Int) := by decide +kernel
theorem wrap_banks2 : ∀ n : Nat, n ≤ 8 → IntKind.i64.wrap (2 * 2 ^ n) = ((2 ^ (n + 1) : Nat) : Int) := by decide +kernel
theorem row_part {W : World} {b off len : Nat} {zs : List Int} (h : IsRow .u8 W (some ⟨b, off, none⟩) len zs) (hlen : 336 ≤ len) : IsRow .u8 W (some ⟨b, off + 308, none⟩) 15 ((zs.drop 308).take 15) := by
  obtain ⟨h1, h2, h3⟩ := h
  obtain ⟨b', off', he, hb, hc⟩ := h3 (by omega)
  obtain ⟨rfl, rfl⟩ : b = b' ∧ off = off' := by simpa using he
  refine ⟨by simp; omega, fun n hn => h2 n (List.mem_of_mem_drop (List.mem_of_mem_take hn)), fun _ => ⟨b, off + 308, rfl, hb, fun i hi => ?_⟩⟩
  have := hc (308 + i) (by omega)
  rw [show off + 308 + i = off + (308 + i) by omega, this]
  simp [List.getD_eq_getElem?_getD, List.getElem?_take, hi, List.getElem?_drop]
theorem ram_cell (k : Nat) (h : k < 6) : (#[Value.int .i64 0, .int .i64 2048, .int .i64 8192, .int .i64 32768, .int .i64 131072, .int .i64 65536])[k]? = some (.int .i64 (ramI k)) := by
  rcases (by omega : k = 0 ∨ k = 1 ∨ k = 2 ∨ k = 3 ∨ k = 4 ∨ k = 5) with rfl | rfl | rfl | rfl | rfl | rfl <;> rfl
theorem Own.set {w : World} {ga gh : Nat} {z27 : Int} {W : World} (h : Own w ga z27 W) (hg : ga < gh) (i : Nat) (u : Value) : Own w ga z27 (W.setCell ⟨gh, i, none⟩ u) :=
  ⟨h.1.setCell (by have := h.2.1; simp; omega) u, h.2.1, h.2.2.1.far (by have := h.2.1; simp; omega) u, h.2.2.2.1.far (by have := h.2.1; simp; omega) u, h.2.2.2.2.far (by simp; omega) u⟩
theorem whole_word : ∀ x y : Int, 0 ≤ x → x ≤ 255 → 0 ≤ y → y ≤ 255 → bits .or .u16 (IntKind.u16.wrap (x * 256)) y = x * 256 + y := by
  intro x y h0 h1 h2 h3
  obtain ⟨a, rfl⟩ := Int.eq_ofNat_of_zero_le h0
  obtain ⟨c, rfl⟩ := Int.eq_ofNat_of_zero_le h2
  have hw : IntKind.u16.wrap ((a : Int) * 256) = ((a * 256 : Nat) : Int) := by simp [IntKind.wrap, IntKind.signed, IntKind.bits]; omega
  have e : a * 256 ||| c = a * 256 + c := by
    have := Nat.shiftLeft_add_eq_or_of_lt (show c < 2 ^ 8 by omega) a
    rw [Nat.shiftLeft_eq] at this
    exact this.symm
  rw [hw, u16_or_nat (a * 256) c (by omega) (by omega), e]
  omega
theorem load_head {W : World} {g : Nat} {c0 c1 c2 c3 c4 c5 c6 : Value} (h : Blk W g 80 #[c0, c1, c2, c3, c4, c5, c6]) :
    (loadVar 80 ⟨g, 0, none⟩).run Tryz.prog W = .ok (.agg #[c0, c1, c2, c3, c4, c5, c6]) W := by
  obtain ⟨⟨x0, x1, x2, x3, x4, x5, x6⟩, _⟩ := h.seven
  go_simp
theorem results_head {fn : Func} {tmps : Array Value} {g : Nat} {w : World} {cs : Array Value} (hr : fn.results = #[.cell 2 80, .tmp 3]) (hA : tmps.getD 2 undef = .pointer (some ⟨g, 0, none⟩))
    (hl : (loadVar 80 ⟨g, 0, none⟩).run Tryz.prog w = .ok (.agg cs) w) : (results fn tmps).run Tryz.prog w = .ok (.tuple #[.agg cs, tmps.getD 3 undef]) w := by
  have hA' : tmps[2]?.getD undef = .pointer (some ⟨g, 0, none⟩) := by rw [← Array.getD_eq_getD_getElem?]; exact hA
  unfold results
  rw [hr]
  simp [hA', asAddr, Sem.run_bind, hl]
/-- Seven stores to a block of seven. -/
theorem Blk.fill {W : World} {g : Nat} {t : TypeId} {c0 c1 c2 c3 c4 c5 c6 d0 d1 d2 d3 d4 d5 d6 : Value} (h : Blk W g t #[c0, c1, c2, c3, c4, c5, c6]) :
    Blk (((((((W.setCell ⟨g, 0, none⟩ d0).setCell ⟨g, 1, none⟩ d1).setCell ⟨g, 2, none⟩ d2).setCell ⟨g, 3, none⟩ d3).setCell ⟨g, 4, none⟩ d4).setCell ⟨g, 5, none⟩ d5).setCell ⟨g, 6, none⟩ d6) g t #[d0, d1, d2, d3, d4, d5, d6] := by
  have := ((((((h.set_ 0 d0).set_ 1 d1).set_ 2 d2).set_ 3 d3).set_ 4 d4).set_ 5 d5).set_ 6 d6
  simpa using this
theorem fill_below {B : Nat} {w W : World} {g : Nat} {d0 d1 d2 d3 d4 d5 d6 : Value} (h : Below B w W) (hg : B ≤ g) :
    Below B w (((((((W.setCell ⟨g, 0, none⟩ d0).setCell ⟨g, 1, none⟩ d1).setCell ⟨g, 2, none⟩ d2).setCell ⟨g, 3, none⟩ d3).setCell ⟨g, 4, none⟩ d4).setCell ⟨g, 5, none⟩ d5).setCell ⟨g, 6, none⟩ d6) :=
  ((((((h.setCell hg d0).setCell hg d1).setCell hg d2).setCell hg d3).setCell hg d4).setCell hg d5).setCell hg d6

set_option maxRecDepth 100000 in
set_option maxHeartbeats 2000000 in
theorem parse_long (b off len cap : Nat) (zs : List Int) (hlen : 336 ≤ len) (hl : len ≤ 9000000) (hcap : len ≤ cap) (w : World) (h : IsRow .u8 w (some ⟨b, off, none⟩) len zs) (v : Value) (hv : parseV zs len = v) :
    Calls Tryz.prog 27 #[.slice (some ⟨b, off, none⟩) len cap] w (Ret v w) := by
  obtain ⟨b', off', he, hb, hc⟩ := h.at_ (by omega)
  obtain ⟨rfl, rfl⟩ : b = b' ∧ off = off' := by simpa using he
  obtain ⟨z27, h27, k27, k27', c27⟩ := hc 327 (by omega)
  obtain ⟨z28, h28, k28, k28', c28⟩ := hc 328 (by omega)
  obtain ⟨z29, h29, k29, k29', c29⟩ := hc 329 (by omega)
  obtain ⟨z33, h33, k33, k33', c33⟩ := hc 333 (by omega)
  have q336 : decide ((len : Int) < 336) = false := by simp; omega
  have s27 : (327 : Int) < (len : Int) := by omega
  have s28 : (328 : Int) < (len : Int) := by omega
  have s29 : (329 : Int) < (len : Int) := by omega
  have s33 : (333 : Int) < (len : Int) := by omega
  have HROW := hid_ h
  have HC := hid_ hc
  clear hc he h
  go_enter Tryz.func27, Tryz.ntmps27
  go_wp2_with fail
  refine cut_two (fun a ga gm => ((((((((((a.put (some 16) (.map (some gm))).put (some 17) (.slice (some ⟨b, off, none⟩) len cap)).put (some 18) (.pointer (some ⟨b, off + 327, none⟩))).put (some 19) (.int .u8 z27)).put (some 20) (.tuple #[.agg #[.int .i64 (kindI z27), .bool (clockI z27), .bool (battI z27)], .bool (okI z27)])).put (some 15) (.tuple #[.agg #[.int .i64 (kindI z27), .bool (clockI z27), .bool (battI z27)], .bool (okI z27)])).put (some 21) (.agg #[.int .i64 (kindI z27), .bool (clockI z27), .bool (battI z27)])).put (some 22) (.bool (okI z27))).put (some 5) (.pointer (some ⟨ga, 0, none⟩))).put (some 6) (.bool (okI z27)))) (fun ga gm W => Keeps ((w.alloc (.cells #[.string ⟨#[]⟩, .int .i64 0, .bool false, .bool false, .int .i64 0, .int .i64 0, .bool false] 80)).alloc (.cells #[.int .i64 0, .int .i64 2048, .int .i64 8192, .int .i64 32768, .int .i64 131072, .int .i64 65536] 117)) W ∧ w.heap.size + 1 < ga ∧ Blk W ga 119 #[.int .i64 (kindI z27), .bool (clockI z27), .bool (battI z27)]) ?_ ?_
  have ch27 : ((w.alloc (.cells #[.string ⟨#[]⟩, .int .i64 0, .bool false, .bool false, .int .i64 0, .int .i64 0, .bool false] 80)).alloc (.cells #[.int .i64 0, .int .i64 2048, .int .i64 8192, .int .i64 32768, .int .i64 131072, .int .i64 65536] 117)).cell? ⟨b, off + 327, none⟩ = some (.int .u8 z27) := by go_simp
  · have hbr : b < ((w.alloc (.cells #[.string ⟨#[]⟩, .int .i64 0, .bool false, .bool false, .int .i64 0, .int .i64 0, .bool false] 80)).alloc (.cells #[.int .i64 0, .int .i64 2048, .int .i64 8192, .int .i64 32768, .int .i64 131072, .int .i64 65536] 117)).heap.size := by simp; omega
    have hsz : Hid (((w.alloc (.cells #[.string ⟨#[]⟩, .int .i64 0, .bool false, .bool false, .int .i64 0, .int .i64 0, .bool false] 80)).alloc (.cells #[.int .i64 0, .int .i64 2048, .int .i64 8192, .int .i64 32768, .int .i64 131072, .int .i64 65536] 117)).heap.size = w.heap.size + 2) := by refine hid_ ?_; simp
    generalize ((w.alloc (.cells #[.string ⟨#[]⟩, .int .i64 0, .bool false, .bool false, .int .i64 0, .int .i64 0, .bool false] 80)).alloc (.cells #[.int .i64 0, .int .i64 2048, .int .i64 8192, .int .i64 32768, .int .i64 131072, .int .i64 65536] 117)) = wr at ch27 hbr hsz ⊢
    refine wp_region_tail (S := (fun W => (∀ b o, b < wr.heap.size → W.cell? ⟨b, o, none⟩ = wr.cell? ⟨b, o, none⟩) ∧ Keeps wr W)) (tail := (fun _ => false)) (by kernel_rfl) ?hS1 (fun hHeld => ?rest1)
    case hS1 => (exact ⟨fun _ _ h => Keeps.cells (Below.drew (Below.refl _ _)) _ _ h, (Below.drew (Below.refl _ _))⟩)
    refine wpAnyT_take (i := 1) (v := ?v2) rfl (by kernel_rfl) (by kernel_rfl) (by kernel_rfl) (by kernel_rfl) (by kernel_rfl) (fun _ _ _ h => nomatch h.1) (Or.inl ⟨by rfl, ?hy2⟩) (by assumption) ?rest2
    case hy2 => (intro w hSw; (try simp only [List.getElem_toArray, List.getElem_cons_succ, List.getElem_cons_zero]); (try dsimp only at hSw); go_simp; all_goals (with_reducible rfl))
    (try simp only [Act.put, List.getElem_toArray, List.getElem_cons_succ, List.getElem_cons_zero, List.setIfInBounds_toArray, List.set_cons_zero, List.set_cons_succ])
    refine wpAnyT_take (i := 2) (v := ?v3) rfl (by kernel_rfl) (by kernel_rfl) (by kernel_rfl) (by kernel_rfl) (by kernel_rfl) (fun _ _ _ h => nomatch h.1) (Or.inl ⟨by rfl, ?hy3⟩) (by assumption) ?rest3
    case hy3 => (intro w hSw; (try simp only [List.getElem_toArray, List.getElem_cons_succ, List.getElem_cons_zero]); (try dsimp only at hSw); go_simp; all_goals (with_reducible rfl))
    (try simp only [Act.put, List.getElem_toArray, List.getElem_cons_succ, List.getElem_cons_zero, List.setIfInBounds_toArray, List.set_cons_zero, List.set_cons_succ])
    refine wpAnyT_take (i := 3) (v := ?v4) rfl (by kernel_rfl) (by kernel_rfl) (by kernel_rfl) (by kernel_rfl) (by kernel_rfl) (fun _ _ _ h => nomatch h.1) (Or.inl ⟨by rfl, ?hy4⟩) (by assumption) ?rest4
    case hy4 => (intro w hSw; (try simp only [List.getElem_toArray, List.getElem_cons_succ, List.getElem_cons_zero]); (try dsimp only at hSw); go_simp; all_goals (with_reducible rfl))
    (try simp only [Act.put, List.getElem_toArray, List.getElem_cons_succ, List.getElem_cons_zero, List.setIfInBounds_toArray, List.set_cons_zero, List.set_cons_succ])
    have hk0 : Keeps wr wr.drew := Below.drew (Below.refl _ _)
    have hkM : Keeps wr (wr.drew.alloc (.map (tab 19) 19)) := Below.alloc hk0 (Nat.le_refl _) _
    have hkA : Keeps wr (wr.drew.alloc (.cells #[.int .i64 0, .bool false, .bool false] 119)) := Below.alloc hk0 (Nat.le_refl _) _
    have hkMA : Keeps wr ((wr.drew.alloc (.map (tab 19) 19)).alloc (.cells #[.int .i64 0, .bool false, .bool false] 119)) := Below.alloc hkM (by simp) _
    have hkAM : Keeps wr ((wr.drew.alloc (.cells #[.int .i64 0, .bool false, .bool false] 119)).alloc (.map (tab 19) 19)) := Below.alloc hkA (by simp) _
    have hmapAM : (wr.alloc (.cells #[.int .i64 0, .bool false, .bool false] 119)).drew.alloc (.map (tab 19) 19) |>.heap[wr.heap.size + 1]? = some (.map (tab 19) 19) := by
      have := heap_alloc_new (wr.alloc (.cells #[.int .i64 0, .bool false, .bool false] 119)).drew (.map (tab 19) 19)
      rw [show (wr.alloc (.cells #[.int .i64 0, .bool false, .bool false] 119)).drew.heap.size = wr.heap.size + 1 by simp] at this
      exact this
    have hBMA : Blk ((wr.alloc (.map (tab 19) 19)).alloc (.cells #[.int .i64 (kindI z27), .bool (clockI z27), .bool (battI z27)] 119)).drew (wr.heap.size + 1) 119 #[.int .i64 (kindI z27), .bool (clockI z27), .bool (battI z27)] := by
      have := Blk.new (wr.alloc (.map (tab 19) 19)) 119 #[.int .i64 (kindI z27), .bool (clockI z27), .bool (battI z27)]
      rw [show (wr.alloc (.map (tab 19) 19)).heap.size = wr.heap.size + 1 by simp] at this
      exact this
    have hBAM : Blk ((wr.alloc (.cells #[.int .i64 (kindI z27), .bool (clockI z27), .bool (battI z27)] 119)).alloc (.map (tab 19) 19)).drew wr.heap.size 119 #[.int .i64 (kindI z27), .bool (clockI z27), .bool (battI z27)] := (Blk.new wr 119 #[.int .i64 (kindI z27), .bool (clockI z27), .bool (battI z27)]).alloc _
    refine wpAnyT_pair (i := 0) (j := 8) rfl rfl (by kernel_rfl) (fun K hK => ?_) (fun K hK => ?_)
    · go_simp
      (refine (sorts_any _).mono ?_; rintro e w4 ⟨rfl, rfl⟩)
      (try go_wp2_with fail)
      refine hK.out _ _ ?hS5 ?rest5
      case hS5 => exact ⟨fun _ _ h => Keeps.cells hkM _ _ h, hkM⟩
      clear hK K
      (try simp only [Act.put, List.getElem_toArray, List.getElem_cons_succ, List.getElem_cons_zero, List.setIfInBounds_toArray, List.set_cons_zero, List.set_cons_succ])
      refine wpAnyT_pair (i := 4) (j := 8) rfl rfl (by kernel_rfl) (fun K hK => ?_) (fun K hK => ?_)
      · (try simp only [List.getElem_toArray, List.getElem_cons_succ, List.getElem_cons_zero])
        go_simp
        rw [look_any z27 (wr.alloc (.map (tab 19) 19)).drew (wr.heap.size) (heap_alloc_new wr _), sortV_eq]
        go_simp
        refine hK.out _ _ ?hS6 ?rest6
        case hS6 => exact ⟨fun _ _ h => Keeps.cells hkM _ _ h, hkM⟩
        clear hK K
        (try simp only [Act.put, List.getElem_toArray, List.getElem_cons_succ, List.getElem_cons_zero, List.setIfInBounds_toArray, List.set_cons_zero, List.set_cons_succ])
        refine wpAnyT_take (i := 5) (v := ?v7) rfl (by kernel_rfl) (by kernel_rfl) (by kernel_rfl) (by kernel_rfl) (by kernel_rfl) (fun _ _ _ h => nomatch h.1) (Or.inl ⟨by rfl, ?hy7⟩) (keepsS hkM) ?rest7
        case hy7 => (intro w hSw; (try simp only [List.getElem_toArray, List.getElem_cons_succ, List.getElem_cons_zero]); (try dsimp only at hSw); go_simp; all_goals (with_reducible rfl))
        (try simp only [Act.put, List.getElem_toArray, List.getElem_cons_succ, List.getElem_cons_zero, List.setIfInBounds_toArray, List.set_cons_zero, List.set_cons_succ])
        refine wpAnyT_take (i := 6) (v := ?v8) rfl (by kernel_rfl) (by kernel_rfl) (by kernel_rfl) (by kernel_rfl) (by kernel_rfl) (fun _ _ _ h => nomatch h.1) (Or.inl ⟨by rfl, ?hy8⟩) (keepsS hkM) ?rest8
        case hy8 => (intro w hSw; (try simp only [List.getElem_toArray, List.getElem_cons_succ, List.getElem_cons_zero]); (try dsimp only at hSw); go_simp; all_goals (with_reducible rfl))
        (try simp only [Act.put, List.getElem_toArray, List.getElem_cons_succ, List.getElem_cons_zero, List.setIfInBounds_toArray, List.set_cons_zero, List.set_cons_succ])
        refine wpAnyT_take (i := 7) (v := ?v9) rfl (by kernel_rfl) (by kernel_rfl) (by kernel_rfl) (by kernel_rfl) (by kernel_rfl) (fun _ _ _ h => nomatch h.1) (Or.inl ⟨by rfl, ?hy9⟩) (keepsS hkM) ?rest9
        case hy9 => (intro w hSw; (try simp only [List.getElem_toArray, List.getElem_cons_succ, List.getElem_cons_zero]); (try dsimp only at hSw); go_simp; all_goals (with_reducible rfl))
        (try simp only [Act.put, List.getElem_toArray, List.getElem_cons_succ, List.getElem_cons_zero, List.setIfInBounds_toArray, List.set_cons_zero, List.set_cons_succ])
        refine wpAnyT_one (i := 8) rfl (by kernel_rfl) (fun K hK => ?_)
        (try simp only [List.getElem_toArray, List.getElem_cons_succ, List.getElem_cons_zero])
        go_simp
        refine hK.out _ _ ?hS10 ?rest10
        case hS10 => exact ⟨fun _ _ h => Keeps.cells hkMA _ _ h, hkMA⟩
        clear hK K
        (try simp only [Act.put, List.getElem_toArray, List.getElem_cons_succ, List.getElem_cons_zero, List.setIfInBounds_toArray, List.set_cons_zero, List.set_cons_succ])
        refine wpAnyT_one (i := 9) rfl (by kernel_rfl) (fun K hK => ?_)
        (try simp only [List.getElem_toArray, List.getElem_cons_succ, List.getElem_cons_zero])
        go_simp
        refine hK.out _ _ ?hS11 ?rest11
        case hS11 => exact keepsS (by (unfold Keeps; repeat (first | exact Below.refl _ _ | refine Below.drew ?_ | (refine Below.setCell ?_ (by simp) _) | (refine Below.alloc ?_ (by simp) _))))
        clear hK K
        (try simp only [Act.put, List.getElem_toArray, List.getElem_cons_succ, List.getElem_cons_zero, List.setIfInBounds_toArray, List.set_cons_zero, List.set_cons_succ])
        refine wpAnyT_one (i := 10) rfl (by kernel_rfl) (fun K hK => ?_)
        (try simp only [List.getElem_toArray, List.getElem_cons_succ, List.getElem_cons_zero])
        go_simp
        refine hK.out _ _ ?hS12 ?rest12
        case hS12 => exact keepsS (by (unfold Keeps; repeat (first | exact Below.refl _ _ | refine Below.drew ?_ | (refine Below.setCell ?_ (by simp) _) | (refine Below.alloc ?_ (by simp) _))))
        clear hK K
        (try simp only [Act.put, List.getElem_toArray, List.getElem_cons_succ, List.getElem_cons_zero, List.setIfInBounds_toArray, List.set_cons_zero, List.set_cons_succ])
        refine wpAnyT_done (by kernel_rfl) ?_ _
        exact ⟨rfl, wr.heap.size + 1, wr.heap.size, rfl, by (unfold Keeps; repeat (first | exact Below.refl _ _ | refine Below.drew ?_ | (refine Below.setCell ?_ (by simp) _) | (refine Below.alloc ?_ (by simp) _))), by have := hsz.out; omega, hBMA⟩
      · go_simp
        refine hK.out _ _ ?hS13 ?rest13
        case hS13 => exact ⟨fun _ _ h => Keeps.cells hkMA _ _ h, hkMA⟩
        clear hK K
        (try simp only [Act.put, List.getElem_toArray, List.getElem_cons_succ, List.getElem_cons_zero, List.setIfInBounds_toArray, List.set_cons_zero, List.set_cons_succ])
        refine wpAnyT_one (i := 4) rfl (by kernel_rfl) (fun K hK => ?_)
        (try simp only [List.getElem_toArray, List.getElem_cons_succ, List.getElem_cons_zero])
        go_simp
        rw [look_any z27 ((wr.alloc (.map (tab 19) 19)).alloc (.cells #[.int .i64 0, .bool false, .bool false] 119)).drew (wr.heap.size) ((Below.heap_alloc _ _ _ (by simp)).trans (heap_alloc_new wr _)), sortV_eq]
        go_simp
        refine hK.out _ _ ?hS14 ?rest14
        case hS14 => exact ⟨fun _ _ h => Keeps.cells hkMA _ _ h, hkMA⟩
        clear hK K
        (try simp only [Act.put, List.getElem_toArray, List.getElem_cons_succ, List.getElem_cons_zero, List.setIfInBounds_toArray, List.set_cons_zero, List.set_cons_succ])
        refine wpAnyT_take (i := 5) (v := ?v15) rfl (by kernel_rfl) (by kernel_rfl) (by kernel_rfl) (by kernel_rfl) (by kernel_rfl) (fun _ _ _ h => nomatch h.1) (Or.inl ⟨by rfl, ?hy15⟩) (keepsS hkMA) ?rest15
        case hy15 => (intro w hSw; (try simp only [List.getElem_toArray, List.getElem_cons_succ, List.getElem_cons_zero]); (try dsimp only at hSw); go_simp; all_goals (with_reducible rfl))
        (try simp only [Act.put, List.getElem_toArray, List.getElem_cons_succ, List.getElem_cons_zero, List.setIfInBounds_toArray, List.set_cons_zero, List.set_cons_succ])
        refine wpAnyT_take (i := 6) (v := ?v16) rfl (by kernel_rfl) (by kernel_rfl) (by kernel_rfl) (by kernel_rfl) (by kernel_rfl) (fun _ _ _ h => nomatch h.1) (Or.inl ⟨by rfl, ?hy16⟩) (keepsS hkMA) ?rest16
        case hy16 => (intro w hSw; (try simp only [List.getElem_toArray, List.getElem_cons_succ, List.getElem_cons_zero]); (try dsimp only at hSw); go_simp; all_goals (with_reducible rfl))
        (try simp only [Act.put, List.getElem_toArray, List.getElem_cons_succ, List.getElem_cons_zero, List.setIfInBounds_toArray, List.set_cons_zero, List.set_cons_succ])
        refine wpAnyT_take (i := 7) (v := ?v17) rfl (by kernel_rfl) (by kernel_rfl) (by kernel_rfl) (by kernel_rfl) (by kernel_rfl) (fun _ _ _ h => nomatch h.1) (Or.inl ⟨by rfl, ?hy17⟩) (keepsS hkMA) ?rest17
        case hy17 => (intro w hSw; (try simp only [List.getElem_toArray, List.getElem_cons_succ, List.getElem_cons_zero]); (try dsimp only at hSw); go_simp; all_goals (with_reducible rfl))
        (try simp only [Act.put, List.getElem_toArray, List.getElem_cons_succ, List.getElem_cons_zero, List.setIfInBounds_toArray, List.set_cons_zero, List.set_cons_succ])
        refine wpAnyT_one (i := 9) rfl (by kernel_rfl) (fun K hK => ?_)
        (try simp only [List.getElem_toArray, List.getElem_cons_succ, List.getElem_cons_zero])
        go_simp
        refine hK.out _ _ ?hS18 ?rest18
        case hS18 => exact keepsS (by (unfold Keeps; repeat (first | exact Below.refl _ _ | refine Below.drew ?_ | (refine Below.setCell ?_ (by simp) _) | (refine Below.alloc ?_ (by simp) _))))
        clear hK K
        (try simp only [Act.put, List.getElem_toArray, List.getElem_cons_succ, List.getElem_cons_zero, List.setIfInBounds_toArray, List.set_cons_zero, List.set_cons_succ])
        refine wpAnyT_one (i := 10) rfl (by kernel_rfl) (fun K hK => ?_)
        (try simp only [List.getElem_toArray, List.getElem_cons_succ, List.getElem_cons_zero])
        go_simp
        refine hK.out _ _ ?hS19 ?rest19
        case hS19 => exact keepsS (by (unfold Keeps; repeat (first | exact Below.refl _ _ | refine Below.drew ?_ | (refine Below.setCell ?_ (by simp) _) | (refine Below.alloc ?_ (by simp) _))))
        clear hK K
        (try simp only [Act.put, List.getElem_toArray, List.getElem_cons_succ, List.getElem_cons_zero, List.setIfInBounds_toArray, List.set_cons_zero, List.set_cons_succ])
        refine wpAnyT_done (by kernel_rfl) ?_ _
        exact ⟨rfl, wr.heap.size + 1, wr.heap.size, rfl, by (unfold Keeps; repeat (first | exact Below.refl _ _ | refine Below.drew ?_ | (refine Below.setCell ?_ (by simp) _) | (refine Below.alloc ?_ (by simp) _))), by have := hsz.out; omega, hBMA⟩
    · go_simp
      refine hK.out _ _ ?hS20 ?rest20
      case hS20 => exact ⟨fun _ _ h => Keeps.cells hkA _ _ h, hkA⟩
      clear hK K
      (try simp only [Act.put, List.getElem_toArray, List.getElem_cons_succ, List.getElem_cons_zero, List.setIfInBounds_toArray, List.set_cons_zero, List.set_cons_succ])
      refine wpAnyT_one (i := 0) rfl (by kernel_rfl) (fun K hK => ?_)
      go_simp
      (refine (sorts_any _).mono ?_; rintro e w4 ⟨rfl, rfl⟩)
      (try go_wp2_with fail)
      refine hK.out _ _ ?hS21 ?rest21
      case hS21 => exact ⟨fun _ _ h => Keeps.cells hkAM _ _ h, hkAM⟩
      clear hK K
      (try simp only [Act.put, List.getElem_toArray, List.getElem_cons_succ, List.getElem_cons_zero, List.setIfInBounds_toArray, List.set_cons_zero, List.set_cons_succ])
      refine wpAnyT_one (i := 4) rfl (by kernel_rfl) (fun K hK => ?_)
      (try simp only [List.getElem_toArray, List.getElem_cons_succ, List.getElem_cons_zero])
      go_simp
      rw [look_any z27 ((wr.alloc (.cells #[.int .i64 0, .bool false, .bool false] 119)).alloc (.map (tab 19) 19)).drew (wr.heap.size + 1) hmapAM, sortV_eq]
      go_simp
      refine hK.out _ _ ?hS22 ?rest22
      case hS22 => exact ⟨fun _ _ h => Keeps.cells hkAM _ _ h, hkAM⟩
      clear hK K
      (try simp only [Act.put, List.getElem_toArray, List.getElem_cons_succ, List.getElem_cons_zero, List.setIfInBounds_toArray, List.set_cons_zero, List.set_cons_succ])
      refine wpAnyT_take (i := 5) (v := ?v23) rfl (by kernel_rfl) (by kernel_rfl) (by kernel_rfl) (by kernel_rfl) (by kernel_rfl) (fun _ _ _ h => nomatch h.1) (Or.inl ⟨by rfl, ?hy23⟩) (keepsS hkAM) ?rest23
      case hy23 => (intro w hSw; (try simp only [List.getElem_toArray, List.getElem_cons_succ, List.getElem_cons_zero]); (try dsimp only at hSw); go_simp; all_goals (with_reducible rfl))
      (try simp only [Act.put, List.getElem_toArray, List.getElem_cons_succ, List.getElem_cons_zero, List.setIfInBounds_toArray, List.set_cons_zero, List.set_cons_succ])
      refine wpAnyT_take (i := 6) (v := ?v24) rfl (by kernel_rfl) (by kernel_rfl) (by kernel_rfl) (by kernel_rfl) (by kernel_rfl) (fun _ _ _ h => nomatch h.1) (Or.inl ⟨by rfl, ?hy24⟩) (keepsS hkAM) ?rest24
      case hy24 => (intro w hSw; (try simp only [List.getElem_toArray, List.getElem_cons_succ, List.getElem_cons_zero]); (try dsimp only at hSw); go_simp; all_goals (with_reducible rfl))
      (try simp only [Act.put, List.getElem_toArray, List.getElem_cons_succ, List.getElem_cons_zero, List.setIfInBounds_toArray, List.set_cons_zero, List.set_cons_succ])
      refine wpAnyT_take (i := 7) (v := ?v25) rfl (by kernel_rfl) (by kernel_rfl) (by kernel_rfl) (by kernel_rfl) (by kernel_rfl) (fun _ _ _ h => nomatch h.1) (Or.inl ⟨by rfl, ?hy25⟩) (keepsS hkAM) ?rest25
      case hy25 => (intro w hSw; (try simp only [List.getElem_toArray, List.getElem_cons_succ, List.getElem_cons_zero]); (try dsimp only at hSw); go_simp; all_goals (with_reducible rfl))
      (try simp only [Act.put, List.getElem_toArray, List.getElem_cons_succ, List.getElem_cons_zero, List.setIfInBounds_toArray, List.set_cons_zero, List.set_cons_succ])
      refine wpAnyT_one (i := 9) rfl (by kernel_rfl) (fun K hK => ?_)
      (try simp only [List.getElem_toArray, List.getElem_cons_succ, List.getElem_cons_zero])
      go_simp
      refine hK.out _ _ ?hS26 ?rest26
      case hS26 => exact keepsS (by (unfold Keeps; repeat (first | exact Below.refl _ _ | refine Below.drew ?_ | (refine Below.setCell ?_ (by simp) _) | (refine Below.alloc ?_ (by simp) _))))
      clear hK K
      (try simp only [Act.put, List.getElem_toArray, List.getElem_cons_succ, List.getElem_cons_zero, List.setIfInBounds_toArray, List.set_cons_zero, List.set_cons_succ])
      refine wpAnyT_one (i := 10) rfl (by kernel_rfl) (fun K hK => ?_)
      (try simp only [List.getElem_toArray, List.getElem_cons_succ, List.getElem_cons_zero])
      go_simp
      refine hK.out _ _ ?hS27 ?rest27
      case hS27 => exact keepsS (by (unfold Keeps; repeat (first | exact Below.refl _ _ | refine Below.drew ?_ | (refine Below.setCell ?_ (by simp) _) | (refine Below.alloc ?_ (by simp) _))))
      clear hK K
      (try simp only [Act.put, List.getElem_toArray, List.getElem_cons_succ, List.getElem_cons_zero, List.setIfInBounds_toArray, List.set_cons_zero, List.set_cons_succ])
      refine wpAnyT_done (by kernel_rfl) ?_ _
      exact ⟨rfl, wr.heap.size, wr.heap.size + 1, rfl, by (unfold Keeps; repeat (first | exact Below.refl _ _ | refine Below.drew ?_ | (refine Below.setCell ?_ (by simp) _) | (refine Below.alloc ?_ (by simp) _))), by have := hsz.out; omega, hBAM⟩
  · intro ga gm w5 ⟨hK5, hga, hB5⟩
    have hA5 : Blk w5 w.heap.size 80 #[.string ⟨#[]⟩, .int .i64 0, .bool false, .bool false, .int .i64 0, .int .i64 0, .bool false] := ((Blk.new w 80 _).alloc _).below hK5 (by simp; omega)
    have hs1 : (w.alloc (.cells #[.string ⟨#[]⟩, .int .i64 0, .bool false, .bool false, .int .i64 0, .int .i64 0, .bool false] 80)).heap.size = w.heap.size + 1 := by simp
    have hS5 : Blk w5 (w.heap.size + 1) 117 #[.int .i64 0, .int .i64 2048, .int .i64 8192, .int .i64 32768, .int .i64 131072, .int .i64 65536] := by
      have := Blk.new (w.alloc (.cells #[.string ⟨#[]⟩, .int .i64 0, .bool false, .bool false, .int .i64 0, .int .i64 0, .bool false] 80)) 117 #[.int .i64 0, .int .i64 2048, .int .i64 8192, .int .i64 32768, .int .i64 131072, .int .i64 65536]
      rw [hs1] at this
      exact this.below hK5 (by simp)
    have hb5 : Below w.heap.size w w5 := (Below.alloc (Below.alloc (Below.refl _ _) (Nat.le_refl _) _) (by simp) _).trans (Below.mono hK5 (by simp; omega))
    have HO5 : Hid (Own w ga z27 w5) := ⟨hb5, hga, hA5, hS5, hB5⟩
    replace c28 := (hb5.cell (p := ⟨b, off + 328, none⟩) hb).trans c28
    replace c29 := (hb5.cell (p := ⟨b, off + 329, none⟩) hb).trans c29
    have C33 := hid_ c33
    clear c27 hK5 hs1 c33 hB5 hA5 hS5 hb5
    go_wp2_with fail
    have hw29 : IntKind.i64.wrap z29 = z29 := by simp [IntKind.wrap, IntKind.signed, IntKind.bits]; omega
    go_quiet (fail)
    go_wp2_with fail
    have HO6 := hid_ (HO5.out.step (below_drewN (Below.refl _ _) nq))
    generalize w5.drewN nq = w6 at HO6 ⊢
    clear HO5 c28 c29
    have hb6 := HO6.out.1
    have c33 := (hb6.cell (p := ⟨b, off + 333, none⟩) hb).trans C33.out
    have HROW6 := hid_ (HROW.out.below hb6)
    clear hb6
    obtain ⟨⟨x0, x1, x2, x3, x4, x5, x6⟩, y0, y1, y2, y3, y4, y5, y6⟩ := HO6.out.2.2.1.seven
    by_cases hne : z33 = chk zs 25
    · rw [parseV, if_neg (by omega), if_neg (by rw [h33]; simp [hne])] at hv
      subst hne
      by_cases hok : okI z27 = true
      · rw [if_neg (by rw [h27, hok]; simp)] at hv
        rw [h28, h29] at hv
        by_cases h8 : 8 < z28
        · rw [if_pos (.inl h8)] at hv
          have HV := hid_ hv
          clear hv
          go_quiet ((go_at_call 49; exact check_q _ len cap zs hcap hl w6 _ HROW6.out hlen))
          go_wp2_with fail
          have HO7 := HO6.out.step (below_drewN (Below.refl _ _) nq)
          refine bodyPost_ret (v := noHead 7) (results_head Tryz.results27 rfl (load_head HO7.2.2.1.fill)) rfl (.of ?_ ?_)
          · rw [← HV.out]
          · exact fill_below HO7.1 (Nat.le_refl _)
        · have h8' : decide (8 < z28) = false := by simp; omega
          by_cases h6 : 6 ≤ z29
          · rw [if_pos (.inr h6)] at hv
            have HV := hid_ hv
            clear hv
            go_quiet ((go_at_call 49; exact check_q _ len cap zs hcap hl w6 _ HROW6.out hlen))
            go_wp2_with fail
            have HO7 := HO6.out.step (below_drewN (Below.refl _ _) nq)
            refine bodyPost_ret (v := noHead 7) (results_head Tryz.results27 rfl (load_head HO7.2.2.1.fill)) rfl (.of ?_ ?_)
            · rw [← HV.out]
            · exact fill_below HO7.1 (Nat.le_refl _)
          · have h6' : decide (6 ≤ z29) = false := by simp; omega
            rw [if_neg (by omega)] at hv
            have hwr : wrap64 (32768 * 2 ^ z28.toNat) = (sizeOfB z28.toNat : Int) := wrap_size _ (by omega)
            by_cases hsz : len = sizeOfB z28.toNat
            · rw [if_neg (by simp [hsz])] at hv
              have hq : ((len : Int) != wrap64 (32768 * 2 ^ z28.toNat)) = false := by rw [hwr, hsz]; simp
              have HV := hid_ hv
              have HSZ := hid_ hsz
              clear hv hsz hwr
              go_quiet ((go_at_call 49; exact check_q _ len cap zs hcap hl w6 _ HROW6.out hlen))
              go_wp2_with fail
              have HO7 := hid_ (HO6.out.step (below_drewN (Below.refl _ _) nq))
              generalize w6.drewN nq = w7 at HO7 ⊢
              clear HO6 c33 HROW6 x0 x1 x2 x3 x4 x5 x6 y0 y1 y2 y3 y4 y5 y6
              have hrowT : ∀ W, Keeps w7 W → IsRow .u8 W (some ⟨b, off + 308, none⟩) 15 ((zs.drop 308).take 15) := fun W hk => row_part (HROW.out.below (HO7.out.1.trans (Below.mono hk HO7.out.1.size))) (by omega)
              have HRT := hid_ hrowT
              clear hrowT
              have hg0 := HO7.out.2.2.2.2.lt
              have hg1 := HO7.out.2.2.2.1.lt
              have g0 := HO7.out.2.2.2.2.cell 0
              have g1 := HO7.out.2.2.2.2.cell 1
              have g2 := HO7.out.2.2.2.2.cell 2
              simp only [List.getElem?_toArray, List.getElem?_cons_zero, List.getElem?_cons_succ] at g0 g1 g2
              obtain ⟨k, rfl⟩ := Int.eq_ofNat_of_zero_le k29
              have gk : w7.cell? ⟨w.heap.size + 1, k, none⟩ = some (.int .i64 (ramI k)) := (HO7.out.2.2.2.1.cell k).trans (ram_cell k (by omega))
              have hk6 : (k : Int) < 6 := by omega
              have hk6' : k < 6 := by omega
              obtain ⟨bk, hbk⟩ : ∃ bk : Int, bk = ((2 ^ (z28.toNat + 1) : Nat) : Int) := ⟨_, rfl⟩
              have hwb : wrap64 (2 * 2 ^ z28.toNat) = bk := (wrap_banks _ (by omega)).trans hbk.symm
              have hwb2 : IntKind.i64.wrap (2 * 2 ^ z28.toNat) = bk := (wrap_banks2 _ (by omega)).trans hbk.symm
              have HBK := hid_ hbk
              clear hbk
              have c308 : (323 : Int) ≤ (cap : Int) := by omega
              have n308 : ¬ cap = 308 := by omega
              refine cut_two (fun a gh _ => ((((((((((((((((a.put (some 57) (.slice (some ⟨b, off, none⟩) len cap)).put (some 58) (.slice (some ⟨b, off + 308, none⟩) 15 (cap - 308))).put (some 59) (.string ⟨(titleL ((zs.drop 308).take 15)).toArray⟩)).put (some 60) (.pointer (some ⟨ga, 0, none⟩))).put (some 61) (.int .i64 (kindI z27))).put (some 62) (.pointer (some ⟨ga, 1, none⟩))).put (some 63) (.bool (clockI z27))).put (some 64) (.pointer (some ⟨ga, 2, none⟩))).put (some 65) (.bool (battI z27))).put (some 66) (.int .u8 z28)).put (some 67) (.int .i64 bk)).put (some 68) (.int .i64 k)).put (some 69) (.pointer (some ⟨w.heap.size + 1, k, none⟩))).put (some 70) (.int .i64 (ramI k))).put (some 71) (.agg #[(.string ⟨(titleL ((zs.drop 308).take 15)).toArray⟩), .int .i64 (kindI z27), .bool (clockI z27), .bool (battI z27), .int .i64 bk, .int .i64 (ramI k), .bool false])).put (some 9) (.pointer (some ⟨gh, 0, none⟩)))) (fun gh _ W => Own w ga z27 W ∧ ga < gh ∧ Blk W gh 80 #[(.string ⟨(titleL ((zs.drop 308).take 15)).toArray⟩), .int .i64 (kindI z27), .bool (clockI z27), .bool (battI z27), .int .i64 bk, .int .i64 (ramI k), .bool false]) ?_ ?_
              · refine wp_region_tail (S := (fun W => (∀ b o, b < w7.heap.size → W.cell? ⟨b, o, none⟩ = w7.cell? ⟨b, o, none⟩) ∧ Keeps w7 W)) (tail := (fun _ => false)) (by kernel_rfl) ?hS501 (fun hHeld => ?rest501)
                case hS501 => (exact (keepsS (Below.drew (Below.refl _ _))))
                refine wpAnyT_take (i := 0) (v := ?v502) rfl (by kernel_rfl) (by kernel_rfl) (by kernel_rfl) (by kernel_rfl) (by kernel_rfl) (fun _ _ _ h => nomatch h.1) (Or.inl ⟨by rfl, ?hy502⟩) (by assumption) ?rest502
                case hy502 => (intro w hSw; (try simp only [List.getElem_toArray, List.getElem_cons_succ, List.getElem_cons_zero]); (try dsimp only at hSw); go_simp; all_goals (with_reducible rfl))
                (try simp only [Act.put, List.getElem_toArray, List.getElem_cons_succ, List.getElem_cons_zero, List.setIfInBounds_toArray, List.set_cons_zero, List.set_cons_succ])
                refine wpAnyT_take (i := 1) (v := ?v503) rfl (by kernel_rfl) (by kernel_rfl) (by kernel_rfl) (by kernel_rfl) (by kernel_rfl) (fun _ _ _ h => nomatch h.1) (Or.inl ⟨by rfl, ?hy503⟩) (by assumption) ?rest503
                case hy503 => (intro w hSw; (try simp only [List.getElem_toArray, List.getElem_cons_succ, List.getElem_cons_zero]); (try dsimp only at hSw); go_simp; all_goals (with_reducible rfl))
                (try simp only [Act.put, List.getElem_toArray, List.getElem_cons_succ, List.getElem_cons_zero, List.setIfInBounds_toArray, List.set_cons_zero, List.set_cons_succ])
                refine wpAnyT_take (i := 3) (v := ?v504) rfl (by kernel_rfl) (by kernel_rfl) (by kernel_rfl) (by kernel_rfl) (by kernel_rfl) (fun _ _ _ h => nomatch h.1) (Or.inl ⟨by rfl, ?hy504⟩) (by assumption) ?rest504
                case hy504 => (intro w hSw; (try simp only [List.getElem_toArray, List.getElem_cons_succ, List.getElem_cons_zero]); (try dsimp only at hSw); go_simp; all_goals (with_reducible rfl))
                (try simp only [Act.put, List.getElem_toArray, List.getElem_cons_succ, List.getElem_cons_zero, List.setIfInBounds_toArray, List.set_cons_zero, List.set_cons_succ])
                refine wpAnyT_take (i := 4) (v := ?v505) rfl (by kernel_rfl) (by kernel_rfl) (by kernel_rfl) (by kernel_rfl) (by kernel_rfl) (fun _ _ _ h => nomatch h.1) (Or.inl ⟨by rfl, ?hy505⟩) (by assumption) ?rest505
                case hy505 => (intro w hSw; (try simp only [List.getElem_toArray, List.getElem_cons_succ, List.getElem_cons_zero]); (try dsimp only at hSw); go_simp; all_goals (with_reducible rfl))
                (try simp only [Act.put, List.getElem_toArray, List.getElem_cons_succ, List.getElem_cons_zero, List.setIfInBounds_toArray, List.set_cons_zero, List.set_cons_succ])
                refine wpAnyT_take (i := 5) (v := ?v506) rfl (by kernel_rfl) (by kernel_rfl) (by kernel_rfl) (by kernel_rfl) (by kernel_rfl) (fun _ _ _ h => nomatch h.1) (Or.inl ⟨by rfl, ?hy506⟩) (by assumption) ?rest506
                case hy506 => (intro w hSw; (try simp only [List.getElem_toArray, List.getElem_cons_succ, List.getElem_cons_zero]); (try dsimp only at hSw); go_simp; all_goals (with_reducible rfl))
                (try simp only [Act.put, List.getElem_toArray, List.getElem_cons_succ, List.getElem_cons_zero, List.setIfInBounds_toArray, List.set_cons_zero, List.set_cons_succ])
                refine wpAnyT_take (i := 6) (v := ?v507) rfl (by kernel_rfl) (by kernel_rfl) (by kernel_rfl) (by kernel_rfl) (by kernel_rfl) (fun _ _ _ h => nomatch h.1) (Or.inl ⟨by rfl, ?hy507⟩) (by assumption) ?rest507
                case hy507 => (intro w hSw; (try simp only [List.getElem_toArray, List.getElem_cons_succ, List.getElem_cons_zero]); (try dsimp only at hSw); go_simp; all_goals (with_reducible rfl))
                (try simp only [Act.put, List.getElem_toArray, List.getElem_cons_succ, List.getElem_cons_zero, List.setIfInBounds_toArray, List.set_cons_zero, List.set_cons_succ])
                refine wpAnyT_take (i := 7) (v := ?v508) rfl (by kernel_rfl) (by kernel_rfl) (by kernel_rfl) (by kernel_rfl) (by kernel_rfl) (fun _ _ _ h => nomatch h.1) (Or.inl ⟨by rfl, ?hy508⟩) (by assumption) ?rest508
                case hy508 => (intro w hSw; (try simp only [List.getElem_toArray, List.getElem_cons_succ, List.getElem_cons_zero]); (try dsimp only at hSw); go_simp; all_goals (with_reducible rfl))
                (try simp only [Act.put, List.getElem_toArray, List.getElem_cons_succ, List.getElem_cons_zero, List.setIfInBounds_toArray, List.set_cons_zero, List.set_cons_succ])
                refine wpAnyT_take (i := 8) (v := ?v509) rfl (by kernel_rfl) (by kernel_rfl) (by kernel_rfl) (by kernel_rfl) (by kernel_rfl) (fun _ _ _ h => nomatch h.1) (Or.inl ⟨by rfl, ?hy509⟩) (by assumption) ?rest509
                case hy509 => (intro w hSw; (try simp only [List.getElem_toArray, List.getElem_cons_succ, List.getElem_cons_zero]); (try dsimp only at hSw); go_simp; all_goals (with_reducible rfl))
                (try simp only [Act.put, List.getElem_toArray, List.getElem_cons_succ, List.getElem_cons_zero, List.setIfInBounds_toArray, List.set_cons_zero, List.set_cons_succ])
                refine wpAnyT_take (i := 9) (v := ?v510) rfl (by kernel_rfl) (by kernel_rfl) (by kernel_rfl) (by kernel_rfl) (by kernel_rfl) (fun _ _ _ h => nomatch h.1) (Or.inl ⟨by rfl, ?hy510⟩) (by assumption) ?rest510
                case hy510 => (intro w hSw; (try simp only [List.getElem_toArray, List.getElem_cons_succ, List.getElem_cons_zero]); (try dsimp only at hSw); go_simp; all_goals (with_reducible rfl))
                (try simp only [Act.put, List.getElem_toArray, List.getElem_cons_succ, List.getElem_cons_zero, List.setIfInBounds_toArray, List.set_cons_zero, List.set_cons_succ])
                refine wpAnyT_take (i := 10) (v := ?v511) rfl (by kernel_rfl) (by kernel_rfl) (by kernel_rfl) (by kernel_rfl) (by kernel_rfl) (fun _ _ _ h => nomatch h.1) (Or.inl ⟨by rfl, ?hy511⟩) (by assumption) ?rest511
                case hy511 => (intro w hSw; (try simp only [List.getElem_toArray, List.getElem_cons_succ, List.getElem_cons_zero]); (try dsimp only at hSw); go_simp; all_goals (with_reducible rfl))
                (try simp only [Act.put, List.getElem_toArray, List.getElem_cons_succ, List.getElem_cons_zero, List.setIfInBounds_toArray, List.set_cons_zero, List.set_cons_succ])
                refine wpAnyT_take (i := 11) (v := ?v512) rfl (by kernel_rfl) (by kernel_rfl) (by kernel_rfl) (by kernel_rfl) (by kernel_rfl) (fun _ _ _ h => nomatch h.1) (Or.inl ⟨by rfl, ?hy512⟩) (by assumption) ?rest512
                case hy512 => (intro w hSw; (try simp only [List.getElem_toArray, List.getElem_cons_succ, List.getElem_cons_zero]); (try dsimp only at hSw); go_simp; all_goals (with_reducible rfl))
                (try simp only [Act.put, List.getElem_toArray, List.getElem_cons_succ, List.getElem_cons_zero, List.setIfInBounds_toArray, List.set_cons_zero, List.set_cons_succ])
                refine wpAnyT_take (i := 12) (v := ?v513) rfl (by kernel_rfl) (by kernel_rfl) (by kernel_rfl) (by kernel_rfl) (by kernel_rfl) (fun _ _ _ h => nomatch h.1) (Or.inl ⟨by rfl, ?hy513⟩) (by assumption) ?rest513
                case hy513 => (intro w hSw; (try simp only [List.getElem_toArray, List.getElem_cons_succ, List.getElem_cons_zero]); (try dsimp only at hSw); go_simp; all_goals (with_reducible rfl))
                (try simp only [Act.put, List.getElem_toArray, List.getElem_cons_succ, List.getElem_cons_zero, List.setIfInBounds_toArray, List.set_cons_zero, List.set_cons_succ])
                refine wpAnyT_take (i := 13) (v := ?v514) rfl (by kernel_rfl) (by kernel_rfl) (by kernel_rfl) (by kernel_rfl) (by kernel_rfl) (fun _ _ _ h => nomatch h.1) (Or.inl ⟨by rfl, ?hy514⟩) (by assumption) ?rest514
                case hy514 => (intro w hSw; (try simp only [List.getElem_toArray, List.getElem_cons_succ, List.getElem_cons_zero]); (try dsimp only at hSw); go_simp; all_goals (with_reducible rfl))
                (try simp only [Act.put, List.getElem_toArray, List.getElem_cons_succ, List.getElem_cons_zero, List.setIfInBounds_toArray, List.set_cons_zero, List.set_cons_succ])
                have hk0 : Keeps w7 w7.drew := Below.drew (Below.refl _ _)
                have hkA : Keeps w7 (w7.drew.alloc (.cells #[.string ⟨#[]⟩, .int .i64 0, .bool false, .bool false, .int .i64 0, .int .i64 0, .bool false] 80)) := Below.alloc hk0 (Nat.le_refl _) _
                refine wpAnyT_pair (i := 2) (j := 15) rfl rfl (by kernel_rfl) (fun K hK => ?_) (fun K hK => ?_)
                · go_simp
                  (refine (name_any _ 15 _ _ (by omega) _ (HRT.out _ hk0)).mono ?_; rintro e w8 ⟨rfl, hc8, hf8, hz8, hb8⟩; clear hc8 hf8 hz8)
                  (try go_wp2_with fail)
                  have hk8 := Keeps.step hk0 hb8
                  have hz8 := Below.size hk8
                  refine hK.out _ _ ?hS515 ?rest515
                  case hS515 => exact (keepsS hk8)
                  clear hK K
                  (try simp only [Act.put, List.getElem_toArray, List.getElem_cons_succ, List.getElem_cons_zero, List.setIfInBounds_toArray, List.set_cons_zero, List.set_cons_succ])
                  refine wpAnyT_take (i := 14) (v := ?v516) rfl (by kernel_rfl) (by kernel_rfl) (by kernel_rfl) (by kernel_rfl) (by kernel_rfl) (fun _ _ _ h => nomatch h.1) (Or.inl ⟨by rfl, ?hy516⟩) (keepsS hk8) ?rest516
                  case hy516 => (intro w hSw; (try simp only [List.getElem_toArray, List.getElem_cons_succ, List.getElem_cons_zero]); (try dsimp only at hSw); go_simp; all_goals (with_reducible rfl))
                  (try simp only [Act.put, List.getElem_toArray, List.getElem_cons_succ, List.getElem_cons_zero, List.setIfInBounds_toArray, List.set_cons_zero, List.set_cons_succ])
                  refine wpAnyT_one (i := 15) rfl (by kernel_rfl) (fun K hK => ?_)
                  (try simp only [List.getElem_toArray, List.getElem_cons_succ, List.getElem_cons_zero])
                  go_simp
                  refine hK.out _ _ ?hS517 ?rest517
                  case hS517 => exact keepsS (Below.alloc hk8 hz8 _)
                  clear hK K
                  (try simp only [Act.put, List.getElem_toArray, List.getElem_cons_succ, List.getElem_cons_zero, List.setIfInBounds_toArray, List.set_cons_zero, List.set_cons_succ])
                  refine wpAnyT_one (i := 16) rfl (by kernel_rfl) (fun K hK => ?_)
                  (try simp only [List.getElem_toArray, List.getElem_cons_succ, List.getElem_cons_zero])
                  go_simp
                  refine hK.out _ _ ?hS518 ?rest518
                  case hS518 => exact keepsS (Below.alloc hk8 hz8 _)
                  clear hK K
                  (try simp only [Act.put, List.getElem_toArray, List.getElem_cons_succ, List.getElem_cons_zero, List.setIfInBounds_toArray, List.set_cons_zero, List.set_cons_succ])
                  refine wpAnyT_done (by kernel_rfl) ?_ _
                  exact ⟨rfl, w8.heap.size, 0, rfl, HO7.out.step (Below.alloc hk8 hz8 _), by omega, Blk.new w8 80 _⟩
                · go_simp
                  refine hK.out _ _ ?hS519 ?rest519
                  case hS519 => exact (keepsS hkA)
                  clear hK K
                  (try simp only [Act.put, List.getElem_toArray, List.getElem_cons_succ, List.getElem_cons_zero, List.setIfInBounds_toArray, List.set_cons_zero, List.set_cons_succ])
                  refine wpAnyT_one (i := 2) rfl (by kernel_rfl) (fun K hK => ?_)
                  go_simp
                  (refine (name_any _ 15 _ _ (by omega) _ (HRT.out _ hkA)).mono ?_; rintro e w8 ⟨rfl, hc8, hf8, hz8, hb8⟩; clear hc8 hf8 hz8)
                  (try go_wp2_with fail)
                  have hk8 := Keeps.step hkA hb8
                  have hz8 := Below.size hk8
                  refine hK.out _ _ ?hS520 ?rest520
                  case hS520 => exact (keepsS hk8)
                  clear hK K
                  (try simp only [Act.put, List.getElem_toArray, List.getElem_cons_succ, List.getElem_cons_zero, List.setIfInBounds_toArray, List.set_cons_zero, List.set_cons_succ])
                  refine wpAnyT_take (i := 14) (v := ?v521) rfl (by kernel_rfl) (by kernel_rfl) (by kernel_rfl) (by kernel_rfl) (by kernel_rfl) (fun _ _ _ h => nomatch h.1) (Or.inl ⟨by rfl, ?hy521⟩) (keepsS hk8) ?rest521
                  case hy521 => (intro w hSw; (try simp only [List.getElem_toArray, List.getElem_cons_succ, List.getElem_cons_zero]); (try dsimp only at hSw); go_simp; all_goals (with_reducible rfl))
                  (try simp only [Act.put, List.getElem_toArray, List.getElem_cons_succ, List.getElem_cons_zero, List.setIfInBounds_toArray, List.set_cons_zero, List.set_cons_succ])
                  have hN : Blk w8 w7.heap.size 80 #[.string ⟨#[]⟩, .int .i64 0, .bool false, .bool false, .int .i64 0, .int .i64 0, .bool false] := (Blk.new w7.drew 80 _).below hb8 (by simp)
                  obtain ⟨⟨x0, x1, x2, x3, x4, x5, x6⟩, y0, y1, y2, y3, y4, y5, y6⟩ := hN.seven
                  refine wpAnyT_one (i := 16) rfl (by kernel_rfl) (fun K hK => ?_)
                  (try simp only [List.getElem_toArray, List.getElem_cons_succ, List.getElem_cons_zero])
                  go_simp
                  refine hK.out _ _ ?hS522 ?rest522
                  case hS522 => exact keepsS (fill_below hk8 (Nat.le_refl _))
                  clear hK K
                  (try simp only [Act.put, List.getElem_toArray, List.getElem_cons_succ, List.getElem_cons_zero, List.setIfInBounds_toArray, List.set_cons_zero, List.set_cons_succ])
                  refine wpAnyT_done (by kernel_rfl) ?_ _
                  exact ⟨rfl, w7.heap.size, 0, rfl, HO7.out.step (fill_below hk8 (Nat.le_refl _)), by omega, hN.fill⟩
              · intro gh _ w9 ⟨HO9, hgh, hB9⟩
                obtain ⟨z34, h34, k34, k34', c34⟩ := HC.out 334 (by omega)
                obtain ⟨z35, h35, k35, k35', c35⟩ := HC.out 335 (by omega)
                have s34 : (334 : Int) < (len : Int) := by omega
                have s35 : (335 : Int) < (len : Int) := by omega
                clear gk g0 g1 g2 hwb hwb2 c308 n308 HO7 HRT
                have C34 := hid_ c34
                have C35 := hid_ c35
                clear c34 c35
                by_cases hkd : kindI z27 = 2
                · obtain ⟨⟨x0, x1, x2, x3, x4, x5, x6⟩, y0, y1, y2, y3, y4, y5, y6⟩ := hB9.seven
                  have HB9 := hid_ hB9
                  clear hB9
                  go_wp2_with fail
                  have HOX := hid_ (HO9.set hgh 5 (.int .i64 512))
                  have hBX := HB9.out.set_ 5 (.int .i64 512)
                  simp only [List.setIfInBounds_toArray, List.set_cons_succ, List.set_cons_zero] at hBX
                  clear HB9 HO9 x0 x1 x2 x3 x4 x5 x6 y0 y1 y2 y3 y4 y5 y6
                  generalize w9.setCell ⟨gh, 5, none⟩ (.int .i64 512) = wX at *
                  have hgX := hBX.lt
                  have hb10 := HOX.out.1.size
                  have hbX : b < wX.heap.size := by omega
                  have c34 := (HOX.out.1.cell (p := ⟨b, off + 334, none⟩) hb).trans C34.out
                  have c35 := (HOX.out.1.cell (p := ⟨b, off + 335, none⟩) hb).trans C35.out
                  have HBX := hid_ hBX
                  clear hBX hb10
                  have hrowX : ∀ W, Keeps wX W → IsRow .u8 W (some ⟨b, off, none⟩) len zs := fun W hk => HROW.out.below (HOX.out.1.trans (Below.mono hk HOX.out.1.size))
                  have HRX := hid_ hrowX
                  clear hrowX
                  have hw34a : IntKind.u16.wrap z34 = z34 := by simp [IntKind.wrap, IntKind.signed, IntKind.bits]; omega
                  have hw35a : IntKind.u16.wrap z35 = z35 := by simp [IntKind.wrap, IntKind.signed, IntKind.bits]; omega
                  have hw34 : bits .or .u16 (IntKind.u16.wrap (z34 * 256)) z35 = z34 * 256 + z35 := whole_word z34 z35 k34 k34' k35 k35'
                  have hk0 : Keeps wX wX.drew := Below.drew (Below.refl _ _)
                  refine wp_region_tail (S := (fun W => (∀ b o, b < wX.heap.size → W.cell? ⟨b, o, none⟩ = wX.cell? ⟨b, o, none⟩) ∧ Keeps wX W)) (tail := (fun i => i == 14)) (by kernel_rfl) ?hS701 (fun hHeld => ?rest701)
                  case hS701 => (exact keepsS hk0)
                  refine wpAnyT_take (i := 0) (v := ?v702) rfl (by kernel_rfl) (by kernel_rfl) (by kernel_rfl) (by kernel_rfl) (by kernel_rfl) (fun _ _ _ h => h) (Or.inl ⟨by rfl, ?hy702⟩) (by assumption) ?rest702
                  case hy702 => (intro w hSw; (try simp only [List.getElem_toArray, List.getElem_cons_succ, List.getElem_cons_zero]); (try dsimp only at hSw); go_simp; all_goals (with_reducible rfl))
                  (try simp only [Act.put, List.getElem_toArray, List.getElem_cons_succ, List.getElem_cons_zero, List.setIfInBounds_toArray, List.set_cons_zero, List.set_cons_succ])
                  refine wpAnyT_take (i := 1) (v := ?v703) rfl (by kernel_rfl) (by kernel_rfl) (by kernel_rfl) (by kernel_rfl) (by kernel_rfl) (fun _ _ _ h => h) (Or.inl ⟨by rfl, ?hy703⟩) (by assumption) ?rest703
                  case hy703 => (intro w hSw; (try simp only [List.getElem_toArray, List.getElem_cons_succ, List.getElem_cons_zero]); (try dsimp only at hSw); go_simp; all_goals (with_reducible rfl))
                  (try simp only [Act.put, List.getElem_toArray, List.getElem_cons_succ, List.getElem_cons_zero, List.setIfInBounds_toArray, List.set_cons_zero, List.set_cons_succ])
                  refine wpAnyT_take (i := 2) (v := ?v704) rfl (by kernel_rfl) (by kernel_rfl) (by kernel_rfl) (by kernel_rfl) (by kernel_rfl) (fun _ _ _ h => h) (Or.inl ⟨by rfl, ?hy704⟩) (by assumption) ?rest704
                  case hy704 => (intro w hSw; (try simp only [List.getElem_toArray, List.getElem_cons_succ, List.getElem_cons_zero]); (try dsimp only at hSw); go_simp; all_goals (with_reducible rfl))
                  (try simp only [Act.put, List.getElem_toArray, List.getElem_cons_succ, List.getElem_cons_zero, List.setIfInBounds_toArray, List.set_cons_zero, List.set_cons_succ])
                  refine wpAnyT_take (i := 3) (v := ?v705) rfl (by kernel_rfl) (by kernel_rfl) (by kernel_rfl) (by kernel_rfl) (by kernel_rfl) (fun _ _ _ h => h) (Or.inl ⟨by rfl, ?hy705⟩) (by assumption) ?rest705
                  case hy705 => (intro w hSw; (try simp only [List.getElem_toArray, List.getElem_cons_succ, List.getElem_cons_zero]); (try dsimp only at hSw); go_simp; all_goals (with_reducible rfl))
                  (try simp only [Act.put, List.getElem_toArray, List.getElem_cons_succ, List.getElem_cons_zero, List.setIfInBounds_toArray, List.set_cons_zero, List.set_cons_succ])
                  refine wpAnyT_take (i := 4) (v := ?v706) rfl (by kernel_rfl) (by kernel_rfl) (by kernel_rfl) (by kernel_rfl) (by kernel_rfl) (fun _ _ _ h => h) (Or.inl ⟨by rfl, ?hy706⟩) (by assumption) ?rest706
                  case hy706 => (intro w hSw; (try simp only [List.getElem_toArray, List.getElem_cons_succ, List.getElem_cons_zero]); (try dsimp only at hSw); go_simp; all_goals (with_reducible rfl))
                  (try simp only [Act.put, List.getElem_toArray, List.getElem_cons_succ, List.getElem_cons_zero, List.setIfInBounds_toArray, List.set_cons_zero, List.set_cons_succ])
                  refine wpAnyT_take (i := 5) (v := ?v707) rfl (by kernel_rfl) (by kernel_rfl) (by kernel_rfl) (by kernel_rfl) (by kernel_rfl) (fun _ _ _ h => h) (Or.inl ⟨by rfl, ?hy707⟩) (by assumption) ?rest707
                  case hy707 => (intro w hSw; (try simp only [List.getElem_toArray, List.getElem_cons_succ, List.getElem_cons_zero]); (try dsimp only at hSw); go_simp; all_goals (with_reducible rfl))
                  (try simp only [Act.put, List.getElem_toArray, List.getElem_cons_succ, List.getElem_cons_zero, List.setIfInBounds_toArray, List.set_cons_zero, List.set_cons_succ])
                  refine wpAnyT_take (i := 6) (v := ?v708) rfl (by kernel_rfl) (by kernel_rfl) (by kernel_rfl) (by kernel_rfl) (by kernel_rfl) (fun _ _ _ h => h) (Or.inl ⟨by rfl, ?hy708⟩) (by assumption) ?rest708
                  case hy708 => (intro w hSw; (try simp only [List.getElem_toArray, List.getElem_cons_succ, List.getElem_cons_zero]); (try dsimp only at hSw); go_simp; all_goals (with_reducible rfl))
                  (try simp only [Act.put, List.getElem_toArray, List.getElem_cons_succ, List.getElem_cons_zero, List.setIfInBounds_toArray, List.set_cons_zero, List.set_cons_succ])
                  refine wpAnyT_take (i := 7) (v := ?v709) rfl (by kernel_rfl) (by kernel_rfl) (by kernel_rfl) (by kernel_rfl) (by kernel_rfl) (fun _ _ _ h => h) (Or.inl ⟨by rfl, ?hy709⟩) (by assumption) ?rest709
                  case hy709 => (intro w hSw; (try simp only [List.getElem_toArray, List.getElem_cons_succ, List.getElem_cons_zero]); (try dsimp only at hSw); go_simp; all_goals (with_reducible rfl))
                  (try simp only [Act.put, List.getElem_toArray, List.getElem_cons_succ, List.getElem_cons_zero, List.setIfInBounds_toArray, List.set_cons_zero, List.set_cons_succ])
                  refine wpAnyT_take (i := 8) (v := ?v710) rfl (by kernel_rfl) (by kernel_rfl) (by kernel_rfl) (by kernel_rfl) (by kernel_rfl) (fun _ _ _ h => h) (Or.inl ⟨by rfl, ?hy710⟩) (by assumption) ?rest710
                  case hy710 => (intro w hSw; (try simp only [List.getElem_toArray, List.getElem_cons_succ, List.getElem_cons_zero]); (try dsimp only at hSw); go_simp; all_goals (with_reducible rfl))
                  (try simp only [Act.put, List.getElem_toArray, List.getElem_cons_succ, List.getElem_cons_zero, List.setIfInBounds_toArray, List.set_cons_zero, List.set_cons_succ])
                  refine wpAnyT_take (i := 9) (v := ?v711) rfl (by kernel_rfl) (by kernel_rfl) (by kernel_rfl) (by kernel_rfl) (by kernel_rfl) (fun _ _ _ h => h) (Or.inl ⟨by rfl, ?hy711⟩) (by assumption) ?rest711
                  case hy711 => (intro w hSw; (try simp only [List.getElem_toArray, List.getElem_cons_succ, List.getElem_cons_zero]); (try dsimp only at hSw); go_simp; all_goals (with_reducible rfl))
                  (try simp only [Act.put, List.getElem_toArray, List.getElem_cons_succ, List.getElem_cons_zero, List.setIfInBounds_toArray, List.set_cons_zero, List.set_cons_succ])
                  refine wpAnyT_take (i := 10) (v := ?v712) rfl (by kernel_rfl) (by kernel_rfl) (by kernel_rfl) (by kernel_rfl) (by kernel_rfl) (fun _ _ _ h => h) (Or.inl ⟨by rfl, ?hy712⟩) (by assumption) ?rest712
                  case hy712 => (intro w hSw; (try simp only [List.getElem_toArray, List.getElem_cons_succ, List.getElem_cons_zero]); (try dsimp only at hSw); go_simp; all_goals (with_reducible rfl))
                  (try simp only [Act.put, List.getElem_toArray, List.getElem_cons_succ, List.getElem_cons_zero, List.setIfInBounds_toArray, List.set_cons_zero, List.set_cons_succ])
                  refine wpAnyT_one (i := 11) rfl (by kernel_rfl) (fun K hK => ?_)
                  (try simp only [List.getElem_toArray, List.getElem_cons_succ, List.getElem_cons_zero])
                  go_simp
                  (refine (sum_any _ len cap zs hl _ (HRX.out _ hk0)).mono ?_; rintro e w8 ⟨rfl, n8, rfl⟩)
                  (try go_wp2_with fail)
                  have hk8 : Keeps wX (wX.drewN (1 + n8)) := below_drewN (Below.refl _ _) _
                  refine hK.out _ _ ?hS713 ?rest713
                  case hS713 => exact keepsS hk8
                  clear hK K
                  (try simp only [Act.put, List.getElem_toArray, List.getElem_cons_succ, List.getElem_cons_zero, List.setIfInBounds_toArray, List.set_cons_zero, List.set_cons_succ])
                  refine wpAnyT_take (i := 12) (v := ?v714) rfl (by kernel_rfl) (by kernel_rfl) (by kernel_rfl) (by kernel_rfl) (by kernel_rfl) (fun _ _ _ h => h) (Or.inl ⟨by rfl, ?hy714⟩) (keepsS hk8) ?rest714
                  case hy714 => (intro w hSw; (try simp only [List.getElem_toArray, List.getElem_cons_succ, List.getElem_cons_zero]); (try dsimp only at hSw); go_simp; all_goals (with_reducible rfl))
                  (try simp only [Act.put, List.getElem_toArray, List.getElem_cons_succ, List.getElem_cons_zero, List.setIfInBounds_toArray, List.set_cons_zero, List.set_cons_succ])
                  refine wpAnyT_take (i := 13) (v := ?v715) rfl (by kernel_rfl) (by kernel_rfl) (by kernel_rfl) (by kernel_rfl) (by kernel_rfl) (fun _ _ _ h => h) (Or.inl ⟨by rfl, ?hy715⟩) (keepsS hk8) ?rest715
                  case hy715 => (intro w hSw; (try simp only [List.getElem_toArray, List.getElem_cons_succ, List.getElem_cons_zero]); (try dsimp only at hSw); go_simp; all_goals (with_reducible rfl))
                  (try simp only [Act.put, List.getElem_toArray, List.getElem_cons_succ, List.getElem_cons_zero, List.setIfInBounds_toArray, List.set_cons_zero, List.set_cons_succ])
                  obtain ⟨⟨x0, x1, x2, x3, x4, x5, x6⟩, y0, y1, y2, y3, y4, y5, y6⟩ := HBX.out.seven
                  refine wpAnyT_last (i := 14) rfl (by kernel_rfl) rfl (fun K hK => ?_)
                  (try simp only [List.getElem_toArray, List.getElem_cons_succ, List.getElem_cons_zero])
                  go_simp
                  refine hK.out _ _ ?_
                  clear hK K
                  (try simp only [Act.put, List.getElem_toArray, List.getElem_cons_succ, List.getElem_cons_zero, List.setIfInBounds_toArray, List.set_cons_zero, List.set_cons_succ])
                  refine wpAnyT_done (by kernel_rfl) ?_ _
                  have HOY := hid_ ((HOX.out.step (below_drewN (Below.refl _ _) (1 + n8))).set hgh 6 (.bool (z34 * 256 + z35 == sumVH zs len)))
                  have hBY := (HBX.out.below (below_drewN (Below.refl _ _) (1 + n8)) hgX).set_ 6 (.bool (z34 * 256 + z35 == sumVH zs len))
                  simp only [List.setIfInBounds_toArray, List.set_cons_succ, List.set_cons_zero] at hBY
                  clear x0 x1 x2 x3 x4 x5 x6 y0 y1 y2 y3 y4 y5 y6 c34 c35 hk8 hk0
                  generalize (wX.drewN (1 + n8)).setCell ⟨gh, 6, none⟩ (.bool (z34 * 256 + z35 == sumVH zs len)) = wY at *
                  obtain ⟨⟨x0, x1, x2, x3, x4, x5, x6⟩, y0, y1, y2, y3, y4, y5, y6⟩ := hBY.seven
                  obtain ⟨⟨p0, p1, p2, p3, p4, p5, p6⟩, q0, q1, q2, q3, q4, q5, q6⟩ := HOY.out.2.2.1.seven
                  have HBY := hid_ hBY
                  clear hBY
                  go_wp2_with fail
                  refine bodyPost_ret (results_head Tryz.results27 rfl (load_head HOY.out.2.2.1.fill)) rfl (.of ?_ ?_)
                  · rw [← HV.out, headV, h27, h28, h29, h34, h35, hkd]; simp only [if_true, if_false, HBK.out]; rfl
                  · exact fill_below HOY.out.1 (Nat.le_refl _)
                · obtain ⟨⟨x0, x1, x2, x3, x4, x5, x6⟩, y0, y1, y2, y3, y4, y5, y6⟩ := hB9.seven
                  have HB9 := hid_ hB9
                  clear hB9
                  go_wp2_with fail
                  have HOX := hid_ HO9
                  have hBX := HB9.out
                  clear HO9 HB9 x0 x1 x2 x3 x4 x5 x6 y0 y1 y2 y3 y4 y5 y6
                  generalize w9 = wX at *
                  have hgX := hBX.lt
                  have hb10 := HOX.out.1.size
                  have hbX : b < wX.heap.size := by omega
                  have c34 := (HOX.out.1.cell (p := ⟨b, off + 334, none⟩) hb).trans C34.out
                  have c35 := (HOX.out.1.cell (p := ⟨b, off + 335, none⟩) hb).trans C35.out
                  have HBX := hid_ hBX
                  clear hBX hb10
                  have hrowX : ∀ W, Keeps wX W → IsRow .u8 W (some ⟨b, off, none⟩) len zs := fun W hk => HROW.out.below (HOX.out.1.trans (Below.mono hk HOX.out.1.size))
                  have HRX := hid_ hrowX
                  clear hrowX
                  have hw34a : IntKind.u16.wrap z34 = z34 := by simp [IntKind.wrap, IntKind.signed, IntKind.bits]; omega
                  have hw35a : IntKind.u16.wrap z35 = z35 := by simp [IntKind.wrap, IntKind.signed, IntKind.bits]; omega
                  have hw34 : bits .or .u16 (IntKind.u16.wrap (z34 * 256)) z35 = z34 * 256 + z35 := whole_word z34 z35 k34 k34' k35 k35'
                  have hk0 : Keeps wX wX.drew := Below.drew (Below.refl _ _)
                  refine wp_region_tail (S := (fun W => (∀ b o, b < wX.heap.size → W.cell? ⟨b, o, none⟩ = wX.cell? ⟨b, o, none⟩) ∧ Keeps wX W)) (tail := (fun i => i == 14)) (by kernel_rfl) ?hS716 (fun hHeld => ?rest716)
                  case hS716 => (exact keepsS hk0)
                  refine wpAnyT_take (i := 0) (v := ?v717) rfl (by kernel_rfl) (by kernel_rfl) (by kernel_rfl) (by kernel_rfl) (by kernel_rfl) (fun _ _ _ h => h) (Or.inl ⟨by rfl, ?hy717⟩) (by assumption) ?rest717
                  case hy717 => (intro w hSw; (try simp only [List.getElem_toArray, List.getElem_cons_succ, List.getElem_cons_zero]); (try dsimp only at hSw); go_simp; all_goals (with_reducible rfl))
                  (try simp only [Act.put, List.getElem_toArray, List.getElem_cons_succ, List.getElem_cons_zero, List.setIfInBounds_toArray, List.set_cons_zero, List.set_cons_succ])
                  refine wpAnyT_take (i := 1) (v := ?v718) rfl (by kernel_rfl) (by kernel_rfl) (by kernel_rfl) (by kernel_rfl) (by kernel_rfl) (fun _ _ _ h => h) (Or.inl ⟨by rfl, ?hy718⟩) (by assumption) ?rest718
                  case hy718 => (intro w hSw; (try simp only [List.getElem_toArray, List.getElem_cons_succ, List.getElem_cons_zero]); (try dsimp only at hSw); go_simp; all_goals (with_reducible rfl))
                  (try simp only [Act.put, List.getElem_toArray, List.getElem_cons_succ, List.getElem_cons_zero, List.setIfInBounds_toArray, List.set_cons_zero, List.set_cons_succ])
                  refine wpAnyT_take (i := 2) (v := ?v719) rfl (by kernel_rfl) (by kernel_rfl) (by kernel_rfl) (by kernel_rfl) (by kernel_rfl) (fun _ _ _ h => h) (Or.inl ⟨by rfl, ?hy719⟩) (by assumption) ?rest719
                  case hy719 => (intro w hSw; (try simp only [List.getElem_toArray, List.getElem_cons_succ, List.getElem_cons_zero]); (try dsimp only at hSw); go_simp; all_goals (with_reducible rfl))
                  (try simp only [Act.put, List.getElem_toArray, List.getElem_cons_succ, List.getElem_cons_zero, List.setIfInBounds_toArray, List.set_cons_zero, List.set_cons_succ])
                  refine wpAnyT_take (i := 3) (v := ?v720) rfl (by kernel_rfl) (by kernel_rfl) (by kernel_rfl) (by kernel_rfl) (by kernel_rfl) (fun _ _ _ h => h) (Or.inl ⟨by rfl, ?hy720⟩) (by assumption) ?rest720
                  case hy720 => (intro w hSw; (try simp only [List.getElem_toArray, List.getElem_cons_succ, List.getElem_cons_zero]); (try dsimp only at hSw); go_simp; all_goals (with_reducible rfl))
                  (try simp only [Act.put, List.getElem_toArray, List.getElem_cons_succ, List.getElem_cons_zero, List.setIfInBounds_toArray, List.set_cons_zero, List.set_cons_succ])
                  refine wpAnyT_take (i := 4) (v := ?v721) rfl (by kernel_rfl) (by kernel_rfl) (by kernel_rfl) (by kernel_rfl) (by kernel_rfl) (fun _ _ _ h => h) (Or.inl ⟨by rfl, ?hy721⟩) (by assumption) ?rest721
                  case hy721 => (intro w hSw; (try simp only [List.getElem_toArray, List.getElem_cons_succ, List.getElem_cons_zero]); (try dsimp only at hSw); go_simp; all_goals (with_reducible rfl))
                  (try simp only [Act.put, List.getElem_toArray, List.getElem_cons_succ, List.getElem_cons_zero, List.setIfInBounds_toArray, List.set_cons_zero, List.set_cons_succ])
                  refine wpAnyT_take (i := 5) (v := ?v722) rfl (by kernel_rfl) (by kernel_rfl) (by kernel_rfl) (by kernel_rfl) (by kernel_rfl) (fun _ _ _ h => h) (Or.inl ⟨by rfl, ?hy722⟩) (by assumption) ?rest722
                  case hy722 => (intro w hSw; (try simp only [List.getElem_toArray, List.getElem_cons_succ, List.getElem_cons_zero]); (try dsimp only at hSw); go_simp; all_goals (with_reducible rfl))
                  (try simp only [Act.put, List.getElem_toArray, List.getElem_cons_succ, List.getElem_cons_zero, List.setIfInBounds_toArray, List.set_cons_zero, List.set_cons_succ])
                  refine wpAnyT_take (i := 6) (v := ?v723) rfl (by kernel_rfl) (by kernel_rfl) (by kernel_rfl) (by kernel_rfl) (by kernel_rfl) (fun _ _ _ h => h) (Or.inl ⟨by rfl, ?hy723⟩) (by assumption) ?rest723
                  case hy723 => (intro w hSw; (try simp only [List.getElem_toArray, List.getElem_cons_succ, List.getElem_cons_zero]); (try dsimp only at hSw); go_simp; all_goals (with_reducible rfl))
                  (try simp only [Act.put, List.getElem_toArray, List.getElem_cons_succ, List.getElem_cons_zero, List.setIfInBounds_toArray, List.set_cons_zero, List.set_cons_succ])
                  refine wpAnyT_take (i := 7) (v := ?v724) rfl (by kernel_rfl) (by kernel_rfl) (by kernel_rfl) (by kernel_rfl) (by kernel_rfl) (fun _ _ _ h => h) (Or.inl ⟨by rfl, ?hy724⟩) (by assumption) ?rest724
                  case hy724 => (intro w hSw; (try simp only [List.getElem_toArray, List.getElem_cons_succ, List.getElem_cons_zero]); (try dsimp only at hSw); go_simp; all_goals (with_reducible rfl))
                  (try simp only [Act.put, List.getElem_toArray, List.getElem_cons_succ, List.getElem_cons_zero, List.setIfInBounds_toArray, List.set_cons_zero, List.set_cons_succ])
                  refine wpAnyT_take (i := 8) (v := ?v725) rfl (by kernel_rfl) (by kernel_rfl) (by kernel_rfl) (by kernel_rfl) (by kernel_rfl) (fun _ _ _ h => h) (Or.inl ⟨by rfl, ?hy725⟩) (by assumption) ?rest725
                  case hy725 => (intro w hSw; (try simp only [List.getElem_toArray, List.getElem_cons_succ, List.getElem_cons_zero]); (try dsimp only at hSw); go_simp; all_goals (with_reducible rfl))
                  (try simp only [Act.put, List.getElem_toArray, List.getElem_cons_succ, List.getElem_cons_zero, List.setIfInBounds_toArray, List.set_cons_zero, List.set_cons_succ])
                  refine wpAnyT_take (i := 9) (v := ?v726) rfl (by kernel_rfl) (by kernel_rfl) (by kernel_rfl) (by kernel_rfl) (by kernel_rfl) (fun _ _ _ h => h) (Or.inl ⟨by rfl, ?hy726⟩) (by assumption) ?rest726
                  case hy726 => (intro w hSw; (try simp only [List.getElem_toArray, List.getElem_cons_succ, List.getElem_cons_zero]); (try dsimp only at hSw); go_simp; all_goals (with_reducible rfl))
                  (try simp only [Act.put, List.getElem_toArray, List.getElem_cons_succ, List.getElem_cons_zero, List.setIfInBounds_toArray, List.set_cons_zero, List.set_cons_succ])
                  refine wpAnyT_take (i := 10) (v := ?v727) rfl (by kernel_rfl) (by kernel_rfl) (by kernel_rfl) (by kernel_rfl) (by kernel_rfl) (fun _ _ _ h => h) (Or.inl ⟨by rfl, ?hy727⟩) (by assumption) ?rest727
                  case hy727 => (intro w hSw; (try simp only [List.getElem_toArray, List.getElem_cons_succ, List.getElem_cons_zero]); (try dsimp only at hSw); go_simp; all_goals (with_reducible rfl))
                  (try simp only [Act.put, List.getElem_toArray, List.getElem_cons_succ, List.getElem_cons_zero, List.setIfInBounds_toArray, List.set_cons_zero, List.set_cons_succ])
                  refine wpAnyT_one (i := 11) rfl (by kernel_rfl) (fun K hK => ?_)
                  (try simp only [List.getElem_toArray, List.getElem_cons_succ, List.getElem_cons_zero])
                  go_simp
                  (refine (sum_any _ len cap zs hl _ (HRX.out _ hk0)).mono ?_; rintro e w8 ⟨rfl, n8, rfl⟩)
                  (try go_wp2_with fail)
                  have hk8 : Keeps wX (wX.drewN (1 + n8)) := below_drewN (Below.refl _ _) _
                  refine hK.out _ _ ?hS728 ?rest728
                  case hS728 => exact keepsS hk8
                  clear hK K
                  (try simp only [Act.put, List.getElem_toArray, List.getElem_cons_succ, List.getElem_cons_zero, List.setIfInBounds_toArray, List.set_cons_zero, List.set_cons_succ])
                  refine wpAnyT_take (i := 12) (v := ?v729) rfl (by kernel_rfl) (by kernel_rfl) (by kernel_rfl) (by kernel_rfl) (by kernel_rfl) (fun _ _ _ h => h) (Or.inl ⟨by rfl, ?hy729⟩) (keepsS hk8) ?rest729
                  case hy729 => (intro w hSw; (try simp only [List.getElem_toArray, List.getElem_cons_succ, List.getElem_cons_zero]); (try dsimp only at hSw); go_simp; all_goals (with_reducible rfl))
                  (try simp only [Act.put, List.getElem_toArray, List.getElem_cons_succ, List.getElem_cons_zero, List.setIfInBounds_toArray, List.set_cons_zero, List.set_cons_succ])
                  refine wpAnyT_take (i := 13) (v := ?v730) rfl (by kernel_rfl) (by kernel_rfl) (by kernel_rfl) (by kernel_rfl) (by kernel_rfl) (fun _ _ _ h => h) (Or.inl ⟨by rfl, ?hy730⟩) (keepsS hk8) ?rest730
                  case hy730 => (intro w hSw; (try simp only [List.getElem_toArray, List.getElem_cons_succ, List.getElem_cons_zero]); (try dsimp only at hSw); go_simp; all_goals (with_reducible rfl))
                  (try simp only [Act.put, List.getElem_toArray, List.getElem_cons_succ, List.getElem_cons_zero, List.setIfInBounds_toArray, List.set_cons_zero, List.set_cons_succ])
                  obtain ⟨⟨x0, x1, x2, x3, x4, x5, x6⟩, y0, y1, y2, y3, y4, y5, y6⟩ := HBX.out.seven
                  refine wpAnyT_last (i := 14) rfl (by kernel_rfl) rfl (fun K hK => ?_)
                  (try simp only [List.getElem_toArray, List.getElem_cons_succ, List.getElem_cons_zero])
                  go_simp
                  refine hK.out _ _ ?_
                  clear hK K
                  (try simp only [Act.put, List.getElem_toArray, List.getElem_cons_succ, List.getElem_cons_zero, List.setIfInBounds_toArray, List.set_cons_zero, List.set_cons_succ])
                  refine wpAnyT_done (by kernel_rfl) ?_ _
                  have HOY := hid_ ((HOX.out.step (below_drewN (Below.refl _ _) (1 + n8))).set hgh 6 (.bool (z34 * 256 + z35 == sumVH zs len)))
                  have hBY := (HBX.out.below (below_drewN (Below.refl _ _) (1 + n8)) hgX).set_ 6 (.bool (z34 * 256 + z35 == sumVH zs len))
                  simp only [List.setIfInBounds_toArray, List.set_cons_succ, List.set_cons_zero] at hBY
                  clear x0 x1 x2 x3 x4 x5 x6 y0 y1 y2 y3 y4 y5 y6 c34 c35 hk8 hk0
                  generalize (wX.drewN (1 + n8)).setCell ⟨gh, 6, none⟩ (.bool (z34 * 256 + z35 == sumVH zs len)) = wY at *
                  obtain ⟨⟨x0, x1, x2, x3, x4, x5, x6⟩, y0, y1, y2, y3, y4, y5, y6⟩ := hBY.seven
                  obtain ⟨⟨p0, p1, p2, p3, p4, p5, p6⟩, q0, q1, q2, q3, q4, q5, q6⟩ := HOY.out.2.2.1.seven
                  have HBY := hid_ hBY
                  clear hBY
                  go_wp2_with fail
                  refine bodyPost_ret (results_head Tryz.results27 rfl (load_head HOY.out.2.2.1.fill)) rfl (.of ?_ ?_)
                  · rw [← HV.out, headV, h27, h28, h29, h34, h35, if_neg hkd]; simp only [if_true, if_false, HBK.out]; rfl
                  · exact fill_below HOY.out.1 (Nat.le_refl _)
            · rw [if_pos hsz] at hv
              have hq : ((len : Int) != wrap64 (32768 * 2 ^ z28.toNat)) = true := by rw [hwr]; simp; omega
              have HV := hid_ hv
              clear hv hsz hwr
              go_quiet ((go_at_call 49; exact check_q _ len cap zs hcap hl w6 _ HROW6.out hlen))
              go_wp2_with fail
              have HO7 := HO6.out.step (below_drewN (Below.refl _ _) nq)
              refine bodyPost_ret (v := noHead 6) (results_head Tryz.results27 rfl (load_head HO7.2.2.1.fill)) rfl (.of ?_ ?_)
              · rw [← HV.out]
              · exact fill_below HO7.1 (Nat.le_refl _)
      · have hok0 : okI z27 = false := by simpa using hok
        rw [if_pos (by rw [h27]; exact hok0)] at hv
        have HV := hid_ hv
        clear hv hok
        go_quiet ((go_at_call 49; exact check_q _ len cap zs hcap hl w6 _ HROW6.out hlen))
        go_wp2_with fail
        have HO7 := HO6.out.step (below_drewN (Below.refl _ _) nq)
        refine bodyPost_ret (v := noHead 5) (results_head Tryz.results27 rfl (load_head HO7.2.2.1.fill)) rfl (.of ?_ ?_)
        · rw [← HV.out]
        · exact fill_below HO7.1 (Nat.le_refl _)
    · rw [parseV, if_neg (by omega), if_pos (by rw [h33]; exact hne)] at hv
      have HV := hid_ hv
      clear hv
      go_quiet ((go_at_call 49; exact check_q _ len cap zs hcap hl w6 _ HROW6.out hlen))
      go_wp2_with fail
      have HO7 := HO6.out.step (below_drewN (Below.refl _ _) nq)
      refine bodyPost_ret (v := noHead 4) (results_head Tryz.results27 rfl (load_head HO7.2.2.1.fill)) rfl (.of ?_ ?_)
      · rw [← HV.out]
      · exact fill_below HO7.1 (Nat.le_refl _)

set_option maxRecDepth 100000 in
set_option maxHeartbeats 2000000 in
theorem parse_short (a : Option Addr) (len cap : Nat) (zs : List Int) (hlen : len < 336) (w : World) :
    Calls Tryz.prog 27 #[.slice a len cap] w (Ret (noHead 2) w) := by
  have q336 : decide ((len : Int) < 336) = true := by simp; omega
  go_enter Tryz.func27, Tryz.ntmps27
  go_wp2_with fail
  have hA : Blk ((w.alloc (.cells #[.string ⟨#[]⟩, .int .i64 0, .bool false, .bool false, .int .i64 0, .int .i64 0, .bool false] 80)).alloc (.cells #[.int .i64 0, .int .i64 2048, .int .i64 8192, .int .i64 32768, .int .i64 131072, .int .i64 65536] 117)) w.heap.size 80 #[.string ⟨#[]⟩, .int .i64 0, .bool false, .bool false, .int .i64 0, .int .i64 0, .bool false] := (Blk.new w 80 _).alloc _
  have hb : Below w.heap.size w ((w.alloc (.cells #[.string ⟨#[]⟩, .int .i64 0, .bool false, .bool false, .int .i64 0, .int .i64 0, .bool false] 80)).alloc (.cells #[.int .i64 0, .int .i64 2048, .int .i64 8192, .int .i64 32768, .int .i64 131072, .int .i64 65536] 117)) := Below.alloc (Below.alloc (Below.refl _ _) (Nat.le_refl _) _) (by simp) _
  exact bodyPost_ret (v := noHead 2) (results_head Tryz.results27 rfl (load_head hA)) rfl (.of rfl hb)
/-- Parse's contract: of any bytes. -/
theorem parse_any (a : Option Addr) (len cap : Nat) (zs : List Int) (hl : len ≤ 9000000) (hcap : len ≤ cap) (w : World) (h : IsRow .u8 w a len zs) :
    Calls Tryz.prog 27 #[.slice a len cap] w (Ret (parseV zs len) w) := by
  by_cases hlen : len < 336
  · rw [parseV, if_pos hlen]
    exact parse_short a len cap zs hlen w
  · obtain ⟨b, off, rfl, hb, hc⟩ := h.at_ (by omega)
    exact parse_long b off len cap zs (by omega) hl hcap w h _ rfl
end Go.Proofs.YtglklbcohbeacaaGreat
