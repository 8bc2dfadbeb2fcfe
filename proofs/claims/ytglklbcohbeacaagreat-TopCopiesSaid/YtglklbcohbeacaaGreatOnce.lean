/- Contracts of sync.Once: a table is filled once. -/
import Derived.Test.YtglklbcohbeacaaGreatFill
import Derived.Defers
import Derived.Laws.Pointers
import Derived.Laws.LoneSync
import Derived.RegionCalls
namespace Go.Proofs.YtglklbcohbeacaaGreat
open Go.RowKit
set_option linter.unusedSimpArgs false
set_option linter.unusedVariables false

theorem lk_disable (w : World) : (callFunc 108 #[]).run Tryz.prog w = .ok (.value (.tuple #[])) w := run_call_mark0 Tryz.func108 (by kernel_rfl) (by kernel_rfl) (by kernel_rfl) .disable (by kernel_rfl) w
theorem lk_enable (w : World) : (callFunc 110 #[]).run Tryz.prog w = .ok (.value (.tuple #[])) w := run_call_mark0 Tryz.func110 (by kernel_rfl) (by kernel_rfl) (by kernel_rfl) .enable (by kernel_rfl) w
theorem lk_acquire (a : Addr) (w : World) : (callFunc 111 #[.pointer (some a)]).run Tryz.prog w = .ok (.value (.tuple #[])) w := run_call_marked Tryz.func111 (by kernel_rfl) (by kernel_rfl) (by kernel_rfl) .acquire (by kernel_rfl) a w
theorem lk_merge (a : Addr) (w : World) : (callFunc 113 #[.pointer (some a)]).run Tryz.prog w = .ok (.value (.tuple #[])) w := run_call_marked Tryz.func113 (by kernel_rfl) (by kernel_rfl) (by kernel_rfl) .releaseMerge (by kernel_rfl) a w
set_option maxRecDepth 100000 in
theorem store_deferred (a : Addr) (x : Value) (u : FrameMode) (w : World) (hc : w.cell? a = some x) (hz : w.frozen? a = false) :
    CallsD Tryz.prog 101 #[.pointer (some a), .bool true] u w fun e u' w' => u' = u ∧ (e = .returned (.tuple #[]) ∧ w' = w.drew.setCell a (.int .u32 1)) := by
  have hc' : w.drew.cell? a = some x := by go_simp
  have hz' : w.drew.frozen? a = false := by go_simp
  have hst := run_call_store (P := Tryz.prog) Tryz.func106 (by kernel_rfl) (by kernel_rfl) (by kernel_rfl) (by kernel_rfl) (k := .u32) (y := 1) hc' hz'
  go_enter_d Tryz.func101, Tryz.ntmps101
  go_wp2
  go_region_calls
  all_goals (go_end0; exact ⟨rfl, rfl⟩)
set_option maxRecDepth 100000 in
theorem unlock_deferred (a : Addr) (u : FrameMode) (w : World) (hc : w.cell? a = some (.int .i32 1)) (hz : w.frozen? a = false) :
    CallsD Tryz.prog 100 #[.pointer (some a)] u w fun e u' w' => u' = u ∧ (e = .returned (.tuple #[]) ∧ w' = w.setCell a (.int .i32 0)) := by
  have hd := lk_disable
  have he := lk_enable
  have hr := lk_merge
  have hadd := run_call_add (P := Tryz.prog) Tryz.func114 (by kernel_rfl) (by kernel_rfl) (by kernel_rfl) .i32 (by kernel_rfl) (y := -1) (s := 0) hc hz (by simp [go_sem]; rfl)
  have hcv := run_convert_to_unsafe (P := Tryz.prog) (src := 208) (dst := 180) Tryz.underlying208 Tryz.underlying180 (by kernel_rfl) hc
  go_enter_d Tryz.func100, Tryz.ntmps100
  go_wp2
  go_end0
  go_wp2
  go_end0
  exact ⟨rfl, rfl⟩
set_option maxRecDepth 100000 in
theorem lock_free (a : Addr) (w : World) (hc : w.cell? a = some (.int .i32 0)) (hz : w.frozen? a = false) :
    Calls Tryz.prog 99 #[.pointer (some a)] w fun e w' => e = .returned (.tuple #[]) ∧ w' = w.setCell a (.int .i32 1) := by
  have hd := lk_disable
  have he := lk_enable
  have ha := lk_acquire
  have hcas := run_call_cas_hit (P := Tryz.prog) Tryz.func109 (by kernel_rfl) (by kernel_rfl) (by kernel_rfl) .i32 (by kernel_rfl) (y := 1) hc hz
  have hc' : (w.setCell a (.int .i32 1)).cell? a = some (.int .i32 1) := World.cell?_setCell_same w a _ hc
  have hcv := run_convert_to_unsafe (P := Tryz.prog) (src := 208) (dst := 180) Tryz.underlying208 Tryz.underlying180 (by kernel_rfl) hc'
  go_enter Tryz.func99, Tryz.ntmps99
  go_wp2
  first | go_end0 | (simp only [Exit.inBlock, Exit.then]; refine bodyPost_ret (results_none rfl _ _ _) rfl ?_) | refine bodyPost_ret (results_none rfl _ _ _) rfl ?_
  go_wp2
  go_end0
  exact ⟨rfl, rfl⟩
/-! ### The cells of a table -/
section
variable {w w' : World} {g : Nat} {d s : Int} {P B : List OpV}
theorem TabIs.c0 (h : TabIs w g d s P B) : w.cell? ⟨g, 0, none⟩ = some (.int .u32 d) := (h.1.cell 0).trans (by rw [List.getElem?_toArray]; rfl)
theorem TabIs.c1 (h : TabIs w g d s P B) : w.cell? ⟨g, 1, none⟩ = some (.int .i32 s) := (h.1.cell 1).trans (by rw [List.getElem?_toArray]; rfl)
theorem TabIs.set0 (h : TabIs w g d s P B) (d' : Int) : TabIs (w.setCell ⟨g, 0, none⟩ (.int .u32 d')) g d' s P B := ⟨by have := h.1.set_ 0 (.int .u32 d'); simpa [tbl] using this, h.2⟩
theorem TabIs.set1 (h : TabIs w g d s P B) (s' : Int) : TabIs (w.setCell ⟨g, 1, none⟩ (.int .i32 s')) g d s' P B := ⟨by have := h.1.set_ 1 (.int .i32 s'); simpa [tbl] using this, h.2⟩
end
theorem Step.setOwn {X : Nat → Prop} {w w' : World} (h : Step X w w') {p : Addr} (hp : X p.block) (u : Value) : Step X w (w'.setCell p u) := by
  refine ⟨h.os, h.tape, h.output, ?_, fun k hk hX => ?_⟩
  · have := h.size; simpa [World.setCell] using this
  · have hne : k ≠ p.block := fun e => hX (e ▸ hp)
    exact (Below.heap_setCell w' p u k hne).trans (h.block k hk hX)
/-- What filling does. -/
def Fills : Prop := ∀ (g : Nat) (d s : Int) (w : World), TabIs w g d s (List.replicate 256 zo) (List.replicate 256 zo) →
    Calls Tryz.prog 71 #[.pointer (some ⟨g, 0, none⟩)] w (fun e w' => e = .returned (.tuple #[]) ∧ TabIs w' g d s plainL behindL ∧ Step (· = g) w w')
set_option maxRecDepth 100000 in
set_option maxHeartbeats 1600000 in
theorem slow_any (hfill : Fills) (g : Nat) (w : World) (h : TabIs w g 0 0 (List.replicate 256 zo) (List.replicate 256 zo)) :
    Calls Tryz.prog 91 #[.pointer (some ⟨g, 0, none⟩), .func (.func 71) #[.pointer (some ⟨g, 0, none⟩)] #[]] w (fun e w' => e = .returned (.tuple #[]) ∧ TabIs w' g 1 0 plainL behindL ∧ Step (· = g) w w') := by
  have hnot : ∀ (x : Bool) (w : World), (Op.unary .not (.bool x)).run Tryz.prog w = .ok (.bool (!x)) w := fun _ _ => rfl
  have H := hid_ h
  have h1 := h.set1 1
  have c1 := h.c1
  have f1 := h.1.frozen 1
  have hl := run_call_load (P := Tryz.prog) Tryz.func98 (by kernel_rfl) (by kernel_rfl) (by kernel_rfl) .u32 (by kernel_rfl) h1.c0
  have H1 := hid_ h1
  have K1 := hid_ ((Step.refl (· = g) w).setOwn (p := ⟨g, 1, none⟩) rfl (.int .i32 1))
  clear h h1
  go_enter_defers Tryz.func91, Tryz.ntmps91
  go_wp2_with (go_at_call 99; refine (lock_free ⟨g, 1, none⟩ _ c1 f1).mono ?_; rintro e w' ⟨rfl, rfl⟩; clear c1 f1; generalize w.setCell ⟨g, 1, none⟩ (.int .i32 1) = w1 at *)
  go_wp2_with (first | (go_at_call 90; go_in) | (go_at_call 71; refine (hfill g 0 1 _ H1.out).mono ?_; rintro e w2 ⟨rfl, h2, s2⟩; have H2 := hid_ h2; have K2 := hid_ (K1.out.trans s2); clear h2 s2 H1 K1))
  refine leaves_cons (f := 101) (args := #[.pointer (some ⟨g, 0, none⟩), .bool true]) (by simp) (by simp [go_sem]) ?_
  refine (store_deferred ⟨g, 0, none⟩ (.int .u32 0) .returning _ H2.out.c0 (H2.out.1.frozen 0)).mono ?_
  rintro e u' w'' ⟨rfl, rfl, rfl⟩
  have H3 : TabIs (w2.drew.setCell ⟨g, 0, none⟩ (.int .u32 1)) g 1 1 plainL behindL := TabIs.set0 (w := w2.drew) ⟨H2.out.1.drew, H2.out.2⟩ 1
  have K3 : Step (· = g) w (w2.drew.setCell ⟨g, 0, none⟩ (.int .u32 1)) := K2.out.drew.setOwn rfl _
  refine leaves_cons (f := 100) (args := #[.pointer (some ⟨g, 1, none⟩)]) (by simp [settle]) (by simp [go_sem]) ?_
  refine (unlock_deferred ⟨g, 1, none⟩ _ _ H3.c1 (H3.1.frozen 1)).mono ?_
  rintro e u' w'' ⟨rfl, rfl, rfl⟩
  have H4 := H3.set1 0
  have K4 := K3.setOwn (p := ⟨g, 1, none⟩) rfl (.int .i32 0)
  simp [Leaves, settle, results, Tryz.results91]
  exact ⟨H4, K4⟩
set_option maxRecDepth 100000 in
set_option maxHeartbeats 1600000 in
theorem do_first (hfill : Fills) (g : Nat) (w : World) (h : TabIs w g 0 0 (List.replicate 256 zo) (List.replicate 256 zo)) :
    Calls Tryz.prog 70 #[.pointer (some ⟨g, 0, none⟩), .func (.func 71) #[.pointer (some ⟨g, 0, none⟩)] #[]] w (fun e w' => e = .returned (.tuple #[]) ∧ TabIs w' g 1 0 plainL behindL ∧ Step (· = g) w w') := by
  have hnot : ∀ (x : Bool) (w : World), (Op.unary .not (.bool x)).run Tryz.prog w = .ok (.bool (!x)) w := fun _ _ => rfl
  have hl := run_call_load (P := Tryz.prog) Tryz.func98 (by kernel_rfl) (by kernel_rfl) (by kernel_rfl) .u32 (by kernel_rfl) h.c0
  have H := hid_ h
  clear h
  go_enter Tryz.func70, Tryz.ntmps70
  go_wp2_with (first | (go_at_call 91; refine (slow_any hfill g _ H.out).mono ?_; rintro e w' ⟨rfl, h2, s2⟩; have H2 := hid_ h2; have K2 := hid_ s2; clear h2 s2) | (go_at_call 90; go_in))
  go_end0
  exact ⟨rfl, H2.out, K2.out⟩
theorem do_done (g : Nat) (f : Value) (w : World) (P B : List OpV) (h : TabIs w g 1 0 P B) :
    Calls Tryz.prog 70 #[.pointer (some ⟨g, 0, none⟩), f] w (fun e w' => e = .returned (.tuple #[]) ∧ w' = w) := by
  have hnot : ∀ (x : Bool) (w : World), (Op.unary .not (.bool x)).run Tryz.prog w = .ok (.bool (!x)) w := fun _ _ => rfl
  have hl := run_call_load (P := Tryz.prog) Tryz.func98 (by kernel_rfl) (by kernel_rfl) (by kernel_rfl) .u32 (by kernel_rfl) h.c0
  have H := hid_ h
  clear h
  go_enter Tryz.func70, Tryz.ntmps70
  go_wp2
  go_end0
  exact ⟨rfl, rfl⟩
end Go.Proofs.YtglklbcohbeacaaGreat
