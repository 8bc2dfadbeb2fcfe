/- The reference's parse of any bytes. -/
import Derived.Test.YtafkgmlamggbdaaRefP
namespace Go.Proofs.Ytafkgmlamggbdaa
open Go.RowKit
set_option linter.unusedSimpArgs false
set_option linter.unusedVariables false
set_option maxRecDepth 100000 in
set_option maxHeartbeats 2000000 in
theorem rparse_short (a : Option Addr) (len cap : Nat) (zs : List Int) (hlen : len < 336) (w : World) :
    Calls Try.prog 12 #[.slice a len cap] w (Ret (noHead 2) w) := by
  have q336 : decide ((len : Int) < 336) = true := by simp; omega
  go_enter Try.func12, Try.ntmps12
  go_wp2_with fail
  have hA : Blk (w.alloc (.cells #[.string ⟨#[]⟩, .int .i64 0, .bool false, .bool false, .int .i64 0, .int .i64 0, .bool false] 31)) w.heap.size 31 #[.string ⟨#[]⟩, .int .i64 0, .bool false, .bool false, .int .i64 0, .int .i64 0, .bool false] := Blk.new w 31 _
  have hb : Below w.heap.size w (w.alloc (.cells #[.string ⟨#[]⟩, .int .i64 0, .bool false, .bool false, .int .i64 0, .int .i64 0, .bool false] 31)) := Below.alloc (Below.refl _ _) (Nat.le_refl _) _
  exact bodyPost_ret (v := noHead 2) (results_rhead Try.results12 rfl (load_rhead hA)) rfl (.of rfl hb)
/-- The reference's parse: its contract. -/
theorem rparse_any (a : Option Addr) (len cap : Nat) (zs : List Int) (hl : len ≤ 9000000) (hcap : len ≤ cap) (w : World) (h : IsRow .u8 w a len zs) :
    Calls Try.prog 12 #[.slice a len cap] w (Ret (parseV zs len) w) := by
  by_cases hlen : len < 336
  · rw [parseV, if_pos hlen]
    exact rparse_short a len cap zs hlen w
  · obtain ⟨b, off, rfl, hb, hc⟩ := h.at_ (by omega)
    exact rparse_long b off len cap zs (by omega) hl hcap w h _ rfl
end Go.Proofs.Ytafkgmlamggbdaa
