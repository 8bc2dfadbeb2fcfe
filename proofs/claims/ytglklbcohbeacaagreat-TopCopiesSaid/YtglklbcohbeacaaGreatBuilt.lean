/- What a machine, a table, a unit are when they are made. -/
import Derived.Test.YtglklbcohbeacaaGreatTab
import Derived.Laws.Tables
namespace Go.Proofs.YtglklbcohbeacaaGreat
open Go.RowKit
set_option linter.unusedSimpArgs false
set_option linter.unusedVariables false
set_option maxRecDepth 1000000 in
theorem unit_cell : ((Tryz.prog.built 110 []).bind (·[8352]?)) = some (.int .u8 0) := by kernel_rfl
theorem unit_is : ∃ Z : Array Value, Tryz.prog.built 110 [] = some Z ∧ Z[8352]? = some (.int .u8 0) := Option.bind_eq_some_iff.1 unit_cell
set_option maxRecDepth 1000000 in
theorem table_is : Tryz.prog.built 139 [] = some (tlist false).toArray := by kernel_rfl
def R0 : Rg := ⟨1, 176, 0, 19, 0, 216, 1, 77, 65534, 256⟩
def Mc0 : Mc := ⟨R0, 0, 0, List.replicate 8192 0, 0, false⟩
def raw (S : St) : List Value := [.int .u8 0, .int .u8 0, .int .u8 0, .int .u8 0, .int .u8 0, .int .u8 0, .int .u8 0, .int .u8 0, .int .u16 0, .int .u16 0, .bool false, .bool false, .bool false, .bool false,
  .int .i64 0, .int .i64 0, .int .i64 0, .bool false, .bool false, .int .i64 0, .int .i64 0, .int .u8 0] ++ (mlist S Mc0 0 (.slice none 0 0)).drop 22
set_option maxRecDepth 1000000 in
theorem mach_is (m u rb tb g : Nat) (zs : List Int) (title : ByteArray) (batt whole : Bool) : Tryz.prog.built 86 [(1, .slice (some ⟨rb, 0, none⟩) 32768 32768), (2, .slice none 0 0), (3, .agg #[.string title, .int .i64 0, .bool false, .bool batt, .int .i64 2, .int .i64 0, .bool whole]),
    (4, .pointer (some ⟨tb, 0, none⟩)), (5, .pointer (some ⟨u, 0, none⟩)), (6, .slice (some ⟨g, 0, none⟩) 0 0)] = some (raw ⟨m, u, rb, tb, zs, title, batt, whole, .slice (some ⟨g, 0, none⟩) 0 0⟩).toArray := by kernel_rfl
end Go.Proofs.YtglklbcohbeacaaGreat
