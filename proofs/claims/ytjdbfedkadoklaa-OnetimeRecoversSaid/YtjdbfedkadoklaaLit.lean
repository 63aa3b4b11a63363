/- The literal array of two values. No condition. -/
import Derived.Test.YtjdbfedkadoklaaVer
namespace Go.Proofs.Ytjdbfedkadoklaa
set_option linter.unusedVariables false
set_option linter.unusedSimpArgs false
set_option maxRecDepth 100000
open Go.RowKit
def litB : List UInt8 := 1 :: List.replicate 15 0 ++ (2 :: List.replicate 15 0 ++ List.replicate 528 0)
def v1B : List UInt8 := 1 :: List.replicate 15 0
def v2B : List UInt8 := 2 :: List.replicate 15 0
theorem litB_length : litB.length = 560 := by simp [litB]
theorem bd_v1 (w : World) : (bd 22 #[(0, .int .u8 1)]).run Try.prog w = .ok (.agg (bs v1B).toArray) w := by kernel_rfl
theorem bd_v2 (w : World) : (bd 22 #[(0, .int .u8 2)]).run Try.prog w = .ok (.agg (bs v2B).toArray) w := by kernel_rfl
theorem bd_lit (w : World) : (bd 51 #[(0, .agg (bs v1B).toArray), (1, .agg (bs v2B).toArray)]).run Try.prog w = .ok (.agg (bs litB).toArray) w := by kernel_rfl
theorem bd_r1 (w : World) : (bd 36 #[(0, .int .u8 1)]).run Try.prog w = .ok (.agg (bs v1B).toArray) w := by kernel_rfl
theorem bd_r2 (w : World) : (bd 36 #[(0, .int .u8 2)]).run Try.prog w = .ok (.agg (bs v2B).toArray) w := by kernel_rfl
theorem bd_rlit (w : World) : (bd 56 #[(0, .agg (bs v1B).toArray), (1, .agg (bs v2B).toArray)]).run Try.prog w = .ok (.agg (bs litB).toArray) w := by kernel_rfl
@[go_sem ↓] theorem ex_bd_r07 (ρ : Operand → Value) (dst : Option Tmp) (ps : Array (Nat × Operand)) (ty : TypeId) (pos : String) (aft : Array Edge) (gd : Option (Nat × Bool)) :
    execOp ρ ⟨dst, .build 36 ps, ty, pos, aft, gd⟩ = (do pure (.value (← bd 36 (ps.map fun (i, x) => (i, ρ x))))) := rfl
end Go.Proofs.Ytjdbfedkadoklaa
