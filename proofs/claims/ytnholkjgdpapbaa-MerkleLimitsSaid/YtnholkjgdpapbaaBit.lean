/- Shifts and bits of int: as the walk prints them, and as numbers of Lean's. No condition beyond the ranges that are named. -/
import Derived.Test.YtnholkjgdpapbaaWords
import Derived.Test.YtnholkjgdpapbaaMk
namespace Go.Proofs.Ytnholkjgdpapbaa
set_option linter.unusedVariables false
set_option linter.unusedSimpArgs false
open Go.RowKit

theorem wrap_nat {x : Nat} (h : x < 9223372036854775808) : IntKind.i64.wrap (x : Int) = (x : Int) := by
  simp only [IntKind.wrap, IntKind.bits, IntKind.signed]
  simp
  omega
theorem bits_and1 {n : Nat} (h : n < 4611686018427387904) : bits .and .i64 (n : Int) 1 = ((n % 2 : Nat) : Int) := by
  have h1 : (BitVec.ofInt 64 (n : Int)).toNat = n := by simp [BitVec.toNat_ofInt]; omega
  have h2 : (BitVec.ofInt 64 1).toNat = 1 := by decide
  have e : bits .and .i64 (n : Int) 1 = IntKind.i64.wrap ((n % 2 : Nat) : Int) := by
    show IntKind.i64.wrap (((BitVec.ofInt 64 (n : Int) &&& BitVec.ofInt 64 1).toNat : Nat) : Int) = _
    rw [BitVec.toNat_and, h1, h2, Nat.and_one_is_mod]
  rw [e]
  exact wrap_nat (by omega)
theorem bits_xor1 {n : Nat} (h : n < 4611686018427387904) : bits .xor .i64 (n : Int) 1 = ((Mk.sib n : Nat) : Int) := by
  have h1 : (BitVec.ofInt 64 (n : Int)).toNat = n := by simp [BitVec.toNat_ofInt]; omega
  have h2 : (BitVec.ofInt 64 1).toNat = 1 := by decide
  have e : bits .xor .i64 (n : Int) 1 = IntKind.i64.wrap ((Mk.sib n : Nat) : Int) := by
    show IntKind.i64.wrap (((BitVec.ofInt 64 (n : Int) ^^^ BitVec.ofInt 64 1).toNat : Nat) : Int) = _
    rw [BitVec.toNat_xor, h1, h2, Mk.sib_xor]
  rw [e]
  exact wrap_nat (by unfold Mk.sib; split <;> omega)
theorem shr_nat (i k : Nat) (hk : k ≤ 64) : (i : Int) / 2 ^ min k 64 = ((i >>> k : Nat) : Int) := by
  rw [Nat.min_eq_left hk, Nat.shiftRight_eq_div_pow]
  push_cast
  rfl
theorem shr_nat2 (i k : Nat) : (i : Int) / 2 ^ k = ((i >>> k : Nat) : Int) := by
  rw [Nat.shiftRight_eq_div_pow]
  push_cast
  rfl
theorem shl_nat (k : Nat) (hk : k ≤ 62) : IntKind.i64.wrap (2 ^ min k 64) = ((2 ^ k : Nat) : Int) := by
  rw [Nat.min_eq_left (by omega)]
  have h1 : (2 : Nat) ^ k ≤ 2 ^ 62 := Nat.pow_le_pow_right (by omega) hk
  have h2 : ((2 : Int) ^ k) = ((2 ^ k : Nat) : Int) := by push_cast; rfl
  rw [h2]
  simp only [IntKind.wrap, IntKind.bits, IntKind.signed]
  generalize (2 : Nat) ^ k = x at *
  simp
  omega
theorem shl_nat64 (k : Nat) (hk : k ≤ 62) : wrap64 (2 ^ k) = ((2 ^ k : Nat) : Int) := by
  have h1 : (2 : Nat) ^ k ≤ 2 ^ 62 := Nat.pow_le_pow_right (by omega) hk
  have h2 : ((2 : Int) ^ k) = ((2 ^ k : Nat) : Int) := by push_cast; rfl
  rw [h2]
  unfold wrap64
  generalize (2 : Nat) ^ k = x at *
  omega
theorem tmod2 (i : Nat) : (i : Int).tmod 2 = ((i % 2 : Nat) : Int) := by
  rw [Int.tmod_eq_emod_of_nonneg (by omega)]; omega
theorem div2 (i : Nat) : (i : Int) / 2 = ((i / 2 : Nat) : Int) := by omega
end Go.Proofs.Ytnholkjgdpapbaa
