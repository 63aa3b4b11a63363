/- One-time signatures as plain functions: what is hashed, the chains, the digits. No condition. -/
import Derived.Test.YtjdbfedkadoklaaSha
import Derived.Test.YtjdbfedkadoklaaHalf
namespace Go.Proofs.Ytjdbfedkadoklaa
set_option linter.unusedVariables false
set_option linter.unusedSimpArgs false

/-- What precedes all that is hashed: a tag and a leaf below 65536. -/
def headB (tag : UInt8) (leaf : Nat) : List UInt8 := [tag, 0, 0, UInt8.ofNat (leaf / 256), UInt8.ofNat leaf]
@[simp] theorem headB_length (tag : UInt8) (leaf : Nat) : (headB tag leaf).length = 5 := rfl
def secB (seed : List UInt8) (leaf chain : Nat) : List UInt8 := halfB (headB 2 leaf ++ [UInt8.ofNat chain] ++ seed)
def stepB (leaf chain step : Nat) (v : List UInt8) : List UInt8 := halfB (headB 3 leaf ++ [UInt8.ofNat chain, UInt8.ofNat step] ++ v)
/-- n steps from step a on. -/
def advB (leaf chain a : Nat) : Nat → List UInt8 → List UInt8
  | 0, v => v
  | n + 1, v => stepB leaf chain (a + n) (advB leaf chain a n v)
def compB (leaf : Nat) (ends : List UInt8) : List UInt8 := halfB (headB 4 leaf ++ ends)
theorem secB_length (seed : List UInt8) (leaf chain : Nat) : (secB seed leaf chain).length = 16 := halfB_length _
theorem stepB_length (leaf chain step : Nat) (v : List UInt8) : (stepB leaf chain step v).length = 16 := halfB_length _
theorem compB_length (leaf : Nat) (ends : List UInt8) : (compB leaf ends).length = 16 := halfB_length _
theorem advB_length (leaf chain a n : Nat) (v : List UInt8) (h : v.length = 16) : (advB leaf chain a n v).length = 16 := by
  cases n with
  | zero => exact h
  | succ n => exact stepB_length _ _ _ _
theorem advB_add (leaf chain a m n : Nat) (v : List UInt8) : advB leaf chain (a + m) n (advB leaf chain a m v) = advB leaf chain a (m + n) v := by
  induction n with
  | zero => rfl
  | succ n ih => rw [← Nat.add_assoc]; simp only [advB]; rw [ih, Nat.add_assoc]

/-- The digits of a digest: the first 32 of its halves of bytes, then those of their checksum. -/
def digN (d : List UInt8) (c : Nat) : Nat := if c % 2 = 0 then (d.getD (c / 2) 0).toNat / 16 else (d.getD (c / 2) 0).toNat % 16
def sumN (d : List UInt8) : Nat → Nat
  | 0 => 0
  | c + 1 => sumN d c + (15 - digN d c)
def splN (d : List UInt8) (c : Nat) : Nat := if c < 32 then digN d c else if c = 32 then sumN d 32 / 256 else if c = 33 then sumN d 32 / 16 % 16 else sumN d 32 % 16
theorem digN_lt (d : List UInt8) (c : Nat) : digN d c < 16 := by
  unfold digN
  have := (d.getD (c / 2) 0).toNat_lt
  split <;> omega
theorem sumN_le (d : List UInt8) (c : Nat) : sumN d c ≤ 15 * c := by
  induction c with
  | zero => exact Nat.le_refl _
  | succ c ih => simp only [sumN]; omega
theorem splN_lt (d : List UInt8) (c : Nat) : splN d c < 16 := by
  unfold splN
  have := digN_lt d c
  have := sumN_le d 32
  split
  · omega
  · split
    · omega
    · split <;> omega
def splL (d : List UInt8) : List Nat := (List.range 35).map (splN d)
@[simp] theorem splL_length (d : List UInt8) : (splL d).length = 35 := by simp [splL]
def lowN (a b : List UInt8) : Option Nat := (List.range 35).find? (fun c => decide (splN b c < splN a c))
end Go.Proofs.Ytjdbfedkadoklaa
