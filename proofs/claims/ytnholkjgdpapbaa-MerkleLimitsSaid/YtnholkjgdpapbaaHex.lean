/- strings.Builder's WriteByte and String; ascii.Hex; bulletinref01.Hex. No condition beyond the lengths that are named. -/
import Derived.Test.YtnholkjgdpapbaaBytes
import Derived.Test.YtnholkjgdpapbaaShaB
import Derived.Lib.Builder
import Derived.Lib.UnsafeStr
import Derived.Laws.Externs
import Derived.Laws.BytesString
namespace Go.Proofs.Ytnholkjgdpapbaa
set_option linter.unusedVariables false
set_option linter.unusedSimpArgs false
open Go.RowKit
attribute [local go_sem ↓] Go.wp_at_zero Go.wp_at_succ

abbrev FrB (b : Nat) (w w' : World) : Prop := Fr (fun k => b ≤ k) w w'
theorem blk_shape {w : World} {b : Nat} {t : TypeId} {cs : Array Value} (h : Blk w b t cs) : w.shape? b = some (t, cs.size) := by
  unfold Blk at h; simp [World.shape?, h]

/-! hexadecimal -/
def hexDig (x : UInt8) : UInt8 := if x < 10 then 48 + x else 87 + x
def hexB (c : UInt8) : List UInt8 := [hexDig (c / 16), hexDig (c % 16)]
def hexL (l : List UInt8) : List UInt8 := l.flatMap hexB
@[simp] theorem hexL_length (l : List UInt8) : (hexL l).length = 2 * l.length := by
  induction l with
  | nil => rfl
  | cons c l ih => simp only [hexL, List.flatMap_cons, List.length_append, List.length_cons] at ih ⊢; rw [ih]; simp [hexB]; omega
theorem hexL_snoc (l : List UInt8) (c : UInt8) : hexL (l ++ [c]) = (hexL l ++ [hexDig (c / 16)]) ++ [hexDig (c % 16)] := by simp [hexL, hexB]
abbrev digitsV : Value := .string ⟨#[48, 49, 50, 51, 52, 53, 54, 55, 56, 57, 97, 98, 99, 100, 101, 102]⟩
def ixs (T : TypeId) (x i : Value) : Sem Value := Instr.index T x i
@[go_sem ↓] theorem ex_ixs (ρ : Operand → Value) (dst : Option Tmp) (x y : Operand) (ty : TypeId) (pos : String) (aft : Array Edge) (gd : Option (Nat × Bool)) :
    execOp ρ ⟨dst, .index 9 x y, ty, pos, aft, gd⟩ = (do pure (.value (← ixs 9 (ρ x) (ρ y)))) := rfl
theorem run_ixs (x : UInt8) (h : x.toNat < 16) (w : World) : (ixs 9 digitsV (u8 x)).run Try.prog w = .ok (u8 (hexDig x)) w := by
  obtain ⟨n, hn, rfl⟩ : ∃ n, n < 16 ∧ x = UInt8.ofNat n := ⟨x.toNat, h, by simp⟩
  clear h
  rcases (show n = 0 ∨ n = 1 ∨ n = 2 ∨ n = 3 ∨ n = 4 ∨ n = 5 ∨ n = 6 ∨ n = 7 ∨ n = 8 ∨ n = 9 ∨ n = 10 ∨ n = 11 ∨ n = 12 ∨ n = 13 ∨ n = 14 ∨ n = 15 by omega) with rfl | rfl | rfl | rfl | rfl | rfl | rfl | rfl | rfl | rfl | rfl | rfl | rfl | rfl | rfl | rfl
  all_goals kernel_rfl
def op8 (o : BinOp) (x y : Value) : Sem Value := binOp o 5 x y
@[go_sem ↓] theorem ex8_shr (x y : Value) : binOp .shr 5 x y = op8 .shr x y := rfl
@[go_sem ↓] theorem ex8_and (x y : Value) : binOp .and 5 x y = op8 .and x y := rfl
@[go_sem ↓] theorem ex8_quo (x y : Value) : binOp .quo 5 x y = op8 .quo x y := rfl
@[go_sem ↓] theorem ex8_rem (x y : Value) : binOp .rem 5 x y = op8 .rem x y := rfl
theorem u8_mk {n : Int} {x : UInt8} (h : n = (x.toNat : Int)) : Value.int .u8 n = u8 x := by rw [h]; rfl
@[go_sem] theorem run8_shr4 (w : World) (c : UInt8) : (op8 .shr (u8 c) (.int .u64 4)).run Try.prog w = .ok (u8 (c / 16)) w := by
  have h : ((c.toNat : Int).fdiv (2 ^ 4)) = ((c / 16).toNat : Int) := by
    rw [Int.fdiv_eq_ediv_of_nonneg _ (by decide), UInt8.toNat_div]; simp
  show Sem.run _ (pure (Value.int IntKind.u8 ((c.toNat : Int).fdiv (2 ^ 4)))) w = _
  rw [h]; rfl
@[go_sem] theorem run8_and15 (w : World) (c : UInt8) : (op8 .and (u8 c) (.int .u8 15)).run Try.prog w = .ok (u8 (c % 16)) w := by
  have h : IntKind.u8.wrap ((BitVec.ofInt IntKind.u8.bits (c.toNat : Int) &&& BitVec.ofInt IntKind.u8.bits (15 : Int) : BitVec IntKind.u8.bits).toNat : Int) = ((c % 16).toNat : Int) := by
    have hc := c.toNat_lt
    have e1 : BitVec.ofInt IntKind.u8.bits (c.toNat : Int) = BitVec.ofNat 8 c.toNat := by
      show BitVec.ofInt 8 _ = _
      apply BitVec.eq_of_toNat_eq; simp
    rw [e1]
    show IntKind.u8.wrap ((BitVec.ofNat 8 c.toNat &&& 15#8 : BitVec 8).toNat : Int) = _
    have e2 : (BitVec.ofNat 8 c.toNat &&& 15#8 : BitVec 8).toNat = c.toNat % 16 := by
      rw [BitVec.toNat_and]
      simp only [BitVec.toNat_ofNat]
      rw [Nat.mod_eq_of_lt (show c.toNat < 2 ^ 8 from hc)]
      exact Nat.and_two_pow_sub_one_eq_mod c.toNat 4
    rw [e2, UInt8.toNat_mod]
    simp only [IntKind.wrap, IntKind.bits, IntKind.signed]
    simp
    omega
  exact (show Sem.run _ (pure (Value.int IntKind.u8 _)) w = _ from by rw [h]; rfl)
theorem div_lt16 (c : UInt8) : (c / 16).toNat < 16 := by have := c.toNat_lt; rw [UInt8.toNat_div]; simp; omega
theorem mod_lt16 (c : UInt8) : (c % 16).toNat < 16 := by rw [UInt8.toNat_mod]; simp; omega

end Go.Proofs.Ytnholkjgdpapbaa
