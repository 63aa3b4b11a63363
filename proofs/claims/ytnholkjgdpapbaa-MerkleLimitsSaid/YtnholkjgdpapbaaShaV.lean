/- SHA-256: words of 32 bits and bytes as values that the walk keeps whole; the operators on them. No condition. -/
import Derived.Test.YtnholkjgdpapbaaSha
import Derived.Test.YtnholkjgdpapbaaShaR
import Derived.Deep.QuietTactic
import Derived.OwnWalk
namespace Go.Proofs.Ytnholkjgdpapbaa
set_option linter.unusedVariables false
set_option linter.unusedSimpArgs false
open Go.RowKit

/-- A word as a value. -/
def u32 (x : UInt32) : Value := .int .u32 (x.toNat : Int)
abbrev stC (s : St) : Array Value := #[u32 s.a, u32 s.b, u32 s.c, u32 s.d, u32 s.e, u32 s.f, u32 s.g, u32 s.h]
abbrev stV (s : St) : Value := .agg (stC s)
@[simp] theorem u32_one (x : UInt32) : (u32 x).oneCell' = true := rfl
@[simp] theorem u8_one (x : UInt8) : (u8 x).oneCell' = true := rfl
@[simp] theorem u32_cells (x : UInt32) : (u32 x).cells = #[u32 x] := rfl
@[simp] theorem u8_cells (x : UInt8) : (u8 x).cells = #[u8 x] := rfl

theorem wrap32 (n : Nat) : IntKind.u32.wrap (n : Int) = ((n % 4294967296 : Nat) : Int) := by simp [IntKind.wrap, IntKind.bits, IntKind.signed]
theorem ofInt32 (n : Nat) (h : n < 4294967296) : BitVec.ofInt IntKind.u32.bits (n : Int) = BitVec.ofNat 32 n := by
  show BitVec.ofInt 32 _ = _
  apply BitVec.eq_of_toNat_eq; simp
theorem back32 (x : BitVec 32) : IntKind.u32.wrap (x.toNat : Int) = (x.toNat : Int) := by rw [wrap32, Nat.mod_eq_of_lt x.isLt]

def op32 (o : BinOp) (x y : Value) : Sem Value := binOp o 80 x y
@[go_sem ↓] theorem ex32_add (x y : Value) : binOp .add 80 x y = op32 .add x y := rfl
@[go_sem ↓] theorem ex32_xor (x y : Value) : binOp .xor 80 x y = op32 .xor x y := rfl
@[go_sem ↓] theorem ex32_and (x y : Value) : binOp .and 80 x y = op32 .and x y := rfl
@[go_sem ↓] theorem ex32_or (x y : Value) : binOp .or 80 x y = op32 .or x y := rfl
@[go_sem ↓] theorem ex32_shl (x y : Value) : binOp .shl 80 x y = op32 .shl x y := rfl
@[go_sem ↓] theorem ex32_shr (x y : Value) : binOp .shr 80 x y = op32 .shr x y := rfl

section
variable (w : World) (a b : UInt32)
@[go_sem] theorem run32_add : (op32 .add (u32 a) (u32 b)).run Try.prog w = .ok (u32 (a + b)) w := by
  have : IntKind.u32.wrap ((a.toNat : Int) + (b.toNat : Int)) = ((a + b).toNat : Int) := by
    rw [← Int.natCast_add, wrap32, UInt32.toNat_add]
  simp [op32, u32, binOp, Op.intArith, this]
@[go_sem] theorem run32_xor : (op32 .xor (u32 a) (u32 b)).run Try.prog w = .ok (u32 (a ^^^ b)) w := by
  have : IntKind.u32.wrap ((BitVec.ofInt IntKind.u32.bits (a.toNat : Int) ^^^ BitVec.ofInt IntKind.u32.bits (b.toNat : Int) : BitVec IntKind.u32.bits).toNat : Int) = ((a ^^^ b).toNat : Int) := by
    rw [ofInt32 _ a.toNat_lt, ofInt32 _ b.toNat_lt]
    show IntKind.u32.wrap ((BitVec.ofNat 32 a.toNat ^^^ BitVec.ofNat 32 b.toNat : BitVec 32).toNat : Int) = _
    rw [back32]; simp [UInt32.toNat_xor, Nat.mod_eq_of_lt a.toNat_lt, Nat.mod_eq_of_lt b.toNat_lt]
  exact (show Sem.run _ (pure (Value.int IntKind.u32 _)) w = _ from by rw [this]; rfl)
@[go_sem] theorem run32_and : (op32 .and (u32 a) (u32 b)).run Try.prog w = .ok (u32 (a &&& b)) w := by
  have : IntKind.u32.wrap ((BitVec.ofInt IntKind.u32.bits (a.toNat : Int) &&& BitVec.ofInt IntKind.u32.bits (b.toNat : Int) : BitVec IntKind.u32.bits).toNat : Int) = ((a &&& b).toNat : Int) := by
    rw [ofInt32 _ a.toNat_lt, ofInt32 _ b.toNat_lt]
    show IntKind.u32.wrap ((BitVec.ofNat 32 a.toNat &&& BitVec.ofNat 32 b.toNat : BitVec 32).toNat : Int) = _
    rw [back32]; simp [UInt32.toNat_and, Nat.mod_eq_of_lt a.toNat_lt, Nat.mod_eq_of_lt b.toNat_lt]
  exact (show Sem.run _ (pure (Value.int IntKind.u32 _)) w = _ from by rw [this]; rfl)
@[go_sem] theorem run32_or : (op32 .or (u32 a) (u32 b)).run Try.prog w = .ok (u32 (a ||| b)) w := by
  have : IntKind.u32.wrap ((BitVec.ofInt IntKind.u32.bits (a.toNat : Int) ||| BitVec.ofInt IntKind.u32.bits (b.toNat : Int) : BitVec IntKind.u32.bits).toNat : Int) = ((a ||| b).toNat : Int) := by
    rw [ofInt32 _ a.toNat_lt, ofInt32 _ b.toNat_lt]
    show IntKind.u32.wrap ((BitVec.ofNat 32 a.toNat ||| BitVec.ofNat 32 b.toNat : BitVec 32).toNat : Int) = _
    rw [back32]; simp [UInt32.toNat_or, Nat.mod_eq_of_lt a.toNat_lt, Nat.mod_eq_of_lt b.toNat_lt]
  exact (show Sem.run _ (pure (Value.int IntKind.u32 _)) w = _ from by rw [this]; rfl)
@[go_sem ↓] theorem run32_not : (Op.unary .xor (u32 a)).run Try.prog w = .ok (u32 (~~~a)) w := by
  have : IntKind.u32.wrap ((BitVec.ofInt IntKind.u32.bits (4294967295 : Int) ^^^ BitVec.ofInt IntKind.u32.bits (a.toNat : Int) : BitVec IntKind.u32.bits).toNat : Int) = ((~~~a).toNat : Int) := by
    rw [ofInt32 _ a.toNat_lt]
    show IntKind.u32.wrap ((BitVec.ofInt 32 4294967295 ^^^ BitVec.ofNat 32 a.toNat : BitVec 32).toNat : Int) = _
    have e : BitVec.ofInt 32 4294967295 = BitVec.allOnes 32 := by decide
    rw [e, BitVec.allOnes_xor, back32]
    simp
  unfold u32 Op.unary
  simp only [Op.intBits]
  show Sem.run _ (pure (Value.int IntKind.u32 (IntKind.u32.wrap ((BitVec.ofInt IntKind.u32.bits (4294967295 : Int) ^^^ BitVec.ofInt IntKind.u32.bits (a.toNat : Int) : BitVec IntKind.u32.bits).toNat : Int)))) w = _
  rw [this]; rfl
theorem run32_shr (k : IntKind) (n : Nat) (hn : n < 32) : (op32 .shr (u32 a) (.int k (n : Int))).run Try.prog w = .ok (u32 (a >>> UInt32.ofNat n)) w := by
  have : ((a.toNat : Int) / 2 ^ n) = ((a >>> UInt32.ofNat n).toNat : Int) := by
    rw [UInt32.toNat_shiftRight, UInt32.toNat_ofNat', Nat.shiftRight_eq_div_pow]
    rw [Nat.mod_eq_of_lt (show n < 2 ^ 32 by omega), Nat.mod_eq_of_lt hn]
    simp
  have hm : min n IntKind.u32.bits = n := by simp [IntKind.bits]; omega
  simp [op32, u32, binOp, Op.shift, Int.not_lt.mpr (Int.natCast_nonneg n), hm]
  simpa using this
theorem run32_shl (k : IntKind) (n : Nat) (hn : n < 32) : (op32 .shl (u32 a) (.int k (n : Int))).run Try.prog w = .ok (u32 (a <<< UInt32.ofNat n)) w := by
  have : IntKind.u32.wrap ((a.toNat : Int) * 2 ^ n) = ((a <<< UInt32.ofNat n).toNat : Int) := by
    rw [UInt32.toNat_shiftLeft, UInt32.toNat_ofNat', Nat.shiftLeft_eq]
    rw [Nat.mod_eq_of_lt (show n < 2 ^ 32 by omega), Nat.mod_eq_of_lt hn]
    have : (a.toNat : Int) * 2 ^ n = ((a.toNat * 2 ^ n : Nat) : Int) := by simp
    rw [this, wrap32]
  have hm : min n IntKind.u32.bits = n := by simp [IntKind.bits]; omega
  simp [op32, u32, binOp, Op.shift, Int.not_lt.mpr (Int.natCast_nonneg n), hm, this]
@[go_sem] theorem run32_shr_i (k : IntKind) (i : Int) (h0 : 0 ≤ i) (h1 : i < 32) : (op32 .shr (u32 a) (.int k i)).run Try.prog w = .ok (u32 (a >>> UInt32.ofNat i.toNat)) w := by
  obtain ⟨n, rfl⟩ := Int.eq_ofNat_of_zero_le h0
  rw [Int.toNat_natCast]; exact run32_shr w a k n (by omega)
@[go_sem] theorem run32_shl_i (k : IntKind) (i : Int) (h0 : 0 ≤ i) (h1 : i < 32) : (op32 .shl (u32 a) (.int k i)).run Try.prog w = .ok (u32 (a <<< UInt32.ofNat i.toNat)) w := by
  obtain ⟨n, rfl⟩ := Int.eq_ofNat_of_zero_le h0
  rw [Int.toNat_natCast]; exact run32_shl w a k n (by omega)
@[go_sem ↓] theorem run_conv832 (x : UInt8) : (convert 5 80 (u8 x)).run Try.prog w = .ok (u32 x.toUInt32) w := by
  have hx : x.toNat < 256 := x.toNat_lt
  have : IntKind.u32.wrap (x.toNat : Int) = (x.toUInt32.toNat : Int) := by rw [wrap32, UInt8.toNat_toUInt32, Nat.mod_eq_of_lt (by omega)]
  simp [convert, run_underlying Try.underlying5, run_underlying Try.underlying80, u8, u32, Conv.intToInt, this]
@[go_sem ↓] theorem run_conv328 : (convert 80 5 (u32 a)).run Try.prog w = .ok (u8 a.toUInt8) w := by
  have : IntKind.u8.wrap (a.toNat : Int) = (a.toUInt8.toNat : Int) := by simp [IntKind.wrap, IntKind.bits, IntKind.signed, UInt32.toNat_toUInt8]
  simp [convert, run_underlying Try.underlying5, run_underlying Try.underlying80, u8, u32, Conv.intToInt, this]
end

/-! loads and stores of a word and of a byte, met by name -/
@[go_sem ↓] theorem ex_st_uint32 (ρ : Operand → Value) (dst : Option Tmp) (x y : Operand) (ty : TypeId) (pos : String) (aft : Array Edge) (gd : Option (Nat × Bool)) :
    execOp ρ ⟨dst, .store 80 x y, ty, pos, aft, gd⟩ = (do st 80 (ρ x) (ρ y); pure .skip) := rfl
@[go_sem] theorem run_st_uint32 (w : World) (b o : Nat) (x : UInt32) (h : (w.cell? ⟨b, o, none⟩).isSome = true) (hf : w.frozen? ⟨b, o, none⟩ = false) :
    (st 80 (.pointer (some ⟨b, o, none⟩)) (u32 x)).run Try.prog w = .ok () (w.setCell ⟨b, o, none⟩ (u32 x)) := by
  obtain ⟨v, hv⟩ := Option.isSome_iff_exists.1 h
  unfold st u32
  go_simp
@[go_sem ↓] theorem ex_st_uint8 (ρ : Operand → Value) (dst : Option Tmp) (x y : Operand) (ty : TypeId) (pos : String) (aft : Array Edge) (gd : Option (Nat × Bool)) :
    execOp ρ ⟨dst, .store 5 x y, ty, pos, aft, gd⟩ = (do st 5 (ρ x) (ρ y); pure .skip) := rfl
@[go_sem] theorem run_st_uint8 (w : World) (b o : Nat) (x : UInt8) (h : (w.cell? ⟨b, o, none⟩).isSome = true) (hf : w.frozen? ⟨b, o, none⟩ = false) :
    (st 5 (.pointer (some ⟨b, o, none⟩)) (u8 x)).run Try.prog w = .ok () (w.setCell ⟨b, o, none⟩ (u8 x)) := by
  obtain ⟨v, hv⟩ := Option.isSome_iff_exists.1 h
  unfold st u8
  go_simp
end Go.Proofs.Ytnholkjgdpapbaa
