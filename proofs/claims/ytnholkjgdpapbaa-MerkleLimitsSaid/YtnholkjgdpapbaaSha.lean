/- SHA-256 in plain Lean, over UInt32. No condition. -/
import Derived.Test.YtnholkjgdpapbaaAggB
namespace Go.Proofs.Ytnholkjgdpapbaa
set_option linter.unusedVariables false
set_option linter.unusedSimpArgs false

def rotr (x : UInt32) (n : Nat) : UInt32 := (x >>> UInt32.ofNat n) ||| (x <<< UInt32.ofNat (32 - n))
def sig0 (x : UInt32) : UInt32 := rotr x 7 ^^^ rotr x 18 ^^^ (x >>> 3)
def sig1 (x : UInt32) : UInt32 := rotr x 17 ^^^ rotr x 19 ^^^ (x >>> 10)
def kTab : List UInt32 := [
  0x428a2f98, 0x71374491, 0xb5c0fbcf, 0xe9b5dba5, 0x3956c25b, 0x59f111f1, 0x923f82a4, 0xab1c5ed5,
  0xd807aa98, 0x12835b01, 0x243185be, 0x550c7dc3, 0x72be5d74, 0x80deb1fe, 0x9bdc06a7, 0xc19bf174,
  0xe49b69c1, 0xefbe4786, 0x0fc19dc6, 0x240ca1cc, 0x2de92c6f, 0x4a7484aa, 0x5cb0a9dc, 0x76f988da,
  0x983e5152, 0xa831c66d, 0xb00327c8, 0xbf597fc7, 0xc6e00bf3, 0xd5a79147, 0x06ca6351, 0x14292967,
  0x27b70a85, 0x2e1b2138, 0x4d2c6dfc, 0x53380d13, 0x650a7354, 0x766a0abb, 0x81c2c92e, 0x92722c85,
  0xa2bfe8a1, 0xa81a664b, 0xc24b8b70, 0xc76c51a3, 0xd192e819, 0xd6990624, 0xf40e3585, 0x106aa070,
  0x19a4c116, 0x1e376c08, 0x2748774c, 0x34b0bcb5, 0x391c0cb3, 0x4ed8aa4a, 0x5b9cca4f, 0x682e6ff3,
  0x748f82ee, 0x78a5636f, 0x84c87814, 0x8cc70208, 0x90befffa, 0xa4506ceb, 0xbef9a3f7, 0xc67178f2]
structure St where
  a : UInt32
  b : UInt32
  c : UInt32
  d : UInt32
  e : UInt32
  f : UInt32
  g : UInt32
  h : UInt32
def st0 : St := ⟨0x6a09e667, 0xbb67ae85, 0x3c6ef372, 0xa54ff53a, 0x510e527f, 0x9b05688c, 0x1f83d9ab, 0x5be0cd19⟩
def rt (s : St) (k w : UInt32) : UInt32 := s.h + (rotr s.e 6 ^^^ rotr s.e 11 ^^^ rotr s.e 25) + ((s.e &&& s.f) ^^^ (~~~s.e &&& s.g)) + k + w
def ru (s : St) : UInt32 := (rotr s.a 2 ^^^ rotr s.a 13 ^^^ rotr s.a 22) + ((s.a &&& s.b) ^^^ (s.a &&& s.c) ^^^ (s.b &&& s.c))
def rnd (s : St) (k w : UInt32) : St := ⟨rt s k w + ru s, s.a, s.b, s.c, s.d + rt s k w, s.e, s.f, s.g⟩
def plusS (s o : St) : St := ⟨s.a + o.a, s.b + o.b, s.c + o.c, s.d + o.d, s.e + o.e, s.f + o.f, s.g + o.g, s.h + o.h⟩
theorem plusS_comm (s o : St) : plusS s o = plusS o s := by
  simp only [plusS, UInt32.add_comm]

/-- Four bytes of a list as a word. -/
def word (b : List UInt8) (i : Nat) : UInt32 :=
  ((b.getD i 0).toUInt32 <<< 24) ||| ((b.getD (i + 1) 0).toUInt32 <<< 16) ||| ((b.getD (i + 2) 0).toUInt32 <<< 8) ||| (b.getD (i + 3) 0).toUInt32
def wds (b : List UInt8) : List UInt32 := (List.range 16).map fun i => word b (4 * i)
def nxt (l : List UInt32) : UInt32 := sig1 (l.getD (l.length - 2) 0) + l.getD (l.length - 7) 0 + sig0 (l.getD (l.length - 15) 0) + l.getD (l.length - 16) 0
def ext : Nat → List UInt32 → List UInt32
  | 0, l => l
  | n + 1, l => ext n (l ++ [nxt l])
/-- The words of a block's schedule. -/
def sched (l : List UInt32) : List UInt32 := ext 48 l
def rounds (ws : List UInt32) (s : St) : Nat → St
  | 0 => s
  | t + 1 => rnd (rounds ws s t) (kTab.getD t 0) (ws.getD t 0)
def proc (s : St) (l : List UInt32) : St := plusS (rounds (sched l) s 64) s
def absorb : Nat → St → List UInt8 → St
  | 0, s, _ => s
  | n + 1, s, l => absorb n (proc s (wds (l.take 64))) (l.drop 64)
def be32 (x : UInt32) : List UInt8 := [(x >>> 24).toUInt8, (x >>> 16).toUInt8, (x >>> 8).toUInt8, x.toUInt8]
def outS (s : St) : List UInt8 := be32 s.a ++ (be32 s.b ++ (be32 s.c ++ (be32 s.d ++ (be32 s.e ++ (be32 s.f ++ (be32 s.g ++ be32 s.h))))))
/-- How many zeros follow the byte 128. -/
def zs (n : Nat) : Nat := (119 - n % 64) % 64
/-- The length in bits, eight bytes. -/
def len8 (n : Nat) : List UInt8 := [7, 6, 5, 4, 3, 2, 1, 0].map fun i => UInt8.ofNat (n * 8 / 256 ^ i)
def tail8 (n : Nat) : List UInt8 := 128 :: (List.replicate (zs n) 0 ++ len8 n)
def padB (b : List UInt8) : List UInt8 := b ++ tail8 b.length
def sumB (b : List UInt8) : List UInt8 := outS (absorb ((padB b).length / 64) st0 (padB b))

theorem outS_length (s : St) : (outS s).length = 32 := rfl
theorem sumB_length (b : List UInt8) : (sumB b).length = 32 := rfl
def sumY (b : List UInt8) : By 32 := ⟨sumB b, rfl⟩
theorem len8_length (n : Nat) : (len8 n).length = 8 := rfl
theorem tail8_length (n : Nat) : (tail8 n).length = 1 + zs n + 8 := by simp [tail8, len8_length]; omega
theorem pad_length (b : List UInt8) : (padB b).length % 64 = 0 := by
  simp only [padB, List.length_append, tail8_length, zs]; omega

/-! absorb, piece by piece -/
theorem absorb_append : ∀ (n m : Nat) (s : St) (l : List UInt8), n * 64 ≤ l.length → absorb (n + m) s l = absorb m (absorb n s l) (l.drop (n * 64))
  | 0, m, s, l, _ => by simp [absorb]
  | n + 1, m, s, l, h => by
    rw [show n + 1 + m = (n + m) + 1 by omega, absorb, absorb, absorb_append n m _ _ (by simp; omega), List.drop_drop]
    congr 2; omega
theorem absorb_take : ∀ (n : Nat) (s : St) (l r : List UInt8), n * 64 ≤ l.length → absorb n s (l ++ r) = absorb n s l
  | 0, _, _, _, _ => rfl
  | n + 1, s, l, r, h => by
    rw [absorb, absorb, List.take_append_of_le_length (by omega), List.drop_append_of_le_length (by omega), absorb_take n _ _ _ (by simp; omega)]

/-- The state and the rest behind all bytes l. -/
def stAt (l : List UInt8) : St := absorb (l.length / 64) st0 l
def restAt (l : List UInt8) : List UInt8 := l.drop (l.length / 64 * 64)
theorem restAt_length (l : List UInt8) : (restAt l).length = l.length % 64 := by simp [restAt]; omega
/-- More bytes: the rest and they are cut into blocks. -/
theorem stAt_more (l b : List UInt8) (n : Nat) (hn : n = (restAt l ++ b).length / 64) : stAt (l ++ b) = absorb n (stAt l) (restAt l ++ b) ∧ restAt (l ++ b) = (restAt l ++ b).drop (n * 64) := by
  subst hn
  have hl := restAt_length l
  have hq : (l ++ b).length / 64 = l.length / 64 + (restAt l ++ b).length / 64 := by simp only [List.length_append, hl]; omega
  have hd : (l ++ b).drop (l.length / 64 * 64) = restAt l ++ b := by
    rw [List.drop_append_of_le_length (by omega)]; rfl
  constructor
  · unfold stAt
    rw [hq, absorb_append _ _ _ _ (by simp; omega), absorb_take _ _ _ _ (by omega), hd]
  · unfold restAt at hd ⊢
    rw [hq, Nat.add_mul, ← List.drop_drop]
    rw [show l.length / 64 * 64 = l.length / 64 * 64 from rfl, hd]
    rfl
theorem sum_stAt (b : List UInt8) : sumB b = outS (stAt (b ++ tail8 b.length)) := rfl
theorem restAt_pad (b : List UInt8) : restAt (b ++ tail8 b.length) = [] := by
  apply List.eq_nil_of_length_eq_zero
  rw [restAt_length]; exact pad_length b

/-! the schedule -/
theorem ext_length : ∀ (n : Nat) (l : List UInt32), (ext n l).length = l.length + n
  | 0, _ => rfl
  | n + 1, l => by rw [ext, ext_length n]; simp; omega
theorem ext_get : ∀ (n : Nat) (l : List UInt32) (i : Nat), i < l.length → (ext n l).getD i 0 = l.getD i 0
  | 0, _, _, _ => rfl
  | n + 1, l, i, h => by
    rw [ext, ext_get n _ i (by simp; omega)]
    simp [List.getD, List.getElem?_append_left h]
theorem ext_nxt : ∀ (n : Nat) (l : List UInt32) (i : Nat), l.length ≤ i → i < l.length + n → 16 ≤ l.length →
    (ext n l).getD i 0 = sig1 ((ext n l).getD (i - 2) 0) + (ext n l).getD (i - 7) 0 + sig0 ((ext n l).getD (i - 15) 0) + (ext n l).getD (i - 16) 0
  | 0, _, _, h1, h2, _ => by omega
  | n + 1, l, i, h1, h2, h16 => by
    by_cases hi : i = l.length
    · subst hi
      have hb : ∀ j, j ≤ l.length → 1 ≤ j → (ext (n + 1) l).getD (l.length - j) 0 = l.getD (l.length - j) 0 := fun j h1 h2 => ext_get (n + 1) l _ (by omega)
      rw [hb 2 (by omega) (by omega), hb 7 (by omega) (by omega), hb 15 (by omega) (by omega), hb 16 (by omega) (by omega)]
      rw [ext, ext_get n _ _ (by simp)]
      have : (l ++ [nxt l]).getD l.length 0 = nxt l := by simp [List.getD]
      rw [this]; rfl
    · rw [ext]
      exact ext_nxt n (l ++ [nxt l]) i (by simp; omega) (by simp; omega) (by simp; omega)
theorem sched_lo (l : List UInt32) (i : Nat) (h : i < l.length) : (sched l).getD i 0 = l.getD i 0 := ext_get 48 l i h
theorem sched_hi (l : List UInt32) (hl : l.length = 16) (i : Nat) (h1 : 16 ≤ i) (h2 : i < 64) :
    (sched l).getD i 0 = sig1 ((sched l).getD (i - 2) 0) + (sched l).getD (i - 7) 0 + sig0 ((sched l).getD (i - 15) 0) + (sched l).getD (i - 16) 0 :=
  ext_nxt 48 l i (by omega) (by omega) (by omega)
theorem wds_length (b : List UInt8) : (wds b).length = 16 := by simp [wds]
theorem sched_length (l : List UInt32) (h : l.length = 16) : (sched l).length = 64 := by rw [sched, ext_length, h]

theorem sum_nil : sumB [] = [0xe3, 0xb0, 0xc4, 0x42, 0x98, 0xfc, 0x1c, 0x14, 0x9a, 0xfb, 0xf4, 0xc8, 0x99, 0x6f, 0xb9, 0x24, 0x27, 0xae, 0x41, 0xe4, 0x64, 0x9b, 0x93, 0x4c, 0xa4, 0x95, 0x99, 0x1b, 0x78, 0x52, 0xb8, 0x55] := by decide +kernel
end Go.Proofs.Ytnholkjgdpapbaa
