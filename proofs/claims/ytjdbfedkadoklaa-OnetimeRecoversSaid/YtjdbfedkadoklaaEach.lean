/- One-time signatures: each over closures that return values; lists of 35 values. No condition but the closure's contract. -/
import Derived.Test.YtjdbfedkadoklaaSplR
namespace Go.Proofs.Ytjdbfedkadoklaa
set_option linter.unusedVariables false
set_option linter.unusedSimpArgs false
set_option maxRecDepth 10000
open Go.RowKit
attribute [local go_sem ↓] Go.wp_at_zero Go.wp_at_succ

/-- The first n values, one behind the other. -/
def catF (f : Nat → List UInt8) : Nat → List UInt8
  | 0 => []
  | n + 1 => catF f n ++ f n
theorem catF_length (f : Nat → List UInt8) (h : ∀ c, (f c).length = 16) (n : Nat) : (catF f n).length = n * 16 := by
  induction n with
  | zero => rfl
  | succ n ih => simp [catF, ih, h]; omega
theorem catF_congr {f g : Nat → List UInt8} {n : Nat} (h : ∀ c, c < n → f c = g c) : catF f n = catF g n := by
  induction n with
  | zero => rfl
  | succ n ih => simp only [catF]; rw [ih (fun c hc => h c (by omega)), h n (by omega)]
/-- Then zeros. -/
def preF (f : Nat → List UInt8) (n : Nat) : List UInt8 := catF f n ++ List.replicate (560 - n * 16) 0
theorem preF_length (f : Nat → List UInt8) (h : ∀ c, (f c).length = 16) (n : Nat) (hn : n ≤ 35) : (preF f n).length = 560 := by
  simp [preF, catF_length f h]; omega
theorem preF_all (f : Nat → List UInt8) : preF f 35 = catF f 35 := by simp [preF]
theorem preF_zero (f : Nat → List UInt8) : preF f 0 = List.replicate 560 0 := by simp [preF, catF]
theorem preF_put (f : Nat → List UInt8) (h : ∀ c, (f c).length = 16) (n : Nat) (hn : n < 35) : putAt (bs (preF f n)).toArray (n * 16) (bs (f n)).toArray = (bs (preF f (n + 1))).toArray := by
  apply Array.toList_inj.1
  have h1 := catF_length f h n
  have h2 := h n
  have e : 560 - n * 16 = 16 + (560 - (n + 1) * 16) := by omega
  have h3 : preF f n = catF f n ++ (List.replicate 16 0 ++ List.replicate (560 - (n + 1) * 16) 0) := by rw [preF, e, List.replicate_append_replicate]
  have h4 : preF f (n + 1) = catF f n ++ f n ++ List.replicate (560 - (n + 1) * 16) 0 := rfl
  rw [h3, h4]
  simp only [putAt, Array.toList_append, Array.toList_extract, List.extract_eq_take_drop, List.size_toArray, bs_length]
  simp only [Nat.sub_zero, List.drop_zero, bs, List.map_append]
  rw [List.take_append_of_le_length (by simp [h1]), List.take_of_length_le (by simp [h1])]
  rw [h2, List.drop_append, List.drop_of_length_le (by simp [h1]), List.nil_append, List.length_map, h1]
  rw [show n * 16 + 16 - n * 16 = 16 by omega, List.drop_append, List.drop_of_length_le (by simp), List.nil_append]
  simp only [List.length_map, List.length_replicate, Nat.sub_self, List.drop_zero]
  congr 1
  rw [List.take_of_length_le (by simp [h1]; omega)]
theorem zt560 : zeroTail Try.prog 51 0 = (bs (List.replicate 560 0)).toArray := by kernel_rfl

set_option maxHeartbeats 1000000 in
theorem each_by (fn : FuncId) (caps : Array Value) (hcf : ∀ (args : Array Value) (w : World), (callFunc fn args).run Try.prog w = .ok (.enter fn args) w) (f : Nat → List UInt8) (hf : ∀ c, (f c).length = 16) (S : World → Prop) (hS : ∀ w w', Fr0 w w' → S w → S w')
    (hc : ∀ c, c < 35 → ∀ w, S w → Calls Try.prog fn (#[.int .i64 (c : Int)] ++ caps) w fun e w' => e = .returned (.agg (bs (f c)).toArray) ∧ Fr0 w w') (w : World) (h : S w) :
    Calls Try.prog 45 #[.func (Fn.func fn) #[] caps] w fun e w' => e = .returned (.agg (bs (catF f 35)).toArray) ∧ Fr0 w w' := by
  have hZs := zt__35__16_uint8
  obtain ⟨w2, HW2⟩ := nm ((w.alloc (.cells (zeroTail Try.prog 51 0) 51)).alloc (.cells (zeroTail Try.prog 51 0) 51))
  obtain ⟨hb0, hb1, hf2, hs⟩ := alloc2 _ _ _ _ _ _ HW2.out
  rw [zt560, ← preF_zero f] at hb1
  have H2 := Lib.hid (And.intro hb0 (And.intro hb1 hf2))
  have HC := Lib.hid hc
  have HS := Lib.hid hS
  have HH := Lib.hid h
  have HFL := Lib.hid hf
  clear hb0 hb1 hf2 hs hc hS h hf
  go_enter Try.func45, Try.ntmps45
  go_wp2_with fail
  rw [← HW2.out]
  obtain ⟨Z, HZ⟩ := nm (zeroTail Try.prog 51 0)
  rw [← HZ.out] at hZs H2
  clear HW2
  go_loopw [4, 5] (fun _ i wr => ∃ k : Nat, k ≤ 35 ∧ i = .int .i64 k ∧ Blk wr w.heap.size 51 Z ∧ Blk wr (w.heap.size + 1) 51 (bs (preF f k)).toArray ∧ Fr0 w wr) (fun _ i _ => 35 - (intOf i).toNat)
  case atStart => exact ⟨0, by omega, rfl, H2.out.1, H2.out.2.1, H2.out.2.2⟩
  case round =>
    obtain ⟨k, hk, rfl, h0, h1, hf⟩ := hrel
    by_cases hlt : k < 35
    · have z0 : (k : Int) < 35 := by omega
      have z1 : (0 : Int) ≤ (k : Int) := by omega
      have HR := Lib.hid (And.intro h0 (And.intro h1 hf))
      clear h0 h1 hf
      go_wp2_with fail
      refine (HC.out k hlt wr (HS.out _ _ HR.out.2.2 HH.out)).mono ?_
      rintro e w3 ⟨rfl, hf3⟩
      have g0 := HR.out.1.fr hf3 (fun h => h)
      have g1 := HR.out.2.1.fr hf3 (fun h => h)
      have gf := HR.out.2.2.trans hf3
      have hst : ∀ (w : World) (b o : Nat), okA w b o 16 = true → (st 22 (.pointer (some ⟨b, o, none⟩)) (.agg (bs (f k)).toArray)).run Try.prog w = .ok () (putW w b o (bs (f k)).toArray) := fun w b o h => a16_st ⟨f k, HFL.out k⟩ w b o h
      have hok := g1.okA (k * 16) 16 (by simp [preF_length f HFL.out k (by omega)]; omega)
      have n1 := g1.put (k * 16) (bs (f k)).toArray
      rw [preF_put f HFL.out k hlt] at n1
      have n0 := g0.putFar (b := w.heap.size + 1) (by omega) (k * 16) (bs (f k)).toArray
      have nf := gf.put (b := w.heap.size + 1) (S := fun _ => False) (fun h => by omega) (k * 16) (bs (f k)).toArray
      have N := Lib.hid (And.intro n0 (And.intro n1 nf))
      clear g0 g1 gf n0 n1 nf hf3
      go_wp2_with fail
      clear hst hok
      go_roundw
      case rel =>
        first
        | exact ⟨k + 1, by omega, by go_num, N.out⟩
        | ((repeat apply Exists.intro); exact ⟨⟨k + 1, by omega, by go_num, N.out⟩, rfl⟩)
      case measure => simp [intOf]; omega
    · have hk35 : k = 35 := by omega
      subst hk35
      rw [preF_all f] at h1
      have hsY : (bs (catF f 35)).toArray.size = 560 := by simp [catF_length f HFL.out]
      have hone : one1 (bs (catF f 35)).toArray = true := all_one (bs_one' _)
      obtain ⟨Y, HY⟩ := nm (bs (catF f 35)).toArray
      rw [← HY.out] at h1 hone hsY
      have hld := h1.all hsY
      obtain ⟨hok, hput, hfin⟩ := fin_agg (n := 560) (cs := Y) h0 hf (by omega) hZs hsY
      have HP := Lib.hid (And.intro hput hfin)
      clear h0 h1 hf hput hfin
      go_wp2_with fail
      refine bodyPost_agg (n := 560) (cs := Y) rfl Try.underlying51 rfl info__35__16_uint8 (by rfl) ?_ rfl ?_
      · exact HP.out.1
      · exact ⟨by rw [HY.out], HP.out.2⟩
end Go.Proofs.Ytjdbfedkadoklaa
