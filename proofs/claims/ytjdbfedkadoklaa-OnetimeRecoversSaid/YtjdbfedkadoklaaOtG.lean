/- One-time signatures: the reference's Advance. No condition beyond the ranges that are named. -/
import Derived.Test.YtjdbfedkadoklaaOtF
namespace Go.Proofs.Ytjdbfedkadoklaa
set_option linter.unusedVariables false
set_option linter.unusedSimpArgs false
set_option maxRecDepth 10000
open Go.RowKit
attribute [local go_sem ↓] Go.wp_at_zero Go.wp_at_succ

set_option maxHeartbeats 2000000 in
/-- advance: from step a to step b. -/
theorem radvance_any (leaf chain a b : Nat) (h1 : leaf ≤ 65535) (hb15 : b ≤ 15) (hab : a ≤ b) (v : By 16) (w : World) :
    Calls Try.prog 22 #[.int .i64 (leaf : Int), .int .i64 (chain : Int), .int .i64 (a : Int), .int .i64 (b : Int), .agg (bs v.1).toArray] w fun e w' => e = .returned (.agg (bs (advB leaf chain a (b - a) v.1)).toArray) ∧ Fr0 w w' := by
  have hsz : (bs v.1).toArray.size = 16 := by simp [v.2]
  obtain ⟨V, hV⟩ : ∃ V, V = (bs v.1).toArray := ⟨_, rfl⟩
  rw [← hV] at hsz ⊢
  have HV := Lib.hid hV
  clear hV
  have hw2 : (w.alloc (.cells V 36)).heap.size = w.heap.size + 1 := by simp
  have hz := Blk.new (w.alloc (.cells V 36)) 36 z16
  rw [hw2] at hz
  have HZ := Lib.hid hz
  have HB0 := Lib.hid ((Blk.new w 36 V).alloc (.cells z16 36))
  have HF0 := Lib.hid ((((Fr.refl (fun _ => False) w).alloc (.cells V 36))).alloc (.cells z16 36))
  clear hz hw2
  go_enter Try.func22, Try.ntmps22
  go_wp2_with fail
  go_loopw [11] (fun iv wr => ∃ k : Nat, a + k ≤ b ∧ iv = .int .i64 ((a + k : Nat) : Int) ∧ Blk wr w.heap.size 36 (bs (advB leaf chain a k v.1)).toArray ∧ Blk wr (w.heap.size + 1) 36 z16 ∧ Fr0 w wr) (fun iv _ => b - (intOf iv).toNat)
  case atStart => exact ⟨0, by omega, rfl, by rw [show (bs (advB leaf chain a 0 v.1)).toArray = V from HV.out.symm]; exact HB0.out, HZ.out, HF0.out⟩
  case round =>
    obtain ⟨k, hk, rfl, hB, hZ, hF⟩ := hrel
    have hal := advB_length leaf chain a k v.1 v.2
    obtain ⟨x, hx⟩ : ∃ x, x = advB leaf chain a k v.1 := ⟨_, rfl⟩
    rw [← hx] at hB hal
    obtain ⟨i, hi⟩ : ∃ i, i = a + k := ⟨_, rfl⟩
    rw [← hi] at hk ⊢
    have hld := by_load16 hB hal
    by_cases hlt : i < b
    · have z0 : (i : Int) < (b : Int) := by omega
      have HB := Lib.hid hB
      have HZr := Lib.hid hZ
      have HF := Lib.hid hF
      have HX := Lib.hid hx
      have HI := Lib.hid hi
      have HAL := Lib.hid hal
      clear hB hZ hF hx hi hal
      go_wp2_with fail
      refine (rstep_any leaf chain i h1 ⟨x, HAL.out⟩ wr).mono ?_
      rintro e w3 ⟨rfl, hf3⟩
      dsimp only
      have hst2 := rv_st ⟨stepB leaf chain i x, stepB_length _ _ _ _⟩
      change ∀ (w : World) (b' p : Nat), okA w b' p 16 = true → (st 36 (.pointer (some ⟨b', p, none⟩)) (.agg (bs (stepB leaf chain i x)).toArray)).run Try.prog w = .ok () (putW w b' p (bs (stepB leaf chain i x)).toArray) at hst2
      have hB3 := HB.out.fr hf3 (fun h => h)
      have hZ3 := HZr.out.fr hf3 (fun h => h)
      have hok := hB3.okA 0 16 (by simp [HAL.out])
      have hB4 := hB3.putAll (bs (stepB leaf chain i x)).toArray (by simp [stepB_length, HAL.out])
      have hZ4 := hZ3.putFar (b := w.heap.size) (by omega) 0 (bs (stepB leaf chain i x)).toArray
      have hF4 := (HF.out.trans hf3).put (b := w.heap.size) (S := fun _ => False) (fun h => by omega) 0 (bs (stepB leaf chain i x)).toArray
      have hadv : stepB leaf chain i x = advB leaf chain a (k + 1) v.1 := by rw [advB, ← HX.out, ← HI.out]
      obtain ⟨y, hy⟩ : ∃ y, y = stepB leaf chain i x := ⟨_, rfl⟩
      rw [← hy] at hst2 hB4 hZ4 hF4 hadv ⊢
      have HB4 := Lib.hid hB4
      have HZ4 := Lib.hid hZ4
      have HF4 := Lib.hid hF4
      have HADV := Lib.hid hadv
      clear hf3 hB3 hZ3 hB4 hZ4 hF4 hadv hy hld
      go_wp2_with fail
      clear hst2 hok
      go_roundw
      case rel =>
        have hh := HB4.out
        rw [HADV.out] at hh
        have := HI.out
        first
        | exact ⟨k + 1, by omega, by simp; omega, by simpa [HADV.out] using hh, by simpa [HADV.out] using HZ4.out, by simpa [HADV.out] using HF4.out⟩
        | ((repeat apply Exists.intro); exact ⟨⟨k + 1, by omega, by simp; omega, HB4.out, HZ4.out, HF4.out⟩, rfl⟩)
      case measure => simp [intOf]; omega
    · have hib : i = b := by omega
      have hkk : b - a = k := by omega
      have hst2 := rv_st ⟨x, hal⟩
      change ∀ (w : World) (b' p : Nat), okA w b' p 16 = true → (st 36 (.pointer (some ⟨b', p, none⟩)) (.agg (bs x).toArray)).run Try.prog w = .ok () (putW w b' p (bs x).toArray) at hst2
      have hok := hZ.okA 0 16 (by simp)
      have hput := ldA_put (n := 16) hZ (bs x).toArray (by simp [hal]) (by simp)
      have hxx : x = advB leaf chain a (b - a) v.1 := by rw [hkk]; exact hx
      have z0 : ¬ (i : Int) < (b : Int) := by omega
      have HP := Lib.hid hput
      have HF := Lib.hid hF
      have HXX := Lib.hid hxx
      clear hB hZ hput hF hx hi hxx hib
      go_wp2_with fail
      refine bodyPost_agg (n := 16) (cs := (bs x).toArray) rfl Try.underlying36 rfl info_bulletin_bulletinref07_Value (by rfl) ?_ rfl ?_
      · exact HP.out
      · exact ⟨by have h := HXX.out; rw [hkk] at h; rw [← h], HF.out.put (S := fun _ => False) (fun h => by omega) _ _⟩
end Go.Proofs.Ytjdbfedkadoklaa
