/- One-time signatures: Secret, Step, Advance with their ranges. No condition. -/
import Derived.Test.YtjdbfedkadoklaaOtB
namespace Go.Proofs.Ytjdbfedkadoklaa
set_option linter.unusedVariables false
set_option linter.unusedSimpArgs false
set_option maxRecDepth 10000
open Go.RowKit
attribute [local go_sem ↓] Go.wp_at_zero Go.wp_at_succ

theorem alloc2 (w : World) (t0 t1 : TypeId) (c0 c1 : Array Value) (w2 : World) (h : w2 = (w.alloc (.cells c0 t0)).alloc (.cells c1 t1)) :
    Blk w2 w.heap.size t0 c0 ∧ Blk w2 (w.heap.size + 1) t1 c1 ∧ Fr0 w w2 ∧ w2.heap.size = w.heap.size + 2 := by
  subst h
  refine ⟨(Blk.new _ _ _).alloc _, ?_, ((Fr.refl _ w).alloc _).alloc _, by simp⟩
  have h := Blk.new (w.alloc (.cells c0 t0)) t1 c1
  rwa [show (w.alloc (.cells c0 t0)).heap.size = w.heap.size + 1 by simp] at h
@[go_sem ↓] theorem ex_bd_v16 (ρ : Operand → Value) (dst : Option Tmp) (ps : Array (Nat × Operand)) (ty : TypeId) (pos : String) (aft : Array Edge) (gd : Option (Nat × Bool)) :
    execOp ρ ⟨dst, .build 22 ps, ty, pos, aft, gd⟩ = (do pure (.value (← bd 22 (ps.map fun (i, x) => (i, ρ x))))) := rfl
theorem run_bd_v16 (w : World) : (bd 22 #[]).run Try.prog w = .ok (.agg z16) w := by kernel_rfl
theorem z16_bs : z16 = (bs (List.replicate 16 0)).toArray := rfl
theorem z16_st (w : World) (b p : Nat) (h : okA w b p 16 = true) : (st 22 (.pointer (some ⟨b, p, none⟩)) (.agg z16)).run Try.prog w = .ok () (putW w b p z16) := a16_st ⟨List.replicate 16 0, by simp⟩ w b p h

set_option maxHeartbeats 2000000 in
theorem Secret_bad (seed : By 32) (leaf chain : Int) (h : ¬ ((0 ≤ leaf ∧ leaf ≤ 65535) ∧ (0 ≤ chain ∧ chain ≤ 34))) (w : World) :
    Calls Try.prog 16 #[.agg (bs seed.1).toArray, .int .i64 leaf, .int .i64 chain] w fun e w' => e = .returned (.tuple #[.agg z16, .int .i64 2]) ∧ Fr0 w w' := by
  have hsz : (bs seed.1).toArray.size = 32 := by simp [seed.2]
  obtain ⟨V, hV⟩ : ∃ V, V = (bs seed.1).toArray := ⟨_, rfl⟩
  rw [← hV] at hsz ⊢
  clear hV
  obtain ⟨Z, hZ⟩ : ∃ Z, Z = z16 := ⟨_, rfl⟩
  have hbd := run_bd_v16
  have hst := z16_st
  rw [← hZ] at hbd hst ⊢
  obtain ⟨w2, hw2⟩ : ∃ w2, w2 = (w.alloc (.cells V 31)).alloc (.cells z16 22) := ⟨_, rfl⟩
  obtain ⟨hb0, hb1, hf, hs⟩ := alloc2 _ _ _ _ _ _ hw2
  have hok := hb1.okA 0 16 (by simp)
  have hput := ldA_put (n := 16) hb1 Z (by rw [hZ]; rfl) (by simp)
  have HP := Lib.hid hput
  have HF := Lib.hid hf
  have HW := Lib.hid hw2
  clear hb0 hb1 hf hs hw2 hput hZ
  go_enter Try.func16, Try.ntmps16
  go_wp2_with fail
  rw [← HW.out]
  refine (valid_any _ _ _).mono ?_
  rintro e w3 ⟨rfl, rfl⟩
  rw [decide_eq_false h]
  go_wp2_with fail
  refine bodyPost_agg2 (n := 16) (cs := Z) rfl Try.underlying22 rfl info__16_uint8 (by rfl) ?_ rfl ?_
  · exact HP.out
  · exact ⟨rfl, HF.out.put (S := fun _ => False) (fun h => by omega) _ _⟩

set_option maxHeartbeats 2000000 in
theorem Secret_ok (seed : By 32) (leaf chain : Nat) (h1 : leaf ≤ 65535) (h2 : chain ≤ 34) (w : World) :
    Calls Try.prog 16 #[.agg (bs seed.1).toArray, .int .i64 (leaf : Int), .int .i64 (chain : Int)] w fun e w' => e = .returned (.tuple #[.agg (bs (secB seed.1 leaf chain)).toArray, .int .i64 0]) ∧ Fr0 w w' := by
  have hsz : (bs seed.1).toArray.size = 32 := by simp [seed.2]
  obtain ⟨V, hV⟩ : ∃ V, V = (bs seed.1).toArray := ⟨_, rfl⟩
  rw [← hV] at hsz ⊢
  obtain ⟨w2, hw2⟩ : ∃ w2, w2 = (w.alloc (.cells V 31)).alloc (.cells z16 22) := ⟨_, rfl⟩
  obtain ⟨hb0, hb1, hf, hs⟩ := alloc2 _ _ _ _ _ _ hw2
  have hld := blk_all hb0 hsz
  have HV := Lib.hid hV
  have HB := Lib.hid hb1
  have HF := Lib.hid hf
  have HW := Lib.hid hw2
  have hr : ((0 ≤ (leaf : Int) ∧ (leaf : Int) ≤ 65535) ∧ (0 ≤ (chain : Int) ∧ (chain : Int) ≤ 34)) := by omega
  have HR := Lib.hid hr
  clear hb0 hb1 hf hs hw2 hV hr
  go_enter Try.func16, Try.ntmps16
  go_wp2_with fail
  rw [← HW.out]
  refine (valid_any _ _ _).mono ?_
  rintro e w3 ⟨rfl, rfl⟩
  rw [decide_eq_true HR.out]
  go_wp2_with fail
  rw [HV.out]
  refine (secret_any seed leaf chain h1 w2).mono ?_
  rintro e w3 ⟨rfl, hf3⟩
  have hst2 := a16_st ⟨secB seed.1 leaf chain, secB_length _ _ _⟩
  change ∀ (w : World) (b' p : Nat), okA w b' p 16 = true → (st 22 (.pointer (some ⟨b', p, none⟩)) (.agg (bs (secB seed.1 leaf chain)).toArray)).run Try.prog w = .ok () (putW w b' p (bs (secB seed.1 leaf chain)).toArray) at hst2
  have hB3 := HB.out.fr hf3 (fun h => h)
  have hok := hB3.okA 0 16 (by simp)
  have hput := ldA_put (n := 16) hB3 (bs (secB seed.1 leaf chain)).toArray (by simp [secB_length]) (by simp)
  have HP := Lib.hid hput
  have HF3 := Lib.hid (HF.out.trans hf3)
  clear hf3 hB3 hput hld
  go_wp2_with fail
  refine bodyPost_agg2 (n := 16) (cs := (bs (secB seed.1 leaf chain)).toArray) rfl Try.underlying22 rfl info__16_uint8 (by rfl) ?_ rfl ?_
  · exact HP.out
  · exact ⟨rfl, HF3.out.put (S := fun _ => False) (fun h => by omega) _ _⟩
end Go.Proofs.Ytjdbfedkadoklaa
