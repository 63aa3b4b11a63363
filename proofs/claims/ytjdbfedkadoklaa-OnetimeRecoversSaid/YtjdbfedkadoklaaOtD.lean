/- One-time signatures: Step and Advance with their ranges. No condition. -/
import Derived.Test.YtjdbfedkadoklaaOtC
namespace Go.Proofs.Ytjdbfedkadoklaa
set_option linter.unusedVariables false
set_option linter.unusedSimpArgs false
set_option maxRecDepth 10000
open Go.RowKit
attribute [local go_sem ↓] Go.wp_at_zero Go.wp_at_succ

set_option maxHeartbeats 4000000 in
theorem Step_bad (leaf chain at_ : Int) (v : By 16) (h : ¬ (((0 ≤ leaf ∧ leaf ≤ 65535) ∧ (0 ≤ chain ∧ chain ≤ 34)) ∧ (0 ≤ at_ ∧ at_ ≤ 14))) (w : World) :
    Calls Try.prog 19 #[.int .i64 leaf, .int .i64 chain, .int .i64 at_, .agg (bs v.1).toArray] w fun e w' => e = .returned (.tuple #[.agg z16, .int .i64 2]) ∧ Fr0 w w' := by
  have hsz : (bs v.1).toArray.size = 16 := by simp [v.2]
  obtain ⟨V, hV⟩ : ∃ V, V = (bs v.1).toArray := ⟨_, rfl⟩
  rw [← hV] at hsz ⊢
  clear hV
  obtain ⟨Z, hZ⟩ : ∃ Z, Z = z16 := ⟨_, rfl⟩
  have hbd := run_bd_v16
  have hst := z16_st
  rw [← hZ] at hbd hst ⊢
  obtain ⟨w2, hw2⟩ : ∃ w2, w2 = (w.alloc (.cells V 22)).alloc (.cells z16 22) := ⟨_, rfl⟩
  obtain ⟨hb0, hb1, hf, hs⟩ := alloc2 _ _ _ _ _ _ hw2
  have hok := hb1.okA 0 16 (by simp)
  have hput := ldA_put (n := 16) hb1 Z (by rw [hZ]; rfl) (by simp)
  have HP := Lib.hid hput
  have HF := Lib.hid hf
  have HW := Lib.hid hw2
  clear hb0 hb1 hf hs hw2 hput hZ
  go_enter Try.func19, Try.ntmps19
  go_wp2_with fail
  rw [← HW.out]
  refine (valid_any _ _ _).mono ?_
  rintro e w3 ⟨rfl, rfl⟩
  by_cases hv : (0 ≤ leaf ∧ leaf ≤ 65535) ∧ (0 ≤ chain ∧ chain ≤ 34)
  · have HH := Lib.hid (show ¬ (0 ≤ at_ ∧ at_ ≤ 14) from fun hh => h ⟨hv, hh⟩)
    rw [decide_eq_true hv]
    clear h hv
    go_wp2_with fail
    refine (within_any _ _ _).mono ?_
    rintro e w3 ⟨rfl, rfl⟩
    rw [decide_eq_false HH.out]
    go_wp2_with fail
    refine bodyPost_agg2 (n := 16) (cs := Z) rfl Try.underlying22 rfl info__16_uint8 (by rfl) ?_ rfl ?_
    · exact HP.out
    · exact ⟨rfl, HF.out.put (S := fun _ => False) (fun h => by omega) _ _⟩
  · rw [decide_eq_false hv]
    clear h hv
    go_wp2_with fail
    refine bodyPost_agg2 (n := 16) (cs := Z) rfl Try.underlying22 rfl info__16_uint8 (by rfl) ?_ rfl ?_
    · exact HP.out
    · exact ⟨rfl, HF.out.put (S := fun _ => False) (fun h => by omega) _ _⟩

set_option maxHeartbeats 4000000 in
theorem Step_ok (leaf chain at_ : Nat) (v : By 16) (h1 : leaf ≤ 65535) (h2 : chain ≤ 34) (h3 : at_ ≤ 14) (w : World) :
    Calls Try.prog 19 #[.int .i64 (leaf : Int), .int .i64 (chain : Int), .int .i64 (at_ : Int), .agg (bs v.1).toArray] w fun e w' => e = .returned (.tuple #[.agg (bs (stepB leaf chain at_ v.1)).toArray, .int .i64 0]) ∧ Fr0 w w' := by
  have HR := Lib.hid (show ((0 ≤ (leaf : Int) ∧ (leaf : Int) ≤ 65535) ∧ (0 ≤ (chain : Int) ∧ (chain : Int) ≤ 34)) by omega)
  have HR2 := Lib.hid (show (0 ≤ (at_ : Int) ∧ (at_ : Int) ≤ 14) by omega)
  have hsz : (bs v.1).toArray.size = 16 := by simp [v.2]
  obtain ⟨V, hV⟩ : ∃ V, V = (bs v.1).toArray := ⟨_, rfl⟩
  rw [← hV] at hsz ⊢
  obtain ⟨w2, hw2⟩ : ∃ w2, w2 = (w.alloc (.cells V 22)).alloc (.cells z16 22) := ⟨_, rfl⟩
  obtain ⟨hb0, hb1, hf, hs⟩ := alloc2 _ _ _ _ _ _ hw2
  have hld := blk_all hb0 hsz
  have HV := Lib.hid hV
  have HB := Lib.hid hb1
  have HF := Lib.hid hf
  have HW := Lib.hid hw2
  clear hb0 hb1 hf hs hw2 hV
  go_enter Try.func19, Try.ntmps19
  go_wp2_with fail
  rw [← HW.out]
  refine (valid_any _ _ _).mono ?_
  rintro e w3 ⟨rfl, rfl⟩
  rw [decide_eq_true HR.out]
  go_wp2_with fail
  refine (within_any _ _ _).mono ?_
  rintro e w3 ⟨rfl, rfl⟩
  rw [decide_eq_true HR2.out]
  go_wp2_with fail
  rw [HV.out]
  refine (step_any leaf chain at_ h1 v w2).mono ?_
  rintro e w3 ⟨rfl, hf3⟩
  have hst2 := a16_st ⟨stepB leaf chain at_ v.1, stepB_length _ _ _ _⟩
  change ∀ (w : World) (b' p : Nat), okA w b' p 16 = true → (st 22 (.pointer (some ⟨b', p, none⟩)) (.agg (bs (stepB leaf chain at_ v.1)).toArray)).run Try.prog w = .ok () (putW w b' p (bs (stepB leaf chain at_ v.1)).toArray) at hst2
  have hB3 := HB.out.fr hf3 (fun h => h)
  have hok := hB3.okA 0 16 (by simp)
  obtain ⟨Y, hY⟩ : ∃ Y, Y = (bs (stepB leaf chain at_ v.1)).toArray := ⟨_, rfl⟩
  rw [← hY] at hst2 ⊢
  have hput := ldA_put (n := 16) hB3 Y (by rw [hY]; simp [stepB_length, v.2]) (by simp)
  have HP := Lib.hid hput
  have HF3 := Lib.hid (HF.out.trans hf3)
  have HY := Lib.hid hY
  clear hf3 hB3 hput hld hY
  go_wp2_with fail
  refine bodyPost_agg2 (n := 16) (cs := Y) rfl Try.underlying22 rfl info__16_uint8 (by rfl) ?_ rfl ?_
  · exact HP.out
  · exact ⟨by rw [← HY.out]; rfl, HF3.out.put (S := fun _ => False) (fun h => by omega) _ _⟩

set_option maxHeartbeats 4000000 in
theorem Advance_bad (leaf chain a b : Int) (v : By 16) (h : ¬ (((0 ≤ leaf ∧ leaf ≤ 65535) ∧ (0 ≤ chain ∧ chain ≤ 34)) ∧ (0 ≤ a ∧ a ≤ b) ∧ (0 ≤ b ∧ b ≤ 15))) (w : World) :
    Calls Try.prog 20 #[.int .i64 leaf, .int .i64 chain, .int .i64 a, .int .i64 b, .agg (bs v.1).toArray] w fun e w' => e = .returned (.tuple #[.agg z16, .int .i64 2]) ∧ Fr0 w w' := by
  have hsz : (bs v.1).toArray.size = 16 := by simp [v.2]
  obtain ⟨V, hV⟩ : ∃ V, V = (bs v.1).toArray := ⟨_, rfl⟩
  rw [← hV] at hsz ⊢
  clear hV
  obtain ⟨Z, hZ⟩ : ∃ Z, Z = z16 := ⟨_, rfl⟩
  have hbd := run_bd_v16
  have hst := z16_st
  rw [← hZ] at hbd hst ⊢
  obtain ⟨w2, hw2⟩ : ∃ w2, w2 = (w.alloc (.cells V 22)).alloc (.cells z16 22) := ⟨_, rfl⟩
  obtain ⟨hb0, hb1, hf, hs⟩ := alloc2 _ _ _ _ _ _ hw2
  have hok := hb1.okA 0 16 (by simp)
  have hput := ldA_put (n := 16) hb1 Z (by rw [hZ]; rfl) (by simp)
  have HP := Lib.hid hput
  have HF := Lib.hid hf
  have HW := Lib.hid hw2
  clear hb0 hb1 hf hs hw2 hput hZ
  go_enter Try.func20, Try.ntmps20
  go_wp2_with fail
  rw [← HW.out]
  refine (valid_any _ _ _).mono ?_
  rintro e w3 ⟨rfl, rfl⟩
  by_cases hv : (0 ≤ leaf ∧ leaf ≤ 65535) ∧ (0 ≤ chain ∧ chain ≤ 34)
  · rw [decide_eq_true hv]
    by_cases hw : 0 ≤ a ∧ a ≤ b
    · have HH := Lib.hid (show ¬ (0 ≤ b ∧ b ≤ 15) from fun hh => h ⟨hv, hw, hh⟩)
      have HW2 := Lib.hid hw
      clear h hv hw
      go_wp2_with fail
      refine (within_any _ _ _).mono ?_
      rintro e w3 ⟨rfl, rfl⟩
      rw [decide_eq_true HW2.out]
      go_wp2_with fail
      refine (within_any _ _ _).mono ?_
      rintro e w3 ⟨rfl, rfl⟩
      rw [decide_eq_false HH.out]
      go_wp2_with fail
      refine bodyPost_agg2 (n := 16) (cs := Z) rfl Try.underlying22 rfl info__16_uint8 (by rfl) ?_ rfl ?_
      · exact HP.out
      · exact ⟨rfl, HF.out.put (S := fun _ => False) (fun h => by omega) _ _⟩
    · have HW2 := Lib.hid hw
      clear h hv hw
      go_wp2_with fail
      refine (within_any _ _ _).mono ?_
      rintro e w3 ⟨rfl, rfl⟩
      rw [decide_eq_false HW2.out]
      go_wp2_with fail
      refine bodyPost_agg2 (n := 16) (cs := Z) rfl Try.underlying22 rfl info__16_uint8 (by rfl) ?_ rfl ?_
      · exact HP.out
      · exact ⟨rfl, HF.out.put (S := fun _ => False) (fun h => by omega) _ _⟩
  · rw [decide_eq_false hv]
    clear h hv
    go_wp2_with fail
    refine bodyPost_agg2 (n := 16) (cs := Z) rfl Try.underlying22 rfl info__16_uint8 (by rfl) ?_ rfl ?_
    · exact HP.out
    · exact ⟨rfl, HF.out.put (S := fun _ => False) (fun h => by omega) _ _⟩

set_option maxHeartbeats 4000000 in
theorem Advance_ok (leaf chain a b : Nat) (v : By 16) (h1 : leaf ≤ 65535) (h2 : chain ≤ 34) (h3 : a ≤ b) (h4 : b ≤ 15) (w : World) :
    Calls Try.prog 20 #[.int .i64 (leaf : Int), .int .i64 (chain : Int), .int .i64 (a : Int), .int .i64 (b : Int), .agg (bs v.1).toArray] w fun e w' => e = .returned (.tuple #[.agg (bs (advB leaf chain a (b - a) v.1)).toArray, .int .i64 0]) ∧ Fr0 w w' := by
  have HR := Lib.hid (show ((0 ≤ (leaf : Int) ∧ (leaf : Int) ≤ 65535) ∧ (0 ≤ (chain : Int) ∧ (chain : Int) ≤ 34)) by omega)
  have HR2 := Lib.hid (show (0 ≤ (a : Int) ∧ (a : Int) ≤ (b : Int)) by omega)
  have HR3 := Lib.hid (show (0 ≤ (b : Int) ∧ (b : Int) ≤ 15) by omega)
  have hsz : (bs v.1).toArray.size = 16 := by simp [v.2]
  obtain ⟨V, hV⟩ : ∃ V, V = (bs v.1).toArray := ⟨_, rfl⟩
  rw [← hV] at hsz ⊢
  obtain ⟨w2, hw2⟩ : ∃ w2, w2 = (w.alloc (.cells V 22)).alloc (.cells z16 22) := ⟨_, rfl⟩
  obtain ⟨hb0, hb1, hf, hs⟩ := alloc2 _ _ _ _ _ _ hw2
  have hld := blk_all hb0 hsz
  have HV := Lib.hid hV
  have HB := Lib.hid hb1
  have HF := Lib.hid hf
  have HW := Lib.hid hw2
  clear hb0 hb1 hf hs hw2 hV
  go_enter Try.func20, Try.ntmps20
  go_wp2_with fail
  rw [← HW.out]
  refine (valid_any _ _ _).mono ?_
  rintro e w3 ⟨rfl, rfl⟩
  rw [decide_eq_true HR.out]
  go_wp2_with fail
  refine (within_any _ _ _).mono ?_
  rintro e w3 ⟨rfl, rfl⟩
  rw [decide_eq_true HR2.out]
  go_wp2_with fail
  refine (within_any _ _ _).mono ?_
  rintro e w3 ⟨rfl, rfl⟩
  rw [decide_eq_true HR3.out]
  go_wp2_with fail
  rw [HV.out]
  refine (advance_any leaf chain a b h1 h4 h3 v w2).mono ?_
  rintro e w3 ⟨rfl, hf3⟩
  have hst2 := a16_st ⟨advB leaf chain a (b - a) v.1, advB_length _ _ _ _ _ v.2⟩
  change ∀ (w : World) (b' p : Nat), okA w b' p 16 = true → (st 22 (.pointer (some ⟨b', p, none⟩)) (.agg (bs (advB leaf chain a (b - a) v.1)).toArray)).run Try.prog w = .ok () (putW w b' p (bs (advB leaf chain a (b - a) v.1)).toArray) at hst2
  have hB3 := HB.out.fr hf3 (fun h => h)
  have hok := hB3.okA 0 16 (by simp)
  obtain ⟨Y, hY⟩ : ∃ Y, Y = (bs (advB leaf chain a (b - a) v.1)).toArray := ⟨_, rfl⟩
  rw [← hY] at hst2 ⊢
  have hput := ldA_put (n := 16) hB3 Y (by rw [hY]; simp [advB_length, v.2]) (by simp)
  have HP := Lib.hid hput
  have HF3 := Lib.hid (HF.out.trans hf3)
  have HY := Lib.hid hY
  clear hf3 hB3 hput hld hY
  go_wp2_with fail
  refine bodyPost_agg2 (n := 16) (cs := Y) rfl Try.underlying22 rfl info__16_uint8 (by rfl) ?_ rfl ?_
  · exact HP.out
  · exact ⟨by rw [← HY.out]; rfl, HF3.out.put (S := fun _ => False) (fun h => by omega) _ _⟩
end Go.Proofs.Ytjdbfedkadoklaa
