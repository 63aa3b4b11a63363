/- OnetimeSecrets: the law's walk. No condition. -/
import Derived.Test.YtjdbfedkadoklaaOtK
namespace Go.Proofs.Ytjdbfedkadoklaa
set_option linter.unusedVariables false
set_option linter.unusedSimpArgs false
set_option maxRecDepth 10000
open Go.RowKit
attribute [local go_sem ↓] Go.wp_at_zero Go.wp_at_succ

theorem run_z16_same (w : World) : (eqv 22 (.agg z16) (.agg z16)).run Try.prog w = .ok (.bool true) w := run_a16_same w (List.replicate 16 0) (by simp)

def TT5 : List (List Nat) := [[], [0], [0, 1], [0, 1, 2], [0, 1, 2, 3], [0, 1, 2, 3, 4], [0, 1, 2, 3, 4, 5], [0, 1, 2, 3, 4, 5], [0, 1, 2, 3, 4, 5], [0, 1, 2, 3, 4, 5], [0, 1, 2, 3, 4, 5, 7, 8, 9], [0, 1, 2, 3, 4, 5, 6, 7, 8, 9, 10], [0, 1, 2, 3, 4, 5, 6, 7, 8, 9, 10, 11], [0, 1, 2, 3, 4, 5, 6, 7, 8, 9, 10, 11, 12]]
set_option maxHeartbeats 4000000 in
theorem secrets_bad (seed : By 32) (leaf chain : Int) (h : ¬ ((0 ≤ leaf ∧ leaf ≤ 65535) ∧ (0 ≤ chain ∧ chain ≤ 34))) (w : World) :
    Calls Try.prog 5 #[.agg (bs seed.1).toArray, .int .i64 leaf, .int .i64 chain] w fun e w' => e = .returned (.bool true) ∧ Fr0 w w' := by
  have hsz : (bs seed.1).toArray.size = 32 := by simp [seed.2]
  obtain ⟨V, HV⟩ := nm (bs seed.1).toArray
  rw [← HV.out] at hsz ⊢
  obtain ⟨Z, HZ⟩ := nm z16
  have hst := z16_st
  have hbd := run_bd_v16
  have heq := run_z16_same
  have hzs : Z.size = 16 := by rw [HZ.out]; rfl
  rw [← HZ.out] at hst hbd heq
  have hl := (Blk.new w 31 V).all hsz
  have HF1 := Lib.hid ((Fr.refl (fun _ => False) w).alloc (.cells V 31))
  go_enter Try.func5, Try.ntmps5
  go_wp2_with fail
  rw [HV.out]
  refine (Secret_bad seed leaf chain h _).mono ?_
  rintro e w3 ⟨rfl, hf3⟩
  rw [← HZ.out, ← HV.out]
  have HF3 := Lib.hid (HF1.out.trans (HV.out ▸ hf3))
  clear hf3
  go_wp2_with fail
  obtain ⟨w4, HW4⟩ := nm (w3.alloc (.cells Z 22))
  have hb4 : Blk w4 w3.heap.size 22 Z := by rw [HW4.out]; exact Blk.new _ _ _
  have HB4 := Lib.hid hb4
  have HF4 := Lib.hid (show Fr0 w w4 from by rw [HW4.out]; exact HF3.out.alloc _)
  clear hb4
  rw [← HW4.out]
  refine (in_any _ _ _).mono ?_
  rintro e w5 ⟨rfl, rfl⟩
  by_cases h1 : 0 ≤ leaf ∧ leaf ≤ 65535
  · rw [decide_eq_true h1]
    have h2 : ¬ (0 ≤ chain ∧ chain ≤ 34) := fun h' => h ⟨h1, h'⟩
    have H2 := Lib.hid h2
    clear h h1 h2
    go_wp2_with fail
    refine (in_any _ _ _).mono ?_
    rintro e w5 ⟨rfl, rfl⟩
    rw [decide_eq_false H2.out]
    go_wp2_with fail
    refine (known_any _).mono ?_
    rintro e w5 ⟨rfl, hf5⟩
    have hl5 := (HB4.out.fr hf5 (fun h => h)).all hzs
    have HF5 := Lib.hid (HF4.out.trans hf5)
    clear hf5
    go_wp2_with fail
    go_ret
    exact ⟨rfl, HF5.out⟩
  · rw [decide_eq_false h1]
    clear h h1
    go_wp2_with fail
    refine (known_any _).mono ?_
    rintro e w5 ⟨rfl, hf5⟩
    have hl5 := (HB4.out.fr hf5 (fun h => h)).all hzs
    have HF5 := Lib.hid (HF4.out.trans hf5)
    clear hf5
    go_wp2_with fail
    go_ret
    exact ⟨rfl, HF5.out⟩

set_option maxHeartbeats 4000000 in
theorem secrets_ok (seed : By 32) (leaf chain : Nat) (h1 : leaf ≤ 65535) (h2 : chain ≤ 34) (w : World) :
    Calls Try.prog 5 #[.agg (bs seed.1).toArray, .int .i64 (leaf : Int), .int .i64 (chain : Int)] w fun e w' => e = .returned (.bool true) ∧ Fr0 w w' := by
  have hsz : (bs seed.1).toArray.size = 32 := by simp [seed.2]
  obtain ⟨V, HV⟩ := nm (bs seed.1).toArray
  rw [← HV.out] at hsz ⊢
  have hst2 := a16_st ⟨secB seed.1 leaf chain, secB_length _ _ _⟩
  change ∀ (w : World) (b' p : Nat), okA w b' p 16 = true → (st 22 (.pointer (some ⟨b', p, none⟩)) (.agg (bs (secB seed.1 leaf chain)).toArray)).run Try.prog w = .ok () (putW w b' p (bs (secB seed.1 leaf chain)).toArray) at hst2
  have hxs : (bs (secB seed.1 leaf chain)).toArray.size = 16 := by simp [secB_length]
  have heq := fun w => run_rv_same w (secB seed.1 leaf chain) (secB_length _ _ _)
  obtain ⟨X, HX⟩ := nm (bs (secB seed.1 leaf chain)).toArray
  rw [← HX.out] at hst2 hxs
  have heq : ∀ w, (eqv 36 (.agg X) (.agg X)).run Try.prog w = .ok (.bool true) w := fun w => by rw [HX.out]; exact heq w
  obtain ⟨w1, HW1⟩ := nm (w.alloc (.cells V 31))
  have hb1 : Blk w1 w.heap.size 31 V := by rw [HW1.out]; exact Blk.new _ _ _
  have HB1 := Lib.hid hb1
  have HF1 := Lib.hid (show Fr0 w w1 from by rw [HW1.out]; exact (Fr.refl _ _).alloc _)
  have hl := hb1.all hsz
  have H1 := Lib.hid (show (0 : Int) ≤ (leaf : Int) ∧ (leaf : Int) ≤ 65535 by omega)
  have H2 := Lib.hid (show (0 : Int) ≤ (chain : Int) ∧ (chain : Int) ≤ 34 by omega)
  clear hb1
  go_enter Try.func5, Try.ntmps5
  go_wp2_with fail
  rw [← HW1.out, HV.out]
  refine (Secret_ok seed leaf chain h1 h2 _).mono ?_
  rintro e w3 ⟨rfl, hf3⟩
  rw [← HX.out, ← HV.out]
  have HB3 := Lib.hid (HB1.out.fr hf3 (fun h => h))
  have HF3 := Lib.hid (HF1.out.trans hf3)
  clear hf3 hl
  go_wp2_with fail
  obtain ⟨w4, HW4⟩ := nm (w3.alloc (.cells X 22))
  have hb4 : Blk w4 w3.heap.size 22 X := by rw [HW4.out]; exact Blk.new _ _ _
  have HB4 := Lib.hid hb4
  have HB4' := Lib.hid (show Blk w4 w.heap.size 31 V from by rw [HW4.out]; exact HB3.out.alloc _)
  have HF4 := Lib.hid (show Fr0 w w4 from by rw [HW4.out]; exact HF3.out.alloc _)
  clear hb4
  rw [← HW4.out]
  refine (in_any _ _ _).mono ?_
  rintro e w5 ⟨rfl, rfl⟩
  rw [decide_eq_true H1.out]
  go_wp2_with fail
  refine (in_any _ _ _).mono ?_
  rintro e w5 ⟨rfl, rfl⟩
  rw [decide_eq_true H2.out]
  go_wp2_with fail
  refine reg_start (by kernel_rfl) ?_
  refine reg_seq 47 6 TT5 (by kernel_rfl) (by kernel_rfl) rfl rfl ?_
  go_wp2_with fail
  refine (known_any _).mono ?_
  rintro e w5 ⟨rfl, hf5⟩
  have HB5 := Lib.hid ((HB4.out.drew.fr hf5 (fun h => h)))
  have HB5' := Lib.hid ((HB4'.out.drew.fr hf5 (fun h => h)))
  have HF5 := Lib.hid (HF4.out.trans ((Fr.drew (Fr.refl _ _)).trans hf5))
  clear hf5
  go_wp2_with fail
  refine QR.mk ?_
  refine reg_uno (D := [some 34, some 35, some 36, some 37, some 38, some 39, some 40, some 41, some 42, some 43, some 44, some 45, some 46, some 6]) (J := [6, 7, 8, 9, 10]) 11 [] [PV (.agg X), PV (.agg V), PV (.int .i64 (leaf : Int)), PV (.int .i64 (chain : Int)), PV (.agg X)] TT5 (by kernel_rfl) (by kernel_rfl) (by kernel_rfl) rfl rfl rfl
    (stab_cons (PV.stab _) (stab_cons (PV.stab _) (stab_cons (PV.stab _) (stab_cons (PV.stab _) (stab_cons (PV.stab _) stab_nil)))))
    (fun v => usteps_cons ?_ (usteps_cons ?_ (usteps_cons ?_ (usteps_cons ?_ (usteps_cons ?_ (usteps_nil)))))) (fun v wx hx hP hA => ?_)
  · refine ustep_mk (D := [some 34, some 35, some 36, some 37, some 38, some 39, some 40, some 41, some 42, some 43, some 44, some 45, some 46, some 6]) (Ti := []) rfl rfl rfl rfl (fun wx hx hP => ?_)   -- 6: load 22 (tmp 7)
    have hl := (HB5.out.fr hx (fun h => h)).all hxs
    clear hP
    simp only [putD, List.getD_cons_zero, List.getD_cons_succ]
    go_wp2_with fail
    exact Q1.mk rfl _ rfl ⟨Fr.refl _ _, rfl, frok_no rfl⟩
  · refine ustep_mk (D := [some 34, some 35, some 36, some 37, some 38, some 39, some 40, some 41, some 42, some 43, some 44, some 45, some 46, some 6]) (Ti := []) rfl rfl rfl rfl (fun wx hx hP => ?_)   -- 7: load 31 (tmp 3)
    have hl := (HB5'.out.fr hx (fun h => h)).all hsz
    clear hP
    simp only [putD, List.getD_cons_zero, List.getD_cons_succ]
    go_wp2_with fail
    exact Q1.mk rfl _ rfl ⟨Fr.refl _ _, rfl, frok_no rfl⟩
  · refine ustep_mk (D := [some 34, some 35, some 36, some 37, some 38, some 39, some 40, some 41, some 42, some 43, some 44, some 45, some 46, some 6]) (Ti := []) rfl rfl rfl rfl (fun wx hx hP => ?_)   -- 8: move (tmp 1)
    clear hP
    simp only [putD, List.getD_cons_zero, List.getD_cons_succ]
    go_wp2_with fail
    exact Q1.mk rfl _ rfl ⟨Fr.refl _ _, rfl, frok_no rfl⟩
  · refine ustep_mk (D := [some 34, some 35, some 36, some 37, some 38, some 39, some 40, some 41, some 42, some 43, some 44, some 45, some 46, some 6]) (Ti := []) rfl rfl rfl rfl (fun wx hx hP => ?_)   -- 9: move (tmp 2)
    clear hP
    simp only [putD, List.getD_cons_zero, List.getD_cons_succ]
    go_wp2_with fail
    exact Q1.mk rfl _ rfl ⟨Fr.refl _ _, rfl, frok_no rfl⟩
  · refine ustep_mk (D := [some 34, some 35, some 36, some 37, some 38, some 39, some 40, some 41, some 42, some 43, some 44, some 45, some 46, some 6]) (Ti := [7, 8, 9]) rfl rfl rfl rfl (fun wx hx hP => ?_)   -- 10: call { callee := Callee.value (func 18), args := #
    have h7 : v 7 = .agg V := hP.1
    have h8 : v 8 = .int .i64 (leaf : Int) := hP.2.1
    have h9 : v 9 = .int .i64 (chain : Int) := hP.2.2.1
    clear hP
    simp only [putD, List.getD_cons_zero, List.getD_cons_succ]
    go_wp2_with fail
    rw [HV.out]
    refine (rsecret_any seed leaf chain h1 _).mono ?_
    rintro e wy ⟨rfl, hfy⟩
    rw [← HX.out, ← HV.out]
    go_wp2_with fail
    exact Q1.mk rfl _ rfl ⟨hfy, rfl, frok_no rfl⟩
  have h6 : v 6 = .agg X := hP.1
  have h7 : v 7 = .agg V := hP.2.1
  have h8 : v 8 = .int .i64 (leaf : Int) := hP.2.2.1
  have h9 : v 9 = .int .i64 (chain : Int) := hP.2.2.2.1
  have h10 : v 10 = .agg X := hP.2.2.2.2.1
  have HE := Lib.hid (HF5.out.trans hx)
  clear hx
  clear hP
  simp only [putD, List.getD_cons_zero, List.getD_cons_succ]
  refine reg_seq 47 3 TT5 (by kernel_rfl) (by kernel_rfl) rfl rfl ?_
  go_wp2_with fail
  refine QR.mk ?_
  refine reg_end (by decide) ?_
  go_wp2_with fail
  go_ret
  exact ⟨rfl, HE.out⟩

theorem secrets_walk (seed : By 32) (leaf chain : Int) (w : World) :
    Calls Try.prog 5 #[.agg (bs seed.1).toArray, .int .i64 leaf, .int .i64 chain] w fun e w' => e = .returned (.bool true) ∧ Below w.heap.size w w' := by
  by_cases h : (0 ≤ leaf ∧ leaf ≤ 65535) ∧ (0 ≤ chain ∧ chain ≤ 34)
  · obtain ⟨l, rfl⟩ := Int.eq_ofNat_of_zero_le h.1.1
    obtain ⟨c, rfl⟩ := Int.eq_ofNat_of_zero_le h.2.1
    exact (secrets_ok seed l c (by omega) (by omega) w).mono fun e w' ⟨h1, h2⟩ => ⟨h1, Fr0.below h2⟩
  · exact (secrets_bad seed leaf chain h w).mono fun e w' ⟨h1, h2⟩ => ⟨h1, Fr0.below h2⟩
end Go.Proofs.Ytjdbfedkadoklaa
