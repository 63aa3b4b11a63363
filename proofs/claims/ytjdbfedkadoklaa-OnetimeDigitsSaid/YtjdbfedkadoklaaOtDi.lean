/- OnetimeDigits: the law's walk. Printed by gen_digits.py. No condition. -/
import Derived.Test.YtjdbfedkadoklaaLowR
namespace Go.Proofs.Ytjdbfedkadoklaa
set_option linter.unusedVariables false
set_option linter.unusedSimpArgs false
set_option maxRecDepth 10000
open Go.RowKit
attribute [local go_sem ↓] Go.wp_at_zero Go.wp_at_succ

theorem a35_kinds : kindsOf Try.prog 3 27 = some (List.replicate 35 (.int .i64)) := by kernel_rfl
theorem nis_fits (l : List Nat) : Fits (List.replicate l.length (.int .i64)) (l.map iv) := by
  induction l with
  | nil => exact .nil
  | cons b l ih => exact .cons rfl ih
theorem run_nis_same (w : World) (l : List Nat) (hl : l.length = 35) : (eqv 27 (.agg (nis l)) (.agg (nis l))).run Try.prog w = .ok (.bool true) w := by
  have hf := nis_fits l
  rw [hl] at hf
  have := run_eql_flat w 3 a35_kinds (by omega) val__35_int (l.map iv) (l.map iv) hf hf
  rw [(sames_eq hf hf).2 rfl] at this
  exact this
def TT3 : List (List Nat) := [[], [0], [0, 1], [0, 1, 2], [0, 1], [0, 1, 2, 3, 4], [0, 1, 2, 3, 4, 5], [0, 1, 2, 3, 4, 5, 6], [0, 1, 2, 3, 4, 5, 6, 7], [0, 1, 2, 3, 4, 5, 6, 7, 8], [0, 1, 2, 3, 4, 5, 6, 7, 8, 9], [0, 1, 2, 3, 4, 5, 6, 7, 8], [0, 1, 2, 3, 4, 5, 6, 7, 8, 9, 10, 11], [0, 1, 2, 3, 4, 5, 6, 7, 8, 9, 10, 11, 12], [0, 1, 2, 3, 4, 5, 6, 7, 8, 9, 10, 11, 12, 13], [0, 1, 2, 3, 4, 5, 6, 7, 8, 9, 10, 11, 12, 13, 14], [0, 1, 2, 3, 4, 5, 6, 7, 8, 9, 10, 11, 12, 13, 14, 15], [0, 1, 2, 3, 4, 5, 6, 7, 8, 9, 10, 11, 12, 13, 14, 15], [0, 1, 2, 3, 4, 5, 6, 7, 8, 9, 10, 11, 12, 13, 14, 15, 17], [0, 1, 2, 3, 4, 5, 6, 7, 8, 9, 10, 11, 12, 13, 14, 15, 16, 17, 18], [0, 1, 2, 3, 4, 5, 6, 7, 8, 9, 10, 11, 12, 13, 14, 15, 16, 17, 18, 19], [0, 1, 2, 3, 4, 5, 6, 7, 8, 9, 10, 11, 12, 13, 14, 15, 16, 17, 18, 19, 20], [0, 1, 2, 3, 4, 5, 6, 7, 8, 9, 10, 11, 12, 13, 14, 15, 16, 17, 18, 19, 20, 21], [0, 1, 2, 3, 4, 5, 6, 7, 8, 9, 10, 11, 12, 13, 14, 15, 16, 17, 18, 19, 20, 21], [0, 1, 2, 3, 4, 5, 6, 7, 8, 9, 10, 11, 12, 13, 14, 15, 16, 17, 18, 19, 20, 21, 23], [0, 1, 2, 3, 4, 5, 6, 7, 8, 9, 10, 11, 12, 13, 14, 15, 16, 17, 18, 19, 20, 21, 22, 23, 24], [0, 1, 2, 3, 4, 5, 6, 7, 8, 9, 10, 11, 12, 13, 14, 15, 16, 17, 18, 19, 20, 21, 22, 23, 24, 25], [0, 1, 2, 3, 4, 5, 6, 7, 8, 9, 10, 11, 12, 13, 14, 15, 16, 17, 18, 19, 20, 21, 22, 23, 24, 25, 26]]
set_option maxHeartbeats 4000000 in
theorem digits_some (a b : By 16) (k : Nat) (w : World) (hlow : lowN a.1 b.1 = some k) :
    Calls Try.prog 3 #[.agg (bs a.1).toArray, .agg (bs b.1).toArray] w fun e w' => e = .returned (.bool true) ∧ Fr0 w w' := by
  have hsa : (bs a.1).toArray.size = 16 := by simp [a.2]
  have hsb : (bs b.1).toArray.size = 16 := by simp [b.2]
  obtain ⟨A, HA⟩ := nm (bs a.1).toArray
  obtain ⟨B, HB⟩ := nm (bs b.1).toArray
  rw [← HA.out] at hsa ⊢
  rw [← HB.out] at hsb ⊢
  have heX := fun w => run_nis_same w (splL a.1) (by simp)
  have heY := fun w => run_nis_same w (splL b.1) (by simp)
  obtain ⟨X, HX⟩ := nm (nis (splL a.1))
  obtain ⟨Y, HY⟩ := nm (nis (splL b.1))
  rw [← HX.out] at heX
  rw [← HY.out] at heY
  obtain ⟨w2, HW2⟩ := nm ((w.alloc (.cells A 22)).alloc (.cells B 22))
  obtain ⟨hb0, hb1, hf, hs⟩ := alloc2 _ _ _ _ _ _ HW2.out
  have HA2 := Lib.hid hb0
  have HB2 := Lib.hid hb1
  have HF2 := Lib.hid hf
  have l0 := hb0.all hsa
  have l1 := hb1.all hsb
  rw [HW2.out] at l0 l1
  have HLOW := Lib.hid hlow
  clear hb0 hb1 hf hs hlow
  go_enter Try.func3, Try.ntmps3
  go_wp2_with fail
  rw [← HW2.out, HA.out, HB.out]
  refine (lower_any a b _).mono ?_
  rintro e w4 ⟨rfl, hf4⟩
  rw [HLOW.out, ← HA.out, ← HB.out]
  have HA4 := Lib.hid (HA2.out.fr hf4 (fun h => h))
  have HB4 := Lib.hid (HB2.out.fr hf4 (fun h => h))
  have HF4 := Lib.hid (HF2.out.trans hf4)
  have l2 := HA4.out.all hsa
  have l3 := HB4.out.all hsb
  clear hf4 l0 l1
  go_wp2_with fail
  rw [HA.out, HB.out]
  refine (rlower_any a b _).mono ?_
  rintro e w5 ⟨rfl, hf5⟩
  rw [rlow, HLOW.out, ← HA.out, ← HB.out]
  have HA5 := Lib.hid (HA4.out.fr hf5 (fun h => h))
  have HB5 := Lib.hid (HB4.out.fr hf5 (fun h => h))
  have HF5 := Lib.hid (HF4.out.trans hf5)
  clear hf5 l2 l3
  simp only [iv, Option.getD_some, Option.getD_none, Option.isSome_some, Option.isSome_none]
  go_wp2_with fail
  refine reg_start (by kernel_rfl) ?_
  refine reg_seq' 44 2 TT3 (by kernel_rfl) (by kernel_rfl) ?_
  simp only [List.drop_succ_cons, List.drop_zero, List.take_succ_cons, List.take_zero]
  go_wp2_with fail
  refine (known_any _).mono ?_
  rintro e w6 ⟨rfl, hf6⟩
  have HA6 := Lib.hid (HA5.out.drew.fr hf6 (fun h => h))
  have HB6 := Lib.hid (HB5.out.drew.fr hf6 (fun h => h))
  have HF6 := Lib.hid (HF5.out.trans ((Fr.drew (Fr.refl _ _)).trans hf6))
  clear hf6
  go_wp2_with fail
  refine QR.mk ?_
  refine reg_uno (D := [some 17, some 18, some 19, some 20, some 21, some 22, some 23, some 24, some 25, some 26, some 27, some 28, some 29, some 30, some 31, some 32, some 33, some 34, some 35, some 36, some 37, some 38, some 39, some 40, some 41, some 42, some 43, some 4]) (J := [2, 3, 4]) 5 [] [PV (.agg A), PV (.agg X), PV (.agg A)] TT3 (by kernel_rfl) (by kernel_rfl) (by kernel_rfl) rfl rfl rfl
    (stab_cons (PV.stab _) (stab_cons (PV.stab _) (stab_cons (PV.stab _) stab_nil)))
    (fun v => usteps_cons ?_ (usteps_cons ?_ (usteps_cons ?_ (usteps_nil)))) (fun v wx hx hP hA => ?_)
  · refine ustep_mk (D := [some 17, some 18, some 19, some 20, some 21, some 22, some 23, some 24, some 25, some 26, some 27, some 28, some 29, some 30, some 31, some 32, some 33, some 34, some 35, some 36, some 37, some 38, some 39, some 40, some 41, some 42, some 43, some 4]) (Ti := []) rfl rfl rfl rfl (fun wx hx hP => ?_)   -- 2: load 22 (tmp 2)
    have hl := (HA6.out.fr hx (fun h => h)).all hsa
    clear hP
    simp only [putD, List.getD_cons_zero, List.getD_cons_succ]
    go_wp2_with fail
    exact Q1.mk rfl _ rfl ⟨Fr.refl _ _, rfl, frok_no rfl⟩
  · refine ustep_mk (D := [some 17, some 18, some 19, some 20, some 21, some 22, some 23, some 24, some 25, some 26, some 27, some 28, some 29, some 30, some 31, some 32, some 33, some 34, some 35, some 36, some 37, some 38, some 39, some 40, some 41, some 42, some 43, some 4]) (Ti := [2]) rfl rfl rfl rfl (fun wx hx hP => ?_)   -- 3: call { callee := Callee.value (func 14), args := #
    have h2 : v 2 = .agg A := hP.1
    clear hP
    simp only [putD, List.getD_cons_zero, List.getD_cons_succ]
    go_wp2_with fail
    rw [HA.out]
    refine (split_any a _).mono ?_
    rintro e wy ⟨rfl, hfy⟩
    rw [← HX.out]
    go_wp2_with fail
    exact Q1.mk rfl _ rfl ⟨hfy, rfl, frok_no rfl⟩
  · refine ustep_mk (D := [some 17, some 18, some 19, some 20, some 21, some 22, some 23, some 24, some 25, some 26, some 27, some 28, some 29, some 30, some 31, some 32, some 33, some 34, some 35, some 36, some 37, some 38, some 39, some 40, some 41, some 42, some 43, some 4]) (Ti := []) rfl rfl rfl rfl (fun wx hx hP => ?_)   -- 4: load 22 (tmp 2)
    have hl := (HA6.out.fr hx (fun h => h)).all hsa
    clear hP
    simp only [putD, List.getD_cons_zero, List.getD_cons_succ]
    go_wp2_with fail
    exact Q1.mk rfl _ rfl ⟨Fr.refl _ _, rfl, frok_no rfl⟩
  have h2 : v 2 = .agg A := hP.1
  have h3 : v 3 = .agg X := hP.2.1
  have h4 : v 4 = .agg A := hP.2.2.1
  have HB8 := Lib.hid (HB6.out.fr hx (fun h => h))
  have HF8 := Lib.hid (HF6.out.trans hx)
  clear hx hA
  clear hP
  simp only [putD, List.getD_cons_zero, List.getD_cons_succ]
  refine reg_seq' 44 4 TT3 (by kernel_rfl) (by kernel_rfl) ?_
  simp only [List.drop_succ_cons, List.drop_zero, List.take_succ_cons, List.take_zero]
  go_wp2_with fail
  rw [HA.out]
  refine (rsplit_any a _).mono ?_
  rintro e w7 ⟨rfl, hf7⟩
  rw [← HX.out]
  have HB7 := Lib.hid (HB8.out.fr hf7 (fun h => h))
  have HF7 := Lib.hid (HF8.out.trans hf7)
  clear hf7
  go_wp2_with fail
  refine QR.mk ?_
  refine reg_uno (D := [some 17, some 18, some 19, some 20, some 21, some 22, some 23, some 24, some 25, some 26, some 27, some 28, some 29, some 30, some 31, some 32, some 33, some 34, some 35, some 36, some 37, some 38, some 39, some 40, some 41, some 42, some 43, some 4]) (J := [9, 10, 11]) 12 [] [PV (.agg B), PV (.agg Y), PV (.agg B)] TT3 (by kernel_rfl) (by kernel_rfl) (by kernel_rfl) rfl rfl rfl
    (stab_cons (PV.stab _) (stab_cons (PV.stab _) (stab_cons (PV.stab _) stab_nil)))
    (fun v => usteps_cons ?_ (usteps_cons ?_ (usteps_cons ?_ (usteps_nil)))) (fun v wx hx hP hA => ?_)
  · refine ustep_mk (D := [some 17, some 18, some 19, some 20, some 21, some 22, some 23, some 24, some 25, some 26, some 27, some 28, some 29, some 30, some 31, some 32, some 33, some 34, some 35, some 36, some 37, some 38, some 39, some 40, some 41, some 42, some 43, some 4]) (Ti := []) rfl rfl rfl rfl (fun wx hx hP => ?_)   -- 9: load 22 (tmp 3)
    have hl := (HB7.out.fr hx (fun h => h)).all hsb
    clear hP
    simp only [putD, List.getD_cons_zero, List.getD_cons_succ]
    go_wp2_with fail
    exact Q1.mk rfl _ rfl ⟨Fr.refl _ _, rfl, frok_no rfl⟩
  · refine ustep_mk (D := [some 17, some 18, some 19, some 20, some 21, some 22, some 23, some 24, some 25, some 26, some 27, some 28, some 29, some 30, some 31, some 32, some 33, some 34, some 35, some 36, some 37, some 38, some 39, some 40, some 41, some 42, some 43, some 4]) (Ti := [9]) rfl rfl rfl rfl (fun wx hx hP => ?_)   -- 10: call { callee := Callee.value (func 14), args := #
    have h9 : v 9 = .agg B := hP.1
    clear hP
    simp only [putD, List.getD_cons_zero, List.getD_cons_succ]
    go_wp2_with fail
    rw [HB.out]
    refine (split_any b _).mono ?_
    rintro e wy ⟨rfl, hfy⟩
    rw [← HY.out]
    go_wp2_with fail
    exact Q1.mk rfl _ rfl ⟨hfy, rfl, frok_no rfl⟩
  · refine ustep_mk (D := [some 17, some 18, some 19, some 20, some 21, some 22, some 23, some 24, some 25, some 26, some 27, some 28, some 29, some 30, some 31, some 32, some 33, some 34, some 35, some 36, some 37, some 38, some 39, some 40, some 41, some 42, some 43, some 4]) (Ti := []) rfl rfl rfl rfl (fun wx hx hP => ?_)   -- 11: load 22 (tmp 3)
    have hl := (HB7.out.fr hx (fun h => h)).all hsb
    clear hP
    simp only [putD, List.getD_cons_zero, List.getD_cons_succ]
    go_wp2_with fail
    exact Q1.mk rfl _ rfl ⟨Fr.refl _ _, rfl, frok_no rfl⟩
  have h9 : v 9 = .agg B := hP.1
  have h10 : v 10 = .agg Y := hP.2.1
  have h11 : v 11 = .agg B := hP.2.2.1
  have HF9 := Lib.hid (HF7.out.trans hx)
  clear hx hA
  clear hP
  simp only [putD, List.getD_cons_zero, List.getD_cons_succ]
  refine reg_seq' 44 4 TT3 (by kernel_rfl) (by kernel_rfl) ?_
  simp only [List.drop_succ_cons, List.drop_zero, List.take_succ_cons, List.take_zero]
  go_wp2_with fail
  rw [HB.out]
  refine (rsplit_any b _).mono ?_
  rintro e w9 ⟨rfl, hf9⟩
  rw [← HY.out]
  have HF10 := Lib.hid (HF9.out.trans hf9)
  clear hf9
  go_wp2_with fail
  refine QR.mk ?_
  refine reg_uno (D := [some 17, some 18, some 19, some 20, some 21, some 22, some 23, some 24, some 25, some 26, some 27, some 28, some 29, some 30, some 31, some 32, some 33, some 34, some 35, some 36, some 37, some 38, some 39, some 40, some 41, some 42, some 43, some 4]) (J := [16, 17, 18]) 19 [] [PV (.bool true), PV (.int .i64 (k : Int)), PV (.bool true)] TT3 (by kernel_rfl) (by kernel_rfl) (by kernel_rfl) rfl rfl rfl
    (stab_cons (PV.stab _) (stab_cons (PV.stab _) (stab_cons (PV.stab _) stab_nil)))
    (fun v => usteps_cons ?_ (usteps_cons ?_ (usteps_cons ?_ (usteps_nil)))) (fun v wx hx hP hA => ?_)
  · refine ustep_mk (D := [some 17, some 18, some 19, some 20, some 21, some 22, some 23, some 24, some 25, some 26, some 27, some 28, some 29, some 30, some 31, some 32, some 33, some 34, some 35, some 36, some 37, some 38, some 39, some 40, some 41, some 42, some 43, some 4]) (Ti := []) rfl rfl rfl rfl (fun wx hx hP => ?_)   -- 16: move (tmp 6)
    clear hP
    simp only [putD, List.getD_cons_zero, List.getD_cons_succ]
    go_wp2_with fail
    exact Q1.mk rfl _ rfl ⟨Fr.refl _ _, rfl, frok_no rfl⟩
  · refine ustep_mk (D := [some 17, some 18, some 19, some 20, some 21, some 22, some 23, some 24, some 25, some 26, some 27, some 28, some 29, some 30, some 31, some 32, some 33, some 34, some 35, some 36, some 37, some 38, some 39, some 40, some 41, some 42, some 43, some 4]) (Ti := []) rfl rfl rfl rfl (fun wx hx hP => ?_)   -- 17: move (tmp 7)
    clear hP
    simp only [putD, List.getD_cons_zero, List.getD_cons_succ]
    go_wp2_with fail
    exact Q1.mk rfl _ rfl ⟨Fr.refl _ _, rfl, frok_no rfl⟩
  · refine ustep_mk (D := [some 17, some 18, some 19, some 20, some 21, some 22, some 23, some 24, some 25, some 26, some 27, some 28, some 29, some 30, some 31, some 32, some 33, some 34, some 35, some 36, some 37, some 38, some 39, some 40, some 41, some 42, some 43, some 4]) (Ti := [17]) rfl rfl rfl rfl (fun wx hx hP => ?_)   -- 18: binOp Bingeq 3 (tmp 34) (const (Value.int IntKind.
    have h17 : v 17 = .int .i64 (k : Int) := hP.1
    clear hP
    simp only [putD, List.getD_cons_zero, List.getD_cons_succ]
    go_wp2_with fail
    exact Q1.mk rfl _ rfl ⟨Fr.refl _ _, rfl, frok_no rfl⟩
  have h16 : v 16 = .bool true := hP.1
  have h17 : v 17 = .int .i64 (k : Int) := hP.2.1
  have h18 : v 18 = .bool true := hP.2.2.1
  have HF11 := Lib.hid (HF10.out.trans hx)
  clear hx hA
  clear hP
  simp only [putD, List.getD_cons_zero, List.getD_cons_succ]
  refine reg_seq' 44 3 TT3 (by kernel_rfl) (by kernel_rfl) ?_
  simp only [List.drop_succ_cons, List.drop_zero, List.take_succ_cons, List.take_zero]
  go_wp2_with fail
  refine QR.mk ?_
  refine reg_uno (D := [some 17, some 18, some 19, some 20, some 21, some 22, some 23, some 24, some 25, some 26, some 27, some 28, some 29, some 30, some 31, some 32, some 33, some 34, some 35, some 36, some 37, some 38, some 39, some 40, some 41, some 42, some 43, some 4]) (J := [22, 23, 24]) 25 [] [PV (.int .i64 (k : Int)), PV (.int .i64 (k : Int)), PV (.int .i64 (k : Int))] TT3 (by kernel_rfl) (by kernel_rfl) (by kernel_rfl) rfl rfl rfl
    (stab_cons (PV.stab _) (stab_cons (PV.stab _) (stab_cons (PV.stab _) stab_nil)))
    (fun v => usteps_cons ?_ (usteps_cons ?_ (usteps_cons ?_ (usteps_nil)))) (fun v wx hx hP hA => ?_)
  · refine ustep_mk (D := [some 17, some 18, some 19, some 20, some 21, some 22, some 23, some 24, some 25, some 26, some 27, some 28, some 29, some 30, some 31, some 32, some 33, some 34, some 35, some 36, some 37, some 38, some 39, some 40, some 41, some 42, some 43, some 4]) (Ti := []) rfl rfl rfl rfl (fun wx hx hP => ?_)   -- 22: move (tmp 5)
    clear hP
    simp only [putD, List.getD_cons_zero, List.getD_cons_succ]
    go_wp2_with fail
    exact Q1.mk rfl _ rfl ⟨Fr.refl _ _, rfl, frok_no rfl⟩
  · refine ustep_mk (D := [some 17, some 18, some 19, some 20, some 21, some 22, some 23, some 24, some 25, some 26, some 27, some 28, some 29, some 30, some 31, some 32, some 33, some 34, some 35, some 36, some 37, some 38, some 39, some 40, some 41, some 42, some 43, some 4]) (Ti := []) rfl rfl rfl rfl (fun wx hx hP => ?_)   -- 23: move (tmp 7)
    clear hP
    simp only [putD, List.getD_cons_zero, List.getD_cons_succ]
    go_wp2_with fail
    exact Q1.mk rfl _ rfl ⟨Fr.refl _ _, rfl, frok_no rfl⟩
  · refine ustep_mk (D := [some 17, some 18, some 19, some 20, some 21, some 22, some 23, some 24, some 25, some 26, some 27, some 28, some 29, some 30, some 31, some 32, some 33, some 34, some 35, some 36, some 37, some 38, some 39, some 40, some 41, some 42, some 43, some 4]) (Ti := [23]) rfl rfl rfl rfl (fun wx hx hP => ?_)   -- 24: call { callee := Callee.builtin Builtin.max, args 
    have h23 : v 23 = .int .i64 (k : Int) := hP.1
    clear hP
    simp only [putD, List.getD_cons_zero, List.getD_cons_succ]
    go_wp2_with fail
    exact Q1.mk rfl _ rfl ⟨Fr.refl _ _, rfl, frok_no rfl⟩
  have h22 : v 22 = .int .i64 (k : Int) := hP.1
  have h23 : v 23 = .int .i64 (k : Int) := hP.2.1
  have h24 : v 24 = .int .i64 (k : Int) := hP.2.2.1
  have HF12 := Lib.hid (HF11.out.trans hx)
  clear hx hA
  clear hP
  simp only [putD, List.getD_cons_zero, List.getD_cons_succ]
  refine reg_seq' 44 3 TT3 (by kernel_rfl) (by kernel_rfl) ?_
  simp only [List.drop_succ_cons, List.drop_zero, List.take_succ_cons, List.take_zero]
  go_wp2_with fail
  refine QR.mk ?_
  refine reg_end (by decide) ?_
  go_wp2_with fail
  go_ret
  exact ⟨rfl, HF12.out⟩

set_option maxHeartbeats 4000000 in
theorem digits_none (a b : By 16) (w : World) (hlow : lowN a.1 b.1 = none) :
    Calls Try.prog 3 #[.agg (bs a.1).toArray, .agg (bs b.1).toArray] w fun e w' => e = .returned (.bool true) ∧ Fr0 w w' := by
  have hsa : (bs a.1).toArray.size = 16 := by simp [a.2]
  have hsb : (bs b.1).toArray.size = 16 := by simp [b.2]
  obtain ⟨A, HA⟩ := nm (bs a.1).toArray
  obtain ⟨B, HB⟩ := nm (bs b.1).toArray
  rw [← HA.out] at hsa ⊢
  rw [← HB.out] at hsb ⊢
  have heX := fun w => run_nis_same w (splL a.1) (by simp)
  have heY := fun w => run_nis_same w (splL b.1) (by simp)
  obtain ⟨X, HX⟩ := nm (nis (splL a.1))
  obtain ⟨Y, HY⟩ := nm (nis (splL b.1))
  rw [← HX.out] at heX
  rw [← HY.out] at heY
  obtain ⟨w2, HW2⟩ := nm ((w.alloc (.cells A 22)).alloc (.cells B 22))
  obtain ⟨hb0, hb1, hf, hs⟩ := alloc2 _ _ _ _ _ _ HW2.out
  have HA2 := Lib.hid hb0
  have HB2 := Lib.hid hb1
  have HF2 := Lib.hid hf
  have l0 := hb0.all hsa
  have l1 := hb1.all hsb
  rw [HW2.out] at l0 l1
  have HLOW := Lib.hid hlow
  clear hb0 hb1 hf hs hlow
  go_enter Try.func3, Try.ntmps3
  go_wp2_with fail
  rw [← HW2.out, HA.out, HB.out]
  refine (lower_any a b _).mono ?_
  rintro e w4 ⟨rfl, hf4⟩
  rw [HLOW.out, ← HA.out, ← HB.out]
  have HA4 := Lib.hid (HA2.out.fr hf4 (fun h => h))
  have HB4 := Lib.hid (HB2.out.fr hf4 (fun h => h))
  have HF4 := Lib.hid (HF2.out.trans hf4)
  have l2 := HA4.out.all hsa
  have l3 := HB4.out.all hsb
  clear hf4 l0 l1
  go_wp2_with fail
  rw [HA.out, HB.out]
  refine (rlower_any a b _).mono ?_
  rintro e w5 ⟨rfl, hf5⟩
  rw [rlow, HLOW.out, ← HA.out, ← HB.out]
  have HA5 := Lib.hid (HA4.out.fr hf5 (fun h => h))
  have HB5 := Lib.hid (HB4.out.fr hf5 (fun h => h))
  have HF5 := Lib.hid (HF4.out.trans hf5)
  clear hf5 l2 l3
  simp only [iv, Option.getD_some, Option.getD_none, Option.isSome_some, Option.isSome_none]
  go_wp2_with fail
  refine reg_start (by kernel_rfl) ?_
  refine reg_seq' 44 2 TT3 (by kernel_rfl) (by kernel_rfl) ?_
  simp only [List.drop_succ_cons, List.drop_zero, List.take_succ_cons, List.take_zero]
  go_wp2_with fail
  refine (known_any _).mono ?_
  rintro e w6 ⟨rfl, hf6⟩
  have HA6 := Lib.hid (HA5.out.drew.fr hf6 (fun h => h))
  have HB6 := Lib.hid (HB5.out.drew.fr hf6 (fun h => h))
  have HF6 := Lib.hid (HF5.out.trans ((Fr.drew (Fr.refl _ _)).trans hf6))
  clear hf6
  go_wp2_with fail
  refine QR.mk ?_
  refine reg_uno (D := [some 17, some 18, some 19, some 20, some 21, some 22, some 23, some 24, some 25, some 26, some 27, some 28, some 29, some 30, some 31, some 32, some 33, some 34, some 35, some 36, some 37, some 38, some 39, some 40, some 41, some 42, some 43, some 4]) (J := [2, 3, 4]) 5 [] [PV (.agg A), PV (.agg X), PV (.agg A)] TT3 (by kernel_rfl) (by kernel_rfl) (by kernel_rfl) rfl rfl rfl
    (stab_cons (PV.stab _) (stab_cons (PV.stab _) (stab_cons (PV.stab _) stab_nil)))
    (fun v => usteps_cons ?_ (usteps_cons ?_ (usteps_cons ?_ (usteps_nil)))) (fun v wx hx hP hA => ?_)
  · refine ustep_mk (D := [some 17, some 18, some 19, some 20, some 21, some 22, some 23, some 24, some 25, some 26, some 27, some 28, some 29, some 30, some 31, some 32, some 33, some 34, some 35, some 36, some 37, some 38, some 39, some 40, some 41, some 42, some 43, some 4]) (Ti := []) rfl rfl rfl rfl (fun wx hx hP => ?_)   -- 2: load 22 (tmp 2)
    have hl := (HA6.out.fr hx (fun h => h)).all hsa
    clear hP
    simp only [putD, List.getD_cons_zero, List.getD_cons_succ]
    go_wp2_with fail
    exact Q1.mk rfl _ rfl ⟨Fr.refl _ _, rfl, frok_no rfl⟩
  · refine ustep_mk (D := [some 17, some 18, some 19, some 20, some 21, some 22, some 23, some 24, some 25, some 26, some 27, some 28, some 29, some 30, some 31, some 32, some 33, some 34, some 35, some 36, some 37, some 38, some 39, some 40, some 41, some 42, some 43, some 4]) (Ti := [2]) rfl rfl rfl rfl (fun wx hx hP => ?_)   -- 3: call { callee := Callee.value (func 14), args := #
    have h2 : v 2 = .agg A := hP.1
    clear hP
    simp only [putD, List.getD_cons_zero, List.getD_cons_succ]
    go_wp2_with fail
    rw [HA.out]
    refine (split_any a _).mono ?_
    rintro e wy ⟨rfl, hfy⟩
    rw [← HX.out]
    go_wp2_with fail
    exact Q1.mk rfl _ rfl ⟨hfy, rfl, frok_no rfl⟩
  · refine ustep_mk (D := [some 17, some 18, some 19, some 20, some 21, some 22, some 23, some 24, some 25, some 26, some 27, some 28, some 29, some 30, some 31, some 32, some 33, some 34, some 35, some 36, some 37, some 38, some 39, some 40, some 41, some 42, some 43, some 4]) (Ti := []) rfl rfl rfl rfl (fun wx hx hP => ?_)   -- 4: load 22 (tmp 2)
    have hl := (HA6.out.fr hx (fun h => h)).all hsa
    clear hP
    simp only [putD, List.getD_cons_zero, List.getD_cons_succ]
    go_wp2_with fail
    exact Q1.mk rfl _ rfl ⟨Fr.refl _ _, rfl, frok_no rfl⟩
  have h2 : v 2 = .agg A := hP.1
  have h3 : v 3 = .agg X := hP.2.1
  have h4 : v 4 = .agg A := hP.2.2.1
  have HB8 := Lib.hid (HB6.out.fr hx (fun h => h))
  have HF8 := Lib.hid (HF6.out.trans hx)
  clear hx hA
  clear hP
  simp only [putD, List.getD_cons_zero, List.getD_cons_succ]
  refine reg_seq' 44 4 TT3 (by kernel_rfl) (by kernel_rfl) ?_
  simp only [List.drop_succ_cons, List.drop_zero, List.take_succ_cons, List.take_zero]
  go_wp2_with fail
  rw [HA.out]
  refine (rsplit_any a _).mono ?_
  rintro e w7 ⟨rfl, hf7⟩
  rw [← HX.out]
  have HB7 := Lib.hid (HB8.out.fr hf7 (fun h => h))
  have HF7 := Lib.hid (HF8.out.trans hf7)
  clear hf7
  go_wp2_with fail
  refine QR.mk ?_
  refine reg_uno (D := [some 17, some 18, some 19, some 20, some 21, some 22, some 23, some 24, some 25, some 26, some 27, some 28, some 29, some 30, some 31, some 32, some 33, some 34, some 35, some 36, some 37, some 38, some 39, some 40, some 41, some 42, some 43, some 4]) (J := [9, 10, 11]) 12 [] [PV (.agg B), PV (.agg Y), PV (.agg B)] TT3 (by kernel_rfl) (by kernel_rfl) (by kernel_rfl) rfl rfl rfl
    (stab_cons (PV.stab _) (stab_cons (PV.stab _) (stab_cons (PV.stab _) stab_nil)))
    (fun v => usteps_cons ?_ (usteps_cons ?_ (usteps_cons ?_ (usteps_nil)))) (fun v wx hx hP hA => ?_)
  · refine ustep_mk (D := [some 17, some 18, some 19, some 20, some 21, some 22, some 23, some 24, some 25, some 26, some 27, some 28, some 29, some 30, some 31, some 32, some 33, some 34, some 35, some 36, some 37, some 38, some 39, some 40, some 41, some 42, some 43, some 4]) (Ti := []) rfl rfl rfl rfl (fun wx hx hP => ?_)   -- 9: load 22 (tmp 3)
    have hl := (HB7.out.fr hx (fun h => h)).all hsb
    clear hP
    simp only [putD, List.getD_cons_zero, List.getD_cons_succ]
    go_wp2_with fail
    exact Q1.mk rfl _ rfl ⟨Fr.refl _ _, rfl, frok_no rfl⟩
  · refine ustep_mk (D := [some 17, some 18, some 19, some 20, some 21, some 22, some 23, some 24, some 25, some 26, some 27, some 28, some 29, some 30, some 31, some 32, some 33, some 34, some 35, some 36, some 37, some 38, some 39, some 40, some 41, some 42, some 43, some 4]) (Ti := [9]) rfl rfl rfl rfl (fun wx hx hP => ?_)   -- 10: call { callee := Callee.value (func 14), args := #
    have h9 : v 9 = .agg B := hP.1
    clear hP
    simp only [putD, List.getD_cons_zero, List.getD_cons_succ]
    go_wp2_with fail
    rw [HB.out]
    refine (split_any b _).mono ?_
    rintro e wy ⟨rfl, hfy⟩
    rw [← HY.out]
    go_wp2_with fail
    exact Q1.mk rfl _ rfl ⟨hfy, rfl, frok_no rfl⟩
  · refine ustep_mk (D := [some 17, some 18, some 19, some 20, some 21, some 22, some 23, some 24, some 25, some 26, some 27, some 28, some 29, some 30, some 31, some 32, some 33, some 34, some 35, some 36, some 37, some 38, some 39, some 40, some 41, some 42, some 43, some 4]) (Ti := []) rfl rfl rfl rfl (fun wx hx hP => ?_)   -- 11: load 22 (tmp 3)
    have hl := (HB7.out.fr hx (fun h => h)).all hsb
    clear hP
    simp only [putD, List.getD_cons_zero, List.getD_cons_succ]
    go_wp2_with fail
    exact Q1.mk rfl _ rfl ⟨Fr.refl _ _, rfl, frok_no rfl⟩
  have h9 : v 9 = .agg B := hP.1
  have h10 : v 10 = .agg Y := hP.2.1
  have h11 : v 11 = .agg B := hP.2.2.1
  have HF9 := Lib.hid (HF7.out.trans hx)
  clear hx hA
  clear hP
  simp only [putD, List.getD_cons_zero, List.getD_cons_succ]
  refine reg_seq' 44 4 TT3 (by kernel_rfl) (by kernel_rfl) ?_
  simp only [List.drop_succ_cons, List.drop_zero, List.take_succ_cons, List.take_zero]
  go_wp2_with fail
  rw [HB.out]
  refine (rsplit_any b _).mono ?_
  rintro e w9 ⟨rfl, hf9⟩
  rw [← HY.out]
  have HF10 := Lib.hid (HF9.out.trans hf9)
  clear hf9
  go_wp2_with fail
  refine QR.mk ?_
  refine reg_uno (D := [some 17, some 18, some 19, some 20, some 21, some 22, some 23, some 24, some 25, some 26, some 27, some 28, some 29, some 30, some 31, some 32, some 33, some 34, some 35, some 36, some 37, some 38, some 39, some 40, some 41, some 42, some 43, some 4]) (J := [16, 17, 18]) 19 [] [PV (.bool false), PV (.int .i64 (-1)), PV (.bool false)] TT3 (by kernel_rfl) (by kernel_rfl) (by kernel_rfl) rfl rfl rfl
    (stab_cons (PV.stab _) (stab_cons (PV.stab _) (stab_cons (PV.stab _) stab_nil)))
    (fun v => usteps_cons ?_ (usteps_cons ?_ (usteps_cons ?_ (usteps_nil)))) (fun v wx hx hP hA => ?_)
  · refine ustep_mk (D := [some 17, some 18, some 19, some 20, some 21, some 22, some 23, some 24, some 25, some 26, some 27, some 28, some 29, some 30, some 31, some 32, some 33, some 34, some 35, some 36, some 37, some 38, some 39, some 40, some 41, some 42, some 43, some 4]) (Ti := []) rfl rfl rfl rfl (fun wx hx hP => ?_)   -- 16: move (tmp 6)
    clear hP
    simp only [putD, List.getD_cons_zero, List.getD_cons_succ]
    go_wp2_with fail
    exact Q1.mk rfl _ rfl ⟨Fr.refl _ _, rfl, frok_no rfl⟩
  · refine ustep_mk (D := [some 17, some 18, some 19, some 20, some 21, some 22, some 23, some 24, some 25, some 26, some 27, some 28, some 29, some 30, some 31, some 32, some 33, some 34, some 35, some 36, some 37, some 38, some 39, some 40, some 41, some 42, some 43, some 4]) (Ti := []) rfl rfl rfl rfl (fun wx hx hP => ?_)   -- 17: move (tmp 7)
    clear hP
    simp only [putD, List.getD_cons_zero, List.getD_cons_succ]
    go_wp2_with fail
    exact Q1.mk rfl _ rfl ⟨Fr.refl _ _, rfl, frok_no rfl⟩
  · refine ustep_mk (D := [some 17, some 18, some 19, some 20, some 21, some 22, some 23, some 24, some 25, some 26, some 27, some 28, some 29, some 30, some 31, some 32, some 33, some 34, some 35, some 36, some 37, some 38, some 39, some 40, some 41, some 42, some 43, some 4]) (Ti := [17]) rfl rfl rfl rfl (fun wx hx hP => ?_)   -- 18: binOp Bingeq 3 (tmp 34) (const (Value.int IntKind.
    have h17 : v 17 = .int .i64 (-1) := hP.1
    clear hP
    simp only [putD, List.getD_cons_zero, List.getD_cons_succ]
    go_wp2_with fail
    exact Q1.mk rfl _ rfl ⟨Fr.refl _ _, rfl, frok_no rfl⟩
  have h16 : v 16 = .bool false := hP.1
  have h17 : v 17 = .int .i64 (-1) := hP.2.1
  have h18 : v 18 = .bool false := hP.2.2.1
  have HF11 := Lib.hid (HF10.out.trans hx)
  clear hx hA
  clear hP
  simp only [putD, List.getD_cons_zero, List.getD_cons_succ]
  refine reg_seq' 44 3 TT3 (by kernel_rfl) (by kernel_rfl) ?_
  simp only [List.drop_succ_cons, List.drop_zero, List.take_succ_cons, List.take_zero]
  go_wp2_with fail
  refine QR.mk ?_
  refine reg_uno (D := [some 17, some 18, some 19, some 20, some 21, some 22, some 23, some 24, some 25, some 26, some 27, some 28, some 29, some 30, some 31, some 32, some 33, some 34, some 35, some 36, some 37, some 38, some 39, some 40, some 41, some 42, some 43, some 4]) (J := [22, 23, 24]) 25 [] [PV (.int .i64 0), PV (.int .i64 (-1)), PV (.int .i64 0)] TT3 (by kernel_rfl) (by kernel_rfl) (by kernel_rfl) rfl rfl rfl
    (stab_cons (PV.stab _) (stab_cons (PV.stab _) (stab_cons (PV.stab _) stab_nil)))
    (fun v => usteps_cons ?_ (usteps_cons ?_ (usteps_cons ?_ (usteps_nil)))) (fun v wx hx hP hA => ?_)
  · refine ustep_mk (D := [some 17, some 18, some 19, some 20, some 21, some 22, some 23, some 24, some 25, some 26, some 27, some 28, some 29, some 30, some 31, some 32, some 33, some 34, some 35, some 36, some 37, some 38, some 39, some 40, some 41, some 42, some 43, some 4]) (Ti := []) rfl rfl rfl rfl (fun wx hx hP => ?_)   -- 22: move (tmp 5)
    clear hP
    simp only [putD, List.getD_cons_zero, List.getD_cons_succ]
    go_wp2_with fail
    exact Q1.mk rfl _ rfl ⟨Fr.refl _ _, rfl, frok_no rfl⟩
  · refine ustep_mk (D := [some 17, some 18, some 19, some 20, some 21, some 22, some 23, some 24, some 25, some 26, some 27, some 28, some 29, some 30, some 31, some 32, some 33, some 34, some 35, some 36, some 37, some 38, some 39, some 40, some 41, some 42, some 43, some 4]) (Ti := []) rfl rfl rfl rfl (fun wx hx hP => ?_)   -- 23: move (tmp 7)
    clear hP
    simp only [putD, List.getD_cons_zero, List.getD_cons_succ]
    go_wp2_with fail
    exact Q1.mk rfl _ rfl ⟨Fr.refl _ _, rfl, frok_no rfl⟩
  · refine ustep_mk (D := [some 17, some 18, some 19, some 20, some 21, some 22, some 23, some 24, some 25, some 26, some 27, some 28, some 29, some 30, some 31, some 32, some 33, some 34, some 35, some 36, some 37, some 38, some 39, some 40, some 41, some 42, some 43, some 4]) (Ti := [23]) rfl rfl rfl rfl (fun wx hx hP => ?_)   -- 24: call { callee := Callee.builtin Builtin.max, args 
    have h23 : v 23 = .int .i64 (-1) := hP.1
    clear hP
    simp only [putD, List.getD_cons_zero, List.getD_cons_succ]
    go_wp2_with fail
    exact Q1.mk rfl _ rfl ⟨Fr.refl _ _, rfl, frok_no rfl⟩
  have h22 : v 22 = .int .i64 0 := hP.1
  have h23 : v 23 = .int .i64 (-1) := hP.2.1
  have h24 : v 24 = .int .i64 0 := hP.2.2.1
  have HF12 := Lib.hid (HF11.out.trans hx)
  clear hx hA
  clear hP
  simp only [putD, List.getD_cons_zero, List.getD_cons_succ]
  refine reg_seq' 44 3 TT3 (by kernel_rfl) (by kernel_rfl) ?_
  simp only [List.drop_succ_cons, List.drop_zero, List.take_succ_cons, List.take_zero]
  go_wp2_with fail
  refine QR.mk ?_
  refine reg_end (by decide) ?_
  go_wp2_with fail
  go_ret
  exact ⟨rfl, HF12.out⟩

theorem digits_walk (a b : By 16) (w : World) :
    Calls Try.prog 3 #[.agg (bs a.1).toArray, .agg (bs b.1).toArray] w fun e w' => e = .returned (.bool true) ∧ Below w.heap.size w w' := by
  cases h : lowN a.1 b.1 with
  | some k => exact (digits_some a b k w h).mono fun e w' ⟨he, hf⟩ => ⟨he, Fr0.below hf⟩
  | none => exact (digits_none a b w h).mono fun e w' ⟨he, hf⟩ => ⟨he, Fr0.below hf⟩
end Go.Proofs.Ytjdbfedkadoklaa
