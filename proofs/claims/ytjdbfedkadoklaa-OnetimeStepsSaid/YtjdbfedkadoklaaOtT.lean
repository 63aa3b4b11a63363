/- OnetimeSteps: the law's walk, one theorem for each way through. Printed by gen_steps.py. No condition. -/
import Derived.Test.YtjdbfedkadoklaaOtS
import Derived.Test.YtjdbfedkadoklaaOpenB
namespace Go.Proofs.Ytjdbfedkadoklaa
set_option linter.unusedVariables false
set_option linter.unusedSimpArgs false
set_option maxRecDepth 10000
open Go.RowKit
attribute [local go_sem ↓] Go.wp_at_zero Go.wp_at_succ

theorem run_a16_ne (w : World) (a b : By 16) : (nev 22 (.agg (bs a.1).toArray) (.agg (bs b.1).toArray)).run Try.prog w = .ok (.bool (!decide (a = b))) w := by
  rw [← sames_by]; exact run_neq_flat w 3 a16_kinds (by omega) val__16_uint8 _ _ (by_fits a) (by_fits b)
theorem run_z16_nsame (w : World) : (nev 22 (.agg z16) (.agg z16)).run Try.prog w = .ok (.bool false) w := by
  have h := run_a16_ne w ⟨List.replicate 16 0, by simp⟩ ⟨List.replicate 16 0, by simp⟩
  simp only [decide_true, Bool.not_true] at h
  exact h
theorem run_rv_nsame (w : World) (l : List UInt8) (hl : l.length = 16) : (nev 36 (.agg (bs l).toArray) (.agg (bs l).toArray)).run Try.prog w = .ok (.bool false) w := by
  have := run_rv_ne w ⟨l, hl⟩ ⟨l, hl⟩; simpa using this
theorem alloc3n (w : World) (t0 t1 t2 : TypeId) (c0 c1 c2 : Array Value) (w3 : World) (h : w3 = ((w.alloc (.cells c0 t0)).alloc (.cells c1 t1)).alloc (.cells c2 t2)) :
    Blk w3 w.heap.size t0 c0 ∧ Blk w3 (w.heap.size + 1) t1 c1 ∧ Blk w3 (w.heap.size + 2) t2 c2 ∧ Fr0 w w3 := by
  subst h
  obtain ⟨h0, h1, hf, hs⟩ := alloc2 w t0 t1 c0 c1 _ rfl
  refine ⟨h0.alloc _, h1.alloc _, ?_, hf.alloc _⟩
  have h := Blk.new ((w.alloc (.cells c0 t0)).alloc (.cells c1 t1)) t2 c2
  rwa [hs] at h
def TT6_8 : List (List Nat) := [[], [0], [0, 1], [0, 1, 2], [0, 1, 2], [0, 1, 2], [0, 1, 2], [0, 1, 2], [0, 1, 2, 4, 5, 6, 7], [0, 1, 2, 3, 4, 5, 6, 7, 8], [0, 1, 2, 3, 4, 5, 6, 7, 8, 9]]
def TT6_13 : List (List Nat) := [[], [0], [0, 1], [0, 1, 2], [0, 1, 2], [0, 1, 2], [0, 1, 2], [0, 1, 2], [0, 1, 2], [0, 1, 2, 4, 5, 6, 7, 8], [0, 1, 2, 3, 4, 5, 6, 7, 8, 9], [0, 1, 2, 3, 4, 5, 6, 7, 8, 9, 10], [0, 1, 2, 3, 4, 5, 6, 7, 8, 9, 10, 11]]
set_option maxHeartbeats 4000000 in
theorem steps_AAA (leaf : Nat) (chain : Nat) (a : Nat) (b : Nat) (v : By 16) (hL : leaf ≤ 65535) (hC : chain ≤ 34) (hA : a ≤ 14) (hB : b ≤ 15) (hB' : a ≤ b) (w : World) :
    Calls Try.prog 6 #[.agg #[.int .i64 (leaf : Int), .int .i64 (chain : Int)], .agg #[.int .i64 (a : Int), .int .i64 (b : Int)], .agg (bs v.1).toArray] w fun e w' => e = .returned (.bool true) ∧ Fr0 w w' := by
  have hsz : (bs v.1).toArray.size = 16 := by simp [v.2]
  obtain ⟨V, HV⟩ := nm (bs v.1).toArray
  rw [← HV.out] at hsz ⊢
  obtain ⟨Z, HZ⟩ := nm z16
  have hst := z16_st
  have hbd := run_bd_v16
  have heq := run_z16_same
  have hne := run_z16_nsame
  have hzs : Z.size = 16 := by rw [HZ.out]; rfl
  rw [← HZ.out] at hst hbd heq hne
  have hstS := a16_st ⟨stepB leaf chain a v.1, stepB_length _ _ _ _⟩
  change ∀ (w : World) (b' p : Nat), okA w b' p 16 = true → (st 22 (.pointer (some ⟨b', p, none⟩)) (.agg (bs (stepB leaf chain a v.1)).toArray)).run Try.prog w = .ok () (putW w b' p (bs (stepB leaf chain a v.1)).toArray) at hstS
  have hsS : (bs (stepB leaf chain a v.1)).toArray.size = 16 := by simp [stepB_length]
  have heS := fun w => run_rv_same w (stepB leaf chain a v.1) (stepB_length _ _ _ _)
  have hnS := fun w => run_rv_nsame w (stepB leaf chain a v.1) (stepB_length _ _ _ _)
  obtain ⟨S, HS⟩ := nm (bs (stepB leaf chain a v.1)).toArray
  rw [← HS.out] at hstS hsS heS hnS
  have hstD := a16_st ⟨advB leaf chain a (b - a) v.1, advB_length _ _ _ _ _ v.2⟩
  change ∀ (w : World) (b' p : Nat), okA w b' p 16 = true → (st 22 (.pointer (some ⟨b', p, none⟩)) (.agg (bs (advB leaf chain a (b - a) v.1)).toArray)).run Try.prog w = .ok () (putW w b' p (bs (advB leaf chain a (b - a) v.1)).toArray) at hstD
  have hsD : (bs (advB leaf chain a (b - a) v.1)).toArray.size = 16 := by simp [advB_length, v.2]
  have heD := fun w => run_rv_same w (advB leaf chain a (b - a) v.1) (advB_length _ _ _ _ _ v.2)
  have hnD := fun w => run_rv_nsame w (advB leaf chain a (b - a) v.1) (advB_length _ _ _ _ _ v.2)
  obtain ⟨D, HD⟩ := nm (bs (advB leaf chain a (b - a) v.1)).toArray
  rw [← HD.out] at hstD hsD heD hnD
  obtain ⟨w1, HW1⟩ := nm (((w.alloc (.cells #[.int .i64 (leaf : Int), .int .i64 (chain : Int)] 39)).alloc (.cells #[.int .i64 (a : Int), .int .i64 (b : Int)] 39)).alloc (.cells V 22))
  obtain ⟨hb0, hb1, hb2, hf1⟩ := alloc3n _ _ _ _ _ _ _ _ HW1.out
  have c0 : w1.cell? ⟨w.heap.size, 0, none⟩ = some (.int .i64 (leaf : Int)) := hb0.cell 0
  have c1 : w1.cell? ⟨w.heap.size, 1, none⟩ = some (.int .i64 (chain : Int)) := hb0.cell 1
  have c2 : w1.cell? ⟨w.heap.size + 1, 0, none⟩ = some (.int .i64 (a : Int)) := hb1.cell 0
  have c3 : w1.cell? ⟨w.heap.size + 1, 1, none⟩ = some (.int .i64 (b : Int)) := hb1.cell 1
  have HB2 := Lib.hid hb2
  have HF1 := Lib.hid hf1
  clear hb0 hb1 hb2 hf1
  go_enter Try.func6, Try.ntmps6
  go_wp2_with fail
  rw [← HW1.out]
  go_quiet (fail)
  clear c0 c1 c2 c3
  obtain ⟨w2, HW2⟩ := nm (w1.drewN nq)
  have HV2 := Lib.hid (show Blk w2 (w.heap.size + 2) 22 V from by rw [HW2.out]; exact HB2.out.drewN _)
  have HF2 := Lib.hid (show Fr0 w w2 from by rw [HW2.out]; exact HF1.out.drewN _)
  have hl2 := HV2.out.all hsz
  rw [← HW2.out]
  go_wp2_with fail
  rw [HV.out]
  refine (Step_ok leaf chain a v hL hC hA _).mono ?_
  rintro e w3 ⟨rfl, hf3⟩
  rw [← HS.out, ← HV.out]
  have HV3 := Lib.hid (HV2.out.fr hf3 (fun h => h))
  have HF3 := Lib.hid (HF2.out.trans hf3)
  clear hf3 hl2
  obtain ⟨w4, HW4⟩ := nm (w3.alloc (.cells S 22))
  have HS4 := Lib.hid (show Blk w4 w3.heap.size 22 S from by rw [HW4.out]; exact Blk.new _ _ _)
  have HV4 := Lib.hid (show Blk w4 (w.heap.size + 2) 22 V from by rw [HW4.out]; exact HV3.out.alloc _)
  have HF4 := Lib.hid (show Fr0 w w4 from by rw [HW4.out]; exact HF3.out.alloc _)
  have hl4 : ldA (w3.alloc (.cells S 22)) (w.heap.size + 2) 0 16 = some V := (HV3.out.alloc _).all hsz
  go_wp2_with fail
  rw [← HW4.out, HV.out]
  refine (Advance_ok leaf chain a b v hL hC hB' hB _).mono ?_
  rintro e w5 ⟨rfl, hf5⟩
  rw [← HD.out, ← HV.out]
  have HS5 := Lib.hid (HS4.out.fr hf5 (fun h => h))
  have HV5 := Lib.hid (HV4.out.fr hf5 (fun h => h))
  have HF5 := Lib.hid (HF4.out.trans hf5)
  clear hf5 hl4
  obtain ⟨w6, HW6⟩ := nm (w5.alloc (.cells D 22))
  have HB6 := Lib.hid (show Blk w6 w5.heap.size 22 D from by rw [HW6.out]; exact Blk.new _ _ _)
  have HS6 := Lib.hid (show Blk w6 w3.heap.size 22 S from by rw [HW6.out]; exact HS5.out.alloc _)
  have HV6 := Lib.hid (show Blk w6 (w.heap.size + 2) 22 V from by rw [HW6.out]; exact HV5.out.alloc _)
  have HF6 := Lib.hid (show Fr0 w w6 from by rw [HW6.out]; exact HF5.out.alloc _)
  go_wp2_with fail
  rw [← HW6.out]
  refine (known_any _).mono ?_
  rintro e w7 ⟨rfl, hf7⟩
  have HB7 := Lib.hid (HB6.out.fr hf7 (fun h => h))
  have HS7 := Lib.hid (HS6.out.fr hf7 (fun h => h))
  have HV7 := Lib.hid (HV6.out.fr hf7 (fun h => h))
  have HF7 := Lib.hid (HF6.out.trans hf7)
  clear hf7
  go_wp2_with fail
  refine (in_any _ _ _).mono ?_
  rintro e wi ⟨rfl, rfl⟩
  rw [decide_eq_true (by omega)]
  go_wp2_with fail
  refine (in_any _ _ _).mono ?_
  rintro e wi ⟨rfl, rfl⟩
  rw [decide_eq_true (by omega)]
  go_wp2_with fail
  refine (in_any _ _ _).mono ?_
  rintro e wi ⟨rfl, rfl⟩
  rw [decide_eq_true (by omega)]
  go_wp2_with fail
  refine reg_start (by kernel_rfl) ?_
  refine reg_seq' 105 3 TT6_8 (by kernel_rfl) (by kernel_rfl) ?_
  simp only [List.drop_succ_cons, List.drop_zero, List.take_succ_cons, List.take_zero]
  go_wp2_with fail
  refine QR.mk ?_
  refine reg_uno (D := [some 54, some 55, some 56, some 57, some 58, some 59, some 60, some 61, some 62, some 63, some 64]) (J := [3, 4, 5, 6, 7, 8]) 9 [] [PV (.agg S), PV (.int .i64 (leaf : Int)), PV (.int .i64 (chain : Int)), PV (.int .i64 (a : Int)), PV (.agg V), PV (.agg S)] TT6_8 (by kernel_rfl) (by kernel_rfl) (by kernel_rfl) rfl rfl rfl
    (stab_cons (PV.stab _) (stab_cons (PV.stab _) (stab_cons (PV.stab _) (stab_cons (PV.stab _) (stab_cons (PV.stab _) (stab_cons (PV.stab _) stab_nil))))))
    (fun u => usteps_cons ?_ (usteps_cons ?_ (usteps_cons ?_ (usteps_cons ?_ (usteps_cons ?_ (usteps_cons ?_ (usteps_nil))))))) (fun u wx hx hP hA => ?_)
  · refine ustep_mk (D := [some 54, some 55, some 56, some 57, some 58, some 59, some 60, some 61, some 62, some 63, some 64]) (Ti := []) rfl rfl rfl rfl (fun wx hx hP => ?_)   -- 3: load 22 (tmp 11)
    have hl := (HS7.out.drew.fr hx (fun h => h)).all hsS
    clear hP
    simp only [putD, List.getD_cons_zero, List.getD_cons_succ]
    go_wp2_with fail
    exact Q1.mk rfl _ rfl ⟨Fr.refl _ _, rfl, frok_no rfl⟩
  · refine ustep_mk (D := [some 54, some 55, some 56, some 57, some 58, some 59, some 60, some 61, some 62, some 63, some 64]) (Ti := []) rfl rfl rfl rfl (fun wx hx hP => ?_)   -- 4: move (tmp 7)
    clear hP
    simp only [putD, List.getD_cons_zero, List.getD_cons_succ]
    go_wp2_with fail
    exact Q1.mk rfl _ rfl ⟨Fr.refl _ _, rfl, frok_no rfl⟩
  · refine ustep_mk (D := [some 54, some 55, some 56, some 57, some 58, some 59, some 60, some 61, some 62, some 63, some 64]) (Ti := []) rfl rfl rfl rfl (fun wx hx hP => ?_)   -- 5: move (tmp 8)
    clear hP
    simp only [putD, List.getD_cons_zero, List.getD_cons_succ]
    go_wp2_with fail
    exact Q1.mk rfl _ rfl ⟨Fr.refl _ _, rfl, frok_no rfl⟩
  · refine ustep_mk (D := [some 54, some 55, some 56, some 57, some 58, some 59, some 60, some 61, some 62, some 63, some 64]) (Ti := []) rfl rfl rfl rfl (fun wx hx hP => ?_)   -- 6: move (tmp 9)
    clear hP
    simp only [putD, List.getD_cons_zero, List.getD_cons_succ]
    go_wp2_with fail
    exact Q1.mk rfl _ rfl ⟨Fr.refl _ _, rfl, frok_no rfl⟩
  · refine ustep_mk (D := [some 54, some 55, some 56, some 57, some 58, some 59, some 60, some 61, some 62, some 63, some 64]) (Ti := []) rfl rfl rfl rfl (fun wx hx hP => ?_)   -- 7: load 22 (tmp 5)
    have hl := (HV7.out.drew.fr hx (fun h => h)).all hsz
    clear hP
    simp only [putD, List.getD_cons_zero, List.getD_cons_succ]
    go_wp2_with fail
    exact Q1.mk rfl _ rfl ⟨Fr.refl _ _, rfl, frok_no rfl⟩
  · refine ustep_mk (D := [some 54, some 55, some 56, some 57, some 58, some 59, some 60, some 61, some 62, some 63, some 64]) (Ti := [4, 5, 6, 7]) rfl rfl rfl rfl (fun wx hx hP => ?_)   -- 8: call { callee := Callee.value (func 21), args := #
    have h4 : u 4 = .int .i64 (leaf : Int) := hP.1
    have h5 : u 5 = .int .i64 (chain : Int) := hP.2.1
    have h6 : u 6 = .int .i64 (a : Int) := hP.2.2.1
    have h7 : u 7 = .agg V := hP.2.2.2.1
    clear hP
    simp only [putD, List.getD_cons_zero, List.getD_cons_succ]
    go_wp2_with fail
    rw [HV.out]
    refine (rstep_any leaf chain a hL v _).mono ?_
    rintro e wy ⟨rfl, hfy⟩
    rw [← HS.out, ← HV.out]
    go_wp2_with fail
    exact Q1.mk rfl _ rfl ⟨hfy, rfl, frok_no rfl⟩
  have h3 : u 3 = .agg S := hP.1
  have h4 : u 4 = .int .i64 (leaf : Int) := hP.2.1
  have h5 : u 5 = .int .i64 (chain : Int) := hP.2.2.1
  have h6 : u 6 = .int .i64 (a : Int) := hP.2.2.2.1
  have h7 : u 7 = .agg V := hP.2.2.2.2.1
  have h8 : u 8 = .agg S := hP.2.2.2.2.2.1
  have HB8 := Lib.hid (HB7.out.drew.fr hx (fun h => h))
  have HV8 := Lib.hid (HV7.out.drew.fr hx (fun h => h))
  have HF8 := Lib.hid (HF7.out.trans ((Fr.drew (Fr.refl _ _)).trans hx))
  clear hx
  clear hP
  simp only [putD, List.getD_cons_zero, List.getD_cons_succ]
  refine reg_seq' 105 2 TT6_8 (by kernel_rfl) (by kernel_rfl) ?_
  simp only [List.drop_succ_cons, List.drop_zero, List.take_succ_cons, List.take_zero]
  go_wp2_with fail
  refine QR.mk ?_
  refine reg_end (by decide) ?_
  go_wp2_with fail
  refine (in_any _ _ _).mono ?_
  rintro e wi ⟨rfl, rfl⟩
  rw [decide_eq_true (by omega)]
  go_wp2_with fail
  refine (in_any _ _ _).mono ?_
  rintro e wi ⟨rfl, rfl⟩
  rw [decide_eq_true (by omega)]
  go_wp2_with fail
  refine reg_start (by kernel_rfl) ?_
  refine reg_seq' 105 3 TT6_13 (by kernel_rfl) (by kernel_rfl) ?_
  simp only [List.drop_succ_cons, List.drop_zero, List.take_succ_cons, List.take_zero]
  go_wp2_with fail
  refine QR.mk ?_
  refine reg_uno (D := [some 86, some 87, some 88, some 89, some 90, some 91, some 92, some 93, some 94, some 95, some 96, some 97, some 6]) (J := [3, 4, 5, 6, 7, 8, 9]) 10 [] [PV (.agg D), PV (.int .i64 (leaf : Int)), PV (.int .i64 (chain : Int)), PV (.int .i64 (a : Int)), PV (.int .i64 (b : Int)), PV (.agg V), PV (.agg D)] TT6_13 (by kernel_rfl) (by kernel_rfl) (by kernel_rfl) rfl rfl rfl
    (stab_cons (PV.stab _) (stab_cons (PV.stab _) (stab_cons (PV.stab _) (stab_cons (PV.stab _) (stab_cons (PV.stab _) (stab_cons (PV.stab _) (stab_cons (PV.stab _) stab_nil)))))))
    (fun u => usteps_cons ?_ (usteps_cons ?_ (usteps_cons ?_ (usteps_cons ?_ (usteps_cons ?_ (usteps_cons ?_ (usteps_cons ?_ (usteps_nil)))))))) (fun u wz hy hP hA => ?_)
  · refine ustep_mk (D := [some 86, some 87, some 88, some 89, some 90, some 91, some 92, some 93, some 94, some 95, some 96, some 97, some 6]) (Ti := []) rfl rfl rfl rfl (fun wz hy hP => ?_)   -- 3: load 22 (tmp 13)
    have hl := (HB8.out.drew.fr hy (fun h => h)).all hsD
    clear hP
    simp only [putD, List.getD_cons_zero, List.getD_cons_succ]
    go_wp2_with fail
    exact Q1.mk rfl _ rfl ⟨Fr.refl _ _, rfl, frok_no rfl⟩
  · refine ustep_mk (D := [some 86, some 87, some 88, some 89, some 90, some 91, some 92, some 93, some 94, some 95, some 96, some 97, some 6]) (Ti := []) rfl rfl rfl rfl (fun wz hy hP => ?_)   -- 4: move (tmp 7)
    clear hP
    simp only [putD, List.getD_cons_zero, List.getD_cons_succ]
    go_wp2_with fail
    exact Q1.mk rfl _ rfl ⟨Fr.refl _ _, rfl, frok_no rfl⟩
  · refine ustep_mk (D := [some 86, some 87, some 88, some 89, some 90, some 91, some 92, some 93, some 94, some 95, some 96, some 97, some 6]) (Ti := []) rfl rfl rfl rfl (fun wz hy hP => ?_)   -- 5: move (tmp 8)
    clear hP
    simp only [putD, List.getD_cons_zero, List.getD_cons_succ]
    go_wp2_with fail
    exact Q1.mk rfl _ rfl ⟨Fr.refl _ _, rfl, frok_no rfl⟩
  · refine ustep_mk (D := [some 86, some 87, some 88, some 89, some 90, some 91, some 92, some 93, some 94, some 95, some 96, some 97, some 6]) (Ti := []) rfl rfl rfl rfl (fun wz hy hP => ?_)   -- 6: move (tmp 9)
    clear hP
    simp only [putD, List.getD_cons_zero, List.getD_cons_succ]
    go_wp2_with fail
    exact Q1.mk rfl _ rfl ⟨Fr.refl _ _, rfl, frok_no rfl⟩
  · refine ustep_mk (D := [some 86, some 87, some 88, some 89, some 90, some 91, some 92, some 93, some 94, some 95, some 96, some 97, some 6]) (Ti := []) rfl rfl rfl rfl (fun wz hy hP => ?_)   -- 7: move (tmp 10)
    clear hP
    simp only [putD, List.getD_cons_zero, List.getD_cons_succ]
    go_wp2_with fail
    exact Q1.mk rfl _ rfl ⟨Fr.refl _ _, rfl, frok_no rfl⟩
  · refine ustep_mk (D := [some 86, some 87, some 88, some 89, some 90, some 91, some 92, some 93, some 94, some 95, some 96, some 97, some 6]) (Ti := []) rfl rfl rfl rfl (fun wz hy hP => ?_)   -- 8: load 22 (tmp 5)
    have hl := (HV8.out.drew.fr hy (fun h => h)).all hsz
    clear hP
    simp only [putD, List.getD_cons_zero, List.getD_cons_succ]
    go_wp2_with fail
    exact Q1.mk rfl _ rfl ⟨Fr.refl _ _, rfl, frok_no rfl⟩
  · refine ustep_mk (D := [some 86, some 87, some 88, some 89, some 90, some 91, some 92, some 93, some 94, some 95, some 96, some 97, some 6]) (Ti := [4, 5, 6, 7, 8]) rfl rfl rfl rfl (fun wz hy hP => ?_)   -- 9: call { callee := Callee.value (func 22), args := #
    have h4 : u 4 = .int .i64 (leaf : Int) := hP.1
    have h5 : u 5 = .int .i64 (chain : Int) := hP.2.1
    have h6 : u 6 = .int .i64 (a : Int) := hP.2.2.1
    have h7 : u 7 = .int .i64 (b : Int) := hP.2.2.2.1
    have h8 : u 8 = .agg V := hP.2.2.2.2.1
    clear hP
    simp only [putD, List.getD_cons_zero, List.getD_cons_succ]
    go_wp2_with fail
    rw [HV.out]
    refine (radvance_any leaf chain a b hL hB hB' v _).mono ?_
    rintro e wy ⟨rfl, hfy⟩
    rw [← HD.out, ← HV.out]
    go_wp2_with fail
    exact Q1.mk rfl _ rfl ⟨hfy, rfl, frok_no rfl⟩
  have h3 : u 3 = .agg D := hP.1
  have h4 : u 4 = .int .i64 (leaf : Int) := hP.2.1
  have h5 : u 5 = .int .i64 (chain : Int) := hP.2.2.1
  have h6 : u 6 = .int .i64 (a : Int) := hP.2.2.2.1
  have h7 : u 7 = .int .i64 (b : Int) := hP.2.2.2.2.1
  have h8 : u 8 = .agg V := hP.2.2.2.2.2.1
  have h9 : u 9 = .agg D := hP.2.2.2.2.2.2.1
  have HE := Lib.hid (HF8.out.trans ((Fr.drew (Fr.refl _ _)).trans hy))
  clear hy
  clear hP
  simp only [putD, List.getD_cons_zero, List.getD_cons_succ]
  refine reg_seq' 105 3 TT6_13 (by kernel_rfl) (by kernel_rfl) ?_
  simp only [List.drop_succ_cons, List.drop_zero, List.take_succ_cons, List.take_zero]
  go_wp2_with fail
  refine QR.mk ?_
  refine reg_end (by decide) ?_
  go_wp2_with fail
  go_ret
  exact ⟨rfl, HE.out⟩
set_option maxHeartbeats 4000000 in
theorem steps_AAB (leaf : Nat) (chain : Nat) (a : Nat) (b : Int) (v : By 16) (hL : leaf ≤ 65535) (hC : chain ≤ 34) (hA : a ≤ 14) (hB : ¬ (0 ≤ b ∧ b ≤ 15)) (w : World) :
    Calls Try.prog 6 #[.agg #[.int .i64 (leaf : Int), .int .i64 (chain : Int)], .agg #[.int .i64 (a : Int), .int .i64 b], .agg (bs v.1).toArray] w fun e w' => e = .returned (.bool true) ∧ Fr0 w w' := by
  have hsz : (bs v.1).toArray.size = 16 := by simp [v.2]
  obtain ⟨V, HV⟩ := nm (bs v.1).toArray
  rw [← HV.out] at hsz ⊢
  obtain ⟨Z, HZ⟩ := nm z16
  have hst := z16_st
  have hbd := run_bd_v16
  have heq := run_z16_same
  have hne := run_z16_nsame
  have hzs : Z.size = 16 := by rw [HZ.out]; rfl
  rw [← HZ.out] at hst hbd heq hne
  have hstS := a16_st ⟨stepB leaf chain a v.1, stepB_length _ _ _ _⟩
  change ∀ (w : World) (b' p : Nat), okA w b' p 16 = true → (st 22 (.pointer (some ⟨b', p, none⟩)) (.agg (bs (stepB leaf chain a v.1)).toArray)).run Try.prog w = .ok () (putW w b' p (bs (stepB leaf chain a v.1)).toArray) at hstS
  have hsS : (bs (stepB leaf chain a v.1)).toArray.size = 16 := by simp [stepB_length]
  have heS := fun w => run_rv_same w (stepB leaf chain a v.1) (stepB_length _ _ _ _)
  have hnS := fun w => run_rv_nsame w (stepB leaf chain a v.1) (stepB_length _ _ _ _)
  obtain ⟨S, HS⟩ := nm (bs (stepB leaf chain a v.1)).toArray
  rw [← HS.out] at hstS hsS heS hnS
  obtain ⟨w1, HW1⟩ := nm (((w.alloc (.cells #[.int .i64 (leaf : Int), .int .i64 (chain : Int)] 39)).alloc (.cells #[.int .i64 (a : Int), .int .i64 b] 39)).alloc (.cells V 22))
  obtain ⟨hb0, hb1, hb2, hf1⟩ := alloc3n _ _ _ _ _ _ _ _ HW1.out
  have c0 : w1.cell? ⟨w.heap.size, 0, none⟩ = some (.int .i64 (leaf : Int)) := hb0.cell 0
  have c1 : w1.cell? ⟨w.heap.size, 1, none⟩ = some (.int .i64 (chain : Int)) := hb0.cell 1
  have c2 : w1.cell? ⟨w.heap.size + 1, 0, none⟩ = some (.int .i64 (a : Int)) := hb1.cell 0
  have c3 : w1.cell? ⟨w.heap.size + 1, 1, none⟩ = some (.int .i64 b) := hb1.cell 1
  have HB2 := Lib.hid hb2
  have HF1 := Lib.hid hf1
  clear hb0 hb1 hb2 hf1
  go_enter Try.func6, Try.ntmps6
  go_wp2_with fail
  rw [← HW1.out]
  go_quiet (fail)
  clear c0 c1 c2 c3
  obtain ⟨w2, HW2⟩ := nm (w1.drewN nq)
  have HV2 := Lib.hid (show Blk w2 (w.heap.size + 2) 22 V from by rw [HW2.out]; exact HB2.out.drewN _)
  have HF2 := Lib.hid (show Fr0 w w2 from by rw [HW2.out]; exact HF1.out.drewN _)
  have hl2 := HV2.out.all hsz
  rw [← HW2.out]
  go_wp2_with fail
  rw [HV.out]
  refine (Step_ok leaf chain a v hL hC hA _).mono ?_
  rintro e w3 ⟨rfl, hf3⟩
  rw [← HS.out, ← HV.out]
  have HV3 := Lib.hid (HV2.out.fr hf3 (fun h => h))
  have HF3 := Lib.hid (HF2.out.trans hf3)
  clear hf3 hl2
  obtain ⟨w4, HW4⟩ := nm (w3.alloc (.cells S 22))
  have HS4 := Lib.hid (show Blk w4 w3.heap.size 22 S from by rw [HW4.out]; exact Blk.new _ _ _)
  have HV4 := Lib.hid (show Blk w4 (w.heap.size + 2) 22 V from by rw [HW4.out]; exact HV3.out.alloc _)
  have HF4 := Lib.hid (show Fr0 w w4 from by rw [HW4.out]; exact HF3.out.alloc _)
  have hl4 : ldA (w3.alloc (.cells S 22)) (w.heap.size + 2) 0 16 = some V := (HV3.out.alloc _).all hsz
  go_wp2_with fail
  rw [← HW4.out, HV.out]
  refine (Advance_bad (leaf : Int) (chain : Int) (a : Int) b v (by omega) _).mono ?_
  rintro e w5 ⟨rfl, hf5⟩
  rw [← HZ.out, ← HV.out]
  have HS5 := Lib.hid (HS4.out.fr hf5 (fun h => h))
  have HV5 := Lib.hid (HV4.out.fr hf5 (fun h => h))
  have HF5 := Lib.hid (HF4.out.trans hf5)
  clear hf5 hl4
  obtain ⟨w6, HW6⟩ := nm (w5.alloc (.cells Z 22))
  have HB6 := Lib.hid (show Blk w6 w5.heap.size 22 Z from by rw [HW6.out]; exact Blk.new _ _ _)
  have HS6 := Lib.hid (show Blk w6 w3.heap.size 22 S from by rw [HW6.out]; exact HS5.out.alloc _)
  have HV6 := Lib.hid (show Blk w6 (w.heap.size + 2) 22 V from by rw [HW6.out]; exact HV5.out.alloc _)
  have HF6 := Lib.hid (show Fr0 w w6 from by rw [HW6.out]; exact HF5.out.alloc _)
  go_wp2_with fail
  rw [← HW6.out]
  refine (known_any _).mono ?_
  rintro e w7 ⟨rfl, hf7⟩
  have HB7 := Lib.hid (HB6.out.fr hf7 (fun h => h))
  have HS7 := Lib.hid (HS6.out.fr hf7 (fun h => h))
  have HV7 := Lib.hid (HV6.out.fr hf7 (fun h => h))
  have HF7 := Lib.hid (HF6.out.trans hf7)
  clear hf7
  go_wp2_with fail
  refine (in_any _ _ _).mono ?_
  rintro e wi ⟨rfl, rfl⟩
  rw [decide_eq_true (by omega)]
  go_wp2_with fail
  refine (in_any _ _ _).mono ?_
  rintro e wi ⟨rfl, rfl⟩
  rw [decide_eq_true (by omega)]
  go_wp2_with fail
  refine (in_any _ _ _).mono ?_
  rintro e wi ⟨rfl, rfl⟩
  rw [decide_eq_true (by omega)]
  go_wp2_with fail
  refine reg_start (by kernel_rfl) ?_
  refine reg_seq' 105 3 TT6_8 (by kernel_rfl) (by kernel_rfl) ?_
  simp only [List.drop_succ_cons, List.drop_zero, List.take_succ_cons, List.take_zero]
  go_wp2_with fail
  refine QR.mk ?_
  refine reg_uno (D := [some 54, some 55, some 56, some 57, some 58, some 59, some 60, some 61, some 62, some 63, some 64]) (J := [3, 4, 5, 6, 7, 8]) 9 [] [PV (.agg S), PV (.int .i64 (leaf : Int)), PV (.int .i64 (chain : Int)), PV (.int .i64 (a : Int)), PV (.agg V), PV (.agg S)] TT6_8 (by kernel_rfl) (by kernel_rfl) (by kernel_rfl) rfl rfl rfl
    (stab_cons (PV.stab _) (stab_cons (PV.stab _) (stab_cons (PV.stab _) (stab_cons (PV.stab _) (stab_cons (PV.stab _) (stab_cons (PV.stab _) stab_nil))))))
    (fun u => usteps_cons ?_ (usteps_cons ?_ (usteps_cons ?_ (usteps_cons ?_ (usteps_cons ?_ (usteps_cons ?_ (usteps_nil))))))) (fun u wx hx hP hA => ?_)
  · refine ustep_mk (D := [some 54, some 55, some 56, some 57, some 58, some 59, some 60, some 61, some 62, some 63, some 64]) (Ti := []) rfl rfl rfl rfl (fun wx hx hP => ?_)   -- 3: load 22 (tmp 11)
    have hl := (HS7.out.drew.fr hx (fun h => h)).all hsS
    clear hP
    simp only [putD, List.getD_cons_zero, List.getD_cons_succ]
    go_wp2_with fail
    exact Q1.mk rfl _ rfl ⟨Fr.refl _ _, rfl, frok_no rfl⟩
  · refine ustep_mk (D := [some 54, some 55, some 56, some 57, some 58, some 59, some 60, some 61, some 62, some 63, some 64]) (Ti := []) rfl rfl rfl rfl (fun wx hx hP => ?_)   -- 4: move (tmp 7)
    clear hP
    simp only [putD, List.getD_cons_zero, List.getD_cons_succ]
    go_wp2_with fail
    exact Q1.mk rfl _ rfl ⟨Fr.refl _ _, rfl, frok_no rfl⟩
  · refine ustep_mk (D := [some 54, some 55, some 56, some 57, some 58, some 59, some 60, some 61, some 62, some 63, some 64]) (Ti := []) rfl rfl rfl rfl (fun wx hx hP => ?_)   -- 5: move (tmp 8)
    clear hP
    simp only [putD, List.getD_cons_zero, List.getD_cons_succ]
    go_wp2_with fail
    exact Q1.mk rfl _ rfl ⟨Fr.refl _ _, rfl, frok_no rfl⟩
  · refine ustep_mk (D := [some 54, some 55, some 56, some 57, some 58, some 59, some 60, some 61, some 62, some 63, some 64]) (Ti := []) rfl rfl rfl rfl (fun wx hx hP => ?_)   -- 6: move (tmp 9)
    clear hP
    simp only [putD, List.getD_cons_zero, List.getD_cons_succ]
    go_wp2_with fail
    exact Q1.mk rfl _ rfl ⟨Fr.refl _ _, rfl, frok_no rfl⟩
  · refine ustep_mk (D := [some 54, some 55, some 56, some 57, some 58, some 59, some 60, some 61, some 62, some 63, some 64]) (Ti := []) rfl rfl rfl rfl (fun wx hx hP => ?_)   -- 7: load 22 (tmp 5)
    have hl := (HV7.out.drew.fr hx (fun h => h)).all hsz
    clear hP
    simp only [putD, List.getD_cons_zero, List.getD_cons_succ]
    go_wp2_with fail
    exact Q1.mk rfl _ rfl ⟨Fr.refl _ _, rfl, frok_no rfl⟩
  · refine ustep_mk (D := [some 54, some 55, some 56, some 57, some 58, some 59, some 60, some 61, some 62, some 63, some 64]) (Ti := [4, 5, 6, 7]) rfl rfl rfl rfl (fun wx hx hP => ?_)   -- 8: call { callee := Callee.value (func 21), args := #
    have h4 : u 4 = .int .i64 (leaf : Int) := hP.1
    have h5 : u 5 = .int .i64 (chain : Int) := hP.2.1
    have h6 : u 6 = .int .i64 (a : Int) := hP.2.2.1
    have h7 : u 7 = .agg V := hP.2.2.2.1
    clear hP
    simp only [putD, List.getD_cons_zero, List.getD_cons_succ]
    go_wp2_with fail
    rw [HV.out]
    refine (rstep_any leaf chain a hL v _).mono ?_
    rintro e wy ⟨rfl, hfy⟩
    rw [← HS.out, ← HV.out]
    go_wp2_with fail
    exact Q1.mk rfl _ rfl ⟨hfy, rfl, frok_no rfl⟩
  have h3 : u 3 = .agg S := hP.1
  have h4 : u 4 = .int .i64 (leaf : Int) := hP.2.1
  have h5 : u 5 = .int .i64 (chain : Int) := hP.2.2.1
  have h6 : u 6 = .int .i64 (a : Int) := hP.2.2.2.1
  have h7 : u 7 = .agg V := hP.2.2.2.2.1
  have h8 : u 8 = .agg S := hP.2.2.2.2.2.1
  have HB8 := Lib.hid (HB7.out.drew.fr hx (fun h => h))
  have HV8 := Lib.hid (HV7.out.drew.fr hx (fun h => h))
  have HF8 := Lib.hid (HF7.out.trans ((Fr.drew (Fr.refl _ _)).trans hx))
  clear hx
  clear hP
  simp only [putD, List.getD_cons_zero, List.getD_cons_succ]
  refine reg_seq' 105 2 TT6_8 (by kernel_rfl) (by kernel_rfl) ?_
  simp only [List.drop_succ_cons, List.drop_zero, List.take_succ_cons, List.take_zero]
  go_wp2_with fail
  refine QR.mk ?_
  refine reg_end (by decide) ?_
  go_wp2_with fail
  refine (in_any _ _ _).mono ?_
  rintro e wi ⟨rfl, rfl⟩
  rw [decide_eq_true (by omega)]
  go_wp2_with fail
  refine (in_any _ _ _).mono ?_
  rintro e wi ⟨rfl, rfl⟩
  rw [decide_eq_false (by omega)]
  have hlB := HB8.out.all hzs
  go_wp2_with fail
  go_ret
  exact ⟨rfl, HF8.out⟩
set_option maxHeartbeats 4000000 in
theorem steps_AAC (leaf : Nat) (chain : Nat) (a : Nat) (b : Nat) (v : By 16) (hL : leaf ≤ 65535) (hC : chain ≤ 34) (hA : a ≤ 14) (hB : b ≤ 15) (hB' : b < a) (w : World) :
    Calls Try.prog 6 #[.agg #[.int .i64 (leaf : Int), .int .i64 (chain : Int)], .agg #[.int .i64 (a : Int), .int .i64 (b : Int)], .agg (bs v.1).toArray] w fun e w' => e = .returned (.bool true) ∧ Fr0 w w' := by
  have hsz : (bs v.1).toArray.size = 16 := by simp [v.2]
  obtain ⟨V, HV⟩ := nm (bs v.1).toArray
  rw [← HV.out] at hsz ⊢
  obtain ⟨Z, HZ⟩ := nm z16
  have hst := z16_st
  have hbd := run_bd_v16
  have heq := run_z16_same
  have hne := run_z16_nsame
  have hzs : Z.size = 16 := by rw [HZ.out]; rfl
  rw [← HZ.out] at hst hbd heq hne
  have hstS := a16_st ⟨stepB leaf chain a v.1, stepB_length _ _ _ _⟩
  change ∀ (w : World) (b' p : Nat), okA w b' p 16 = true → (st 22 (.pointer (some ⟨b', p, none⟩)) (.agg (bs (stepB leaf chain a v.1)).toArray)).run Try.prog w = .ok () (putW w b' p (bs (stepB leaf chain a v.1)).toArray) at hstS
  have hsS : (bs (stepB leaf chain a v.1)).toArray.size = 16 := by simp [stepB_length]
  have heS := fun w => run_rv_same w (stepB leaf chain a v.1) (stepB_length _ _ _ _)
  have hnS := fun w => run_rv_nsame w (stepB leaf chain a v.1) (stepB_length _ _ _ _)
  obtain ⟨S, HS⟩ := nm (bs (stepB leaf chain a v.1)).toArray
  rw [← HS.out] at hstS hsS heS hnS
  obtain ⟨w1, HW1⟩ := nm (((w.alloc (.cells #[.int .i64 (leaf : Int), .int .i64 (chain : Int)] 39)).alloc (.cells #[.int .i64 (a : Int), .int .i64 (b : Int)] 39)).alloc (.cells V 22))
  obtain ⟨hb0, hb1, hb2, hf1⟩ := alloc3n _ _ _ _ _ _ _ _ HW1.out
  have c0 : w1.cell? ⟨w.heap.size, 0, none⟩ = some (.int .i64 (leaf : Int)) := hb0.cell 0
  have c1 : w1.cell? ⟨w.heap.size, 1, none⟩ = some (.int .i64 (chain : Int)) := hb0.cell 1
  have c2 : w1.cell? ⟨w.heap.size + 1, 0, none⟩ = some (.int .i64 (a : Int)) := hb1.cell 0
  have c3 : w1.cell? ⟨w.heap.size + 1, 1, none⟩ = some (.int .i64 (b : Int)) := hb1.cell 1
  have HB2 := Lib.hid hb2
  have HF1 := Lib.hid hf1
  clear hb0 hb1 hb2 hf1
  go_enter Try.func6, Try.ntmps6
  go_wp2_with fail
  rw [← HW1.out]
  go_quiet (fail)
  clear c0 c1 c2 c3
  obtain ⟨w2, HW2⟩ := nm (w1.drewN nq)
  have HV2 := Lib.hid (show Blk w2 (w.heap.size + 2) 22 V from by rw [HW2.out]; exact HB2.out.drewN _)
  have HF2 := Lib.hid (show Fr0 w w2 from by rw [HW2.out]; exact HF1.out.drewN _)
  have hl2 := HV2.out.all hsz
  rw [← HW2.out]
  go_wp2_with fail
  rw [HV.out]
  refine (Step_ok leaf chain a v hL hC hA _).mono ?_
  rintro e w3 ⟨rfl, hf3⟩
  rw [← HS.out, ← HV.out]
  have HV3 := Lib.hid (HV2.out.fr hf3 (fun h => h))
  have HF3 := Lib.hid (HF2.out.trans hf3)
  clear hf3 hl2
  obtain ⟨w4, HW4⟩ := nm (w3.alloc (.cells S 22))
  have HS4 := Lib.hid (show Blk w4 w3.heap.size 22 S from by rw [HW4.out]; exact Blk.new _ _ _)
  have HV4 := Lib.hid (show Blk w4 (w.heap.size + 2) 22 V from by rw [HW4.out]; exact HV3.out.alloc _)
  have HF4 := Lib.hid (show Fr0 w w4 from by rw [HW4.out]; exact HF3.out.alloc _)
  have hl4 : ldA (w3.alloc (.cells S 22)) (w.heap.size + 2) 0 16 = some V := (HV3.out.alloc _).all hsz
  go_wp2_with fail
  rw [← HW4.out, HV.out]
  refine (Advance_bad (leaf : Int) (chain : Int) (a : Int) (b : Int) v (by omega) _).mono ?_
  rintro e w5 ⟨rfl, hf5⟩
  rw [← HZ.out, ← HV.out]
  have HS5 := Lib.hid (HS4.out.fr hf5 (fun h => h))
  have HV5 := Lib.hid (HV4.out.fr hf5 (fun h => h))
  have HF5 := Lib.hid (HF4.out.trans hf5)
  clear hf5 hl4
  obtain ⟨w6, HW6⟩ := nm (w5.alloc (.cells Z 22))
  have HB6 := Lib.hid (show Blk w6 w5.heap.size 22 Z from by rw [HW6.out]; exact Blk.new _ _ _)
  have HS6 := Lib.hid (show Blk w6 w3.heap.size 22 S from by rw [HW6.out]; exact HS5.out.alloc _)
  have HV6 := Lib.hid (show Blk w6 (w.heap.size + 2) 22 V from by rw [HW6.out]; exact HV5.out.alloc _)
  have HF6 := Lib.hid (show Fr0 w w6 from by rw [HW6.out]; exact HF5.out.alloc _)
  go_wp2_with fail
  rw [← HW6.out]
  refine (known_any _).mono ?_
  rintro e w7 ⟨rfl, hf7⟩
  have HB7 := Lib.hid (HB6.out.fr hf7 (fun h => h))
  have HS7 := Lib.hid (HS6.out.fr hf7 (fun h => h))
  have HV7 := Lib.hid (HV6.out.fr hf7 (fun h => h))
  have HF7 := Lib.hid (HF6.out.trans hf7)
  clear hf7
  go_wp2_with fail
  refine (in_any _ _ _).mono ?_
  rintro e wi ⟨rfl, rfl⟩
  rw [decide_eq_true (by omega)]
  go_wp2_with fail
  refine (in_any _ _ _).mono ?_
  rintro e wi ⟨rfl, rfl⟩
  rw [decide_eq_true (by omega)]
  go_wp2_with fail
  refine (in_any _ _ _).mono ?_
  rintro e wi ⟨rfl, rfl⟩
  rw [decide_eq_true (by omega)]
  go_wp2_with fail
  refine reg_start (by kernel_rfl) ?_
  refine reg_seq' 105 3 TT6_8 (by kernel_rfl) (by kernel_rfl) ?_
  simp only [List.drop_succ_cons, List.drop_zero, List.take_succ_cons, List.take_zero]
  go_wp2_with fail
  refine QR.mk ?_
  refine reg_uno (D := [some 54, some 55, some 56, some 57, some 58, some 59, some 60, some 61, some 62, some 63, some 64]) (J := [3, 4, 5, 6, 7, 8]) 9 [] [PV (.agg S), PV (.int .i64 (leaf : Int)), PV (.int .i64 (chain : Int)), PV (.int .i64 (a : Int)), PV (.agg V), PV (.agg S)] TT6_8 (by kernel_rfl) (by kernel_rfl) (by kernel_rfl) rfl rfl rfl
    (stab_cons (PV.stab _) (stab_cons (PV.stab _) (stab_cons (PV.stab _) (stab_cons (PV.stab _) (stab_cons (PV.stab _) (stab_cons (PV.stab _) stab_nil))))))
    (fun u => usteps_cons ?_ (usteps_cons ?_ (usteps_cons ?_ (usteps_cons ?_ (usteps_cons ?_ (usteps_cons ?_ (usteps_nil))))))) (fun u wx hx hP hA => ?_)
  · refine ustep_mk (D := [some 54, some 55, some 56, some 57, some 58, some 59, some 60, some 61, some 62, some 63, some 64]) (Ti := []) rfl rfl rfl rfl (fun wx hx hP => ?_)   -- 3: load 22 (tmp 11)
    have hl := (HS7.out.drew.fr hx (fun h => h)).all hsS
    clear hP
    simp only [putD, List.getD_cons_zero, List.getD_cons_succ]
    go_wp2_with fail
    exact Q1.mk rfl _ rfl ⟨Fr.refl _ _, rfl, frok_no rfl⟩
  · refine ustep_mk (D := [some 54, some 55, some 56, some 57, some 58, some 59, some 60, some 61, some 62, some 63, some 64]) (Ti := []) rfl rfl rfl rfl (fun wx hx hP => ?_)   -- 4: move (tmp 7)
    clear hP
    simp only [putD, List.getD_cons_zero, List.getD_cons_succ]
    go_wp2_with fail
    exact Q1.mk rfl _ rfl ⟨Fr.refl _ _, rfl, frok_no rfl⟩
  · refine ustep_mk (D := [some 54, some 55, some 56, some 57, some 58, some 59, some 60, some 61, some 62, some 63, some 64]) (Ti := []) rfl rfl rfl rfl (fun wx hx hP => ?_)   -- 5: move (tmp 8)
    clear hP
    simp only [putD, List.getD_cons_zero, List.getD_cons_succ]
    go_wp2_with fail
    exact Q1.mk rfl _ rfl ⟨Fr.refl _ _, rfl, frok_no rfl⟩
  · refine ustep_mk (D := [some 54, some 55, some 56, some 57, some 58, some 59, some 60, some 61, some 62, some 63, some 64]) (Ti := []) rfl rfl rfl rfl (fun wx hx hP => ?_)   -- 6: move (tmp 9)
    clear hP
    simp only [putD, List.getD_cons_zero, List.getD_cons_succ]
    go_wp2_with fail
    exact Q1.mk rfl _ rfl ⟨Fr.refl _ _, rfl, frok_no rfl⟩
  · refine ustep_mk (D := [some 54, some 55, some 56, some 57, some 58, some 59, some 60, some 61, some 62, some 63, some 64]) (Ti := []) rfl rfl rfl rfl (fun wx hx hP => ?_)   -- 7: load 22 (tmp 5)
    have hl := (HV7.out.drew.fr hx (fun h => h)).all hsz
    clear hP
    simp only [putD, List.getD_cons_zero, List.getD_cons_succ]
    go_wp2_with fail
    exact Q1.mk rfl _ rfl ⟨Fr.refl _ _, rfl, frok_no rfl⟩
  · refine ustep_mk (D := [some 54, some 55, some 56, some 57, some 58, some 59, some 60, some 61, some 62, some 63, some 64]) (Ti := [4, 5, 6, 7]) rfl rfl rfl rfl (fun wx hx hP => ?_)   -- 8: call { callee := Callee.value (func 21), args := #
    have h4 : u 4 = .int .i64 (leaf : Int) := hP.1
    have h5 : u 5 = .int .i64 (chain : Int) := hP.2.1
    have h6 : u 6 = .int .i64 (a : Int) := hP.2.2.1
    have h7 : u 7 = .agg V := hP.2.2.2.1
    clear hP
    simp only [putD, List.getD_cons_zero, List.getD_cons_succ]
    go_wp2_with fail
    rw [HV.out]
    refine (rstep_any leaf chain a hL v _).mono ?_
    rintro e wy ⟨rfl, hfy⟩
    rw [← HS.out, ← HV.out]
    go_wp2_with fail
    exact Q1.mk rfl _ rfl ⟨hfy, rfl, frok_no rfl⟩
  have h3 : u 3 = .agg S := hP.1
  have h4 : u 4 = .int .i64 (leaf : Int) := hP.2.1
  have h5 : u 5 = .int .i64 (chain : Int) := hP.2.2.1
  have h6 : u 6 = .int .i64 (a : Int) := hP.2.2.2.1
  have h7 : u 7 = .agg V := hP.2.2.2.2.1
  have h8 : u 8 = .agg S := hP.2.2.2.2.2.1
  have HB8 := Lib.hid (HB7.out.drew.fr hx (fun h => h))
  have HV8 := Lib.hid (HV7.out.drew.fr hx (fun h => h))
  have HF8 := Lib.hid (HF7.out.trans ((Fr.drew (Fr.refl _ _)).trans hx))
  clear hx
  clear hP
  simp only [putD, List.getD_cons_zero, List.getD_cons_succ]
  refine reg_seq' 105 2 TT6_8 (by kernel_rfl) (by kernel_rfl) ?_
  simp only [List.drop_succ_cons, List.drop_zero, List.take_succ_cons, List.take_zero]
  go_wp2_with fail
  refine QR.mk ?_
  refine reg_end (by decide) ?_
  go_wp2_with fail
  refine (in_any _ _ _).mono ?_
  rintro e wi ⟨rfl, rfl⟩
  rw [decide_eq_true (by omega)]
  go_wp2_with fail
  refine (in_any _ _ _).mono ?_
  rintro e wi ⟨rfl, rfl⟩
  rw [decide_eq_true (by omega)]
  have hlB := HB8.out.all hzs
  go_wp2_with fail
  go_ret
  exact ⟨rfl, HF8.out⟩
set_option maxHeartbeats 4000000 in
theorem steps_ABA (leaf : Nat) (chain : Nat) (a : Nat) (b : Nat) (v : By 16) (hL : leaf ≤ 65535) (hC : chain ≤ 34) (hA : 14 < a) (hA' : a ≤ 15) (hB : b ≤ 15) (hB' : a ≤ b) (w : World) :
    Calls Try.prog 6 #[.agg #[.int .i64 (leaf : Int), .int .i64 (chain : Int)], .agg #[.int .i64 (a : Int), .int .i64 (b : Int)], .agg (bs v.1).toArray] w fun e w' => e = .returned (.bool true) ∧ Fr0 w w' := by
  have hsz : (bs v.1).toArray.size = 16 := by simp [v.2]
  obtain ⟨V, HV⟩ := nm (bs v.1).toArray
  rw [← HV.out] at hsz ⊢
  obtain ⟨Z, HZ⟩ := nm z16
  have hst := z16_st
  have hbd := run_bd_v16
  have heq := run_z16_same
  have hne := run_z16_nsame
  have hzs : Z.size = 16 := by rw [HZ.out]; rfl
  rw [← HZ.out] at hst hbd heq hne
  have hstD := a16_st ⟨advB leaf chain a (b - a) v.1, advB_length _ _ _ _ _ v.2⟩
  change ∀ (w : World) (b' p : Nat), okA w b' p 16 = true → (st 22 (.pointer (some ⟨b', p, none⟩)) (.agg (bs (advB leaf chain a (b - a) v.1)).toArray)).run Try.prog w = .ok () (putW w b' p (bs (advB leaf chain a (b - a) v.1)).toArray) at hstD
  have hsD : (bs (advB leaf chain a (b - a) v.1)).toArray.size = 16 := by simp [advB_length, v.2]
  have heD := fun w => run_rv_same w (advB leaf chain a (b - a) v.1) (advB_length _ _ _ _ _ v.2)
  have hnD := fun w => run_rv_nsame w (advB leaf chain a (b - a) v.1) (advB_length _ _ _ _ _ v.2)
  obtain ⟨D, HD⟩ := nm (bs (advB leaf chain a (b - a) v.1)).toArray
  rw [← HD.out] at hstD hsD heD hnD
  obtain ⟨w1, HW1⟩ := nm (((w.alloc (.cells #[.int .i64 (leaf : Int), .int .i64 (chain : Int)] 39)).alloc (.cells #[.int .i64 (a : Int), .int .i64 (b : Int)] 39)).alloc (.cells V 22))
  obtain ⟨hb0, hb1, hb2, hf1⟩ := alloc3n _ _ _ _ _ _ _ _ HW1.out
  have c0 : w1.cell? ⟨w.heap.size, 0, none⟩ = some (.int .i64 (leaf : Int)) := hb0.cell 0
  have c1 : w1.cell? ⟨w.heap.size, 1, none⟩ = some (.int .i64 (chain : Int)) := hb0.cell 1
  have c2 : w1.cell? ⟨w.heap.size + 1, 0, none⟩ = some (.int .i64 (a : Int)) := hb1.cell 0
  have c3 : w1.cell? ⟨w.heap.size + 1, 1, none⟩ = some (.int .i64 (b : Int)) := hb1.cell 1
  have HB2 := Lib.hid hb2
  have HF1 := Lib.hid hf1
  clear hb0 hb1 hb2 hf1
  go_enter Try.func6, Try.ntmps6
  go_wp2_with fail
  rw [← HW1.out]
  go_quiet (fail)
  clear c0 c1 c2 c3
  obtain ⟨w2, HW2⟩ := nm (w1.drewN nq)
  have HV2 := Lib.hid (show Blk w2 (w.heap.size + 2) 22 V from by rw [HW2.out]; exact HB2.out.drewN _)
  have HF2 := Lib.hid (show Fr0 w w2 from by rw [HW2.out]; exact HF1.out.drewN _)
  have hl2 := HV2.out.all hsz
  rw [← HW2.out]
  go_wp2_with fail
  rw [HV.out]
  refine (Step_bad (leaf : Int) (chain : Int) (a : Int) v (by omega) _).mono ?_
  rintro e w3 ⟨rfl, hf3⟩
  rw [← HZ.out, ← HV.out]
  have HV3 := Lib.hid (HV2.out.fr hf3 (fun h => h))
  have HF3 := Lib.hid (HF2.out.trans hf3)
  clear hf3 hl2
  obtain ⟨w4, HW4⟩ := nm (w3.alloc (.cells Z 22))
  have HS4 := Lib.hid (show Blk w4 w3.heap.size 22 Z from by rw [HW4.out]; exact Blk.new _ _ _)
  have HV4 := Lib.hid (show Blk w4 (w.heap.size + 2) 22 V from by rw [HW4.out]; exact HV3.out.alloc _)
  have HF4 := Lib.hid (show Fr0 w w4 from by rw [HW4.out]; exact HF3.out.alloc _)
  have hl4 : ldA (w3.alloc (.cells Z 22)) (w.heap.size + 2) 0 16 = some V := (HV3.out.alloc _).all hsz
  go_wp2_with fail
  rw [← HW4.out, HV.out]
  refine (Advance_ok leaf chain a b v hL hC hB' hB _).mono ?_
  rintro e w5 ⟨rfl, hf5⟩
  rw [← HD.out, ← HV.out]
  have HS5 := Lib.hid (HS4.out.fr hf5 (fun h => h))
  have HV5 := Lib.hid (HV4.out.fr hf5 (fun h => h))
  have HF5 := Lib.hid (HF4.out.trans hf5)
  clear hf5 hl4
  obtain ⟨w6, HW6⟩ := nm (w5.alloc (.cells D 22))
  have HB6 := Lib.hid (show Blk w6 w5.heap.size 22 D from by rw [HW6.out]; exact Blk.new _ _ _)
  have HS6 := Lib.hid (show Blk w6 w3.heap.size 22 Z from by rw [HW6.out]; exact HS5.out.alloc _)
  have HV6 := Lib.hid (show Blk w6 (w.heap.size + 2) 22 V from by rw [HW6.out]; exact HV5.out.alloc _)
  have HF6 := Lib.hid (show Fr0 w w6 from by rw [HW6.out]; exact HF5.out.alloc _)
  go_wp2_with fail
  rw [← HW6.out]
  refine (known_any _).mono ?_
  rintro e w7 ⟨rfl, hf7⟩
  have HB7 := Lib.hid (HB6.out.fr hf7 (fun h => h))
  have HS7 := Lib.hid (HS6.out.fr hf7 (fun h => h))
  have HV7 := Lib.hid (HV6.out.fr hf7 (fun h => h))
  have HF7 := Lib.hid (HF6.out.trans hf7)
  clear hf7
  go_wp2_with fail
  refine (in_any _ _ _).mono ?_
  rintro e wi ⟨rfl, rfl⟩
  rw [decide_eq_true (by omega)]
  go_wp2_with fail
  refine (in_any _ _ _).mono ?_
  rintro e wi ⟨rfl, rfl⟩
  rw [decide_eq_true (by omega)]
  go_wp2_with fail
  refine (in_any _ _ _).mono ?_
  rintro e wi ⟨rfl, rfl⟩
  rw [decide_eq_false (by omega)]
  have hlS := HS7.out.all hzs
  have HB8 := Lib.hid HB7.out
  have HV8 := Lib.hid HV7.out
  have HF8 := Lib.hid HF7.out
  go_wp2_with fail
  refine (in_any _ _ _).mono ?_
  rintro e wi ⟨rfl, rfl⟩
  rw [decide_eq_true (by omega)]
  go_wp2_with fail
  refine (in_any _ _ _).mono ?_
  rintro e wi ⟨rfl, rfl⟩
  rw [decide_eq_true (by omega)]
  go_wp2_with fail
  refine reg_start (by kernel_rfl) ?_
  refine reg_seq' 105 3 TT6_13 (by kernel_rfl) (by kernel_rfl) ?_
  simp only [List.drop_succ_cons, List.drop_zero, List.take_succ_cons, List.take_zero]
  go_wp2_with fail
  refine QR.mk ?_
  refine reg_uno (D := [some 86, some 87, some 88, some 89, some 90, some 91, some 92, some 93, some 94, some 95, some 96, some 97, some 6]) (J := [3, 4, 5, 6, 7, 8, 9]) 10 [] [PV (.agg D), PV (.int .i64 (leaf : Int)), PV (.int .i64 (chain : Int)), PV (.int .i64 (a : Int)), PV (.int .i64 (b : Int)), PV (.agg V), PV (.agg D)] TT6_13 (by kernel_rfl) (by kernel_rfl) (by kernel_rfl) rfl rfl rfl
    (stab_cons (PV.stab _) (stab_cons (PV.stab _) (stab_cons (PV.stab _) (stab_cons (PV.stab _) (stab_cons (PV.stab _) (stab_cons (PV.stab _) (stab_cons (PV.stab _) stab_nil)))))))
    (fun u => usteps_cons ?_ (usteps_cons ?_ (usteps_cons ?_ (usteps_cons ?_ (usteps_cons ?_ (usteps_cons ?_ (usteps_cons ?_ (usteps_nil)))))))) (fun u wz hy hP hA => ?_)
  · refine ustep_mk (D := [some 86, some 87, some 88, some 89, some 90, some 91, some 92, some 93, some 94, some 95, some 96, some 97, some 6]) (Ti := []) rfl rfl rfl rfl (fun wz hy hP => ?_)   -- 3: load 22 (tmp 13)
    have hl := (HB8.out.drew.fr hy (fun h => h)).all hsD
    clear hP
    simp only [putD, List.getD_cons_zero, List.getD_cons_succ]
    go_wp2_with fail
    exact Q1.mk rfl _ rfl ⟨Fr.refl _ _, rfl, frok_no rfl⟩
  · refine ustep_mk (D := [some 86, some 87, some 88, some 89, some 90, some 91, some 92, some 93, some 94, some 95, some 96, some 97, some 6]) (Ti := []) rfl rfl rfl rfl (fun wz hy hP => ?_)   -- 4: move (tmp 7)
    clear hP
    simp only [putD, List.getD_cons_zero, List.getD_cons_succ]
    go_wp2_with fail
    exact Q1.mk rfl _ rfl ⟨Fr.refl _ _, rfl, frok_no rfl⟩
  · refine ustep_mk (D := [some 86, some 87, some 88, some 89, some 90, some 91, some 92, some 93, some 94, some 95, some 96, some 97, some 6]) (Ti := []) rfl rfl rfl rfl (fun wz hy hP => ?_)   -- 5: move (tmp 8)
    clear hP
    simp only [putD, List.getD_cons_zero, List.getD_cons_succ]
    go_wp2_with fail
    exact Q1.mk rfl _ rfl ⟨Fr.refl _ _, rfl, frok_no rfl⟩
  · refine ustep_mk (D := [some 86, some 87, some 88, some 89, some 90, some 91, some 92, some 93, some 94, some 95, some 96, some 97, some 6]) (Ti := []) rfl rfl rfl rfl (fun wz hy hP => ?_)   -- 6: move (tmp 9)
    clear hP
    simp only [putD, List.getD_cons_zero, List.getD_cons_succ]
    go_wp2_with fail
    exact Q1.mk rfl _ rfl ⟨Fr.refl _ _, rfl, frok_no rfl⟩
  · refine ustep_mk (D := [some 86, some 87, some 88, some 89, some 90, some 91, some 92, some 93, some 94, some 95, some 96, some 97, some 6]) (Ti := []) rfl rfl rfl rfl (fun wz hy hP => ?_)   -- 7: move (tmp 10)
    clear hP
    simp only [putD, List.getD_cons_zero, List.getD_cons_succ]
    go_wp2_with fail
    exact Q1.mk rfl _ rfl ⟨Fr.refl _ _, rfl, frok_no rfl⟩
  · refine ustep_mk (D := [some 86, some 87, some 88, some 89, some 90, some 91, some 92, some 93, some 94, some 95, some 96, some 97, some 6]) (Ti := []) rfl rfl rfl rfl (fun wz hy hP => ?_)   -- 8: load 22 (tmp 5)
    have hl := (HV8.out.drew.fr hy (fun h => h)).all hsz
    clear hP
    simp only [putD, List.getD_cons_zero, List.getD_cons_succ]
    go_wp2_with fail
    exact Q1.mk rfl _ rfl ⟨Fr.refl _ _, rfl, frok_no rfl⟩
  · refine ustep_mk (D := [some 86, some 87, some 88, some 89, some 90, some 91, some 92, some 93, some 94, some 95, some 96, some 97, some 6]) (Ti := [4, 5, 6, 7, 8]) rfl rfl rfl rfl (fun wz hy hP => ?_)   -- 9: call { callee := Callee.value (func 22), args := #
    have h4 : u 4 = .int .i64 (leaf : Int) := hP.1
    have h5 : u 5 = .int .i64 (chain : Int) := hP.2.1
    have h6 : u 6 = .int .i64 (a : Int) := hP.2.2.1
    have h7 : u 7 = .int .i64 (b : Int) := hP.2.2.2.1
    have h8 : u 8 = .agg V := hP.2.2.2.2.1
    clear hP
    simp only [putD, List.getD_cons_zero, List.getD_cons_succ]
    go_wp2_with fail
    rw [HV.out]
    refine (radvance_any leaf chain a b hL hB hB' v _).mono ?_
    rintro e wy ⟨rfl, hfy⟩
    rw [← HD.out, ← HV.out]
    go_wp2_with fail
    exact Q1.mk rfl _ rfl ⟨hfy, rfl, frok_no rfl⟩
  have h3 : u 3 = .agg D := hP.1
  have h4 : u 4 = .int .i64 (leaf : Int) := hP.2.1
  have h5 : u 5 = .int .i64 (chain : Int) := hP.2.2.1
  have h6 : u 6 = .int .i64 (a : Int) := hP.2.2.2.1
  have h7 : u 7 = .int .i64 (b : Int) := hP.2.2.2.2.1
  have h8 : u 8 = .agg V := hP.2.2.2.2.2.1
  have h9 : u 9 = .agg D := hP.2.2.2.2.2.2.1
  have HE := Lib.hid (HF8.out.trans ((Fr.drew (Fr.refl _ _)).trans hy))
  clear hy
  clear hP
  simp only [putD, List.getD_cons_zero, List.getD_cons_succ]
  refine reg_seq' 105 3 TT6_13 (by kernel_rfl) (by kernel_rfl) ?_
  simp only [List.drop_succ_cons, List.drop_zero, List.take_succ_cons, List.take_zero]
  go_wp2_with fail
  refine QR.mk ?_
  refine reg_end (by decide) ?_
  go_wp2_with fail
  go_ret
  exact ⟨rfl, HE.out⟩
set_option maxHeartbeats 4000000 in
theorem steps_ABB (leaf : Nat) (chain : Nat) (a : Nat) (b : Int) (v : By 16) (hL : leaf ≤ 65535) (hC : chain ≤ 34) (hA : 14 < a) (hA' : a ≤ 15) (hB : ¬ (0 ≤ b ∧ b ≤ 15)) (w : World) :
    Calls Try.prog 6 #[.agg #[.int .i64 (leaf : Int), .int .i64 (chain : Int)], .agg #[.int .i64 (a : Int), .int .i64 b], .agg (bs v.1).toArray] w fun e w' => e = .returned (.bool true) ∧ Fr0 w w' := by
  have hsz : (bs v.1).toArray.size = 16 := by simp [v.2]
  obtain ⟨V, HV⟩ := nm (bs v.1).toArray
  rw [← HV.out] at hsz ⊢
  obtain ⟨Z, HZ⟩ := nm z16
  have hst := z16_st
  have hbd := run_bd_v16
  have heq := run_z16_same
  have hne := run_z16_nsame
  have hzs : Z.size = 16 := by rw [HZ.out]; rfl
  rw [← HZ.out] at hst hbd heq hne
  obtain ⟨w1, HW1⟩ := nm (((w.alloc (.cells #[.int .i64 (leaf : Int), .int .i64 (chain : Int)] 39)).alloc (.cells #[.int .i64 (a : Int), .int .i64 b] 39)).alloc (.cells V 22))
  obtain ⟨hb0, hb1, hb2, hf1⟩ := alloc3n _ _ _ _ _ _ _ _ HW1.out
  have c0 : w1.cell? ⟨w.heap.size, 0, none⟩ = some (.int .i64 (leaf : Int)) := hb0.cell 0
  have c1 : w1.cell? ⟨w.heap.size, 1, none⟩ = some (.int .i64 (chain : Int)) := hb0.cell 1
  have c2 : w1.cell? ⟨w.heap.size + 1, 0, none⟩ = some (.int .i64 (a : Int)) := hb1.cell 0
  have c3 : w1.cell? ⟨w.heap.size + 1, 1, none⟩ = some (.int .i64 b) := hb1.cell 1
  have HB2 := Lib.hid hb2
  have HF1 := Lib.hid hf1
  clear hb0 hb1 hb2 hf1
  go_enter Try.func6, Try.ntmps6
  go_wp2_with fail
  rw [← HW1.out]
  go_quiet (fail)
  clear c0 c1 c2 c3
  obtain ⟨w2, HW2⟩ := nm (w1.drewN nq)
  have HV2 := Lib.hid (show Blk w2 (w.heap.size + 2) 22 V from by rw [HW2.out]; exact HB2.out.drewN _)
  have HF2 := Lib.hid (show Fr0 w w2 from by rw [HW2.out]; exact HF1.out.drewN _)
  have hl2 := HV2.out.all hsz
  rw [← HW2.out]
  go_wp2_with fail
  rw [HV.out]
  refine (Step_bad (leaf : Int) (chain : Int) (a : Int) v (by omega) _).mono ?_
  rintro e w3 ⟨rfl, hf3⟩
  rw [← HZ.out, ← HV.out]
  have HV3 := Lib.hid (HV2.out.fr hf3 (fun h => h))
  have HF3 := Lib.hid (HF2.out.trans hf3)
  clear hf3 hl2
  obtain ⟨w4, HW4⟩ := nm (w3.alloc (.cells Z 22))
  have HS4 := Lib.hid (show Blk w4 w3.heap.size 22 Z from by rw [HW4.out]; exact Blk.new _ _ _)
  have HV4 := Lib.hid (show Blk w4 (w.heap.size + 2) 22 V from by rw [HW4.out]; exact HV3.out.alloc _)
  have HF4 := Lib.hid (show Fr0 w w4 from by rw [HW4.out]; exact HF3.out.alloc _)
  have hl4 : ldA (w3.alloc (.cells Z 22)) (w.heap.size + 2) 0 16 = some V := (HV3.out.alloc _).all hsz
  go_wp2_with fail
  rw [← HW4.out, HV.out]
  refine (Advance_bad (leaf : Int) (chain : Int) (a : Int) b v (by omega) _).mono ?_
  rintro e w5 ⟨rfl, hf5⟩
  rw [← HZ.out, ← HV.out]
  have HS5 := Lib.hid (HS4.out.fr hf5 (fun h => h))
  have HV5 := Lib.hid (HV4.out.fr hf5 (fun h => h))
  have HF5 := Lib.hid (HF4.out.trans hf5)
  clear hf5 hl4
  obtain ⟨w6, HW6⟩ := nm (w5.alloc (.cells Z 22))
  have HB6 := Lib.hid (show Blk w6 w5.heap.size 22 Z from by rw [HW6.out]; exact Blk.new _ _ _)
  have HS6 := Lib.hid (show Blk w6 w3.heap.size 22 Z from by rw [HW6.out]; exact HS5.out.alloc _)
  have HV6 := Lib.hid (show Blk w6 (w.heap.size + 2) 22 V from by rw [HW6.out]; exact HV5.out.alloc _)
  have HF6 := Lib.hid (show Fr0 w w6 from by rw [HW6.out]; exact HF5.out.alloc _)
  go_wp2_with fail
  rw [← HW6.out]
  refine (known_any _).mono ?_
  rintro e w7 ⟨rfl, hf7⟩
  have HB7 := Lib.hid (HB6.out.fr hf7 (fun h => h))
  have HS7 := Lib.hid (HS6.out.fr hf7 (fun h => h))
  have HV7 := Lib.hid (HV6.out.fr hf7 (fun h => h))
  have HF7 := Lib.hid (HF6.out.trans hf7)
  clear hf7
  go_wp2_with fail
  refine (in_any _ _ _).mono ?_
  rintro e wi ⟨rfl, rfl⟩
  rw [decide_eq_true (by omega)]
  go_wp2_with fail
  refine (in_any _ _ _).mono ?_
  rintro e wi ⟨rfl, rfl⟩
  rw [decide_eq_true (by omega)]
  go_wp2_with fail
  refine (in_any _ _ _).mono ?_
  rintro e wi ⟨rfl, rfl⟩
  rw [decide_eq_false (by omega)]
  have hlS := HS7.out.all hzs
  have HB8 := Lib.hid HB7.out
  have HV8 := Lib.hid HV7.out
  have HF8 := Lib.hid HF7.out
  go_wp2_with fail
  refine (in_any _ _ _).mono ?_
  rintro e wi ⟨rfl, rfl⟩
  rw [decide_eq_true (by omega)]
  go_wp2_with fail
  refine (in_any _ _ _).mono ?_
  rintro e wi ⟨rfl, rfl⟩
  rw [decide_eq_false (by omega)]
  have hlB := HB8.out.all hzs
  go_wp2_with fail
  go_ret
  exact ⟨rfl, HF8.out⟩
set_option maxHeartbeats 4000000 in
theorem steps_ABC (leaf : Nat) (chain : Nat) (a : Nat) (b : Nat) (v : By 16) (hL : leaf ≤ 65535) (hC : chain ≤ 34) (hA : 14 < a) (hA' : a ≤ 15) (hB : b ≤ 15) (hB' : b < a) (w : World) :
    Calls Try.prog 6 #[.agg #[.int .i64 (leaf : Int), .int .i64 (chain : Int)], .agg #[.int .i64 (a : Int), .int .i64 (b : Int)], .agg (bs v.1).toArray] w fun e w' => e = .returned (.bool true) ∧ Fr0 w w' := by
  have hsz : (bs v.1).toArray.size = 16 := by simp [v.2]
  obtain ⟨V, HV⟩ := nm (bs v.1).toArray
  rw [← HV.out] at hsz ⊢
  obtain ⟨Z, HZ⟩ := nm z16
  have hst := z16_st
  have hbd := run_bd_v16
  have heq := run_z16_same
  have hne := run_z16_nsame
  have hzs : Z.size = 16 := by rw [HZ.out]; rfl
  rw [← HZ.out] at hst hbd heq hne
  obtain ⟨w1, HW1⟩ := nm (((w.alloc (.cells #[.int .i64 (leaf : Int), .int .i64 (chain : Int)] 39)).alloc (.cells #[.int .i64 (a : Int), .int .i64 (b : Int)] 39)).alloc (.cells V 22))
  obtain ⟨hb0, hb1, hb2, hf1⟩ := alloc3n _ _ _ _ _ _ _ _ HW1.out
  have c0 : w1.cell? ⟨w.heap.size, 0, none⟩ = some (.int .i64 (leaf : Int)) := hb0.cell 0
  have c1 : w1.cell? ⟨w.heap.size, 1, none⟩ = some (.int .i64 (chain : Int)) := hb0.cell 1
  have c2 : w1.cell? ⟨w.heap.size + 1, 0, none⟩ = some (.int .i64 (a : Int)) := hb1.cell 0
  have c3 : w1.cell? ⟨w.heap.size + 1, 1, none⟩ = some (.int .i64 (b : Int)) := hb1.cell 1
  have HB2 := Lib.hid hb2
  have HF1 := Lib.hid hf1
  clear hb0 hb1 hb2 hf1
  go_enter Try.func6, Try.ntmps6
  go_wp2_with fail
  rw [← HW1.out]
  go_quiet (fail)
  clear c0 c1 c2 c3
  obtain ⟨w2, HW2⟩ := nm (w1.drewN nq)
  have HV2 := Lib.hid (show Blk w2 (w.heap.size + 2) 22 V from by rw [HW2.out]; exact HB2.out.drewN _)
  have HF2 := Lib.hid (show Fr0 w w2 from by rw [HW2.out]; exact HF1.out.drewN _)
  have hl2 := HV2.out.all hsz
  rw [← HW2.out]
  go_wp2_with fail
  rw [HV.out]
  refine (Step_bad (leaf : Int) (chain : Int) (a : Int) v (by omega) _).mono ?_
  rintro e w3 ⟨rfl, hf3⟩
  rw [← HZ.out, ← HV.out]
  have HV3 := Lib.hid (HV2.out.fr hf3 (fun h => h))
  have HF3 := Lib.hid (HF2.out.trans hf3)
  clear hf3 hl2
  obtain ⟨w4, HW4⟩ := nm (w3.alloc (.cells Z 22))
  have HS4 := Lib.hid (show Blk w4 w3.heap.size 22 Z from by rw [HW4.out]; exact Blk.new _ _ _)
  have HV4 := Lib.hid (show Blk w4 (w.heap.size + 2) 22 V from by rw [HW4.out]; exact HV3.out.alloc _)
  have HF4 := Lib.hid (show Fr0 w w4 from by rw [HW4.out]; exact HF3.out.alloc _)
  have hl4 : ldA (w3.alloc (.cells Z 22)) (w.heap.size + 2) 0 16 = some V := (HV3.out.alloc _).all hsz
  go_wp2_with fail
  rw [← HW4.out, HV.out]
  refine (Advance_bad (leaf : Int) (chain : Int) (a : Int) (b : Int) v (by omega) _).mono ?_
  rintro e w5 ⟨rfl, hf5⟩
  rw [← HZ.out, ← HV.out]
  have HS5 := Lib.hid (HS4.out.fr hf5 (fun h => h))
  have HV5 := Lib.hid (HV4.out.fr hf5 (fun h => h))
  have HF5 := Lib.hid (HF4.out.trans hf5)
  clear hf5 hl4
  obtain ⟨w6, HW6⟩ := nm (w5.alloc (.cells Z 22))
  have HB6 := Lib.hid (show Blk w6 w5.heap.size 22 Z from by rw [HW6.out]; exact Blk.new _ _ _)
  have HS6 := Lib.hid (show Blk w6 w3.heap.size 22 Z from by rw [HW6.out]; exact HS5.out.alloc _)
  have HV6 := Lib.hid (show Blk w6 (w.heap.size + 2) 22 V from by rw [HW6.out]; exact HV5.out.alloc _)
  have HF6 := Lib.hid (show Fr0 w w6 from by rw [HW6.out]; exact HF5.out.alloc _)
  go_wp2_with fail
  rw [← HW6.out]
  refine (known_any _).mono ?_
  rintro e w7 ⟨rfl, hf7⟩
  have HB7 := Lib.hid (HB6.out.fr hf7 (fun h => h))
  have HS7 := Lib.hid (HS6.out.fr hf7 (fun h => h))
  have HV7 := Lib.hid (HV6.out.fr hf7 (fun h => h))
  have HF7 := Lib.hid (HF6.out.trans hf7)
  clear hf7
  go_wp2_with fail
  refine (in_any _ _ _).mono ?_
  rintro e wi ⟨rfl, rfl⟩
  rw [decide_eq_true (by omega)]
  go_wp2_with fail
  refine (in_any _ _ _).mono ?_
  rintro e wi ⟨rfl, rfl⟩
  rw [decide_eq_true (by omega)]
  go_wp2_with fail
  refine (in_any _ _ _).mono ?_
  rintro e wi ⟨rfl, rfl⟩
  rw [decide_eq_false (by omega)]
  have hlS := HS7.out.all hzs
  have HB8 := Lib.hid HB7.out
  have HV8 := Lib.hid HV7.out
  have HF8 := Lib.hid HF7.out
  go_wp2_with fail
  refine (in_any _ _ _).mono ?_
  rintro e wi ⟨rfl, rfl⟩
  rw [decide_eq_true (by omega)]
  go_wp2_with fail
  refine (in_any _ _ _).mono ?_
  rintro e wi ⟨rfl, rfl⟩
  rw [decide_eq_true (by omega)]
  have hlB := HB8.out.all hzs
  go_wp2_with fail
  go_ret
  exact ⟨rfl, HF8.out⟩
set_option maxHeartbeats 4000000 in
theorem steps_ACA (leaf : Nat) (chain : Nat) (a : Int) (b : Int) (v : By 16) (hL : leaf ≤ 65535) (hC : chain ≤ 34) (hA : ¬ (0 ≤ a ∧ a ≤ 15)) (w : World) :
    Calls Try.prog 6 #[.agg #[.int .i64 (leaf : Int), .int .i64 (chain : Int)], .agg #[.int .i64 a, .int .i64 b], .agg (bs v.1).toArray] w fun e w' => e = .returned (.bool true) ∧ Fr0 w w' := by
  have hsz : (bs v.1).toArray.size = 16 := by simp [v.2]
  obtain ⟨V, HV⟩ := nm (bs v.1).toArray
  rw [← HV.out] at hsz ⊢
  obtain ⟨Z, HZ⟩ := nm z16
  have hst := z16_st
  have hbd := run_bd_v16
  have heq := run_z16_same
  have hne := run_z16_nsame
  have hzs : Z.size = 16 := by rw [HZ.out]; rfl
  rw [← HZ.out] at hst hbd heq hne
  obtain ⟨w1, HW1⟩ := nm (((w.alloc (.cells #[.int .i64 (leaf : Int), .int .i64 (chain : Int)] 39)).alloc (.cells #[.int .i64 a, .int .i64 b] 39)).alloc (.cells V 22))
  obtain ⟨hb0, hb1, hb2, hf1⟩ := alloc3n _ _ _ _ _ _ _ _ HW1.out
  have c0 : w1.cell? ⟨w.heap.size, 0, none⟩ = some (.int .i64 (leaf : Int)) := hb0.cell 0
  have c1 : w1.cell? ⟨w.heap.size, 1, none⟩ = some (.int .i64 (chain : Int)) := hb0.cell 1
  have c2 : w1.cell? ⟨w.heap.size + 1, 0, none⟩ = some (.int .i64 a) := hb1.cell 0
  have c3 : w1.cell? ⟨w.heap.size + 1, 1, none⟩ = some (.int .i64 b) := hb1.cell 1
  have HB2 := Lib.hid hb2
  have HF1 := Lib.hid hf1
  clear hb0 hb1 hb2 hf1
  go_enter Try.func6, Try.ntmps6
  go_wp2_with fail
  rw [← HW1.out]
  go_quiet (fail)
  clear c0 c1 c2 c3
  obtain ⟨w2, HW2⟩ := nm (w1.drewN nq)
  have HV2 := Lib.hid (show Blk w2 (w.heap.size + 2) 22 V from by rw [HW2.out]; exact HB2.out.drewN _)
  have HF2 := Lib.hid (show Fr0 w w2 from by rw [HW2.out]; exact HF1.out.drewN _)
  have hl2 := HV2.out.all hsz
  rw [← HW2.out]
  go_wp2_with fail
  rw [HV.out]
  refine (Step_bad (leaf : Int) (chain : Int) a v (by omega) _).mono ?_
  rintro e w3 ⟨rfl, hf3⟩
  rw [← HZ.out, ← HV.out]
  have HV3 := Lib.hid (HV2.out.fr hf3 (fun h => h))
  have HF3 := Lib.hid (HF2.out.trans hf3)
  clear hf3 hl2
  obtain ⟨w4, HW4⟩ := nm (w3.alloc (.cells Z 22))
  have HS4 := Lib.hid (show Blk w4 w3.heap.size 22 Z from by rw [HW4.out]; exact Blk.new _ _ _)
  have HV4 := Lib.hid (show Blk w4 (w.heap.size + 2) 22 V from by rw [HW4.out]; exact HV3.out.alloc _)
  have HF4 := Lib.hid (show Fr0 w w4 from by rw [HW4.out]; exact HF3.out.alloc _)
  have hl4 : ldA (w3.alloc (.cells Z 22)) (w.heap.size + 2) 0 16 = some V := (HV3.out.alloc _).all hsz
  go_wp2_with fail
  rw [← HW4.out, HV.out]
  refine (Advance_bad (leaf : Int) (chain : Int) a b v (by omega) _).mono ?_
  rintro e w5 ⟨rfl, hf5⟩
  rw [← HZ.out, ← HV.out]
  have HS5 := Lib.hid (HS4.out.fr hf5 (fun h => h))
  have HV5 := Lib.hid (HV4.out.fr hf5 (fun h => h))
  have HF5 := Lib.hid (HF4.out.trans hf5)
  clear hf5 hl4
  obtain ⟨w6, HW6⟩ := nm (w5.alloc (.cells Z 22))
  have HB6 := Lib.hid (show Blk w6 w5.heap.size 22 Z from by rw [HW6.out]; exact Blk.new _ _ _)
  have HS6 := Lib.hid (show Blk w6 w3.heap.size 22 Z from by rw [HW6.out]; exact HS5.out.alloc _)
  have HV6 := Lib.hid (show Blk w6 (w.heap.size + 2) 22 V from by rw [HW6.out]; exact HV5.out.alloc _)
  have HF6 := Lib.hid (show Fr0 w w6 from by rw [HW6.out]; exact HF5.out.alloc _)
  go_wp2_with fail
  rw [← HW6.out]
  refine (known_any _).mono ?_
  rintro e w7 ⟨rfl, hf7⟩
  have HB7 := Lib.hid (HB6.out.fr hf7 (fun h => h))
  have HS7 := Lib.hid (HS6.out.fr hf7 (fun h => h))
  have HV7 := Lib.hid (HV6.out.fr hf7 (fun h => h))
  have HF7 := Lib.hid (HF6.out.trans hf7)
  clear hf7
  go_wp2_with fail
  refine (in_any _ _ _).mono ?_
  rintro e wi ⟨rfl, rfl⟩
  rw [decide_eq_true (by omega)]
  go_wp2_with fail
  refine (in_any _ _ _).mono ?_
  rintro e wi ⟨rfl, rfl⟩
  rw [decide_eq_true (by omega)]
  go_wp2_with fail
  refine (in_any _ _ _).mono ?_
  rintro e wi ⟨rfl, rfl⟩
  rw [decide_eq_false (by omega)]
  have hlS := HS7.out.all hzs
  have HB8 := Lib.hid HB7.out
  have HV8 := Lib.hid HV7.out
  have HF8 := Lib.hid HF7.out
  go_wp2_with fail
  refine (in_any _ _ _).mono ?_
  rintro e wi ⟨rfl, rfl⟩
  rw [decide_eq_false (by omega)]
  have hlB := HB8.out.all hzs
  go_wp2_with fail
  go_ret
  exact ⟨rfl, HF8.out⟩
set_option maxHeartbeats 4000000 in
theorem steps_BAA (leaf : Int) (chain : Int) (a : Int) (b : Int) (v : By 16) (hL : ¬ (0 ≤ leaf ∧ leaf ≤ 65535)) (w : World) :
    Calls Try.prog 6 #[.agg #[.int .i64 leaf, .int .i64 chain], .agg #[.int .i64 a, .int .i64 b], .agg (bs v.1).toArray] w fun e w' => e = .returned (.bool true) ∧ Fr0 w w' := by
  have hsz : (bs v.1).toArray.size = 16 := by simp [v.2]
  obtain ⟨V, HV⟩ := nm (bs v.1).toArray
  rw [← HV.out] at hsz ⊢
  obtain ⟨Z, HZ⟩ := nm z16
  have hst := z16_st
  have hbd := run_bd_v16
  have heq := run_z16_same
  have hne := run_z16_nsame
  have hzs : Z.size = 16 := by rw [HZ.out]; rfl
  rw [← HZ.out] at hst hbd heq hne
  obtain ⟨w1, HW1⟩ := nm (((w.alloc (.cells #[.int .i64 leaf, .int .i64 chain] 39)).alloc (.cells #[.int .i64 a, .int .i64 b] 39)).alloc (.cells V 22))
  obtain ⟨hb0, hb1, hb2, hf1⟩ := alloc3n _ _ _ _ _ _ _ _ HW1.out
  have c0 : w1.cell? ⟨w.heap.size, 0, none⟩ = some (.int .i64 leaf) := hb0.cell 0
  have c1 : w1.cell? ⟨w.heap.size, 1, none⟩ = some (.int .i64 chain) := hb0.cell 1
  have c2 : w1.cell? ⟨w.heap.size + 1, 0, none⟩ = some (.int .i64 a) := hb1.cell 0
  have c3 : w1.cell? ⟨w.heap.size + 1, 1, none⟩ = some (.int .i64 b) := hb1.cell 1
  have HB2 := Lib.hid hb2
  have HF1 := Lib.hid hf1
  clear hb0 hb1 hb2 hf1
  go_enter Try.func6, Try.ntmps6
  go_wp2_with fail
  rw [← HW1.out]
  go_quiet (fail)
  clear c0 c1 c2 c3
  obtain ⟨w2, HW2⟩ := nm (w1.drewN nq)
  have HV2 := Lib.hid (show Blk w2 (w.heap.size + 2) 22 V from by rw [HW2.out]; exact HB2.out.drewN _)
  have HF2 := Lib.hid (show Fr0 w w2 from by rw [HW2.out]; exact HF1.out.drewN _)
  have hl2 := HV2.out.all hsz
  rw [← HW2.out]
  go_wp2_with fail
  rw [HV.out]
  refine (Step_bad leaf chain a v (by omega) _).mono ?_
  rintro e w3 ⟨rfl, hf3⟩
  rw [← HZ.out, ← HV.out]
  have HV3 := Lib.hid (HV2.out.fr hf3 (fun h => h))
  have HF3 := Lib.hid (HF2.out.trans hf3)
  clear hf3 hl2
  obtain ⟨w4, HW4⟩ := nm (w3.alloc (.cells Z 22))
  have HS4 := Lib.hid (show Blk w4 w3.heap.size 22 Z from by rw [HW4.out]; exact Blk.new _ _ _)
  have HV4 := Lib.hid (show Blk w4 (w.heap.size + 2) 22 V from by rw [HW4.out]; exact HV3.out.alloc _)
  have HF4 := Lib.hid (show Fr0 w w4 from by rw [HW4.out]; exact HF3.out.alloc _)
  have hl4 : ldA (w3.alloc (.cells Z 22)) (w.heap.size + 2) 0 16 = some V := (HV3.out.alloc _).all hsz
  go_wp2_with fail
  rw [← HW4.out, HV.out]
  refine (Advance_bad leaf chain a b v (by omega) _).mono ?_
  rintro e w5 ⟨rfl, hf5⟩
  rw [← HZ.out, ← HV.out]
  have HS5 := Lib.hid (HS4.out.fr hf5 (fun h => h))
  have HV5 := Lib.hid (HV4.out.fr hf5 (fun h => h))
  have HF5 := Lib.hid (HF4.out.trans hf5)
  clear hf5 hl4
  obtain ⟨w6, HW6⟩ := nm (w5.alloc (.cells Z 22))
  have HB6 := Lib.hid (show Blk w6 w5.heap.size 22 Z from by rw [HW6.out]; exact Blk.new _ _ _)
  have HS6 := Lib.hid (show Blk w6 w3.heap.size 22 Z from by rw [HW6.out]; exact HS5.out.alloc _)
  have HV6 := Lib.hid (show Blk w6 (w.heap.size + 2) 22 V from by rw [HW6.out]; exact HV5.out.alloc _)
  have HF6 := Lib.hid (show Fr0 w w6 from by rw [HW6.out]; exact HF5.out.alloc _)
  go_wp2_with fail
  rw [← HW6.out]
  refine (known_any _).mono ?_
  rintro e w7 ⟨rfl, hf7⟩
  have HB7 := Lib.hid (HB6.out.fr hf7 (fun h => h))
  have HS7 := Lib.hid (HS6.out.fr hf7 (fun h => h))
  have HV7 := Lib.hid (HV6.out.fr hf7 (fun h => h))
  have HF7 := Lib.hid (HF6.out.trans hf7)
  clear hf7
  go_wp2_with fail
  refine (in_any _ _ _).mono ?_
  rintro e wi ⟨rfl, rfl⟩
  rw [decide_eq_false (by omega)]
  have hlS := HS7.out.all hzs
  have HB8 := Lib.hid HB7.out
  have HV8 := Lib.hid HV7.out
  have HF8 := Lib.hid HF7.out
  have hlB := HB8.out.all hzs
  go_wp2_with fail
  go_ret
  exact ⟨rfl, HF8.out⟩
set_option maxHeartbeats 4000000 in
theorem steps_CAA (leaf : Nat) (chain : Int) (a : Int) (b : Int) (v : By 16) (hL : leaf ≤ 65535) (hC : ¬ (0 ≤ chain ∧ chain ≤ 34)) (w : World) :
    Calls Try.prog 6 #[.agg #[.int .i64 (leaf : Int), .int .i64 chain], .agg #[.int .i64 a, .int .i64 b], .agg (bs v.1).toArray] w fun e w' => e = .returned (.bool true) ∧ Fr0 w w' := by
  have hsz : (bs v.1).toArray.size = 16 := by simp [v.2]
  obtain ⟨V, HV⟩ := nm (bs v.1).toArray
  rw [← HV.out] at hsz ⊢
  obtain ⟨Z, HZ⟩ := nm z16
  have hst := z16_st
  have hbd := run_bd_v16
  have heq := run_z16_same
  have hne := run_z16_nsame
  have hzs : Z.size = 16 := by rw [HZ.out]; rfl
  rw [← HZ.out] at hst hbd heq hne
  obtain ⟨w1, HW1⟩ := nm (((w.alloc (.cells #[.int .i64 (leaf : Int), .int .i64 chain] 39)).alloc (.cells #[.int .i64 a, .int .i64 b] 39)).alloc (.cells V 22))
  obtain ⟨hb0, hb1, hb2, hf1⟩ := alloc3n _ _ _ _ _ _ _ _ HW1.out
  have c0 : w1.cell? ⟨w.heap.size, 0, none⟩ = some (.int .i64 (leaf : Int)) := hb0.cell 0
  have c1 : w1.cell? ⟨w.heap.size, 1, none⟩ = some (.int .i64 chain) := hb0.cell 1
  have c2 : w1.cell? ⟨w.heap.size + 1, 0, none⟩ = some (.int .i64 a) := hb1.cell 0
  have c3 : w1.cell? ⟨w.heap.size + 1, 1, none⟩ = some (.int .i64 b) := hb1.cell 1
  have HB2 := Lib.hid hb2
  have HF1 := Lib.hid hf1
  clear hb0 hb1 hb2 hf1
  go_enter Try.func6, Try.ntmps6
  go_wp2_with fail
  rw [← HW1.out]
  go_quiet (fail)
  clear c0 c1 c2 c3
  obtain ⟨w2, HW2⟩ := nm (w1.drewN nq)
  have HV2 := Lib.hid (show Blk w2 (w.heap.size + 2) 22 V from by rw [HW2.out]; exact HB2.out.drewN _)
  have HF2 := Lib.hid (show Fr0 w w2 from by rw [HW2.out]; exact HF1.out.drewN _)
  have hl2 := HV2.out.all hsz
  rw [← HW2.out]
  go_wp2_with fail
  rw [HV.out]
  refine (Step_bad (leaf : Int) chain a v (by omega) _).mono ?_
  rintro e w3 ⟨rfl, hf3⟩
  rw [← HZ.out, ← HV.out]
  have HV3 := Lib.hid (HV2.out.fr hf3 (fun h => h))
  have HF3 := Lib.hid (HF2.out.trans hf3)
  clear hf3 hl2
  obtain ⟨w4, HW4⟩ := nm (w3.alloc (.cells Z 22))
  have HS4 := Lib.hid (show Blk w4 w3.heap.size 22 Z from by rw [HW4.out]; exact Blk.new _ _ _)
  have HV4 := Lib.hid (show Blk w4 (w.heap.size + 2) 22 V from by rw [HW4.out]; exact HV3.out.alloc _)
  have HF4 := Lib.hid (show Fr0 w w4 from by rw [HW4.out]; exact HF3.out.alloc _)
  have hl4 : ldA (w3.alloc (.cells Z 22)) (w.heap.size + 2) 0 16 = some V := (HV3.out.alloc _).all hsz
  go_wp2_with fail
  rw [← HW4.out, HV.out]
  refine (Advance_bad (leaf : Int) chain a b v (by omega) _).mono ?_
  rintro e w5 ⟨rfl, hf5⟩
  rw [← HZ.out, ← HV.out]
  have HS5 := Lib.hid (HS4.out.fr hf5 (fun h => h))
  have HV5 := Lib.hid (HV4.out.fr hf5 (fun h => h))
  have HF5 := Lib.hid (HF4.out.trans hf5)
  clear hf5 hl4
  obtain ⟨w6, HW6⟩ := nm (w5.alloc (.cells Z 22))
  have HB6 := Lib.hid (show Blk w6 w5.heap.size 22 Z from by rw [HW6.out]; exact Blk.new _ _ _)
  have HS6 := Lib.hid (show Blk w6 w3.heap.size 22 Z from by rw [HW6.out]; exact HS5.out.alloc _)
  have HV6 := Lib.hid (show Blk w6 (w.heap.size + 2) 22 V from by rw [HW6.out]; exact HV5.out.alloc _)
  have HF6 := Lib.hid (show Fr0 w w6 from by rw [HW6.out]; exact HF5.out.alloc _)
  go_wp2_with fail
  rw [← HW6.out]
  refine (known_any _).mono ?_
  rintro e w7 ⟨rfl, hf7⟩
  have HB7 := Lib.hid (HB6.out.fr hf7 (fun h => h))
  have HS7 := Lib.hid (HS6.out.fr hf7 (fun h => h))
  have HV7 := Lib.hid (HV6.out.fr hf7 (fun h => h))
  have HF7 := Lib.hid (HF6.out.trans hf7)
  clear hf7
  go_wp2_with fail
  refine (in_any _ _ _).mono ?_
  rintro e wi ⟨rfl, rfl⟩
  rw [decide_eq_true (by omega)]
  go_wp2_with fail
  refine (in_any _ _ _).mono ?_
  rintro e wi ⟨rfl, rfl⟩
  rw [decide_eq_false (by omega)]
  have hlS := HS7.out.all hzs
  have HB8 := Lib.hid HB7.out
  have HV8 := Lib.hid HV7.out
  have HF8 := Lib.hid HF7.out
  have hlB := HB8.out.all hzs
  go_wp2_with fail
  go_ret
  exact ⟨rfl, HF8.out⟩
theorem steps_walk (pl st : List Int) (v : By 16) (w : World) (hp : pl.length = 2) (hp' : ∀ z ∈ pl, (Lit.int .i64 z).wf = true) (hs : st.length = 2) (hs' : ∀ z ∈ st, (Lit.int .i64 z).wf = true) :
    Calls Try.prog 6 #[.agg (pl.map (Value.int .i64)).toArray, .agg (st.map (Value.int .i64)).toArray, .agg (bs v.1).toArray] w fun e w' => e = .returned (.bool true) ∧ Below w.heap.size w w' := by
  obtain ⟨leaf, chain, rfl⟩ := two_of hp
  obtain ⟨a, b, rfl⟩ := two_of hs
  have key : Calls Try.prog 6 #[.agg #[.int .i64 leaf, .int .i64 chain], .agg #[.int .i64 a, .int .i64 b], .agg (bs v.1).toArray] w fun e w' => e = .returned (.bool true) ∧ Fr0 w w' := by
    by_cases hL : 0 ≤ leaf ∧ leaf ≤ 65535
    · obtain ⟨l, rfl⟩ := Int.eq_ofNat_of_zero_le hL.1
      by_cases hC : 0 ≤ chain ∧ chain ≤ 34
      · obtain ⟨c, rfl⟩ := Int.eq_ofNat_of_zero_le hC.1
        by_cases hA : 0 ≤ a ∧ a ≤ 15
        · obtain ⟨x, rfl⟩ := Int.eq_ofNat_of_zero_le hA.1
          by_cases hB : 0 ≤ b ∧ b ≤ 15
          · obtain ⟨y, rfl⟩ := Int.eq_ofNat_of_zero_le hB.1
            by_cases hxy : x ≤ y
            · by_cases h14 : x ≤ 14
              · exact steps_AAA l c x y v (by omega) (by omega) h14 (by omega) hxy w
              · exact steps_ABA l c x y v (by omega) (by omega) (by omega) (by omega) (by omega) hxy w
            · by_cases h14 : x ≤ 14
              · exact steps_AAC l c x y v (by omega) (by omega) h14 (by omega) (by omega) w
              · exact steps_ABC l c x y v (by omega) (by omega) (by omega) (by omega) (by omega) (by omega) w
          · by_cases h14 : x ≤ 14
            · exact steps_AAB l c x b v (by omega) (by omega) h14 hB w
            · exact steps_ABB l c x b v (by omega) (by omega) (by omega) (by omega) hB w
        · exact steps_ACA l c a b v (by omega) (by omega) hA w
      · exact steps_CAA l chain a b v (by omega) hC w
    · exact steps_BAA leaf chain a b v hL w
  exact key.mono fun e w' ⟨he, hf⟩ => ⟨he, Fr0.below hf⟩
end Go.Proofs.Ytjdbfedkadoklaa
