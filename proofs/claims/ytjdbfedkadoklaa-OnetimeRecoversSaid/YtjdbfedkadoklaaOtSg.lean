/- OnetimeSigns: the law's walk. Printed by gen_lsign.py. No condition. -/
import Derived.Test.YtjdbfedkadoklaaOtPub
namespace Go.Proofs.Ytjdbfedkadoklaa
set_option linter.unusedVariables false
set_option linter.unusedSimpArgs false
set_option maxRecDepth 100000
open Go.RowKit
attribute [local go_sem ↓] Go.wp_at_zero Go.wp_at_succ

theorem seg_cat (f : Nat → List UInt8) (h : ∀ c, (f c).length = 16) (n c : Nat) (hc : c < n) : seg (catF f n) c = f c := by
  induction n with
  | zero => omega
  | succ n ih =>
    have hl := catF_length f h n
    unfold seg catF
    by_cases hcn : c = n
    · subst hcn
      rw [List.drop_append, List.drop_of_length_le (by omega), List.nil_append, hl, Nat.sub_self, List.drop_zero, List.take_of_length_le (by rw [h]; omega)]
    · have hi := ih (by omega)
      unfold seg at hi
      rw [List.drop_append_of_le_length (by omega), List.take_append_of_le_length (by rw [List.length_drop]; omega), hi]
theorem endE_sigE (seed : List UInt8) (leaf : Nat) (d : List UInt8) : endE leaf d (sigE seed leaf d) = pubE seed leaf := by
  refine catF_congr fun c hc => ?_
  unfold endG
  rw [if_pos hc]
  unfold endF
  rw [show seg (sigE seed leaf d) c = sigF seed leaf d c from seg_cat _ (sigF_length seed leaf d) 35 c hc]
  unfold sigF pubF
  have h := advB_add leaf c 0 (splN d c) (15 - splN d c) (secB seed leaf c)
  have hs := splN_lt d c
  rw [Nat.zero_add, show splN d c + (15 - splN d c) = 15 by omega] at h
  exact h
theorem ok560_new (w : World) (Z : Array Value) (t : TypeId) (hz : Z.size = 560) : okA (w.alloc (.cells Z t)) w.heap.size 0 560 = true := by simp [hz]
theorem put560_new (w : World) (Z S : Array Value) (t : TypeId) (hz : Z.size = 560) (hs : S.size = 560) : putW (w.alloc (.cells Z t)) w.heap.size 0 S = w.alloc (.cells S t) := by
  rw [putW_new, putAt_all _ _ (hz.trans hs.symm)]
theorem s560_kinds : kindsOf Try.prog 4 52 = some (List.replicate 560 (.int .u8)) := by kernel_rfl
theorem r560_kinds : kindsOf Try.prog 4 56 = some (List.replicate 560 (.int .u8)) := by kernel_rfl
theorem run_s560_same (w : World) (l : List UInt8) (hl : l.length = 560) : (eqv 52 (.agg (bs l).toArray) (.agg (bs l).toArray)).run Try.prog w = .ok (.bool true) w := by
  have := run_eql_flat w 4 s560_kinds (by omega) val_bulletin_onetime_Signature (bs l) (bs l) (by_fits ⟨l, hl⟩) (by_fits ⟨l, hl⟩)
  rw [(sames_eq (by_fits ⟨l, hl⟩) (by_fits ⟨l, hl⟩)).2 rfl] at this
  exact this
theorem run_r560_same (w : World) (l : List UInt8) (hl : l.length = 560) : (eqv 56 (.agg (bs l).toArray) (.agg (bs l).toArray)).run Try.prog w = .ok (.bool true) w := by
  have := run_eql_flat w 4 r560_kinds (by omega) val__35_bulletinref07_Value (bs l) (bs l) (by_fits ⟨l, hl⟩) (by_fits ⟨l, hl⟩)
  rw [(sames_eq (by_fits ⟨l, hl⟩) (by_fits ⟨l, hl⟩)).2 rfl] at this
  exact this

def TT10 : List (List Nat) := [[], [0], [0, 1], [0, 1, 2], [0, 1, 2, 3], [0, 1, 2, 3, 4], [0, 1, 2, 3, 4, 5], [0, 1, 2, 3, 4, 5, 6], [0, 1, 2, 3, 4, 5, 6, 7], [0, 1, 2, 3, 4, 5, 6, 7, 8], [0, 1, 2, 3, 4, 5, 6, 7, 8, 9], [0, 1, 2, 3, 4, 5, 6, 7, 8, 9, 10], [0, 1, 2, 3, 4, 5, 6, 7, 8, 9, 10, 11], [0, 1, 2, 3, 4, 5, 6, 7, 8, 9, 10], [0, 1, 2, 3, 4, 5, 6, 7, 8, 9, 10], [0, 1, 2, 3, 4, 5, 6, 7, 8, 9, 10], [0, 1, 2, 3, 4, 5, 6, 7, 8, 9, 10, 11, 12, 15], [0, 1, 2, 3, 4, 5, 6, 7, 8, 9, 10, 11, 12, 13, 14, 15, 16], [0, 1, 2, 3, 4, 5, 6, 7, 8, 9, 10, 11, 12, 13, 14, 15, 16, 17], [0, 1, 2, 3, 4, 5, 6, 7, 8, 9, 10, 11, 12, 13, 14, 15, 16, 17, 18], [0, 1, 2, 3, 4, 5, 6, 7, 8, 9, 10, 11, 12, 13, 14, 15, 16, 17, 18, 19], [0, 1, 2, 3, 4, 5, 6, 7, 8, 9, 10, 11, 12, 13, 14, 15, 16, 17, 18, 19, 20], [0, 1, 2, 3, 4, 5, 6, 7, 8, 9, 10, 11, 12, 13, 14, 15, 16, 17, 18, 19, 20], [0, 1, 2, 3, 4, 5, 6, 7, 8, 9, 10, 11, 12, 13, 14, 15, 16, 17, 18, 19, 20, 21, 22], [0, 1, 2, 3, 4, 5, 6, 7, 8, 9, 10, 11, 12, 13, 14, 15, 16, 17, 18, 19, 20, 21, 22, 23], [0, 1, 2, 3, 4, 5, 6, 7, 8, 9, 10, 11, 12, 13, 14, 15, 16, 17, 18, 19, 20, 21, 22, 23, 24], [0, 1, 2, 3, 4, 5, 6, 7, 8, 9, 10, 11, 12, 13, 14, 15, 16, 17, 18, 19, 20, 21, 22, 23, 24, 25], [0, 1, 2, 3, 4, 5, 6, 7, 8, 9, 10, 11, 12, 13, 14, 15, 16, 17, 18, 19, 20, 21, 22, 23, 24, 25], [0, 1, 2, 3, 4, 5, 6, 7, 8, 9, 10, 11, 12, 13, 14, 15, 16, 17, 18, 19, 20, 21, 22, 23, 24, 25], [0, 1, 2, 3, 4, 5, 6, 7, 8, 9, 10, 11, 12, 13, 14, 15, 16, 17, 18, 19, 20, 21, 22, 23, 24, 25], [0, 1, 2, 3, 4, 5, 6, 7, 8, 9, 10, 11, 12, 13, 14, 15, 16, 17, 18, 19, 20, 21, 22, 23, 24, 25, 26, 27, 28, 29], [0, 1, 2, 3, 4, 5, 6, 7, 8, 9, 10, 11, 12, 13, 14, 15, 16, 17, 18, 19, 20, 21, 22, 23, 24, 25, 26, 27, 28, 29, 30], [0, 1, 2, 3, 4, 5, 6, 7, 8, 9, 10, 11, 12, 13, 14, 15, 16, 17, 18, 19, 20, 21, 22, 23, 24, 25, 26, 27, 28, 29, 30, 31]]
set_option maxHeartbeats 2000000 in
theorem lsign_ok (seed : By 32) (leaf : Nat) (hl : leaf ≤ 65535) (d : By 16) (w : World) :
    Calls Try.prog 10 #[.agg (bs seed.1).toArray, .int .i64 (leaf : Int), .agg (bs d.1).toArray] w fun e w' => e = .returned (.bool true) ∧ Fr0 w w' := by
  have hsz : (bs seed.1).toArray.size = 32 := by simp [seed.2]
  have hsd : (bs d.1).toArray.size = 16 := by simp [d.2]
  obtain ⟨V, HV⟩ := nm (bs seed.1).toArray
  rw [← HV.out] at hsz ⊢
  obtain ⟨D, HD⟩ := nm (bs d.1).toArray
  rw [← HD.out] at hsd ⊢
  have hst := a16_st ⟨compB leaf (pubE seed.1 leaf), compB_length _ _⟩
  change ∀ (w : World) (b' p : Nat), okA w b' p 16 = true → (st 22 (.pointer (some ⟨b', p, none⟩)) (.agg (bs (compB leaf (pubE seed.1 leaf))).toArray)).run Try.prog w = .ok () (putW w b' p (bs (compB leaf (pubE seed.1 leaf))).toArray) at hst
  have hsX : (bs (compB leaf (pubE seed.1 leaf))).toArray.size = 16 := by simp [compB_length]
  have heX := fun w => run_a16_same w (compB leaf (pubE seed.1 leaf)) (compB_length _ _)
  obtain ⟨X, HX⟩ := nm (bs (compB leaf (pubE seed.1 leaf))).toArray
  rw [← HX.out] at hst hsX heX
  have hsS : (bs (sigE seed.1 leaf d.1)).toArray.size = 560 := by simp [sigE_length]
  have hoS : one1 (bs (sigE seed.1 leaf d.1)).toArray = true := all_one (bs_one' _)
  have heS := fun w => run_r560_same w (sigE seed.1 leaf d.1) (sigE_length _ _ _)
  obtain ⟨S, HS⟩ := nm (bs (sigE seed.1 leaf d.1)).toArray
  rw [← HS.out] at hsS hoS heS
  obtain ⟨N, HN⟩ := nm (nis (splL d.1))
  obtain ⟨w1, HW1⟩ := nm ((w.alloc (.cells V 31)).alloc (.cells D 22))
  obtain ⟨b0, b1, bf, _⟩ := alloc2 _ _ _ _ _ _ HW1.out
  have HV1 := Lib.hid b0
  have HD1 := Lib.hid b1
  have HF1 := Lib.hid bf
  clear b0 b1 bf
  go_enter Try.func10, Try.ntmps10
  go_wp2_with fail
  rw [← HW1.out]
  refine (known_any _).mono ?_
  rintro e w2 ⟨rfl, hf2⟩
  have HV2 := Lib.hid (HV1.out.fr hf2 (fun h => h))
  have HD2 := Lib.hid (HD1.out.fr hf2 (fun h => h))
  have HF2 := Lib.hid (HF1.out.trans hf2)
  have hl2 := HV2.out.all hsz
  have hm2 := HD2.out.all hsd
  clear hf2
  go_wp2_with fail
  rw [HV.out, HD.out]
  refine (Sign_ok seed d leaf hl _).mono ?_
  rintro e w3 ⟨rfl, hf3⟩
  rw [← HS.out, ← HV.out, ← HD.out]
  obtain ⟨w4, HW4⟩ := nm (w3.alloc (.cells S 52))
  have HS4 := Lib.hid (show Blk w4 w3.heap.size 52 S from by rw [HW4.out]; exact Blk.new _ _ _)
  have HV4 := Lib.hid (show Blk w4 w.heap.size 31 V from by rw [HW4.out]; exact (HV2.out.fr hf3 (fun h => h)).alloc _)
  have HD4 := Lib.hid (show Blk w4 (w.heap.size + 1) 22 D from by rw [HW4.out]; exact (HD2.out.fr hf3 (fun h => h)).alloc _)
  have HF4 := Lib.hid (show Fr0 w w4 from by rw [HW4.out]; exact (HF2.out.trans hf3).alloc _)
  have hz := zt_bulletin_onetime_Signature
  have hok := ok560_new w3 _ 52 hz
  have hpt := put560_new w3 _ S 52 hz hsS
  have hl4 := HV4.out.all hsz
  rw [HW4.out] at hl4
  clear hf3 hl2 hm2
  go_wp2_with fail
  rw [← HW4.out, HV.out]
  refine (Public_ok seed leaf hl _).mono ?_
  rintro e w5 ⟨rfl, hf5⟩
  rw [← HX.out, ← HV.out]
  obtain ⟨w6, HW6⟩ := nm (w5.alloc (.cells X 22))
  have HX6 := Lib.hid (show Blk w6 w5.heap.size 22 X from by rw [HW6.out]; exact Blk.new _ _ _)
  have HS6 := Lib.hid (show Blk w6 w3.heap.size 52 S from by rw [HW6.out]; exact (HS4.out.fr hf5 (fun h => h)).alloc _)
  have HV6 := Lib.hid (show Blk w6 w.heap.size 31 V from by rw [HW6.out]; exact (HV4.out.fr hf5 (fun h => h)).alloc _)
  have HD6 := Lib.hid (show Blk w6 (w.heap.size + 1) 22 D from by rw [HW6.out]; exact (HD4.out.fr hf5 (fun h => h)).alloc _)
  have HF6 := Lib.hid (show Fr0 w w6 from by rw [HW6.out]; exact (HF4.out.trans hf5).alloc _)
  clear hf5 hl4
  go_wp2_with fail
  rw [← HW6.out]
  refine (in_any _ _ _).mono ?_
  rintro e w7 ⟨rfl, rfl⟩
  rw [decide_eq_true (by omega)]
  have hl6 := HD6.out.all hsd
  have hm6 := HS6.out.all hsS
  go_wp2_with fail
  rw [HD.out, HS.out]
  refine (Recover_ok d ⟨sigE seed.1 leaf d.1, sigE_length _ _ _⟩ leaf hl _).mono ?_
  rintro e w8 ⟨rfl, hf8⟩
  rw [show endE leaf d.1 (sigE seed.1 leaf d.1) = pubE seed.1 leaf from endE_sigE _ _ _, ← HX.out, ← HD.out, ← HS.out]
  obtain ⟨w9, HW9⟩ := nm (w8.alloc (.cells X 22))
  have HR9 := Lib.hid (show Blk w9 w8.heap.size 22 X from by rw [HW9.out]; exact Blk.new _ _ _)
  have HX9 := Lib.hid (show Blk w9 w5.heap.size 22 X from by rw [HW9.out]; exact (HX6.out.fr hf8 (fun h => h)).alloc _)
  have HS9 := Lib.hid (show Blk w9 w3.heap.size 52 S from by rw [HW9.out]; exact (HS6.out.fr hf8 (fun h => h)).alloc _)
  have HV9 := Lib.hid (show Blk w9 w.heap.size 31 V from by rw [HW9.out]; exact (HV6.out.fr hf8 (fun h => h)).alloc _)
  have HD9 := Lib.hid (show Blk w9 (w.heap.size + 1) 22 D from by rw [HW9.out]; exact (HD6.out.fr hf8 (fun h => h)).alloc _)
  have HF9 := Lib.hid (show Fr0 w w9 from by rw [HW9.out]; exact (HF6.out.trans hf8).alloc _)
  clear hf8 hl6 hm6
  go_wp2_with fail
  rw [← HW9.out]
  refine reg_start (by kernel_rfl) ?_
  refine reg_seq' 89 11 TT10 (by kernel_rfl) (by kernel_rfl) ?_
  simp only [List.drop_succ_cons, List.drop_zero, List.take_succ_cons, List.take_zero]
  go_wp2_with fail
  refine QR.mk ?_
  refine reg_uno (D := [some 57, some 58, some 59, some 60, some 61, some 62, some 63, some 64, some 65, some 66, some 67, some 68, some 69, some 70, some 71, some 72, some 73, some 74, some 75, some 76, some 77, some 78, some 79, some 80, some 81, some 82, some 83, some 84, some 85, some 86, some 87, some 88, some 6]) (J := [11, 12, 13, 14, 15, 16]) 17 [] [PV (.agg S), PV (.agg S), PV (.agg V), PV (.int .i64 (leaf : Int)), PV (.agg D), PV (.agg N)] TT10 (by kernel_rfl) (by kernel_rfl) (by kernel_rfl) rfl rfl rfl
    (stab_cons (PV.stab _) (stab_cons (PV.stab _) (stab_cons (PV.stab _) (stab_cons (PV.stab _) (stab_cons (PV.stab _) (stab_cons (PV.stab _) stab_nil))))))
    (fun v => usteps_cons ?_ (usteps_cons ?_ (usteps_cons ?_ (usteps_cons ?_ (usteps_cons ?_ (usteps_cons ?_ (usteps_nil))))))) (fun v wx hx hP hA => ?_)
  · refine ustep_mk (D := [some 57, some 58, some 59, some 60, some 61, some 62, some 63, some 64, some 65, some 66, some 67, some 68, some 69, some 70, some 71, some 72, some 73, some 74, some 75, some 76, some 77, some 78, some 79, some 80, some 81, some 82, some 83, some 84, some 85, some 86, some 87, some 88, some 6]) (Ti := []) rfl rfl rfl rfl (fun wx hx hP => ?_)   -- 11: load 52 (tmp 7)
    have hl := (HS9.out.drew.fr hx (fun h => h)).all hsS
    clear hP
    simp only [putD, List.getD_cons_zero, List.getD_cons_succ]
    go_wp2_with fail
    exact Q1.mk rfl _ rfl ⟨Fr.refl _ _, rfl, frok_no rfl⟩
  · refine ustep_mk (D := [some 57, some 58, some 59, some 60, some 61, some 62, some 63, some 64, some 65, some 66, some 67, some 68, some 69, some 70, some 71, some 72, some 73, some 74, some 75, some 76, some 77, some 78, some 79, some 80, some 81, some 82, some 83, some 84, some 85, some 86, some 87, some 88, some 6]) (Ti := [11]) rfl rfl rfl rfl (fun wx hx hP => ?_)   -- 12: call { callee := Callee.value (func 27), args := #
    have h11 : v 11 = .agg S := hP.1
    clear hP
    simp only [putD, List.getD_cons_zero, List.getD_cons_succ]
    go_wp2_with fail
    rw [HS.out]
    refine (to_any ⟨sigE seed.1 leaf d.1, sigE_length _ _ _⟩ _).mono ?_
    rintro e wy ⟨rfl, hfy⟩
    rw [← HS.out]
    go_wp2_with fail
    exact Q1.mk rfl _ rfl ⟨hfy, rfl, frok_no rfl⟩
  · refine ustep_mk (D := [some 57, some 58, some 59, some 60, some 61, some 62, some 63, some 64, some 65, some 66, some 67, some 68, some 69, some 70, some 71, some 72, some 73, some 74, some 75, some 76, some 77, some 78, some 79, some 80, some 81, some 82, some 83, some 84, some 85, some 86, some 87, some 88, some 6]) (Ti := []) rfl rfl rfl rfl (fun wx hx hP => ?_)   -- 13: load 31 (tmp 3)
    have hl := (HV9.out.drew.fr hx (fun h => h)).all hsz
    clear hP
    simp only [putD, List.getD_cons_zero, List.getD_cons_succ]
    go_wp2_with fail
    exact Q1.mk rfl _ rfl ⟨Fr.refl _ _, rfl, frok_no rfl⟩
  · refine ustep_mk (D := [some 57, some 58, some 59, some 60, some 61, some 62, some 63, some 64, some 65, some 66, some 67, some 68, some 69, some 70, some 71, some 72, some 73, some 74, some 75, some 76, some 77, some 78, some 79, some 80, some 81, some 82, some 83, some 84, some 85, some 86, some 87, some 88, some 6]) (Ti := []) rfl rfl rfl rfl (fun wx hx hP => ?_)   -- 14: move (tmp 1)
    clear hP
    simp only [putD, List.getD_cons_zero, List.getD_cons_succ]
    go_wp2_with fail
    exact Q1.mk rfl _ rfl ⟨Fr.refl _ _, rfl, frok_no rfl⟩
  · refine ustep_mk (D := [some 57, some 58, some 59, some 60, some 61, some 62, some 63, some 64, some 65, some 66, some 67, some 68, some 69, some 70, some 71, some 72, some 73, some 74, some 75, some 76, some 77, some 78, some 79, some 80, some 81, some 82, some 83, some 84, some 85, some 86, some 87, some 88, some 6]) (Ti := []) rfl rfl rfl rfl (fun wx hx hP => ?_)   -- 15: load 22 (tmp 5)
    have hl := (HD9.out.drew.fr hx (fun h => h)).all hsd
    clear hP
    simp only [putD, List.getD_cons_zero, List.getD_cons_succ]
    go_wp2_with fail
    exact Q1.mk rfl _ rfl ⟨Fr.refl _ _, rfl, frok_no rfl⟩
  · refine ustep_mk (D := [some 57, some 58, some 59, some 60, some 61, some 62, some 63, some 64, some 65, some 66, some 67, some 68, some 69, some 70, some 71, some 72, some 73, some 74, some 75, some 76, some 77, some 78, some 79, some 80, some 81, some 82, some 83, some 84, some 85, some 86, some 87, some 88, some 6]) (Ti := [11, 12, 15]) rfl rfl rfl rfl (fun wx hx hP => ?_)   -- 16: call { callee := Callee.value (func 15), args := #
    have h11 : v 11 = .agg S := hP.1
    have h12 : v 12 = .agg S := hP.2.1
    have h15 : v 15 = .agg D := hP.2.2.1
    clear hP
    simp only [putD, List.getD_cons_zero, List.getD_cons_succ]
    go_wp2_with fail
    rw [HD.out]
    refine (rsplit_any d _).mono ?_
    rintro e wy ⟨rfl, hfy⟩
    rw [← HN.out, ← HD.out]
    go_wp2_with fail
    exact Q1.mk rfl _ rfl ⟨hfy, rfl, frok_no rfl⟩
  have h11 : v 11 = .agg S := hP.1
  have h12 : v 12 = .agg S := hP.2.1
  have h13 : v 13 = .agg V := hP.2.2.1
  have h14 : v 14 = .int .i64 (leaf : Int) := hP.2.2.2.1
  have h15 : v 15 = .agg D := hP.2.2.2.2.1
  have h16 : v 16 = .agg N := hP.2.2.2.2.2.1
  have hy9 := hx
  clear hx hA
  clear hP
  simp only [putD, List.getD_cons_zero, List.getD_cons_succ]
  refine reg_seq' 89 4 TT10 (by kernel_rfl) (by kernel_rfl) ?_
  simp only [List.drop_succ_cons, List.drop_zero, List.take_succ_cons, List.take_zero]
  go_wp2_with fail
  rw [HV.out, HN.out]
  refine (rvalues_any seed leaf hl (splN d.1) (fun c => Nat.le_of_lt_succ (splN_lt d.1 c)) _).mono ?_
  rintro e wq ⟨rfl, hfq⟩
  rw [show catF (valF seed.1 leaf (splN d.1)) 35 = sigE seed.1 leaf d.1 from rfl, ← HS.out, ← HV.out]
  rw [← HN.out]
  have hx9 := (Fr.drew (Fr.refl _ _)).trans (hy9.trans hfq)
  have HR10 := Lib.hid (HR9.out.fr hx9 (fun h => h))
  have HX10 := Lib.hid (HX9.out.fr hx9 (fun h => h))
  have HS10 := Lib.hid (HS9.out.fr hx9 (fun h => h))
  have HD10 := Lib.hid (HD9.out.fr hx9 (fun h => h))
  have HF10 := Lib.hid (HF9.out.trans hx9)
  clear hx9 hy9 hfq
  go_wp2_with fail
  refine QR.mk ?_
  refine reg_uno (D := [some 57, some 58, some 59, some 60, some 61, some 62, some 63, some 64, some 65, some 66, some 67, some 68, some 69, some 70, some 71, some 72, some 73, some 74, some 75, some 76, some 77, some 78, some 79, some 80, some 81, some 82, some 83, some 84, some 85, some 86, some 87, some 88, some 6]) (J := [21, 22]) 23 [] [PV (.agg X), PV (.agg X)] TT10 (by kernel_rfl) (by kernel_rfl) (by kernel_rfl) rfl rfl rfl
    (stab_cons (PV.stab _) (stab_cons (PV.stab _) stab_nil))
    (fun v => usteps_cons ?_ (usteps_cons ?_ (usteps_nil))) (fun v wx hx hP hA => ?_)
  · refine ustep_mk (D := [some 57, some 58, some 59, some 60, some 61, some 62, some 63, some 64, some 65, some 66, some 67, some 68, some 69, some 70, some 71, some 72, some 73, some 74, some 75, some 76, some 77, some 78, some 79, some 80, some 81, some 82, some 83, some 84, some 85, some 86, some 87, some 88, some 6]) (Ti := []) rfl rfl rfl rfl (fun wx hx hP => ?_)   -- 21: load 22 (tmp 11)
    have hl := (HR10.out.fr hx (fun h => h)).all hsX
    clear hP
    simp only [putD, List.getD_cons_zero, List.getD_cons_succ]
    go_wp2_with fail
    exact Q1.mk rfl _ rfl ⟨Fr.refl _ _, rfl, frok_no rfl⟩
  · refine ustep_mk (D := [some 57, some 58, some 59, some 60, some 61, some 62, some 63, some 64, some 65, some 66, some 67, some 68, some 69, some 70, some 71, some 72, some 73, some 74, some 75, some 76, some 77, some 78, some 79, some 80, some 81, some 82, some 83, some 84, some 85, some 86, some 87, some 88, some 6]) (Ti := []) rfl rfl rfl rfl (fun wx hx hP => ?_)   -- 22: load 22 (tmp 9)
    have hl := (HX10.out.fr hx (fun h => h)).all hsX
    clear hP
    simp only [putD, List.getD_cons_zero, List.getD_cons_succ]
    go_wp2_with fail
    exact Q1.mk rfl _ rfl ⟨Fr.refl _ _, rfl, frok_no rfl⟩
  have h21 : v 21 = .agg X := hP.1
  have h22 : v 22 = .agg X := hP.2.1
  have HX11 := Lib.hid (HX10.out.fr hx (fun h => h))
  have HS11 := Lib.hid (HS10.out.fr hx (fun h => h))
  have HD11 := Lib.hid (HD10.out.fr hx (fun h => h))
  have HF11 := Lib.hid (HF10.out.trans hx)
  clear hx hA
  clear hP
  simp only [putD, List.getD_cons_zero, List.getD_cons_succ]
  refine reg_seq' 89 3 TT10 (by kernel_rfl) (by kernel_rfl) ?_
  simp only [List.drop_succ_cons, List.drop_zero, List.take_succ_cons, List.take_zero]
  go_wp2_with fail
  refine QR.mk ?_
  refine reg_uno (D := [some 57, some 58, some 59, some 60, some 61, some 62, some 63, some 64, some 65, some 66, some 67, some 68, some 69, some 70, some 71, some 72, some 73, some 74, some 75, some 76, some 77, some 78, some 79, some 80, some 81, some 82, some 83, some 84, some 85, some 86, some 87, some 88, some 6]) (J := [26, 27, 28, 29]) 30 [] [PV (.agg X), PV (.int .i64 (leaf : Int)), PV (.agg D), PV (.agg S)] TT10 (by kernel_rfl) (by kernel_rfl) (by kernel_rfl) rfl rfl rfl
    (stab_cons (PV.stab _) (stab_cons (PV.stab _) (stab_cons (PV.stab _) (stab_cons (PV.stab _) stab_nil))))
    (fun v => usteps_cons ?_ (usteps_cons ?_ (usteps_cons ?_ (usteps_cons ?_ (usteps_nil))))) (fun v wx hx hP hA => ?_)
  · refine ustep_mk (D := [some 57, some 58, some 59, some 60, some 61, some 62, some 63, some 64, some 65, some 66, some 67, some 68, some 69, some 70, some 71, some 72, some 73, some 74, some 75, some 76, some 77, some 78, some 79, some 80, some 81, some 82, some 83, some 84, some 85, some 86, some 87, some 88, some 6]) (Ti := []) rfl rfl rfl rfl (fun wx hx hP => ?_)   -- 26: load 22 (tmp 9)
    have hl := (HX11.out.fr hx (fun h => h)).all hsX
    clear hP
    simp only [putD, List.getD_cons_zero, List.getD_cons_succ]
    go_wp2_with fail
    exact Q1.mk rfl _ rfl ⟨Fr.refl _ _, rfl, frok_no rfl⟩
  · refine ustep_mk (D := [some 57, some 58, some 59, some 60, some 61, some 62, some 63, some 64, some 65, some 66, some 67, some 68, some 69, some 70, some 71, some 72, some 73, some 74, some 75, some 76, some 77, some 78, some 79, some 80, some 81, some 82, some 83, some 84, some 85, some 86, some 87, some 88, some 6]) (Ti := []) rfl rfl rfl rfl (fun wx hx hP => ?_)   -- 27: move (tmp 1)
    clear hP
    simp only [putD, List.getD_cons_zero, List.getD_cons_succ]
    go_wp2_with fail
    exact Q1.mk rfl _ rfl ⟨Fr.refl _ _, rfl, frok_no rfl⟩
  · refine ustep_mk (D := [some 57, some 58, some 59, some 60, some 61, some 62, some 63, some 64, some 65, some 66, some 67, some 68, some 69, some 70, some 71, some 72, some 73, some 74, some 75, some 76, some 77, some 78, some 79, some 80, some 81, some 82, some 83, some 84, some 85, some 86, some 87, some 88, some 6]) (Ti := []) rfl rfl rfl rfl (fun wx hx hP => ?_)   -- 28: load 22 (tmp 5)
    have hl := (HD11.out.fr hx (fun h => h)).all hsd
    clear hP
    simp only [putD, List.getD_cons_zero, List.getD_cons_succ]
    go_wp2_with fail
    exact Q1.mk rfl _ rfl ⟨Fr.refl _ _, rfl, frok_no rfl⟩
  · refine ustep_mk (D := [some 57, some 58, some 59, some 60, some 61, some 62, some 63, some 64, some 65, some 66, some 67, some 68, some 69, some 70, some 71, some 72, some 73, some 74, some 75, some 76, some 77, some 78, some 79, some 80, some 81, some 82, some 83, some 84, some 85, some 86, some 87, some 88, some 6]) (Ti := []) rfl rfl rfl rfl (fun wx hx hP => ?_)   -- 29: load 52 (tmp 7)
    have hl := (HS11.out.fr hx (fun h => h)).all hsS
    clear hP
    simp only [putD, List.getD_cons_zero, List.getD_cons_succ]
    go_wp2_with fail
    exact Q1.mk rfl _ rfl ⟨Fr.refl _ _, rfl, frok_no rfl⟩
  have h26 : v 26 = .agg X := hP.1
  have h27 : v 27 = .int .i64 (leaf : Int) := hP.2.1
  have h28 : v 28 = .agg D := hP.2.2.1
  have h29 : v 29 = .agg S := hP.2.2.2.1
  have HF12 := Lib.hid (HF11.out.trans hx)
  clear hx hA
  clear hP
  simp only [putD, List.getD_cons_zero, List.getD_cons_succ]
  refine reg_seq' 89 3 TT10 (by kernel_rfl) (by kernel_rfl) ?_
  simp only [List.drop_succ_cons, List.drop_zero, List.take_succ_cons, List.take_zero]
  go_wp2_with fail
  rw [HX.out, HD.out, HS.out]
  refine (Verify_ok leaf hl ⟨compB leaf (pubE seed.1 leaf), compB_length _ _⟩ d ⟨sigE seed.1 leaf d.1, sigE_length _ _ _⟩ _).mono ?_
  rintro e wr ⟨rfl, hfr⟩
  rw [decide_eq_true (congrArg (compB leaf) (endE_sigE _ _ _)), ← HX.out, ← HD.out, ← HS.out]
  have HF13 := Lib.hid (HF12.out.trans hfr)
  clear hfr
  go_wp2_with fail
  refine QR.mk ?_
  refine reg_end (by decide) ?_
  go_wp2_with fail
  go_ret
  exact ⟨rfl, HF13.out⟩

set_option maxHeartbeats 2000000 in
theorem lsign_bad (seed : By 32) (leaf : Int) (h : ¬ (0 ≤ leaf ∧ leaf ≤ 65535)) (d : By 16) (w : World) :
    Calls Try.prog 10 #[.agg (bs seed.1).toArray, .int .i64 leaf, .agg (bs d.1).toArray] w fun e w' => e = .returned (.bool true) ∧ Fr0 w w' := by
  have hsz : (bs seed.1).toArray.size = 32 := by simp [seed.2]
  have hsd : (bs d.1).toArray.size = 16 := by simp [d.2]
  obtain ⟨V, HV⟩ := nm (bs seed.1).toArray
  rw [← HV.out] at hsz ⊢
  obtain ⟨D, HD⟩ := nm (bs d.1).toArray
  rw [← HD.out] at hsd ⊢
  have hst := z16_st
  have hbd := run_bd_v16
  have hzs : z16.size = 16 := rfl
  obtain ⟨Z, HZ⟩ := nm z16
  rw [← HZ.out] at hst hbd hzs
  have hst5 := zS_st
  have hbd5 := zS_bd
  have hsS := zS_size
  have heS := fun w => run_s560_same w (List.replicate 560 0) (by simp)
  change ∀ w, (eqv 52 (.agg zS) (.agg zS)).run Try.prog w = .ok (.bool true) w at heS
  obtain ⟨S, HS⟩ := nm zS
  rw [← HS.out] at hst5 hbd5 hsS heS
  obtain ⟨w1, HW1⟩ := nm ((w.alloc (.cells V 31)).alloc (.cells D 22))
  obtain ⟨b0, b1, bf, _⟩ := alloc2 _ _ _ _ _ _ HW1.out
  have HV1 := Lib.hid b0
  have HD1 := Lib.hid b1
  have HF1 := Lib.hid bf
  clear b0 b1 bf
  go_enter Try.func10, Try.ntmps10
  go_wp2_with fail
  rw [← HW1.out]
  refine (known_any _).mono ?_
  rintro e w2 ⟨rfl, hf2⟩
  have HV2 := Lib.hid (HV1.out.fr hf2 (fun h => h))
  have HD2 := Lib.hid (HD1.out.fr hf2 (fun h => h))
  have HF2 := Lib.hid (HF1.out.trans hf2)
  have hl2 := HV2.out.all hsz
  have hm2 := HD2.out.all hsd
  clear hf2
  go_wp2_with fail
  rw [HV.out, HD.out]
  refine (Sign_bad seed d leaf h _).mono ?_
  rintro e w3 ⟨rfl, hf3⟩
  rw [← HS.out, ← HV.out, ← HD.out]
  obtain ⟨w4, HW4⟩ := nm (w3.alloc (.cells S 52))
  have HS4 := Lib.hid (show Blk w4 w3.heap.size 52 S from by rw [HW4.out]; exact Blk.new _ _ _)
  have HV4 := Lib.hid (show Blk w4 w.heap.size 31 V from by rw [HW4.out]; exact (HV2.out.fr hf3 (fun h => h)).alloc _)
  have HD4 := Lib.hid (show Blk w4 (w.heap.size + 1) 22 D from by rw [HW4.out]; exact (HD2.out.fr hf3 (fun h => h)).alloc _)
  have HF4 := Lib.hid (show Fr0 w w4 from by rw [HW4.out]; exact (HF2.out.trans hf3).alloc _)
  have hz := zt_bulletin_onetime_Signature
  have hok := ok560_new w3 _ 52 hz
  have hpt := put560_new w3 _ S 52 hz hsS
  have hl4 := HV4.out.all hsz
  rw [HW4.out] at hl4
  clear hf3 hl2 hm2
  go_wp2_with fail
  rw [← HW4.out, HV.out]
  refine (Public_bad seed leaf h _).mono ?_
  rintro e w5 ⟨rfl, hf5⟩
  rw [← HZ.out, ← HV.out]
  obtain ⟨w6, HW6⟩ := nm (w5.alloc (.cells Z 22))
  have HX6 := Lib.hid (show Blk w6 w5.heap.size 22 Z from by rw [HW6.out]; exact Blk.new _ _ _)
  have HS6 := Lib.hid (show Blk w6 w3.heap.size 52 S from by rw [HW6.out]; exact (HS4.out.fr hf5 (fun h => h)).alloc _)
  have HV6 := Lib.hid (show Blk w6 w.heap.size 31 V from by rw [HW6.out]; exact (HV4.out.fr hf5 (fun h => h)).alloc _)
  have HD6 := Lib.hid (show Blk w6 (w.heap.size + 1) 22 D from by rw [HW6.out]; exact (HD4.out.fr hf5 (fun h => h)).alloc _)
  have HF6 := Lib.hid (show Fr0 w w6 from by rw [HW6.out]; exact (HF4.out.trans hf5).alloc _)
  clear hf5 hl4
  go_wp2_with fail
  rw [← HW6.out]
  refine (in_any _ _ _).mono ?_
  rintro e w7 ⟨rfl, rfl⟩
  rw [decide_eq_false (by omega)]
  have hl6 := HD6.out.all hsd
  have hm6 := HS6.out.all hsS
  have hn6 := HX6.out.all hzs
  go_wp2_with fail
  rw [HZ.out, HD.out, HS.out, z16_bs]
  refine (Verify_bad leaf h ⟨List.replicate 16 0, by simp⟩ d ⟨List.replicate 560 0, by simp⟩ _).mono ?_
  rintro e w8 ⟨rfl, hf8⟩
  have HF8 := Lib.hid (HF6.out.trans hf8)
  clear hf8 hl6 hm6 hn6
  go_wp2_with fail
  go_ret
  exact ⟨rfl, HF8.out⟩

theorem lsign_walk (seed : By 32) (leaf : Int) (d : By 16) (w : World) :
    Calls Try.prog 10 #[.agg (bs seed.1).toArray, .int .i64 leaf, .agg (bs d.1).toArray] w fun e w' => e = .returned (.bool true) ∧ Below w.heap.size w w' := by
  by_cases h : 0 ≤ leaf ∧ leaf ≤ 65535
  · obtain ⟨l, rfl⟩ := Int.eq_ofNat_of_zero_le h.1
    exact (lsign_ok seed l (by omega) d w).mono fun e w' ⟨he, hf⟩ => ⟨he, Fr0.below hf⟩
  · exact (lsign_bad seed leaf h d w).mono fun e w' ⟨he, hf⟩ => ⟨he, Fr0.below hf⟩
end Go.Proofs.Ytjdbfedkadoklaa
