/- OnetimePublic: the law's walk. Printed by gen_lpub.py. No condition. -/
import Derived.Test.YtjdbfedkadoklaaLit
import Derived.Test.YtjdbfedkadoklaaOtS
namespace Go.Proofs.Ytjdbfedkadoklaa
set_option linter.unusedVariables false
set_option linter.unusedSimpArgs false
set_option maxRecDepth 10000
open Go.RowKit
attribute [local go_sem ↓] Go.wp_at_zero Go.wp_at_succ

def TT9 : List (List Nat) := [[], [0], [0, 1], [0, 1, 2], [0, 1, 2, 3], [0, 1, 2, 3, 4], [0, 1, 2, 3, 4, 5], [0, 1, 2, 3, 4, 5, 6], [0, 1, 2, 3, 4, 5, 6], [0, 1, 2, 3, 4, 5, 6], [0, 1, 2, 3, 4, 5, 6], [0, 1, 2, 3, 4, 5, 6], [0, 1, 2, 3, 4, 5, 6, 9, 10, 11], [0, 1, 2, 3, 4, 5, 6, 8, 9, 10, 11, 12], [0, 1, 2, 3, 4, 5, 6, 7, 8, 9, 10, 11, 12, 13], [0, 1, 2, 3, 4, 5, 6, 7, 8, 9, 10, 11, 12, 13, 14], [0, 1, 2, 3, 4, 5, 6, 7, 8, 9, 10, 11, 12, 13, 14, 15], [0, 1, 2, 3, 4, 5, 6, 7, 8, 9, 10, 11, 12, 13, 14, 15, 16], [0, 1, 2, 3, 4, 5, 6, 7, 8, 9, 10, 11, 12, 13, 14, 15, 16], [0, 1, 2, 3, 4, 5, 6, 7, 8, 9, 10, 11, 12, 13, 14, 15, 16], [0, 1, 2, 3, 4, 5, 6, 7, 8, 9, 10, 11, 12, 13, 14, 15, 16], [0, 1, 2, 3, 4, 5, 6, 7, 8, 9, 10, 11, 12, 13, 14, 15, 16, 19, 20], [0, 1, 2, 3, 4, 5, 6, 7, 8, 9, 10, 11, 12, 13, 14, 15, 16, 18, 19, 20, 21], [0, 1, 2, 3, 4, 5, 6, 7, 8, 9, 10, 11, 12, 13, 14, 15, 16, 17, 18, 19, 20, 21, 22], [0, 1, 2, 3, 4, 5, 6, 7, 8, 9, 10, 11, 12, 13, 14, 15, 16, 17, 18, 19, 20, 21, 22, 23], [0, 1, 2, 3, 4, 5, 6, 7, 8, 9, 10, 11, 12, 13, 14, 15, 16, 17, 18, 19, 20, 21, 22, 23, 24]]
set_option maxHeartbeats 1000000 in
theorem lpub_ok (seed : By 32) (leaf : Nat) (hl : leaf ≤ 65535) (w : World) :
    Calls Try.prog 9 #[.agg (bs seed.1).toArray, .int .i64 (leaf : Int)] w fun e w' => e = .returned (.bool true) ∧ Fr0 w w' := by
  have hsz : (bs seed.1).toArray.size = 32 := by simp [seed.2]
  have hb1 := bd_v1
  have hb2 := bd_v2
  have hb3 := bd_lit
  have hc1 := bd_r1
  have hc2 := bd_r2
  have hc3 := bd_rlit
  obtain ⟨V, HV⟩ := nm (bs seed.1).toArray
  rw [← HV.out] at hsz ⊢
  obtain ⟨U, HU⟩ := nm (bs v1B).toArray
  obtain ⟨T, HT⟩ := nm (bs v2B).toArray
  obtain ⟨L, HL⟩ := nm (bs litB).toArray
  simp only [← HU.out, ← HT.out, ← HL.out] at hb1 hb2 hb3 hc1 hc2 hc3
  have hstX := a16_st ⟨compB leaf (pubE seed.1 leaf), compB_length _ _⟩
  change ∀ (w : World) (b' p : Nat), okA w b' p 16 = true → (st 22 (.pointer (some ⟨b', p, none⟩)) (.agg (bs (compB leaf (pubE seed.1 leaf))).toArray)).run Try.prog w = .ok () (putW w b' p (bs (compB leaf (pubE seed.1 leaf))).toArray) at hstX
  have hsX : (bs (compB leaf (pubE seed.1 leaf))).toArray.size = 16 := by simp [compB_length]
  have heX := fun w => run_rv_same w (compB leaf (pubE seed.1 leaf)) (compB_length _ _)
  obtain ⟨X, HX⟩ := nm (bs (compB leaf (pubE seed.1 leaf))).toArray
  rw [← HX.out] at hstX hsX heX
  have hstY := a16_st ⟨compB leaf litB, compB_length _ _⟩
  change ∀ (w : World) (b' p : Nat), okA w b' p 16 = true → (st 22 (.pointer (some ⟨b', p, none⟩)) (.agg (bs (compB leaf litB)).toArray)).run Try.prog w = .ok () (putW w b' p (bs (compB leaf litB)).toArray) at hstY
  have hsY : (bs (compB leaf litB)).toArray.size = 16 := by simp [compB_length]
  have heY := fun w => run_rv_same w (compB leaf litB) (compB_length _ _)
  obtain ⟨Y, HY⟩ := nm (bs (compB leaf litB)).toArray
  rw [← HY.out] at hstY hsY heY
  obtain ⟨E, HE⟩ := nm (bs (pubE seed.1 leaf)).toArray
  obtain ⟨A, HA⟩ := nm (nis ((List.range 35).map fun _ => 15))
  obtain ⟨w1, HW1⟩ := nm (w.alloc (.cells V 31))
  have HV1 := Lib.hid (show Blk w1 w.heap.size 31 V from by rw [HW1.out]; exact Blk.new _ _ _)
  have HF1 := Lib.hid (show Fr0 w w1 from by rw [HW1.out]; exact (Fr.refl _ _).alloc _)
  go_enter Try.func9, Try.ntmps9
  go_wp2_with fail
  rw [← HW1.out]
  refine (known_any _).mono ?_
  rintro e w2 ⟨rfl, hf2⟩
  have HV2 := Lib.hid (HV1.out.fr hf2 (fun h => h))
  have HF2 := Lib.hid (HF1.out.trans hf2)
  have hl2 := HV2.out.all hsz
  clear hf2
  go_wp2_with fail
  rw [HV.out]
  refine (Public_ok seed leaf hl _).mono ?_
  rintro e w3 ⟨rfl, hf3⟩
  rw [← HX.out, ← HV.out]
  obtain ⟨w4, HW4⟩ := nm (w3.alloc (.cells X 22))
  have HX4 := Lib.hid (show Blk w4 w3.heap.size 22 X from by rw [HW4.out]; exact Blk.new _ _ _)
  have HV4 := Lib.hid (show Blk w4 w.heap.size 31 V from by rw [HW4.out]; exact (HV2.out.fr hf3 (fun h => h)).alloc _)
  have HF4 := Lib.hid (show Fr0 w w4 from by rw [HW4.out]; exact (HF2.out.trans hf3).alloc _)
  clear hf3 hl2
  go_wp2_with fail
  rw [← HW4.out, HL.out]
  refine (Compress_ok ⟨litB, litB_length⟩ leaf hl _).mono ?_
  rintro e w5 ⟨rfl, hf5⟩
  rw [← HY.out, ← HL.out]
  obtain ⟨w6, HW6⟩ := nm (w5.alloc (.cells Y 22))
  have HY6 := Lib.hid (show Blk w6 w5.heap.size 22 Y from by rw [HW6.out]; exact Blk.new _ _ _)
  have HX6 := Lib.hid (show Blk w6 w3.heap.size 22 X from by rw [HW6.out]; exact (HX4.out.fr hf5 (fun h => h)).alloc _)
  have HV6 := Lib.hid (show Blk w6 w.heap.size 31 V from by rw [HW6.out]; exact (HV4.out.fr hf5 (fun h => h)).alloc _)
  have HF6 := Lib.hid (show Fr0 w w6 from by rw [HW6.out]; exact (HF4.out.trans hf5).alloc _)
  clear hf5
  go_wp2_with fail
  rw [← HW6.out]
  refine (in_any _ _ _).mono ?_
  rintro e w8 ⟨rfl, rfl⟩
  rw [decide_eq_true (by omega)]
  go_wp2_with fail
  refine reg_start (by kernel_rfl) ?_
  refine reg_seq' 69 7 TT9 (by kernel_rfl) (by kernel_rfl) ?_
  simp only [List.drop_succ_cons, List.drop_zero, List.take_succ_cons, List.take_zero]
  go_wp2_with fail
  refine QR.mk ?_
  refine reg_uno (D := [some 44, some 45, some 46, some 47, some 48, some 49, some 50, some 51, some 52, some 53, some 54, some 55, some 56, some 57, some 58, some 59, some 60, some 61, some 62, some 63, some 64, some 65, some 66, some 67, some 68, some 4]) (J := [7, 8, 9, 10, 11, 12, 13]) 14 [] [PV (.agg X), PV (.int .i64 (leaf : Int)), PV (.agg V), PV (.int .i64 (leaf : Int)), PV (.agg A), PV (.agg E), PV (.agg X)] TT9 (by kernel_rfl) (by kernel_rfl) (by kernel_rfl) rfl rfl rfl
    (stab_cons (PV.stab _) (stab_cons (PV.stab _) (stab_cons (PV.stab _) (stab_cons (PV.stab _) (stab_cons (PV.stab _) (stab_cons (PV.stab _) (stab_cons (PV.stab _) stab_nil)))))))
    (fun v => usteps_cons ?_ (usteps_cons ?_ (usteps_cons ?_ (usteps_cons ?_ (usteps_cons ?_ (usteps_cons ?_ (usteps_cons ?_ (usteps_nil)))))))) (fun v wx hx hP hA => ?_)
  · refine ustep_mk (D := [some 44, some 45, some 46, some 47, some 48, some 49, some 50, some 51, some 52, some 53, some 54, some 55, some 56, some 57, some 58, some 59, some 60, some 61, some 62, some 63, some 64, some 65, some 66, some 67, some 68, some 4]) (Ti := []) rfl rfl rfl rfl (fun wx hx hP => ?_)   -- 7: load 22 (tmp 5)
    have hl := (HX6.out.drew.fr hx (fun h => h)).all hsX
    clear hP
    simp only [putD, List.getD_cons_zero, List.getD_cons_succ]
    go_wp2_with fail
    exact Q1.mk rfl _ rfl ⟨Fr.refl _ _, rfl, frok_no rfl⟩
  · refine ustep_mk (D := [some 44, some 45, some 46, some 47, some 48, some 49, some 50, some 51, some 52, some 53, some 54, some 55, some 56, some 57, some 58, some 59, some 60, some 61, some 62, some 63, some 64, some 65, some 66, some 67, some 68, some 4]) (Ti := []) rfl rfl rfl rfl (fun wx hx hP => ?_)   -- 8: move (tmp 1)
    clear hP
    simp only [putD, List.getD_cons_zero, List.getD_cons_succ]
    go_wp2_with fail
    exact Q1.mk rfl _ rfl ⟨Fr.refl _ _, rfl, frok_no rfl⟩
  · refine ustep_mk (D := [some 44, some 45, some 46, some 47, some 48, some 49, some 50, some 51, some 52, some 53, some 54, some 55, some 56, some 57, some 58, some 59, some 60, some 61, some 62, some 63, some 64, some 65, some 66, some 67, some 68, some 4]) (Ti := []) rfl rfl rfl rfl (fun wx hx hP => ?_)   -- 9: load 31 (tmp 2)
    have hl := (HV6.out.drew.fr hx (fun h => h)).all hsz
    clear hP
    simp only [putD, List.getD_cons_zero, List.getD_cons_succ]
    go_wp2_with fail
    exact Q1.mk rfl _ rfl ⟨Fr.refl _ _, rfl, frok_no rfl⟩
  · refine ustep_mk (D := [some 44, some 45, some 46, some 47, some 48, some 49, some 50, some 51, some 52, some 53, some 54, some 55, some 56, some 57, some 58, some 59, some 60, some 61, some 62, some 63, some 64, some 65, some 66, some 67, some 68, some 4]) (Ti := []) rfl rfl rfl rfl (fun wx hx hP => ?_)   -- 10: move (tmp 1)
    clear hP
    simp only [putD, List.getD_cons_zero, List.getD_cons_succ]
    go_wp2_with fail
    exact Q1.mk rfl _ rfl ⟨Fr.refl _ _, rfl, frok_no rfl⟩
  · refine ustep_mk (D := [some 44, some 45, some 46, some 47, some 48, some 49, some 50, some 51, some 52, some 53, some 54, some 55, some 56, some 57, some 58, some 59, some 60, some 61, some 62, some 63, some 64, some 65, some 66, some 67, some 68, some 4]) (Ti := []) rfl rfl rfl rfl (fun wx hx hP => ?_)   -- 11: call { callee := Callee.value (func 31), args := #
    clear hP
    simp only [putD, List.getD_cons_zero, List.getD_cons_succ]
    go_wp2_with fail
    refine (rall_any 15 _).mono ?_
    rintro e wy ⟨rfl, hfy⟩
    rw [← HA.out]
    go_wp2_with fail
    exact Q1.mk rfl _ rfl ⟨hfy, rfl, frok_no rfl⟩
  · refine ustep_mk (D := [some 44, some 45, some 46, some 47, some 48, some 49, some 50, some 51, some 52, some 53, some 54, some 55, some 56, some 57, some 58, some 59, some 60, some 61, some 62, some 63, some 64, some 65, some 66, some 67, some 68, some 4]) (Ti := [9, 10, 11]) rfl rfl rfl rfl (fun wx hx hP => ?_)   -- 12: call { callee := Callee.value (func 30), args := #
    have h9 : v 9 = .agg V := hP.1
    have h10 : v 10 = .int .i64 (leaf : Int) := hP.2.1
    have h11 : v 11 = .agg A := hP.2.2.1
    clear hP
    simp only [putD, List.getD_cons_zero, List.getD_cons_succ]
    go_wp2_with fail
    rw [HV.out, HA.out]
    refine (rvalues_any seed leaf hl (fun _ => 15) (fun _ => Nat.le_refl _) _).mono ?_
    rintro e wy ⟨rfl, hfy⟩
    rw [show catF (valF seed.1 leaf fun _ => 15) 35 = pubE seed.1 leaf from rfl, ← HE.out, ← HV.out, ← HA.out]
    go_wp2_with fail
    exact Q1.mk rfl _ rfl ⟨hfy, rfl, frok_no rfl⟩
  · refine ustep_mk (D := [some 44, some 45, some 46, some 47, some 48, some 49, some 50, some 51, some 52, some 53, some 54, some 55, some 56, some 57, some 58, some 59, some 60, some 61, some 62, some 63, some 64, some 65, some 66, some 67, some 68, some 4]) (Ti := [8, 9, 10, 11, 12]) rfl rfl rfl rfl (fun wx hx hP => ?_)   -- 13: call { callee := Callee.value (func 25), args := #
    have h8 : v 8 = .int .i64 (leaf : Int) := hP.1
    have h9 : v 9 = .agg V := hP.2.1
    have h10 : v 10 = .int .i64 (leaf : Int) := hP.2.2.1
    have h11 : v 11 = .agg A := hP.2.2.2.1
    have h12 : v 12 = .agg E := hP.2.2.2.2.1
    clear hP
    simp only [putD, List.getD_cons_zero, List.getD_cons_succ]
    go_wp2_with fail
    rw [HE.out]
    refine (rcompress_any leaf hl ⟨pubE seed.1 leaf, pubE_length _ _⟩ _).mono ?_
    rintro e wy ⟨rfl, hfy⟩
    rw [← HX.out, ← HE.out]
    go_wp2_with fail
    exact Q1.mk rfl _ rfl ⟨hfy, rfl, frok_no rfl⟩
  have h7 : v 7 = .agg X := hP.1
  have h8 : v 8 = .int .i64 (leaf : Int) := hP.2.1
  have h9 : v 9 = .agg V := hP.2.2.1
  have h10 : v 10 = .int .i64 (leaf : Int) := hP.2.2.2.1
  have h11 : v 11 = .agg A := hP.2.2.2.2.1
  have h12 : v 12 = .agg E := hP.2.2.2.2.2.1
  have h13 : v 13 = .agg X := hP.2.2.2.2.2.2.1
  have HY7 := Lib.hid (HY6.out.drew.fr hx (fun h => h))
  have HF7 := Lib.hid (HF6.out.trans ((Fr.drew (Fr.refl _ _)).trans hx))
  clear hx hA
  clear hP
  simp only [putD, List.getD_cons_zero, List.getD_cons_succ]
  refine reg_seq' 69 3 TT9 (by kernel_rfl) (by kernel_rfl) ?_
  simp only [List.drop_succ_cons, List.drop_zero, List.take_succ_cons, List.take_zero]
  go_wp2_with fail
  refine QR.mk ?_
  refine reg_uno (D := [some 44, some 45, some 46, some 47, some 48, some 49, some 50, some 51, some 52, some 53, some 54, some 55, some 56, some 57, some 58, some 59, some 60, some 61, some 62, some 63, some 64, some 65, some 66, some 67, some 68, some 4]) (J := [17, 18, 19, 20, 21, 22]) 23 [] [PV (.agg Y), PV (.int .i64 (leaf : Int)), PV (.agg U), PV (.agg T), PV (.agg L), PV (.agg Y)] TT9 (by kernel_rfl) (by kernel_rfl) (by kernel_rfl) rfl rfl rfl
    (stab_cons (PV.stab _) (stab_cons (PV.stab _) (stab_cons (PV.stab _) (stab_cons (PV.stab _) (stab_cons (PV.stab _) (stab_cons (PV.stab _) stab_nil))))))
    (fun v => usteps_cons ?_ (usteps_cons ?_ (usteps_cons ?_ (usteps_cons ?_ (usteps_cons ?_ (usteps_cons ?_ (usteps_nil))))))) (fun v wx hx hP hA => ?_)
  · refine ustep_mk (D := [some 44, some 45, some 46, some 47, some 48, some 49, some 50, some 51, some 52, some 53, some 54, some 55, some 56, some 57, some 58, some 59, some 60, some 61, some 62, some 63, some 64, some 65, some 66, some 67, some 68, some 4]) (Ti := []) rfl rfl rfl rfl (fun wx hx hP => ?_)   -- 17: load 22 (tmp 7)
    have hl := (HY7.out.fr hx (fun h => h)).all hsY
    clear hP
    simp only [putD, List.getD_cons_zero, List.getD_cons_succ]
    go_wp2_with fail
    exact Q1.mk rfl _ rfl ⟨Fr.refl _ _, rfl, frok_no rfl⟩
  · refine ustep_mk (D := [some 44, some 45, some 46, some 47, some 48, some 49, some 50, some 51, some 52, some 53, some 54, some 55, some 56, some 57, some 58, some 59, some 60, some 61, some 62, some 63, some 64, some 65, some 66, some 67, some 68, some 4]) (Ti := []) rfl rfl rfl rfl (fun wx hx hP => ?_)   -- 18: move (tmp 1)
    clear hP
    simp only [putD, List.getD_cons_zero, List.getD_cons_succ]
    go_wp2_with fail
    exact Q1.mk rfl _ rfl ⟨Fr.refl _ _, rfl, frok_no rfl⟩
  · refine ustep_mk (D := [some 44, some 45, some 46, some 47, some 48, some 49, some 50, some 51, some 52, some 53, some 54, some 55, some 56, some 57, some 58, some 59, some 60, some 61, some 62, some 63, some 64, some 65, some 66, some 67, some 68, some 4]) (Ti := []) rfl rfl rfl rfl (fun wx hx hP => ?_)   -- 19: build 36 #[(0, const (Value.int IntKind.u8 1))]
    clear hP
    simp only [putD, List.getD_cons_zero, List.getD_cons_succ]
    go_wp2_with fail
    exact Q1.mk rfl _ rfl ⟨Fr.refl _ _, rfl, frok_no rfl⟩
  · refine ustep_mk (D := [some 44, some 45, some 46, some 47, some 48, some 49, some 50, some 51, some 52, some 53, some 54, some 55, some 56, some 57, some 58, some 59, some 60, some 61, some 62, some 63, some 64, some 65, some 66, some 67, some 68, some 4]) (Ti := []) rfl rfl rfl rfl (fun wx hx hP => ?_)   -- 20: build 36 #[(0, const (Value.int IntKind.u8 2))]
    clear hP
    simp only [putD, List.getD_cons_zero, List.getD_cons_succ]
    go_wp2_with fail
    exact Q1.mk rfl _ rfl ⟨Fr.refl _ _, rfl, frok_no rfl⟩
  · refine ustep_mk (D := [some 44, some 45, some 46, some 47, some 48, some 49, some 50, some 51, some 52, some 53, some 54, some 55, some 56, some 57, some 58, some 59, some 60, some 61, some 62, some 63, some 64, some 65, some 66, some 67, some 68, some 4]) (Ti := [19, 20]) rfl rfl rfl rfl (fun wx hx hP => ?_)   -- 21: build 56 #[(0, tmp 63), (1, tmp 64)]
    have h19 : v 19 = .agg U := hP.1
    have h20 : v 20 = .agg T := hP.2.1
    clear hP
    simp only [putD, List.getD_cons_zero, List.getD_cons_succ]
    go_wp2_with fail
    exact Q1.mk rfl _ rfl ⟨Fr.refl _ _, rfl, frok_no rfl⟩
  · refine ustep_mk (D := [some 44, some 45, some 46, some 47, some 48, some 49, some 50, some 51, some 52, some 53, some 54, some 55, some 56, some 57, some 58, some 59, some 60, some 61, some 62, some 63, some 64, some 65, some 66, some 67, some 68, some 4]) (Ti := [18, 19, 20, 21]) rfl rfl rfl rfl (fun wx hx hP => ?_)   -- 22: call { callee := Callee.value (func 25), args := #
    have h18 : v 18 = .int .i64 (leaf : Int) := hP.1
    have h19 : v 19 = .agg U := hP.2.1
    have h20 : v 20 = .agg T := hP.2.2.1
    have h21 : v 21 = .agg L := hP.2.2.2.1
    clear hP
    simp only [putD, List.getD_cons_zero, List.getD_cons_succ]
    go_wp2_with fail
    rw [HL.out]
    refine (rcompress_any leaf hl ⟨litB, litB_length⟩ _).mono ?_
    rintro e wy ⟨rfl, hfy⟩
    rw [← HY.out, ← HL.out]
    go_wp2_with fail
    exact Q1.mk rfl _ rfl ⟨hfy, rfl, frok_no rfl⟩
  have h17 : v 17 = .agg Y := hP.1
  have h18 : v 18 = .int .i64 (leaf : Int) := hP.2.1
  have h19 : v 19 = .agg U := hP.2.2.1
  have h20 : v 20 = .agg T := hP.2.2.2.1
  have h21 : v 21 = .agg L := hP.2.2.2.2.1
  have h22 : v 22 = .agg Y := hP.2.2.2.2.2.1
  have HF8 := Lib.hid (HF7.out.trans hx)
  clear hx hA
  clear hP
  simp only [putD, List.getD_cons_zero, List.getD_cons_succ]
  refine reg_seq' 69 3 TT9 (by kernel_rfl) (by kernel_rfl) ?_
  simp only [List.drop_succ_cons, List.drop_zero, List.take_succ_cons, List.take_zero]
  go_wp2_with fail
  refine QR.mk ?_
  refine reg_end (by decide) ?_
  go_wp2_with fail
  go_ret
  exact ⟨rfl, HF8.out⟩

set_option maxHeartbeats 1000000 in
theorem lpub_bad (seed : By 32) (leaf : Int) (h : ¬ (0 ≤ leaf ∧ leaf ≤ 65535)) (w : World) :
    Calls Try.prog 9 #[.agg (bs seed.1).toArray, .int .i64 leaf] w fun e w' => e = .returned (.bool true) ∧ Fr0 w w' := by
  have hsz : (bs seed.1).toArray.size = 32 := by simp [seed.2]
  have hb1 := bd_v1
  have hb2 := bd_v2
  have hb3 := bd_lit
  obtain ⟨V, HV⟩ := nm (bs seed.1).toArray
  rw [← HV.out] at hsz ⊢
  obtain ⟨U, HU⟩ := nm (bs v1B).toArray
  obtain ⟨T, HT⟩ := nm (bs v2B).toArray
  obtain ⟨L, HL⟩ := nm (bs litB).toArray
  simp only [← HU.out, ← HT.out, ← HL.out] at hb1 hb2 hb3
  obtain ⟨Z, HZ⟩ := nm z16
  have hst := z16_st
  have hbd := run_bd_v16
  have heq := run_z16_same
  have hzs : Z.size = 16 := by rw [HZ.out]; rfl
  rw [← HZ.out] at hst hbd heq
  obtain ⟨w1, HW1⟩ := nm (w.alloc (.cells V 31))
  have HV1 := Lib.hid (show Blk w1 w.heap.size 31 V from by rw [HW1.out]; exact Blk.new _ _ _)
  have HF1 := Lib.hid (show Fr0 w w1 from by rw [HW1.out]; exact (Fr.refl _ _).alloc _)
  go_enter Try.func9, Try.ntmps9
  go_wp2_with fail
  rw [← HW1.out]
  refine (known_any _).mono ?_
  rintro e w2 ⟨rfl, hf2⟩
  have HV2 := Lib.hid (HV1.out.fr hf2 (fun h => h))
  have HF2 := Lib.hid (HF1.out.trans hf2)
  have hl2 := HV2.out.all hsz
  clear hf2
  go_wp2_with fail
  rw [HV.out]
  refine (Public_bad seed leaf h _).mono ?_
  rintro e w3 ⟨rfl, hf3⟩
  rw [← HZ.out, ← HV.out]
  obtain ⟨w4, HW4⟩ := nm (w3.alloc (.cells Z 22))
  have HX4 := Lib.hid (show Blk w4 w3.heap.size 22 Z from by rw [HW4.out]; exact Blk.new _ _ _)
  have HV4 := Lib.hid (show Blk w4 w.heap.size 31 V from by rw [HW4.out]; exact (HV2.out.fr hf3 (fun h => h)).alloc _)
  have HF4 := Lib.hid (show Fr0 w w4 from by rw [HW4.out]; exact (HF2.out.trans hf3).alloc _)
  clear hf3 hl2
  go_wp2_with fail
  rw [← HW4.out, HL.out]
  refine (Compress_bad ⟨litB, litB_length⟩ leaf h _).mono ?_
  rintro e w5 ⟨rfl, hf5⟩
  rw [← HZ.out, ← HL.out]
  obtain ⟨w6, HW6⟩ := nm (w5.alloc (.cells Z 22))
  have HY6 := Lib.hid (show Blk w6 w5.heap.size 22 Z from by rw [HW6.out]; exact Blk.new _ _ _)
  have HX6 := Lib.hid (show Blk w6 w3.heap.size 22 Z from by rw [HW6.out]; exact (HX4.out.fr hf5 (fun h => h)).alloc _)
  have HV6 := Lib.hid (show Blk w6 w.heap.size 31 V from by rw [HW6.out]; exact (HV4.out.fr hf5 (fun h => h)).alloc _)
  have HF6 := Lib.hid (show Fr0 w w6 from by rw [HW6.out]; exact (HF4.out.trans hf5).alloc _)
  clear hf5
  go_wp2_with fail
  rw [← HW6.out]
  refine (in_any _ _ _).mono ?_
  rintro e w8 ⟨rfl, rfl⟩
  rw [decide_eq_false (by omega)]
  have l0 := HX6.out.all hzs
  have l1 := HY6.out.all hzs
  go_wp2_with fail
  go_ret
  exact ⟨rfl, HF6.out⟩

theorem lpub_walk (seed : By 32) (leaf : Int) (w : World) :
    Calls Try.prog 9 #[.agg (bs seed.1).toArray, .int .i64 leaf] w fun e w' => e = .returned (.bool true) ∧ Below w.heap.size w w' := by
  by_cases h : 0 ≤ leaf ∧ leaf ≤ 65535
  · obtain ⟨l, rfl⟩ := Int.eq_ofNat_of_zero_le h.1
    exact (lpub_ok seed l (by omega) w).mono fun e w' ⟨he, hf⟩ => ⟨he, Fr0.below hf⟩
  · exact (lpub_bad seed leaf h w).mono fun e w' ⟨he, hf⟩ => ⟨he, Fr0.below hf⟩
end Go.Proofs.Ytjdbfedkadoklaa
