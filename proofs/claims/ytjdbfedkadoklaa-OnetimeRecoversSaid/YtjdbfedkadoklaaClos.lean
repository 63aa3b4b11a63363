/- One-time signatures: the closures of Public, Sign and ends. Printed by gen_clo.py. No condition beyond the ranges that are named. -/
import Derived.Test.YtjdbfedkadoklaaCmp
namespace Go.Proofs.Ytjdbfedkadoklaa
set_option linter.unusedVariables false
set_option linter.unusedSimpArgs false
set_option maxRecDepth 10000
open Go.RowKit
attribute [local go_sem ↓] Go.wp_at_zero Go.wp_at_succ

def TT46 : List (List Nat) := [[], [], [], [], [], [2, 3, 4], [0, 1, 2, 3, 4, 5], [0, 1, 2, 3, 4, 5, 6]]
set_option maxHeartbeats 2000000 in
theorem pub_fn (seed : By 32) (leaf c gl gs : Nat) (hl : leaf ≤ 65535) (hc : c < 35) (w : World) (hLf : Blk w gl 3 #[.int .i64 (leaf : Int)]) (hSd : Blk w gs 31 (bs seed.1).toArray) :
    Calls Try.prog 46 #[.int .i64 (c : Int), .pointer (some ⟨gl, 0, none⟩), .pointer (some ⟨gs, 0, none⟩)] w fun e w' => e = .returned (.agg (bs (advB leaf c 0 (15 - 0) (secB seed.1 leaf c))).toArray) ∧ Fr0 w w' := by
  have hst := a16_st ⟨advB leaf c 0 (15 - 0) (secB seed.1 leaf c), advB_length _ _ _ _ _ (secB_length _ _ _)⟩
  change ∀ (w : World) (b' p : Nat), okA w b' p 16 = true → (st 22 (.pointer (some ⟨b', p, none⟩)) (.agg (bs (advB leaf c 0 (15 - 0) (secB seed.1 leaf c))).toArray)).run Try.prog w = .ok () (putW w b' p (bs (advB leaf c 0 (15 - 0) (secB seed.1 leaf c))).toArray) at hst
  have hxs : (bs (advB leaf c 0 (15 - 0) (secB seed.1 leaf c))).toArray.size = 16 := by simp [advB_length, (secB_length _ _ _)]
  obtain ⟨X, HX⟩ := nm (bs (advB leaf c 0 (15 - 0) (secB seed.1 leaf c))).toArray
  rw [← HX.out] at hst hxs
  obtain ⟨w1, HW1⟩ := nm (w.alloc (.cells z16 22))
  have hz : Blk w1 w.heap.size 22 z16 := by rw [HW1.out]; exact Blk.new _ _ _
  have hf1 : Fr0 w w1 := by rw [HW1.out]; exact (Fr.refl _ _).alloc _
  have hzs : z16.size = 16 := rfl
  have hss : (bs seed.1).toArray.size = 32 := by simp
  obtain ⟨V, HV⟩ := nm (bs seed.1).toArray
  rw [← HV.out] at hSd hss
  go_enter Try.func46, Try.ntmps46
  go_wp2_with fail
  rw [← HW1.out]
  refine reg_start (by kernel_rfl) ?_
  refine reg_uno (D := [some 5, some 6, some 7, some 8, some 9, some 10, some 11, none]) (J := [0, 1, 2, 3, 4, 5]) 6 [] [PV (.int .i64 (leaf : Int)), PV (.int .i64 (c : Int)), PV (.agg V), PV (.int .i64 (leaf : Int)), PV (.int .i64 (c : Int)), PV (.agg (bs (secB seed.1 leaf c)).toArray)] TT46 (by kernel_rfl) (by kernel_rfl) (by kernel_rfl) rfl rfl rfl
    (stab_cons (PV.stab _) (stab_cons (PV.stab _) (stab_cons (PV.stab _) (stab_cons (PV.stab _) (stab_cons (PV.stab _) (stab_cons (PV.stab _) stab_nil))))))
    (fun v => usteps_cons ?_ (usteps_cons ?_ (usteps_cons ?_ (usteps_cons ?_ (usteps_cons ?_ (usteps_cons ?_ (usteps_nil))))))) (fun v wx hx hP hA => ?_)
  · refine ustep_mk (D := [some 5, some 6, some 7, some 8, some 9, some 10, some 11, none]) (Ti := []) rfl rfl rfl rfl (fun wx hx hP => ?_)   -- 0: load 3 (tmp 1)
    have hcl := (hLf.fr (hf1.trans ((Fr.drew (Fr.refl _ _)).trans hx)) (fun h => h)).cell 0
    simp at hcl
    clear hP
    simp only [putD, List.getD_cons_zero, List.getD_cons_succ]
    go_wp2_with fail
    exact Q1.mk rfl _ rfl ⟨Fr.refl _ _, rfl, frok_no rfl⟩
  · refine ustep_mk (D := [some 5, some 6, some 7, some 8, some 9, some 10, some 11, none]) (Ti := []) rfl rfl rfl rfl (fun wx hx hP => ?_)   -- 1: move (tmp 0)
    clear hP
    simp only [putD, List.getD_cons_zero, List.getD_cons_succ]
    go_wp2_with fail
    exact Q1.mk rfl _ rfl ⟨Fr.refl _ _, rfl, frok_no rfl⟩
  · refine ustep_mk (D := [some 5, some 6, some 7, some 8, some 9, some 10, some 11, none]) (Ti := []) rfl rfl rfl rfl (fun wx hx hP => ?_)   -- 2: load 31 (tmp 2)
    have hld := (hSd.fr (hf1.trans ((Fr.drew (Fr.refl _ _)).trans hx)) (fun h => h)).all hss
    clear hP
    simp only [putD, List.getD_cons_zero, List.getD_cons_succ]
    go_wp2_with fail
    exact Q1.mk rfl _ rfl ⟨Fr.refl _ _, rfl, frok_no rfl⟩
  · refine ustep_mk (D := [some 5, some 6, some 7, some 8, some 9, some 10, some 11, none]) (Ti := []) rfl rfl rfl rfl (fun wx hx hP => ?_)   -- 3: load 3 (tmp 1)
    have hcl := (hLf.fr (hf1.trans ((Fr.drew (Fr.refl _ _)).trans hx)) (fun h => h)).cell 0
    simp at hcl
    clear hP
    simp only [putD, List.getD_cons_zero, List.getD_cons_succ]
    go_wp2_with fail
    exact Q1.mk rfl _ rfl ⟨Fr.refl _ _, rfl, frok_no rfl⟩
  · refine ustep_mk (D := [some 5, some 6, some 7, some 8, some 9, some 10, some 11, none]) (Ti := []) rfl rfl rfl rfl (fun wx hx hP => ?_)   -- 4: move (tmp 0)
    clear hP
    simp only [putD, List.getD_cons_zero, List.getD_cons_succ]
    go_wp2_with fail
    exact Q1.mk rfl _ rfl ⟨Fr.refl _ _, rfl, frok_no rfl⟩
  · refine ustep_mk (D := [some 5, some 6, some 7, some 8, some 9, some 10, some 11, none]) (Ti := [2, 3, 4]) rfl rfl rfl rfl (fun wx hx hP => ?_)   -- 5: call { callee := Callee.value (func 37), args := #
    have h2 : v 2 = .agg V := hP.1
    have h3 : v 3 = .int .i64 (leaf : Int) := hP.2.1
    have h4 : v 4 = .int .i64 (c : Int) := hP.2.2.1
    clear hP
    simp only [putD, List.getD_cons_zero, List.getD_cons_succ]
    go_wp2_with fail
    rw [HV.out]
    refine (secret_any seed leaf c hl _).mono ?_
    rintro e wy ⟨rfl, hfy⟩
    go_wp2_with fail
    exact Q1.mk rfl _ rfl ⟨hfy, rfl, frok_no rfl⟩
  have h0 : v 0 = .int .i64 (leaf : Int) := hP.1
  have h1 : v 1 = .int .i64 (c : Int) := hP.2.1
  have h2 : v 2 = .agg V := hP.2.2.1
  have h3 : v 3 = .int .i64 (leaf : Int) := hP.2.2.2.1
  have h4 : v 4 = .int .i64 (c : Int) := hP.2.2.2.2.1
  have h5 : v 5 = .agg (bs (secB seed.1 leaf c)).toArray := hP.2.2.2.2.2.1
  have HR := Lib.hid (hz.drew.fr hx (fun h => h))
  have HF := Lib.hid (((Fr.refl (fun _ => False) w).alloc (.cells z16 22)).trans ((Fr.drew (Fr.refl _ _)).trans (HW1.out ▸ hx)))
  clear hx hA hz
  clear hP
  simp only [putD, List.getD_cons_zero, List.getD_cons_succ]
  refine reg_seq' 12 2 TT46 (by kernel_rfl) (by kernel_rfl) ?_
  simp only [List.drop_succ_cons, List.drop_zero, List.take_succ_cons, List.take_zero]
  go_wp2_with fail
  refine (advance_any leaf c 0 15 hl (by omega) (by omega) ⟨secB seed.1 leaf c, secB_length _ _ _⟩ _).mono ?_
  rintro e w9 ⟨rfl, hf9⟩
  rw [← HX.out]
  obtain ⟨hok, hput, hfin⟩ := fin_agg (n := 16) (cs := X) (HR.out.fr hf9 (fun h => h)) (HF.out.trans hf9) (by omega) hzs hxs
  have HP := Lib.hid (And.intro hput hfin)
  clear hf9 hput hfin
  go_wp2_with fail
  refine QR.mk ?_
  refine reg_end (by decide) ?_
  go_wp2_with fail
  refine bodyPost_agg (n := 16) (cs := X) rfl Try.underlying22 rfl info__16_uint8 (by rfl) ?_ rfl ?_
  · exact HP.out.1
  · exact ⟨by rw [HX.out], HP.out.2⟩

def TT47 : List (List Nat) := [[], [], [], [2], [2, 3], [], [], [], [5, 6, 7], [0, 1, 2, 3, 4, 5, 6, 7, 8], [0, 1, 2, 3, 4, 5, 6, 7, 8, 9]]
set_option maxHeartbeats 2000000 in
theorem sign_fn (seed : By 32) (d : List UInt8) (leaf c gl gd gs : Nat) (hl : leaf ≤ 65535) (hc : c < 35) (w : World) (hLf : Blk w gl 3 #[.int .i64 (leaf : Int)]) (hDg : Blk w gd 27 (nis (splL d))) (hSd : Blk w gs 31 (bs seed.1).toArray) :
    Calls Try.prog 47 #[.int .i64 (c : Int), .pointer (some ⟨gl, 0, none⟩), .pointer (some ⟨gd, 0, none⟩), .pointer (some ⟨gs, 0, none⟩)] w fun e w' => e = .returned (.agg (bs (advB leaf c 0 (splN d c - 0) (secB seed.1 leaf c))).toArray) ∧ Fr0 w w' := by
  have hst := a16_st ⟨advB leaf c 0 (splN d c - 0) (secB seed.1 leaf c), advB_length _ _ _ _ _ (secB_length _ _ _)⟩
  change ∀ (w : World) (b' p : Nat), okA w b' p 16 = true → (st 22 (.pointer (some ⟨b', p, none⟩)) (.agg (bs (advB leaf c 0 (splN d c - 0) (secB seed.1 leaf c))).toArray)).run Try.prog w = .ok () (putW w b' p (bs (advB leaf c 0 (splN d c - 0) (secB seed.1 leaf c))).toArray) at hst
  have hxs : (bs (advB leaf c 0 (splN d c - 0) (secB seed.1 leaf c))).toArray.size = 16 := by simp [advB_length, (secB_length _ _ _)]
  obtain ⟨X, HX⟩ := nm (bs (advB leaf c 0 (splN d c - 0) (secB seed.1 leaf c))).toArray
  rw [← HX.out] at hst hxs
  obtain ⟨w1, HW1⟩ := nm (w.alloc (.cells z16 22))
  have hz : Blk w1 w.heap.size 22 z16 := by rw [HW1.out]; exact Blk.new _ _ _
  have hf1 : Fr0 w w1 := by rw [HW1.out]; exact (Fr.refl _ _).alloc _
  have hzs : z16.size = 16 := rfl
  have hss : (bs seed.1).toArray.size = 32 := by simp
  have z0 : (0 : Int) ≤ (c : Int) := by omega
  have z1 : (c : Int) < 35 := by omega
  obtain ⟨V, HV⟩ := nm (bs seed.1).toArray
  rw [← HV.out] at hSd hss
  go_enter Try.func47, Try.ntmps47
  go_wp2_with fail
  rw [← HW1.out]
  refine reg_start (by kernel_rfl) ?_
  refine reg_uno (D := [some 6, some 7, some 8, some 9, some 10, some 11, some 12, some 13, some 14, some 15, none]) (J := [0, 1, 2, 3, 4, 5, 6, 7, 8]) 9 [] [PV (.int .i64 (leaf : Int)), PV (.int .i64 (c : Int)), PV (.int .i64 (c : Int)), PV (.pointer (some ⟨gd, c, none⟩)), PV (.int .i64 (splN d c : Int)), PV (.agg V), PV (.int .i64 (leaf : Int)), PV (.int .i64 (c : Int)), PV (.agg (bs (secB seed.1 leaf c)).toArray)] TT47 (by kernel_rfl) (by kernel_rfl) (by kernel_rfl) rfl rfl rfl
    (stab_cons (PV.stab _) (stab_cons (PV.stab _) (stab_cons (PV.stab _) (stab_cons (PV.stab _) (stab_cons (PV.stab _) (stab_cons (PV.stab _) (stab_cons (PV.stab _) (stab_cons (PV.stab _) (stab_cons (PV.stab _) stab_nil)))))))))
    (fun v => usteps_cons ?_ (usteps_cons ?_ (usteps_cons ?_ (usteps_cons ?_ (usteps_cons ?_ (usteps_cons ?_ (usteps_cons ?_ (usteps_cons ?_ (usteps_cons ?_ (usteps_nil)))))))))) (fun v wx hx hP hA => ?_)
  · refine ustep_mk (D := [some 6, some 7, some 8, some 9, some 10, some 11, some 12, some 13, some 14, some 15, none]) (Ti := []) rfl rfl rfl rfl (fun wx hx hP => ?_)   -- 0: load 3 (tmp 1)
    have hcl := (hLf.fr (hf1.trans ((Fr.drew (Fr.refl _ _)).trans hx)) (fun h => h)).cell 0
    simp at hcl
    clear hP
    simp only [putD, List.getD_cons_zero, List.getD_cons_succ]
    go_wp2_with fail
    exact Q1.mk rfl _ rfl ⟨Fr.refl _ _, rfl, frok_no rfl⟩
  · refine ustep_mk (D := [some 6, some 7, some 8, some 9, some 10, some 11, some 12, some 13, some 14, some 15, none]) (Ti := []) rfl rfl rfl rfl (fun wx hx hP => ?_)   -- 1: move (tmp 0)
    clear hP
    simp only [putD, List.getD_cons_zero, List.getD_cons_succ]
    go_wp2_with fail
    exact Q1.mk rfl _ rfl ⟨Fr.refl _ _, rfl, frok_no rfl⟩
  · refine ustep_mk (D := [some 6, some 7, some 8, some 9, some 10, some 11, some 12, some 13, some 14, some 15, none]) (Ti := []) rfl rfl rfl rfl (fun wx hx hP => ?_)   -- 2: move (tmp 0)
    clear hP
    simp only [putD, List.getD_cons_zero, List.getD_cons_succ]
    go_wp2_with fail
    exact Q1.mk rfl _ rfl ⟨Fr.refl _ _, rfl, frok_no rfl⟩
  · refine ustep_mk (D := [some 6, some 7, some 8, some 9, some 10, some 11, some 12, some 13, some 14, some 15, none]) (Ti := [2]) rfl rfl rfl rfl (fun wx hx hP => ?_)   -- 3: indexAddr 27 (tmp 2) (tmp 8)
    have h2 : v 2 = .int .i64 (c : Int) := hP.1
    clear hP
    simp only [putD, List.getD_cons_zero, List.getD_cons_succ]
    go_wp2_with fail
    exact Q1.mk rfl _ rfl ⟨Fr.refl _ _, rfl, frok_no rfl⟩
  · refine ustep_mk (D := [some 6, some 7, some 8, some 9, some 10, some 11, some 12, some 13, some 14, some 15, none]) (Ti := [2, 3]) rfl rfl rfl rfl (fun wx hx hP => ?_)   -- 4: load 3 (tmp 9)
    have h2 : v 2 = .int .i64 (c : Int) := hP.1
    have h3 : v 3 = .pointer (some ⟨gd, c, none⟩) := hP.2.1
    have hcd : wx.cell? ⟨gd, c, none⟩ = some (.int .i64 (splN d c : Int)) := (nis_cell ((hDg.fr (hf1.trans ((Fr.drew (Fr.refl _ _)).trans hx)) (fun h => h)).all (n := 35) (by simp)) hc (splL_at hc))
    clear hP
    simp only [putD, List.getD_cons_zero, List.getD_cons_succ]
    go_wp2_with fail
    exact Q1.mk rfl _ rfl ⟨Fr.refl _ _, rfl, frok_no rfl⟩
  · refine ustep_mk (D := [some 6, some 7, some 8, some 9, some 10, some 11, some 12, some 13, some 14, some 15, none]) (Ti := []) rfl rfl rfl rfl (fun wx hx hP => ?_)   -- 5: load 31 (tmp 3)
    have hld := (hSd.fr (hf1.trans ((Fr.drew (Fr.refl _ _)).trans hx)) (fun h => h)).all hss
    clear hP
    simp only [putD, List.getD_cons_zero, List.getD_cons_succ]
    go_wp2_with fail
    exact Q1.mk rfl _ rfl ⟨Fr.refl _ _, rfl, frok_no rfl⟩
  · refine ustep_mk (D := [some 6, some 7, some 8, some 9, some 10, some 11, some 12, some 13, some 14, some 15, none]) (Ti := []) rfl rfl rfl rfl (fun wx hx hP => ?_)   -- 6: load 3 (tmp 1)
    have hcl := (hLf.fr (hf1.trans ((Fr.drew (Fr.refl _ _)).trans hx)) (fun h => h)).cell 0
    simp at hcl
    clear hP
    simp only [putD, List.getD_cons_zero, List.getD_cons_succ]
    go_wp2_with fail
    exact Q1.mk rfl _ rfl ⟨Fr.refl _ _, rfl, frok_no rfl⟩
  · refine ustep_mk (D := [some 6, some 7, some 8, some 9, some 10, some 11, some 12, some 13, some 14, some 15, none]) (Ti := []) rfl rfl rfl rfl (fun wx hx hP => ?_)   -- 7: move (tmp 0)
    clear hP
    simp only [putD, List.getD_cons_zero, List.getD_cons_succ]
    go_wp2_with fail
    exact Q1.mk rfl _ rfl ⟨Fr.refl _ _, rfl, frok_no rfl⟩
  · refine ustep_mk (D := [some 6, some 7, some 8, some 9, some 10, some 11, some 12, some 13, some 14, some 15, none]) (Ti := [5, 6, 7]) rfl rfl rfl rfl (fun wx hx hP => ?_)   -- 8: call { callee := Callee.value (func 37), args := #
    have h5 : v 5 = .agg V := hP.1
    have h6 : v 6 = .int .i64 (leaf : Int) := hP.2.1
    have h7 : v 7 = .int .i64 (c : Int) := hP.2.2.1
    clear hP
    simp only [putD, List.getD_cons_zero, List.getD_cons_succ]
    go_wp2_with fail
    rw [HV.out]
    refine (secret_any seed leaf c hl _).mono ?_
    rintro e wy ⟨rfl, hfy⟩
    go_wp2_with fail
    exact Q1.mk rfl _ rfl ⟨hfy, rfl, frok_no rfl⟩
  have h0 : v 0 = .int .i64 (leaf : Int) := hP.1
  have h1 : v 1 = .int .i64 (c : Int) := hP.2.1
  have h2 : v 2 = .int .i64 (c : Int) := hP.2.2.1
  have h3 : v 3 = .pointer (some ⟨gd, c, none⟩) := hP.2.2.2.1
  have h4 : v 4 = .int .i64 (splN d c : Int) := hP.2.2.2.2.1
  have h5 : v 5 = .agg V := hP.2.2.2.2.2.1
  have h6 : v 6 = .int .i64 (leaf : Int) := hP.2.2.2.2.2.2.1
  have h7 : v 7 = .int .i64 (c : Int) := hP.2.2.2.2.2.2.2.1
  have h8 : v 8 = .agg (bs (secB seed.1 leaf c)).toArray := hP.2.2.2.2.2.2.2.2.1
  have HR := Lib.hid (hz.drew.fr hx (fun h => h))
  have HF := Lib.hid (((Fr.refl (fun _ => False) w).alloc (.cells z16 22)).trans ((Fr.drew (Fr.refl _ _)).trans (HW1.out ▸ hx)))
  clear hx hA hz
  clear hP
  simp only [putD, List.getD_cons_zero, List.getD_cons_succ]
  refine reg_seq' 16 2 TT47 (by kernel_rfl) (by kernel_rfl) ?_
  simp only [List.drop_succ_cons, List.drop_zero, List.take_succ_cons, List.take_zero]
  go_wp2_with fail
  refine (advance_any leaf c 0 (splN d c) hl (by have := splN_lt d c; omega) (by omega) ⟨secB seed.1 leaf c, secB_length _ _ _⟩ _).mono ?_
  rintro e w9 ⟨rfl, hf9⟩
  rw [← HX.out]
  obtain ⟨hok, hput, hfin⟩ := fin_agg (n := 16) (cs := X) (HR.out.fr hf9 (fun h => h)) (HF.out.trans hf9) (by omega) hzs hxs
  have HP := Lib.hid (And.intro hput hfin)
  clear hf9 hput hfin
  go_wp2_with fail
  refine QR.mk ?_
  refine reg_end (by decide) ?_
  go_wp2_with fail
  refine bodyPost_agg (n := 16) (cs := X) rfl Try.underlying22 rfl info__16_uint8 (by rfl) ?_ rfl ?_
  · exact HP.out.1
  · exact ⟨by rw [HX.out], HP.out.2⟩

def TT50 : List (List Nat) := [[], [], [], [2], [2, 3], [], [5], [5, 6], [0, 1, 2, 3, 4, 5, 6, 7], [0, 1, 2, 3, 4, 5, 6, 7, 8]]
set_option maxHeartbeats 2000000 in
theorem ends_fn (s : By 560) (d : List UInt8) (leaf c gl gd gs : Nat) (hl : leaf ≤ 65535) (hc : c < 35) (w : World) (hLf : Blk w gl 3 #[.int .i64 (leaf : Int)]) (hDg : Blk w gd 27 (nis (splL d))) (hSd : Blk w gs 52 (bs s.1).toArray) :
    Calls Try.prog 50 #[.int .i64 (c : Int), .pointer (some ⟨gl, 0, none⟩), .pointer (some ⟨gd, 0, none⟩), .pointer (some ⟨gs, 0, none⟩)] w fun e w' => e = .returned (.agg (bs (advB leaf c (splN d c) (15 - splN d c) (seg s.1 c))).toArray) ∧ Fr0 w w' := by
  have hst := a16_st ⟨advB leaf c (splN d c) (15 - splN d c) (seg s.1 c), advB_length _ _ _ _ _ (seg_length s.2 hc)⟩
  change ∀ (w : World) (b' p : Nat), okA w b' p 16 = true → (st 22 (.pointer (some ⟨b', p, none⟩)) (.agg (bs (advB leaf c (splN d c) (15 - splN d c) (seg s.1 c))).toArray)).run Try.prog w = .ok () (putW w b' p (bs (advB leaf c (splN d c) (15 - splN d c) (seg s.1 c))).toArray) at hst
  have hxs : (bs (advB leaf c (splN d c) (15 - splN d c) (seg s.1 c))).toArray.size = 16 := by simp [advB_length, (seg_length s.2 hc)]
  obtain ⟨X, HX⟩ := nm (bs (advB leaf c (splN d c) (15 - splN d c) (seg s.1 c))).toArray
  rw [← HX.out] at hst hxs
  obtain ⟨w1, HW1⟩ := nm (w.alloc (.cells z16 22))
  have hz : Blk w1 w.heap.size 22 z16 := by rw [HW1.out]; exact Blk.new _ _ _
  have hf1 : Fr0 w w1 := by rw [HW1.out]; exact (Fr.refl _ _).alloc _
  have hzs : z16.size = 16 := rfl
  have z0 : (0 : Int) ≤ (c : Int) := by omega
  have z1 : (c : Int) < 35 := by omega
  have hg : ∀ w', Fr0 w w' → ldA w' gs (c * 16) 16 = some (bs (seg s.1 c)).toArray := fun w' h => by
    rw [(hSd.fr h (fun h => h)).ldA (c * 16) 16 (by simp [s.2]; omega), seg_extract]
  go_enter Try.func50, Try.ntmps50
  go_wp2_with fail
  rw [← HW1.out]
  refine reg_start (by kernel_rfl) ?_
  refine reg_uno (D := [some 6, some 7, some 8, some 9, some 10, some 11, some 12, some 13, some 14, none]) (J := [0, 1, 2, 3, 4, 5, 6, 7]) 8 [] [PV (.int .i64 (leaf : Int)), PV (.int .i64 (c : Int)), PV (.int .i64 (c : Int)), PV (.pointer (some ⟨gd, c, none⟩)), PV (.int .i64 (splN d c : Int)), PV (.int .i64 (c : Int)), PV (.pointer (some ⟨gs, c * 16, none⟩)), PV (.agg (bs (seg s.1 c)).toArray)] TT50 (by kernel_rfl) (by kernel_rfl) (by kernel_rfl) rfl rfl rfl
    (stab_cons (PV.stab _) (stab_cons (PV.stab _) (stab_cons (PV.stab _) (stab_cons (PV.stab _) (stab_cons (PV.stab _) (stab_cons (PV.stab _) (stab_cons (PV.stab _) (stab_cons (PV.stab _) stab_nil))))))))
    (fun v => usteps_cons ?_ (usteps_cons ?_ (usteps_cons ?_ (usteps_cons ?_ (usteps_cons ?_ (usteps_cons ?_ (usteps_cons ?_ (usteps_cons ?_ (usteps_nil))))))))) (fun v wx hx hP hA => ?_)
  · refine ustep_mk (D := [some 6, some 7, some 8, some 9, some 10, some 11, some 12, some 13, some 14, none]) (Ti := []) rfl rfl rfl rfl (fun wx hx hP => ?_)   -- 0: load 3 (tmp 1)
    have hcl := (hLf.fr (hf1.trans ((Fr.drew (Fr.refl _ _)).trans hx)) (fun h => h)).cell 0
    simp at hcl
    clear hP
    simp only [putD, List.getD_cons_zero, List.getD_cons_succ]
    go_wp2_with fail
    exact Q1.mk rfl _ rfl ⟨Fr.refl _ _, rfl, frok_no rfl⟩
  · refine ustep_mk (D := [some 6, some 7, some 8, some 9, some 10, some 11, some 12, some 13, some 14, none]) (Ti := []) rfl rfl rfl rfl (fun wx hx hP => ?_)   -- 1: move (tmp 0)
    clear hP
    simp only [putD, List.getD_cons_zero, List.getD_cons_succ]
    go_wp2_with fail
    exact Q1.mk rfl _ rfl ⟨Fr.refl _ _, rfl, frok_no rfl⟩
  · refine ustep_mk (D := [some 6, some 7, some 8, some 9, some 10, some 11, some 12, some 13, some 14, none]) (Ti := []) rfl rfl rfl rfl (fun wx hx hP => ?_)   -- 2: move (tmp 0)
    clear hP
    simp only [putD, List.getD_cons_zero, List.getD_cons_succ]
    go_wp2_with fail
    exact Q1.mk rfl _ rfl ⟨Fr.refl _ _, rfl, frok_no rfl⟩
  · refine ustep_mk (D := [some 6, some 7, some 8, some 9, some 10, some 11, some 12, some 13, some 14, none]) (Ti := [2]) rfl rfl rfl rfl (fun wx hx hP => ?_)   -- 3: indexAddr 27 (tmp 2) (tmp 8)
    have h2 : v 2 = .int .i64 (c : Int) := hP.1
    clear hP
    simp only [putD, List.getD_cons_zero, List.getD_cons_succ]
    go_wp2_with fail
    exact Q1.mk rfl _ rfl ⟨Fr.refl _ _, rfl, frok_no rfl⟩
  · refine ustep_mk (D := [some 6, some 7, some 8, some 9, some 10, some 11, some 12, some 13, some 14, none]) (Ti := [2, 3]) rfl rfl rfl rfl (fun wx hx hP => ?_)   -- 4: load 3 (tmp 9)
    have h2 : v 2 = .int .i64 (c : Int) := hP.1
    have h3 : v 3 = .pointer (some ⟨gd, c, none⟩) := hP.2.1
    have hcd : wx.cell? ⟨gd, c, none⟩ = some (.int .i64 (splN d c : Int)) := (nis_cell ((hDg.fr (hf1.trans ((Fr.drew (Fr.refl _ _)).trans hx)) (fun h => h)).all (n := 35) (by simp)) hc (splL_at hc))
    clear hP
    simp only [putD, List.getD_cons_zero, List.getD_cons_succ]
    go_wp2_with fail
    exact Q1.mk rfl _ rfl ⟨Fr.refl _ _, rfl, frok_no rfl⟩
  · refine ustep_mk (D := [some 6, some 7, some 8, some 9, some 10, some 11, some 12, some 13, some 14, none]) (Ti := []) rfl rfl rfl rfl (fun wx hx hP => ?_)   -- 5: move (tmp 0)
    clear hP
    simp only [putD, List.getD_cons_zero, List.getD_cons_succ]
    go_wp2_with fail
    exact Q1.mk rfl _ rfl ⟨Fr.refl _ _, rfl, frok_no rfl⟩
  · refine ustep_mk (D := [some 6, some 7, some 8, some 9, some 10, some 11, some 12, some 13, some 14, none]) (Ti := [5]) rfl rfl rfl rfl (fun wx hx hP => ?_)   -- 6: indexAddr 52 (tmp 3) (tmp 11)
    have h5 : v 5 = .int .i64 (c : Int) := hP.1
    clear hP
    simp only [putD, List.getD_cons_zero, List.getD_cons_succ]
    go_wp2_with fail
    exact Q1.mk rfl _ rfl ⟨Fr.refl _ _, rfl, frok_no rfl⟩
  · refine ustep_mk (D := [some 6, some 7, some 8, some 9, some 10, some 11, some 12, some 13, some 14, none]) (Ti := [5, 6]) rfl rfl rfl rfl (fun wx hx hP => ?_)   -- 7: load 22 (tmp 12)
    have h5 : v 5 = .int .i64 (c : Int) := hP.1
    have h6 : v 6 = .pointer (some ⟨gs, c * 16, none⟩) := hP.2.1
    have hld := hg wx (hf1.trans ((Fr.drew (Fr.refl _ _)).trans hx))
    clear hP
    simp only [putD, List.getD_cons_zero, List.getD_cons_succ]
    go_wp2_with fail
    exact Q1.mk rfl _ rfl ⟨Fr.refl _ _, rfl, frok_no rfl⟩
  have h0 : v 0 = .int .i64 (leaf : Int) := hP.1
  have h1 : v 1 = .int .i64 (c : Int) := hP.2.1
  have h2 : v 2 = .int .i64 (c : Int) := hP.2.2.1
  have h3 : v 3 = .pointer (some ⟨gd, c, none⟩) := hP.2.2.2.1
  have h4 : v 4 = .int .i64 (splN d c : Int) := hP.2.2.2.2.1
  have h5 : v 5 = .int .i64 (c : Int) := hP.2.2.2.2.2.1
  have h6 : v 6 = .pointer (some ⟨gs, c * 16, none⟩) := hP.2.2.2.2.2.2.1
  have h7 : v 7 = .agg (bs (seg s.1 c)).toArray := hP.2.2.2.2.2.2.2.1
  have HR := Lib.hid (hz.drew.fr hx (fun h => h))
  have HF := Lib.hid (((Fr.refl (fun _ => False) w).alloc (.cells z16 22)).trans ((Fr.drew (Fr.refl _ _)).trans (HW1.out ▸ hx)))
  clear hx hA hz
  clear hP
  simp only [putD, List.getD_cons_zero, List.getD_cons_succ]
  refine reg_seq' 15 2 TT50 (by kernel_rfl) (by kernel_rfl) ?_
  simp only [List.drop_succ_cons, List.drop_zero, List.take_succ_cons, List.take_zero]
  go_wp2_with fail
  refine (advance_any leaf c (splN d c) 15 hl (by omega) (by have := splN_lt d c; omega) ⟨seg s.1 c, seg_length s.2 hc⟩ _).mono ?_
  rintro e w9 ⟨rfl, hf9⟩
  rw [← HX.out]
  obtain ⟨hok, hput, hfin⟩ := fin_agg (n := 16) (cs := X) (HR.out.fr hf9 (fun h => h)) (HF.out.trans hf9) (by omega) hzs hxs
  have HP := Lib.hid (And.intro hput hfin)
  clear hf9 hput hfin
  go_wp2_with fail
  refine QR.mk ?_
  refine reg_end (by decide) ?_
  go_wp2_with fail
  refine bodyPost_agg (n := 16) (cs := X) rfl Try.underlying22 rfl info__16_uint8 (by rfl) ?_ rfl ?_
  · exact HP.out.1
  · exact ⟨by rw [HX.out], HP.out.2⟩

end Go.Proofs.Ytjdbfedkadoklaa
